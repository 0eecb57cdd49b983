/- The functions, as the abstract machine has them. Printed by a program. -/
import Derived.Test.YtfpkjfmpamlakaaAMd
import Derived.Test.YtfpkjfmpamlakaaChecked
import Derived.KernelRfl
set_option linter.unusedSimpArgs false
set_option linter.unusedVariables false
namespace Go.Proofs.Ytfpkjfmpamlakaa
open Go.AM Go.Proofs
abbrev n_gosem_cut : FuncId := 1
abbrev n_gosem_cut_init : FuncId := 2
abbrev n_w19_CnfTells : FuncId := 3
abbrev n_w19_CnfUnrolls : FuncId := 4
abbrev n_w19_CnfRuns : FuncId := 5
abbrev n_w19_CnfOnly : FuncId := 6
abbrev n_w19_CnfSizes : FuncId := 7
abbrev n_w19_CnfBegins : FuncId := 8
abbrev n_w19_works : FuncId := 9
abbrev n_w19_Few : FuncId := 10
abbrev n_w19_little : FuncId := 11
abbrev n_r19_Check : FuncId := 12
abbrev n_cnf_True : FuncId := 13
abbrev n_r19_True : FuncId := 14
abbrev n_r19_Lit : FuncId := 15
abbrev n_w19_Of : FuncId := 16
abbrev n_r19_Same : FuncId := 17
abbrev n_cnf_Check : FuncId := 18
abbrev n_cnf_Lit : FuncId := 19
abbrev n_cnf_Same : FuncId := 20
abbrev n_w19_small : FuncId := 21
abbrev n_w08_Rows : FuncId := 22
abbrev n_cnf_Unroll : FuncId := 23
abbrev n_r19_Unroll : FuncId := 24
abbrev n_cnf_Values : FuncId := 25
abbrev n_r19_Values : FuncId := 26
abbrev n_r08_Bools : FuncId := 27
abbrev n_aig_Values : FuncId := 28
abbrev n_r19_Holds : FuncId := 29
abbrev n_aig_Step : FuncId := 30
abbrev n_r09_First : FuncId := 31
abbrev n_r01_Ints : FuncId := 32
abbrev n_r19_Clauses : FuncId := 33
abbrev n_r19_Literal : FuncId := 34
abbrev n_cnf_True_1 : FuncId := 35
abbrev n_cnf_True_2 : FuncId := 36
abbrev n_slices_ContainsFunc_api_Clause_int : FuncId := 37
abbrev n_slices_ContainsFunc_api_Clause_api_Clause : FuncId := 38
abbrev n_r19_All : FuncId := 39
abbrev n_r19_in : FuncId := 40
abbrev n_cnf_Check_1 : FuncId := 41
abbrev n_cnf_Check_2 : FuncId := 42
abbrev n_cnf_builder_lit : FuncId := 43
abbrev n_cnf_Same_1 : FuncId := 44
abbrev n_slices_Equal_api_Clause_int : FuncId := 45
abbrev n_slices_EqualFunc_api_Clause_api_Clause_api_Clause_api_Clause : FuncId := 46
abbrev n_slices_EqualFunc_int_int_int_int : FuncId := 47
abbrev n_slices_Equal_int_int : FuncId := 48
abbrev n_w09_Few : FuncId := 49
abbrev n_cnf_can : FuncId := 50
abbrev n_cnf_builder_add : FuncId := 51
abbrev n_cnf_builder_fresh : FuncId := 52
abbrev n_cnf_builder_begin : FuncId := 53
abbrev n_cnf_builder_step : FuncId := 54
abbrev n_r19_can : FuncId := 55
abbrev n_r19_begins : FuncId := 56
abbrev n_r19_step : FuncId := 57
abbrev n_slices_Concat_bool_bool : FuncId := 58
abbrev n_r09_Values : FuncId := 59
abbrev n_r09_Lit : FuncId := 60
abbrev n_aig_Check : FuncId := 61
abbrev n_aig_value : FuncId := 62
abbrev n_aig_Step_1 : FuncId := 63
abbrev n_slices_IndexFunc_api_Clause_int : FuncId := 64
abbrev n_slices_IndexFunc_api_Clause_api_Clause : FuncId := 65
abbrev n_r19_one : FuncId := 66
abbrev n_slices_ContainsFunc_int_int : FuncId := 67
abbrev n_cnf_can_1 : FuncId := 68
abbrev n_r09_Check : FuncId := 69
abbrev n_r19_right : FuncId := 70
abbrev n_r19_many : FuncId := 71
abbrev n_slices_Grow_bool_bool : FuncId := 72
abbrev n_aig_first : FuncId := 73
abbrev n_aig_Check_1 : FuncId := 74
abbrev n_aig_Check_2 : FuncId := 75
abbrev n_slices_IndexFunc_int_int : FuncId := 76
abbrev n_r09_literal : FuncId := 77
abbrev t_int : TypeId := 3
abbrev t_bool : TypeId := 4
abbrev t_string : TypeId := 9
abbrev t_bool_2 : TypeId := 23
abbrev t_int_3 : TypeId := 41
abbrev t_2_int_2 : TypeId := 66
abbrev t_api_Clause_2 : TypeId := 67
/- w19_CnfTells: patchbay/patchbaylaw19.CnfTells -/
abbrev w19_CnfTells_p0 : List AG := [o 70 (.mv (.t 15)), o 71 (.mv (.t 70)), oy 72 71 (.mv (.t 0)), oy 73 71 (.mv (.t 1)), oy 74 71 (.call (.f n_cnf_Check) [(.t 72), (.t 73)]), oy 75 71 (.mv (.t 17)), oy 76 71 (.cmp .eql (.sc .int) (.t 74) (.t 75)), o 77 (.pick (.t 71) (.t 76) (.c (.bool false))), o 78 (.mv (.t 77)), oy 79 78 (.mv (.t 18)), oy 80 78 (.mv (.t 20)), oy 81 78 (.cmp .eql (.sc .bool) (.t 79) (.t 80)), o 82 (.pick (.t 78) (.t 81) (.c (.bool false))), o 83 (.mv (.t 82)), oy 84 83 (.mv (.t 19)), oy 85 83 (.mv (.t 21)), oy 86 83 (.cmp .eql (.sc .int) (.t 84) (.t 85)), o 87 (.pick (.t 83) (.t 86) (.c (.bool false))), o 88 (.mv (.t 87)), oy 89 88 (.load true 3 (.t 10)), oy 90 88 (.mv (.t 5)), oy 91 88 (.mv (.t 6)), oy 92 88 (.call (.f n_cnf_Lit) [(.t 89), (.t 90), (.t 91)]), oy 93 88 (.mv (.t 22)), oy 94 88 (.cmp .eql (.sc .int) (.t 92) (.t 93)), o 95 (.pick (.t 88) (.t 94) (.c (.bool false))), o 96 (.mv (.t 95)), oy 97 96 (.load true 3 (.t 10)), oy 98 96 (.load true 3 (.t 11)), oy 99 96 (.call (.f n_cnf_Same) [(.t 97), (.t 98)]), oy 100 96 (.mv (.t 23)), oy 101 96 (.cmp .eql (.sc .bool) (.t 99) (.t 100)), o 102 (.pick (.t 96) (.t 101) (.c (.bool false))), o 14 (.mv (.t 102))]
abbrev w19_CnfTells_p1 : List AG := [o 65 (.load true 3 (.t 10)), o 66 (.call (.f n_w19_Of) [(.t 65)]), o 67 (.load true 3 (.t 11)), o 68 (.call (.f n_w19_Of) [(.t 67)]), o 69 (.call (.f n_r19_Same) [(.t 66), (.t 68)]), o 23 (.mv (.t 69))]
abbrev w19_CnfTells_p2 : List AG := [o 60 (.load true 3 (.t 10)), o 61 (.call (.f n_w19_Of) [(.t 60)]), o 62 (.mv (.t 5)), o 63 (.mv (.t 6)), o 64 (.call (.f n_r19_Lit) [(.t 61), (.t 62), (.t 63)]), o 22 (.mv (.t 64))]
abbrev w19_CnfTells_p3 : List AG := [o 55 (.mv (.t 0)), o 56 (.mv (.t 2)), o 57 (.call (.f n_r19_True) [(.t 55), (.t 56)]), o 54 (.mv (.t 57)), o 58 (.extract (.t 54) 0), o 59 (.extract (.t 54) 1), o 20 (.mv (.t 58)), o 21 (.mv (.t 59))]
abbrev w19_CnfTells_p4 : List AG := [o 49 (.mv (.t 0)), o 50 (.mv (.t 2)), o 51 (.call (.f n_cnf_True) [(.t 49), (.t 50)]), o 48 (.mv (.t 51)), o 52 (.extract (.t 48) 0), o 53 (.extract (.t 48) 1), o 18 (.mv (.t 52)), o 19 (.mv (.t 53))]
abbrev w19_CnfTells_p5 : List AG := [o 45 (.mv (.t 0)), o 46 (.mv (.t 1)), o 47 (.call (.f n_r19_Check) [(.t 45), (.t 46)]), o 17 (.mv (.t 47))]
abbrev w19_CnfTells_p6 : List AG := [o 44 (.mv (.t 15)), o 14 (.mv (.t 44))]
abbrev w19_CnfTells_p7 : ACode := (.seq (.reg w19_CnfTells_p6) .ret)
abbrev w19_CnfTells_p8 : List AG := [o 37 (.mv (.t 16)), o 38 (.not (.t 37)), o 39 (.mv (.t 38)), on 40 39 (.mv (.t 2)), on 41 39 (.len (.t 40)), on 42 39 (.cmp .gtr (.sc .int) (.t 41) (.c (.int .i64 60))), o 43 (.pick (.t 39) (.c (.bool true)) (.t 42))]
abbrev w19_CnfTells_p9 : List AG := [o 27 (.mv (.t 0)), o 28 (.call (.f n_w19_Few) [(.t 27), (.c (.int .i64 60))]), o 29 (.mv (.t 28)), oy 30 29 (.load true 3 (.t 10)), oy 31 29 (.call (.f n_w19_little) [(.t 30)]), o 32 (.pick (.t 29) (.t 31) (.c (.bool false))), o 33 (.mv (.t 32)), oy 34 33 (.load true 3 (.t 11)), oy 35 33 (.call (.f n_w19_little) [(.t 34)]), o 36 (.pick (.t 33) (.t 35) (.c (.bool false))), o 16 (.mv (.t 36))]
abbrev w19_CnfTells_p10 : List AG := [o 14 (.mv (.c (.bool false)))]
abbrev w19_CnfTells_p11 : ACode := (.seq (.reg w19_CnfTells_p10) .ret)
abbrev w19_CnfTells_p12 : List AG := [o 25 (.mv (.t 15)), o 26 (.not (.t 25))]
abbrev w19_CnfTells_p13 : List AG := [o 24 (.call (.f n_w19_works) []), o 15 (.mv (.t 24))]
abbrev w19_CnfTells_p14 : List AG := [o 10 (.box 3 (.t 3)), o 11 (.box 3 (.t 4)), o 14 (.mv (.c (.bool false)))]
abbrev w19_CnfTells : AFun := ⟨(.seq (.reg w19_CnfTells_p14) (.seq (.reg w19_CnfTells_p13) (.seq (.seq (.reg w19_CnfTells_p12) (.cond (.t 26) w19_CnfTells_p11 .skip)) (.seq (.reg w19_CnfTells_p9) (.seq (.seq (.reg w19_CnfTells_p8) (.cond (.t 43) w19_CnfTells_p7 .skip)) (.seq (.reg w19_CnfTells_p5) (.seq (.reg w19_CnfTells_p4) (.seq (.reg w19_CnfTells_p3) (.seq (.reg w19_CnfTells_p2) (.seq (.dreg [O,O,I,O,O,O] [2,4,4,5,7,7] w19_CnfTells_p1) (.seq (.reg w19_CnfTells_p0) .ret))))))))))), 103, [.tmp 14]⟩
@[simp] theorem c_w19_CnfTells : cfun Try.prog n_w19_CnfTells = some w19_CnfTells := by kernel_rfl
@[simp] theorem e_w19_CnfTells : hasBody Try.prog n_w19_CnfTells = true := by kernel_rfl

/- w19_CnfUnrolls: patchbay/patchbaylaw19.CnfUnrolls -/
abbrev w19_CnfUnrolls_p0 : List AG := [o 82 (.mv (.t 11)), o 83 (.mv (.t 82)), oy 84 83 (.mv (.t 21)), o 85 (.pick (.t 83) (.t 84) (.c (.bool false))), o 86 (.mv (.t 85)), oy 87 86 (.mv (.t 14)), oy 88 86 (.mv (.t 16)), oy 89 86 (.cmp .eql (.sc .int) (.t 87) (.t 88)), o 90 (.pick (.t 86) (.t 89) (.c (.bool false))), o 91 (.mv (.t 90)), oy 92 91 (.mv (.t 17)), oy 93 91 (.mv (.t 19)), oy 94 91 (.call (.f n_r08_Bools) [(.t 92), (.t 93)]), o 95 (.pick (.t 91) (.t 94) (.c (.bool false))), o 96 (.mv (.t 95)), oy 97 96 (.mv (.t 18)), oy 98 96 (.mv (.t 20)), oy 99 96 (.cmp .eql (.sc .int) (.t 97) (.t 98)), o 100 (.pick (.t 96) (.t 99) (.c (.bool false))), o 10 (.mv (.t 100))]
abbrev w19_CnfUnrolls_p1 : List AG := [o 78 (.load true 3 (.t 13)), o 79 (.call (.f n_w19_Of) [(.t 78)]), o 80 (.load true 3 (.t 15)), o 81 (.call (.f n_r19_Same) [(.t 79), (.t 80)]), o 21 (.mv (.t 81))]
abbrev w19_CnfUnrolls_p2 : List AG := [o 71 (.load true 5 (.t 5)), o 72 (.mv (.t 1)), o 73 (.mv (.t 3)), o 74 (.mv (.t 4)), o 75 (.call (.f n_r19_Values) [(.t 71), (.t 72), (.t 73), (.t 74)]), o 70 (.mv (.t 75)), o 76 (.extract (.t 70) 0), o 77 (.extract (.t 70) 1), o 19 (.mv (.t 76)), o 20 (.mv (.t 77))]
abbrev w19_CnfUnrolls_p3 : List AG := [o 63 (.load true 5 (.t 5)), o 64 (.mv (.t 1)), o 65 (.mv (.t 3)), o 66 (.mv (.t 4)), o 67 (.call (.f n_cnf_Values) [(.t 63), (.t 64), (.t 65), (.t 66)]), o 62 (.mv (.t 67)), o 68 (.extract (.t 62) 0), o 69 (.extract (.t 62) 1), o 17 (.mv (.t 68)), o 18 (.mv (.t 69))]
abbrev w19_CnfUnrolls_p4 : List AG := [o 56 (.load true 5 (.t 5)), o 57 (.mv (.t 1)), o 58 (.mv (.t 2)), o 59 (.call (.f n_r19_Unroll) [(.t 56), (.t 57), (.t 58)]), o 55 (.mv (.t 59)), o 60 (.extract (.t 55) 0), o 61 (.extract (.t 55) 1), o 15 (.alloc [(.int .i64 0), (.own 1 t_api_Clause_2 []), (.own 1 t_int_3 [])]), q (.store 3 (.t 15) (.t 60)), o 16 (.mv (.t 61))]
abbrev w19_CnfUnrolls_p5 : List AG := [o 49 (.load true 5 (.t 5)), o 50 (.mv (.t 1)), o 51 (.mv (.t 2)), o 52 (.call (.f n_cnf_Unroll) [(.t 49), (.t 50), (.t 51)]), o 48 (.mv (.t 52)), o 53 (.extract (.t 48) 0), o 54 (.extract (.t 48) 1), o 13 (.alloc [(.int .i64 0), (.own 1 t_api_Clause_2 []), (.own 1 t_int_3 [])]), q (.store 3 (.t 13) (.t 53)), o 14 (.mv (.t 54))]
abbrev w19_CnfUnrolls_p6 : List AG := [o 47 (.mv (.t 11)), o 10 (.mv (.t 47))]
abbrev w19_CnfUnrolls_p7 : ACode := (.seq (.reg w19_CnfUnrolls_p6) .ret)
abbrev w19_CnfUnrolls_p8 : List AG := [o 40 (.mv (.t 12)), o 41 (.not (.t 40)), o 42 (.mv (.t 41)), on 43 42 (.mv (.t 3)), on 44 42 (.len (.t 43)), on 45 42 (.cmp .gtr (.sc .int) (.t 44) (.c (.int .i64 60))), o 46 (.pick (.t 42) (.c (.bool true)) (.t 45))]
abbrev w19_CnfUnrolls_p9 : List AG := [o 25 (.load true 5 (.t 5)), o 26 (.mv (.t 1)), o 27 (.mv (.t 2)), o 28 (.call (.f n_w19_small) [(.t 25), (.t 26), (.t 27)]), o 29 (.mv (.t 28)), oy 30 29 (.load true 5 (.t 5)), oy 31 29 (.mv (.t 1)), oy 32 29 (.mv (.t 4)), oy 33 29 (.len (.t 32)), oy 34 29 (.call (.f n_w19_small) [(.t 30), (.t 31), (.t 33)]), o 35 (.pick (.t 29) (.t 34) (.c (.bool false))), o 36 (.mv (.t 35)), oy 37 36 (.mv (.t 4)), oy 38 36 (.call (.f n_w08_Rows) [(.t 37), (.c (.int .i64 45))]), o 39 (.pick (.t 36) (.t 38) (.c (.bool false))), o 12 (.mv (.t 39))]
abbrev w19_CnfUnrolls_p10 : List AG := [o 10 (.mv (.c (.bool false)))]
abbrev w19_CnfUnrolls_p11 : ACode := (.seq (.reg w19_CnfUnrolls_p10) .ret)
abbrev w19_CnfUnrolls_p12 : List AG := [o 23 (.mv (.t 11)), o 24 (.not (.t 23))]
abbrev w19_CnfUnrolls_p13 : List AG := [o 22 (.call (.f n_w19_works) []), o 11 (.mv (.t 22))]
abbrev w19_CnfUnrolls_p14 : List AG := [o 5 (.box 5 (.t 0)), o 10 (.mv (.c (.bool false)))]
abbrev w19_CnfUnrolls : AFun := ⟨(.seq (.reg w19_CnfUnrolls_p14) (.seq (.reg w19_CnfUnrolls_p13) (.seq (.seq (.reg w19_CnfUnrolls_p12) (.cond (.t 24) w19_CnfUnrolls_p11 .skip)) (.seq (.reg w19_CnfUnrolls_p9) (.seq (.seq (.reg w19_CnfUnrolls_p8) (.cond (.t 46) w19_CnfUnrolls_p7 .skip)) (.seq (.reg w19_CnfUnrolls_p5) (.seq (.reg w19_CnfUnrolls_p4) (.seq (.reg w19_CnfUnrolls_p3) (.seq (.reg w19_CnfUnrolls_p2) (.seq (.dreg [O,O,I,O,O] [2,4,4,6,6] w19_CnfUnrolls_p1) (.seq (.reg w19_CnfUnrolls_p0) .ret))))))))))), 101, [.tmp 10]⟩
@[simp] theorem c_w19_CnfUnrolls : cfun Try.prog n_w19_CnfUnrolls = some w19_CnfUnrolls := by kernel_rfl
@[simp] theorem e_w19_CnfUnrolls : hasBody Try.prog n_w19_CnfUnrolls = true := by kernel_rfl

/- w19_CnfRuns: patchbay/patchbaylaw19.CnfRuns -/
abbrev w19_CnfRuns_p0 : List AG := [o 176 (.mv (.t 9)), o 8 (.mv (.t 176))]
abbrev w19_CnfRuns_m1 : List Bool := [O,O,O,I,I,O,O,O,O,I,O,I,O,I,O,O,O,I,O,O,O,O,O,O,O,I,O,O,O,O,O,O,O,O,O,O,O,O,O,O,O,O,O,O,O,O,O,O,O,O,O,O,O,O,O,O,O,O,O,O,O,O,O,O,O,O,O,O,O,O,O,O,O,O,O,O,O,O,O,O,O,O,O,O,O,O,O,O,O,O,O,O,O,O,O,O,O,O,O,O,O,O,O,O,O,O,O,O,O,O,O,O,O,O,O,O,O,O,O,O,O,O,O,O,O,O,O,O,O,O,O,O,O,O,O,O,O,O,O,O,O,O,O,O,O,O,O,O,O,O,O,O,O,O,O,O,O,O,O,O,O,O,O,O,O,O,O,O,O,O,O,O,O,O,O,O,O]
abbrev w19_CnfRuns_x1 : List Bool := [O,O,O,O,O,O,O,O,O,I,O,O,O,O,O,O,O,O,O,O,O,O,O,O,O,O,O,O,O,O,O,O,O,O,O,O,O,O,O,O,O,O,O,O,O,O,O,O,O,O,O,O,O,O,O,O,O,O,O,O,O,O,O,O,O,O,O,O,O,O,O,O,O,O,O,O,O,O,O,O,O,O,O,O,O,O,O,O,O,O,O,O,O,O,O,O,O,O,O,O,O,O,O,O,O,O,O,O,O,O,O,O,O,O,O,O,O,O,O,O,O,O,O,O,O,O,O,O,O,O,O,O,O,O,O,O,O,O,O,O,O,O,O,O,O,O,O,O,O,O,O,O,O,O,O,O,O,O,O,O,O,O,O,O,O,O,O,O,O,O,O,O,O,O,O,O,O]
abbrev w19_CnfRuns_p2 : List AG := [o 157 (.mv (.t 25)), o 158 (.ibin .add (.t 157) (.c (.int .i64 1))), o 25 (.mv (.t 158))]
abbrev w19_CnfRuns_p3 : List AG := [o 8 (.mv (.c (.bool false)))]
abbrev w19_CnfRuns_p4 : ACode := (.seq (.reg w19_CnfRuns_p3) .ret)
abbrev w19_CnfRuns_p5 : List AG := [o 159 (.load true 3 (.t 13)), o 160 (.mv (.t 3)), o 161 (.len (.t 160)), o 162 (.off 0 (.t 4)), o 163 (.load false 1 (.t 162)), o 164 (.ibin .add (.c (.int .i64 1)) (.t 163)), o 165 (.mv (.t 25)), o 166 (.ibin .add (.t 164) (.t 165)), o 167 (.ibin .mul (.c (.int .i64 2)) (.t 166)), o 168 (.call (.f n_cnf_Lit) [(.t 159), (.t 161), (.t 167)]), o 169 (.mv (.t 11)), o 170 (.call (.f n_r19_Holds) [(.t 168), (.t 169)]), o 171 (.mv (.t 17)), o 172 (.mv (.t 25)), o 173 (.ixAddr 1 (.t 171) (.t 172)), o 174 (.load false 1 (.t 173)), o 175 (.cmp .neq (.sc .bool) (.t 170) (.t 174))]
abbrev w19_CnfRuns_p6 : ACode := (.seq (.dreg [O,O,O,O,O,O,O,O,O,O,O,O,O,O,O,I,O] [10,10,10,10,10,10,10,10,10,12,12,18,18,18,18,18,18] w19_CnfRuns_p5) (.cond (.t 175) w19_CnfRuns_p4 .skip))
abbrev w19_CnfRuns_p7 : List AG := [o 153 (.mv (.t 25)), o 154 (.mv (.t 17)), o 155 (.len (.t 154)), o 156 (.cmp .lss (.sc .int) (.t 153) (.t 155))]
abbrev w19_CnfRuns_b1 : ACode := (.seq (.seq (.reg w19_CnfRuns_p7) (.cond (.t 156) .skip (.exit 4))) (.seq (.block 5 [] w19_CnfRuns_p6) (.reg w19_CnfRuns_p2)))
abbrev w19_CnfRuns_p8 : List AG := [o 25 (.mv (.c (.int .i64 0)))]
abbrev w19_CnfRuns_m9 : List Bool := [O,O,O,I,I,O,O,O,O,I,O,I,O,I,O,O,O,I,I,O,O,O,O,O,O,O,O,O,O,O,O,O,O,O,O,O,O,O,O,O,O,O,O,O,O,O,O,O,O,O,O,O,O,O,O,O,O,O,O,O,O,O,O,O,O,O,O,O,O,O,O,O,O,O,O,O,O,O,O,O,O,O,O,O,O,O,O,O,O,O,O,O,O,O,O,O,O,O,O,O,O,O,O,O,O,O,O,O,O,O,O,O,O,O,O,O,O,O,O,O,O,O,O,O,O,O,O,O,O,O,O,O,O,O,O,O,O,O,O,O,O,O,O,O,O,O,O,O,O,O,O,O,O,O,O,O,O,O,O,O,O,O,O,O,O,O,O,O,O,O,O,O,O,O,O,O,O]
abbrev w19_CnfRuns_x9 : List Bool := [O,O,O,I,I,O,O,O,O,I,O,I,O,I,O,O,O,I,O,O,O,O,O,O,O,O,O,O,O,O,O,O,O,O,O,O,O,O,O,O,O,O,O,O,O,O,O,O,O,O,O,O,O,O,O,O,O,O,O,O,O,O,O,O,O,O,O,O,O,O,O,O,O,O,O,O,O,O,O,O,O,O,O,O,O,O,O,O,O,O,O,O,O,O,O,O,O,O,O,O,O,O,O,O,O,O,O,O,O,O,O,O,O,O,O,O,O,O,O,O,O,O,O,O,O,O,O,O,O,O,O,O,O,O,O,O,O,O,O,O,O,O,O,O,O,O,O,O,O,O,O,O,O,O,O,O,O,O,O,O,O,O,O,O,O,O,O,O,O,O,O,O,O,O,O,O,O]
abbrev w19_CnfRuns_p10 : List AG := [o 109 (.mv (.t 18)), o 110 (.ibin .add (.t 109) (.c (.int .i64 1))), o 18 (.mv (.t 110))]
abbrev w19_CnfRuns_p11 : List AG := [o 152 (.mv (.t 23)), o 17 (.mv (.t 152))]
abbrev w19_CnfRuns_p12 : List AG := [o 142 (.load true 5 (.t 4)), o 143 (.mv (.t 17)), o 144 (.mv (.t 3)), o 145 (.mv (.t 18)), o 146 (.ixAddr 1 (.t 144) (.t 145)), o 147 (.load false 1 (.t 146)), o 148 (.call (.f n_aig_Step) [(.t 142), (.t 143), (.t 147)]), o 141 (.mv (.t 148)), o 149 (.extract (.t 141) 0), o 150 (.extract (.t 141) 1), o 151 (.extract (.t 141) 2), o 22 (.mv (.t 149)), o 23 (.mv (.t 150)), o 24 (.mv (.t 151))]
abbrev w19_CnfRuns_m13 : List Bool := [O,O,O,I,I,O,O,O,O,I,O,I,O,I,O,O,O,I,I,I,O,I,O,O,O,O,O,O,O,O,O,O,O,O,O,O,O,O,O,O,O,O,O,O,O,O,O,O,O,O,O,O,O,O,O,O,O,O,O,O,O,O,O,O,O,O,O,O,O,O,O,O,O,O,O,O,O,O,O,O,O,O,O,O,O,O,O,O,O,O,O,O,O,O,O,O,O,O,O,O,O,O,O,O,O,O,O,O,O,O,O,O,O,O,O,O,O,O,O,O,O,O,O,O,O,O,O,O,O,O,O,O,O,O,O,O,O,O,O,O,O,O,O,O,O,O,O,O,O,O,O,O,O,O,O,O,O,O,O,O,O,O,O,O,O,O,O,O,O,O,O,O,O,O,O,O,O]
abbrev w19_CnfRuns_x13 : List Bool := [O,O,O,I,I,O,O,O,O,I,O,I,O,I,O,O,O,I,I,O,O,O,O,O,O,O,O,O,O,O,O,O,O,O,O,O,O,O,O,O,O,O,O,O,O,O,O,O,O,O,O,O,O,O,O,O,O,O,O,O,O,O,O,O,O,O,O,O,O,O,O,O,O,O,O,O,O,O,O,O,O,O,O,O,O,O,O,O,O,O,O,O,O,O,O,O,O,O,O,O,O,O,O,O,O,O,O,O,O,O,O,O,O,O,O,O,O,O,O,O,O,O,O,O,O,O,O,O,O,O,O,O,O,O,O,O,O,O,O,O,O,O,O,O,O,O,O,O,O,O,O,O,O,O,O,O,O,O,O,O,O,O,O,O,O,O,O,O,O,O,O,O,O,O,O,O,O]
abbrev w19_CnfRuns_p14 : List AG := [o 127 (.mv (.t 21)), o 128 (.ibin .add (.t 127) (.c (.int .i64 1))), o 21 (.mv (.t 128))]
abbrev w19_CnfRuns_p15 : List AG := [o 8 (.mv (.c (.bool false)))]
abbrev w19_CnfRuns_p16 : ACode := (.seq (.reg w19_CnfRuns_p15) .ret)
abbrev w19_CnfRuns_p17 : List AG := [o 129 (.load true 3 (.t 13)), o 130 (.mv (.t 18)), o 131 (.mv (.t 21)), o 132 (.ibin .mul (.c (.int .i64 2)) (.t 131)), o 133 (.call (.f n_cnf_Lit) [(.t 129), (.t 130), (.t 132)]), o 134 (.mv (.t 11)), o 135 (.call (.f n_r19_Holds) [(.t 133), (.t 134)]), o 136 (.mv (.t 19)), o 137 (.mv (.t 21)), o 138 (.ixAddr 1 (.t 136) (.t 137)), o 139 (.load false 1 (.t 138)), o 140 (.cmp .neq (.sc .bool) (.t 135) (.t 139))]
abbrev w19_CnfRuns_p18 : ACode := (.seq (.dreg [O,O,O,O,O,O,O,O,O,O,I,O] [5,5,5,5,7,7,13,13,13,13,13,13] w19_CnfRuns_p17) (.cond (.t 140) w19_CnfRuns_p16 .skip))
abbrev w19_CnfRuns_p19 : List AG := [o 123 (.mv (.t 21)), o 124 (.mv (.t 19)), o 125 (.len (.t 124)), o 126 (.cmp .lss (.sc .int) (.t 123) (.t 125))]
abbrev w19_CnfRuns_b13 : ACode := (.seq (.seq (.reg w19_CnfRuns_p19) (.cond (.t 126) .skip (.exit 2))) (.seq (.block 3 [] w19_CnfRuns_p18) (.reg w19_CnfRuns_p14)))
abbrev w19_CnfRuns_p20 : List AG := [o 21 (.mv (.c (.int .i64 0)))]
abbrev w19_CnfRuns_p21 : List AG := [o 8 (.mv (.c (.bool false)))]
abbrev w19_CnfRuns_p22 : ACode := (.seq (.reg w19_CnfRuns_p21) .ret)
abbrev w19_CnfRuns_p23 : List AG := [o 121 (.mv (.t 20)), o 122 (.cmp .neq (.sc .int) (.t 121) (.c (.int .i64 0)))]
abbrev w19_CnfRuns_p24 : List AG := [o 112 (.load true 5 (.t 4)), o 113 (.mv (.t 17)), o 114 (.mv (.t 3)), o 115 (.mv (.t 18)), o 116 (.ixAddr 1 (.t 114) (.t 115)), o 117 (.load false 1 (.t 116)), o 118 (.call (.f n_aig_Values) [(.t 112), (.t 113), (.t 117)]), o 111 (.mv (.t 118)), o 119 (.extract (.t 111) 0), o 120 (.extract (.t 111) 1), o 19 (.mv (.t 119)), o 20 (.mv (.t 120))]
abbrev w19_CnfRuns_p25 : ACode := (.seq (.dreg [O,O,O,O,O,O,O,O,O,O,O,O] [7,7,7,7,7,7,13,13,13,13,13,13] w19_CnfRuns_p24) (.seq (.seq (.reg w19_CnfRuns_p23) (.cond (.t 122) w19_CnfRuns_p22 .skip)) (.seq (.seq (.reg w19_CnfRuns_p20) (.block 2 w19_CnfRuns_x13 (.loop w19_CnfRuns_m13 w19_CnfRuns_b13))) (.seq (.dreg [O,O,O,O,O,O,O,O,O,O,O,O,O,O] [7,7,7,7,7,7,15,15,15,15,15,15,15,15] w19_CnfRuns_p12) (.reg w19_CnfRuns_p11)))))
abbrev w19_CnfRuns_p26 : List AG := [o 105 (.mv (.t 18)), o 106 (.mv (.t 3)), o 107 (.len (.t 106)), o 108 (.cmp .lss (.sc .int) (.t 105) (.t 107))]
abbrev w19_CnfRuns_b9 : ACode := (.seq (.seq (.reg w19_CnfRuns_p26) (.cond (.t 108) .skip (.exit 0))) (.seq (.block 1 [] w19_CnfRuns_p25) (.reg w19_CnfRuns_p10)))
abbrev w19_CnfRuns_p27 : List AG := [o 18 (.mv (.c (.int .i64 0)))]
abbrev w19_CnfRuns_p28 : List AG := [o 104 (.mv (.t 2)), o 17 (.mv (.t 104))]
abbrev w19_CnfRuns_p29 : List AG := [o 8 (.mv (.c (.bool false)))]
abbrev w19_CnfRuns_p30 : ACode := (.seq (.reg w19_CnfRuns_p29) .ret)
abbrev w19_CnfRuns_p31 : List AG := [o 87 (.mv (.t 14)), o 88 (.cmp .neq (.sc .int) (.t 87) (.c (.int .i64 0))), o 89 (.mv (.t 88)), on 90 89 (.mv (.t 16)), on 91 89 (.cmp .neq (.sc .int) (.t 90) (.c (.int .i64 0))), o 92 (.pick (.t 89) (.c (.bool true)) (.t 91)), o 93 (.mv (.t 92)), on 94 93 (.mv (.t 15)), on 95 93 (.not (.t 94)), o 96 (.pick (.t 93) (.c (.bool true)) (.t 95)), o 97 (.mv (.t 96)), on 98 97 (.off 0 (.t 13)), on 99 97 (.load false 1 (.t 98)), on 100 97 (.mv (.t 11)), on 101 97 (.len (.t 100)), on 102 97 (.cmp .neq (.sc .int) (.t 99) (.t 101)), o 103 (.pick (.t 97) (.c (.bool true)) (.t 102))]
abbrev w19_CnfRuns_p32 : List AG := [o 81 (.off 1 (.t 13)), o 82 (.load false 1 (.t 81)), o 83 (.mv (.t 11)), o 84 (.call (.f n_cnf_True) [(.t 82), (.t 83)]), o 80 (.mv (.t 84)), o 85 (.extract (.t 80) 0), o 86 (.extract (.t 80) 1), o 15 (.mv (.t 85)), o 16 (.mv (.t 86))]
abbrev w19_CnfRuns_p33 : List AG := [o 73 (.load true 5 (.t 4)), o 74 (.mv (.t 1)), o 75 (.mv (.t 3)), o 76 (.len (.t 75)), o 77 (.call (.f n_cnf_Unroll) [(.t 73), (.t 74), (.t 76)]), o 72 (.mv (.t 77)), o 78 (.extract (.t 72) 0), o 79 (.extract (.t 72) 1), o 13 (.alloc [(.int .i64 0), (.own 1 t_api_Clause_2 []), (.own 1 t_int_3 [])]), q (.store 3 (.t 13) (.t 78)), o 14 (.mv (.t 79))]
abbrev w19_CnfRuns_p34 : List AG := [o 57 (.mv (.t 9)), o 58 (.mv (.t 57)), oy 59 58 (.mv (.t 10)), oy 60 58 (.not (.t 59)), oy 61 58 (.mv (.t 60)), on 62 61 (.mv (.t 2)), on 63 61 (.len (.t 62)), on 64 61 (.cmp .gtr (.sc .int) (.t 63) (.c (.int .i64 60))), oy 65 58 (.pick (.t 61) (.c (.bool true)) (.t 64)), oy 66 58 (.mv (.t 65)), on 67 66 (.mv (.t 11)), on 68 66 (.len (.t 67)), on 69 66 (.cmp .eql (.sc .int) (.t 68) (.c (.int .i64 0))), oy 70 58 (.pick (.t 66) (.c (.bool true)) (.t 69)), o 71 (.pick (.t 58) (.t 70) (.c (.bool false))), o 8 (.mv (.t 71))]
abbrev w19_CnfRuns_p35 : ACode := (.seq (.reg w19_CnfRuns_p34) .ret)
abbrev w19_CnfRuns_p36 : List AG := [o 46 (.mv (.t 10)), o 47 (.not (.t 46)), o 48 (.mv (.t 47)), on 49 48 (.mv (.t 2)), on 50 48 (.len (.t 49)), on 51 48 (.cmp .gtr (.sc .int) (.t 50) (.c (.int .i64 60))), o 52 (.pick (.t 48) (.c (.bool true)) (.t 51)), o 53 (.mv (.t 52)), on 54 53 (.mv (.t 12)), on 55 53 (.cmp .neq (.sc .int) (.t 54) (.c (.int .i64 0))), o 56 (.pick (.t 53) (.c (.bool true)) (.t 55))]
abbrev w19_CnfRuns_p37 : List AG := [o 39 (.load true 5 (.t 4)), o 40 (.mv (.t 1)), o 41 (.mv (.t 2)), o 42 (.mv (.t 3)), o 43 (.call (.f n_cnf_Values) [(.t 39), (.t 40), (.t 41), (.t 42)]), o 38 (.mv (.t 43)), o 44 (.extract (.t 38) 0), o 45 (.extract (.t 38) 1), o 11 (.mv (.t 44)), o 12 (.mv (.t 45))]
abbrev w19_CnfRuns_p38 : List AG := [o 29 (.load true 5 (.t 4)), o 30 (.mv (.t 1)), o 31 (.mv (.t 3)), o 32 (.len (.t 31)), o 33 (.call (.f n_w19_small) [(.t 29), (.t 30), (.t 32)]), o 34 (.mv (.t 33)), oy 35 34 (.mv (.t 3)), oy 36 34 (.call (.f n_w08_Rows) [(.t 35), (.c (.int .i64 6))]), o 37 (.pick (.t 34) (.t 36) (.c (.bool false))), o 10 (.mv (.t 37))]
abbrev w19_CnfRuns_p39 : List AG := [o 8 (.mv (.c (.bool false)))]
abbrev w19_CnfRuns_p40 : ACode := (.seq (.reg w19_CnfRuns_p39) .ret)
abbrev w19_CnfRuns_p41 : List AG := [o 27 (.mv (.t 9)), o 28 (.not (.t 27))]
abbrev w19_CnfRuns_p42 : List AG := [o 26 (.call (.f n_w19_works) []), o 9 (.mv (.t 26))]
abbrev w19_CnfRuns_p43 : List AG := [o 4 (.box 5 (.t 0)), o 8 (.mv (.c (.bool false)))]
abbrev w19_CnfRuns : AFun := ⟨(.seq (.reg w19_CnfRuns_p43) (.seq (.reg w19_CnfRuns_p42) (.seq (.seq (.reg w19_CnfRuns_p41) (.cond (.t 28) w19_CnfRuns_p40 .skip)) (.seq (.reg w19_CnfRuns_p38) (.seq (.reg w19_CnfRuns_p37) (.seq (.seq (.reg w19_CnfRuns_p36) (.cond (.t 56) w19_CnfRuns_p35 .skip)) (.seq (.reg w19_CnfRuns_p33) (.seq (.reg w19_CnfRuns_p32) (.seq (.seq (.reg w19_CnfRuns_p31) (.cond (.t 103) w19_CnfRuns_p30 .skip)) (.seq (.reg w19_CnfRuns_p28) (.seq (.seq (.reg w19_CnfRuns_p27) (.block 0 w19_CnfRuns_x9 (.loop w19_CnfRuns_m9 w19_CnfRuns_b9))) (.seq (.seq (.reg w19_CnfRuns_p8) (.block 4 w19_CnfRuns_x1 (.loop w19_CnfRuns_m1 w19_CnfRuns_b1))) (.seq (.reg w19_CnfRuns_p0) .ret))))))))))))), 177, [.tmp 8]⟩
abbrev w19_CnfRuns_k1 : List It := [.code (.seq (.reg w19_CnfRuns_p0) .ret)]
abbrev w19_CnfRuns_L1 (x3 x4 x9 x11 x13 x17 x25 : AV) (h : List Ob) (e : Cx := cx) : Cfg := atC n_w19_CnfRuns (.code w19_CnfRuns_b1 :: .inLoop w19_CnfRuns_m1 w19_CnfRuns_b1 :: .inBlock 4 w19_CnfRuns_x1 :: w19_CnfRuns_k1) [U,U,U,x3,x4,U,U,U,U,x9,U,x11,U,x13,U,U,U,x17,U,U,U,U,U,U,U,x25,U,U,U,U,U,U,U,U,U,U,U,U,U,U,U,U,U,U,U,U,U,U,U,U,U,U,U,U,U,U,U,U,U,U,U,U,U,U,U,U,U,U,U,U,U,U,U,U,U,U,U,U,U,U,U,U,U,U,U,U,U,U,U,U,U,U,U,U,U,U,U,U,U,U,U,U,U,U,U,U,U,U,U,U,U,U,U,U,U,U,U,U,U,U,U,U,U,U,U,U,U,U,U,U,U,U,U,U,U,U,U,U,U,U,U,U,U,U,U,U,U,U,U,U,U,U,U,U,U,U,U,U,U,U,U,U,U,U,U,U,U,U,U,U,U,U,U,U,U,U,U] h e
abbrev w19_CnfRuns_E1 (x9 : AV) (h : List Ob) (e : Cx := cx) : Cfg := atC n_w19_CnfRuns w19_CnfRuns_k1 [U,U,U,U,U,U,U,U,U,x9,U,U,U,U,U,U,U,U,U,U,U,U,U,U,U,U,U,U,U,U,U,U,U,U,U,U,U,U,U,U,U,U,U,U,U,U,U,U,U,U,U,U,U,U,U,U,U,U,U,U,U,U,U,U,U,U,U,U,U,U,U,U,U,U,U,U,U,U,U,U,U,U,U,U,U,U,U,U,U,U,U,U,U,U,U,U,U,U,U,U,U,U,U,U,U,U,U,U,U,U,U,U,U,U,U,U,U,U,U,U,U,U,U,U,U,U,U,U,U,U,U,U,U,U,U,U,U,U,U,U,U,U,U,U,U,U,U,U,U,U,U,U,U,U,U,U,U,U,U,U,U,U,U,U,U,U,U,U,U,U,U,U,U,U,U,U,U] h e
abbrev w19_CnfRuns_k13 : List It := [.code (.seq (.dreg [O,O,O,O,O,O,O,O,O,O,O,O,O,O] [7,7,7,7,7,7,15,15,15,15,15,15,15,15] w19_CnfRuns_p12) (.reg w19_CnfRuns_p11)), .inBlock 1 [], .code (.reg w19_CnfRuns_p10), .inLoop w19_CnfRuns_m9 w19_CnfRuns_b9, .inBlock 0 w19_CnfRuns_x9, .code (.seq (.seq (.reg w19_CnfRuns_p8) (.block 4 w19_CnfRuns_x1 (.loop w19_CnfRuns_m1 w19_CnfRuns_b1))) (.seq (.reg w19_CnfRuns_p0) .ret))]
abbrev w19_CnfRuns_L13 (x3 x4 x9 x11 x13 x17 x18 x19 x21 : AV) (h : List Ob) (e : Cx := cx) : Cfg := atC n_w19_CnfRuns (.code w19_CnfRuns_b13 :: .inLoop w19_CnfRuns_m13 w19_CnfRuns_b13 :: .inBlock 2 w19_CnfRuns_x13 :: w19_CnfRuns_k13) [U,U,U,x3,x4,U,U,U,U,x9,U,x11,U,x13,U,U,U,x17,x18,x19,U,x21,U,U,U,U,U,U,U,U,U,U,U,U,U,U,U,U,U,U,U,U,U,U,U,U,U,U,U,U,U,U,U,U,U,U,U,U,U,U,U,U,U,U,U,U,U,U,U,U,U,U,U,U,U,U,U,U,U,U,U,U,U,U,U,U,U,U,U,U,U,U,U,U,U,U,U,U,U,U,U,U,U,U,U,U,U,U,U,U,U,U,U,U,U,U,U,U,U,U,U,U,U,U,U,U,U,U,U,U,U,U,U,U,U,U,U,U,U,U,U,U,U,U,U,U,U,U,U,U,U,U,U,U,U,U,U,U,U,U,U,U,U,U,U,U,U,U,U,U,U,U,U,U,U,U,U] h e
abbrev w19_CnfRuns_E13 (x3 x4 x9 x11 x13 x17 x18 : AV) (h : List Ob) (e : Cx := cx) : Cfg := atC n_w19_CnfRuns w19_CnfRuns_k13 [U,U,U,x3,x4,U,U,U,U,x9,U,x11,U,x13,U,U,U,x17,x18,U,U,U,U,U,U,U,U,U,U,U,U,U,U,U,U,U,U,U,U,U,U,U,U,U,U,U,U,U,U,U,U,U,U,U,U,U,U,U,U,U,U,U,U,U,U,U,U,U,U,U,U,U,U,U,U,U,U,U,U,U,U,U,U,U,U,U,U,U,U,U,U,U,U,U,U,U,U,U,U,U,U,U,U,U,U,U,U,U,U,U,U,U,U,U,U,U,U,U,U,U,U,U,U,U,U,U,U,U,U,U,U,U,U,U,U,U,U,U,U,U,U,U,U,U,U,U,U,U,U,U,U,U,U,U,U,U,U,U,U,U,U,U,U,U,U,U,U,U,U,U,U,U,U,U,U,U,U] h e
abbrev w19_CnfRuns_k9 : List It := [.code (.seq (.seq (.reg w19_CnfRuns_p8) (.block 4 w19_CnfRuns_x1 (.loop w19_CnfRuns_m1 w19_CnfRuns_b1))) (.seq (.reg w19_CnfRuns_p0) .ret))]
abbrev w19_CnfRuns_L9 (x3 x4 x9 x11 x13 x17 x18 : AV) (h : List Ob) (e : Cx := cx) : Cfg := atC n_w19_CnfRuns (.code w19_CnfRuns_b9 :: .inLoop w19_CnfRuns_m9 w19_CnfRuns_b9 :: .inBlock 0 w19_CnfRuns_x9 :: w19_CnfRuns_k9) [U,U,U,x3,x4,U,U,U,U,x9,U,x11,U,x13,U,U,U,x17,x18,U,U,U,U,U,U,U,U,U,U,U,U,U,U,U,U,U,U,U,U,U,U,U,U,U,U,U,U,U,U,U,U,U,U,U,U,U,U,U,U,U,U,U,U,U,U,U,U,U,U,U,U,U,U,U,U,U,U,U,U,U,U,U,U,U,U,U,U,U,U,U,U,U,U,U,U,U,U,U,U,U,U,U,U,U,U,U,U,U,U,U,U,U,U,U,U,U,U,U,U,U,U,U,U,U,U,U,U,U,U,U,U,U,U,U,U,U,U,U,U,U,U,U,U,U,U,U,U,U,U,U,U,U,U,U,U,U,U,U,U,U,U,U,U,U,U,U,U,U,U,U,U,U,U,U,U,U,U] h e
abbrev w19_CnfRuns_E9 (x3 x4 x9 x11 x13 x17 : AV) (h : List Ob) (e : Cx := cx) : Cfg := atC n_w19_CnfRuns w19_CnfRuns_k9 [U,U,U,x3,x4,U,U,U,U,x9,U,x11,U,x13,U,U,U,x17,U,U,U,U,U,U,U,U,U,U,U,U,U,U,U,U,U,U,U,U,U,U,U,U,U,U,U,U,U,U,U,U,U,U,U,U,U,U,U,U,U,U,U,U,U,U,U,U,U,U,U,U,U,U,U,U,U,U,U,U,U,U,U,U,U,U,U,U,U,U,U,U,U,U,U,U,U,U,U,U,U,U,U,U,U,U,U,U,U,U,U,U,U,U,U,U,U,U,U,U,U,U,U,U,U,U,U,U,U,U,U,U,U,U,U,U,U,U,U,U,U,U,U,U,U,U,U,U,U,U,U,U,U,U,U,U,U,U,U,U,U,U,U,U,U,U,U,U,U,U,U,U,U,U,U,U,U,U,U] h e
@[simp] theorem c_w19_CnfRuns : cfun Try.prog n_w19_CnfRuns = some w19_CnfRuns := by kernel_rfl
@[simp] theorem e_w19_CnfRuns : hasBody Try.prog n_w19_CnfRuns = true := by kernel_rfl

/- w19_CnfOnly: patchbay/patchbaylaw19.CnfOnly -/
abbrev w19_CnfOnly_p0 : List AG := [o 139 (.mv (.t 9)), o 140 (.mv (.t 139)), oy 141 140 (.mv (.t 22)), oy 142 140 (.cmp .eql (.sc .int) (.t 141) (.c (.int .i64 0))), o 143 (.pick (.t 140) (.t 142) (.c (.bool false))), o 144 (.mv (.t 143)), oy 145 144 (.mv (.t 21)), oy 146 144 (.mv (.t 3)), oy 147 144 (.call (.f n_r08_Bools) [(.t 145), (.t 146)]), o 148 (.pick (.t 144) (.t 147) (.c (.bool false))), o 8 (.mv (.t 148))]
abbrev w19_CnfOnly_p1 : List AG := [o 132 (.load true 5 (.t 4)), o 133 (.mv (.t 1)), o 134 (.mv (.t 15)), o 135 (.mv (.t 16)), o 136 (.call (.f n_cnf_Values) [(.t 132), (.t 133), (.t 134), (.t 135)]), o 131 (.mv (.t 136)), o 137 (.extract (.t 131) 0), o 138 (.extract (.t 131) 1), o 21 (.mv (.t 137)), o 22 (.mv (.t 138))]
abbrev w19_CnfOnly_m2 : List Bool := [O,I,I,I,I,O,O,O,O,I,O,I,O,O,O,I,I,O,I,O,O,O,O,O,O,O,O,O,O,O,O,O,O,O,O,O,O,O,O,O,O,O,O,O,O,O,O,O,O,O,O,O,O,O,O,O,O,O,O,O,O,O,O,O,O,O,O,O,O,O,O,O,O,O,O,O,O,O,O,O,O,O,O,O,O,O,O,O,O,O,O,O,O,O,O,O,O,O,O,O,O,O,O,O,O,O,O,O,O,O,O,O,O,O,O,O,O,O,O,O,O,O,O,O,O,O,O,O,O,O,O,O,O,O,O,O,O,O,O,O,O,O,O,O,O,O,O,O,O]
abbrev w19_CnfOnly_x2 : List Bool := [O,I,O,I,I,O,O,O,O,I,O,O,O,O,O,I,I,O,O,O,O,O,O,O,O,O,O,O,O,O,O,O,O,O,O,O,O,O,O,O,O,O,O,O,O,O,O,O,O,O,O,O,O,O,O,O,O,O,O,O,O,O,O,O,O,O,O,O,O,O,O,O,O,O,O,O,O,O,O,O,O,O,O,O,O,O,O,O,O,O,O,O,O,O,O,O,O,O,O,O,O,O,O,O,O,O,O,O,O,O,O,O,O,O,O,O,O,O,O,O,O,O,O,O,O,O,O,O,O,O,O,O,O,O,O,O,O,O,O,O,O,O,O,O,O,O,O,O,O]
abbrev w19_CnfOnly_p3 : List AG := [o 98 (.mv (.t 18)), o 99 (.ibin .add (.t 98) (.c (.int .i64 1))), o 18 (.mv (.t 99))]
abbrev w19_CnfOnly_p4 : List AG := [o 127 (.mv (.t 16)), o 128 (.mv (.t 19)), o 129 (.lit 1 [(.list true 0 [])] [(0, (.t 128))]), o 130 (.append 1 t_bool_2 24 (.t 127) (.t 129)), o 16 (.mv (.t 130))]
abbrev w19_CnfOnly_m5 : List Bool := [O,I,I,I,I,O,O,O,O,I,O,I,O,O,O,I,I,O,I,I,I,O,O,O,O,O,O,O,O,O,O,O,O,O,O,O,O,O,O,O,O,O,O,O,O,O,O,O,O,O,O,O,O,O,O,O,O,O,O,O,O,O,O,O,O,O,O,O,O,O,O,O,O,O,O,O,O,O,O,O,O,O,O,O,O,O,O,O,O,O,O,O,O,O,O,O,O,O,O,O,O,O,O,O,O,O,O,O,O,O,O,O,O,O,O,O,O,O,O,O,O,O,O,O,O,O,O,O,O,O,O,O,O,O,O,O,O,O,O,O,O,O,O,O,O,O,O,O,O]
abbrev w19_CnfOnly_x5 : List Bool := [O,I,I,I,I,O,O,O,O,I,O,I,O,O,O,I,I,O,I,I,O,O,O,O,O,O,O,O,O,O,O,O,O,O,O,O,O,O,O,O,O,O,O,O,O,O,O,O,O,O,O,O,O,O,O,O,O,O,O,O,O,O,O,O,O,O,O,O,O,O,O,O,O,O,O,O,O,O,O,O,O,O,O,O,O,O,O,O,O,O,O,O,O,O,O,O,O,O,O,O,O,O,O,O,O,O,O,O,O,O,O,O,O,O,O,O,O,O,O,O,O,O,O,O,O,O,O,O,O,O,O,O,O,O,O,O,O,O,O,O,O,O,O,O,O,O,O,O,O]
abbrev w19_CnfOnly_p6 : List AG := [o 114 (.mv (.t 20)), o 115 (.ibin .add (.t 114) (.c (.int .i64 1))), o 20 (.mv (.t 115))]
abbrev w19_CnfOnly_p7 : List AG := [o 116 (.mv (.t 19)), o 117 (.load true 3 (.t 11)), o 118 (.mv (.t 18)), o 119 (.mv (.t 20)), o 120 (.ibin .add (.c (.int .i64 1)) (.t 119)), o 121 (.ibin .mul (.c (.int .i64 2)) (.t 120)), o 122 (.call (.f n_cnf_Lit) [(.t 117), (.t 118), (.t 121)]), o 123 (.mv (.t 3)), o 124 (.call (.f n_r19_Holds) [(.t 122), (.t 123)]), o 125 (.lit 1 [(.bool false)] [(0, (.t 124))]), o 126 (.append 1 t_bool 1 (.t 116) (.t 125)), o 19 (.mv (.t 126))]
abbrev w19_CnfOnly_p8 : List AG := [o 100 (.mv (.t 20)), o 101 (.off 0 (.t 4)), o 102 (.load false 1 (.t 101)), o 103 (.cmp .lss (.sc .int) (.t 100) (.t 102)), o 104 (.mv (.t 103)), oy 105 104 (.mv (.t 20)), oy 106 104 (.off 2 (.t 11)), oy 107 104 (.load false 1 (.t 106)), oy 108 104 (.mv (.t 18)), oy 109 104 (.ixAddr 1 (.t 107) (.t 108)), oy 110 104 (.load false 1 (.t 109)), oy 111 104 (.len (.t 110)), oy 112 104 (.cmp .lss (.sc .int) (.t 105) (.t 111)), o 113 (.pick (.t 104) (.t 112) (.c (.bool false)))]
abbrev w19_CnfOnly_b5 : ACode := (.seq (.seq (.reg w19_CnfOnly_p8) (.cond (.t 113) .skip (.exit 4))) (.seq (.block 5 [] (.reg w19_CnfOnly_p7)) (.reg w19_CnfOnly_p6)))
abbrev w19_CnfOnly_p9 : List AG := [o 20 (.mv (.c (.int .i64 0)))]
abbrev w19_CnfOnly_p10 : List AG := [o 19 (.nilrow 1 t_bool)]
abbrev w19_CnfOnly_p11 : ACode := (.seq (.reg w19_CnfOnly_p10) (.seq (.seq (.reg w19_CnfOnly_p9) (.block 4 w19_CnfOnly_x5 (.loop w19_CnfOnly_m5 w19_CnfOnly_b5))) (.reg w19_CnfOnly_p4)))
abbrev w19_CnfOnly_p12 : List AG := [o 88 (.mv (.t 18)), o 89 (.mv (.t 2)), o 90 (.cmp .lss (.sc .int) (.t 88) (.t 89)), o 91 (.mv (.t 90)), oy 92 91 (.mv (.t 18)), oy 93 91 (.off 2 (.t 11)), oy 94 91 (.load false 1 (.t 93)), oy 95 91 (.len (.t 94)), oy 96 91 (.cmp .lss (.sc .int) (.t 92) (.t 95)), o 97 (.pick (.t 91) (.t 96) (.c (.bool false)))]
abbrev w19_CnfOnly_b2 : ACode := (.seq (.seq (.reg w19_CnfOnly_p12) (.cond (.t 97) .skip (.exit 2))) (.seq (.block 3 [] w19_CnfOnly_p11) (.reg w19_CnfOnly_p3)))
abbrev w19_CnfOnly_p13 : List AG := [o 18 (.mv (.c (.int .i64 0)))]
abbrev w19_CnfOnly_m14 : List Bool := [O,I,I,I,I,O,O,O,O,I,O,I,O,O,O,I,I,I,O,O,O,O,O,O,O,O,O,O,O,O,O,O,O,O,O,O,O,O,O,O,O,O,O,O,O,O,O,O,O,O,O,O,O,O,O,O,O,O,O,O,O,O,O,O,O,O,O,O,O,O,O,O,O,O,O,O,O,O,O,O,O,O,O,O,O,O,O,O,O,O,O,O,O,O,O,O,O,O,O,O,O,O,O,O,O,O,O,O,O,O,O,O,O,O,O,O,O,O,O,O,O,O,O,O,O,O,O,O,O,O,O,O,O,O,O,O,O,O,O,O,O,O,O,O,O,O,O,O,O]
abbrev w19_CnfOnly_x14 : List Bool := [O,I,I,I,I,O,O,O,O,I,O,I,O,O,O,I,I,O,O,O,O,O,O,O,O,O,O,O,O,O,O,O,O,O,O,O,O,O,O,O,O,O,O,O,O,O,O,O,O,O,O,O,O,O,O,O,O,O,O,O,O,O,O,O,O,O,O,O,O,O,O,O,O,O,O,O,O,O,O,O,O,O,O,O,O,O,O,O,O,O,O,O,O,O,O,O,O,O,O,O,O,O,O,O,O,O,O,O,O,O,O,O,O,O,O,O,O,O,O,O,O,O,O,O,O,O,O,O,O,O,O,O,O,O,O,O,O,O,O,O,O,O,O,O,O,O,O,O,O]
abbrev w19_CnfOnly_p15 : List AG := [o 73 (.mv (.t 17)), o 74 (.ibin .add (.t 73) (.c (.int .i64 1))), o 17 (.mv (.t 74))]
abbrev w19_CnfOnly_p16 : List AG := [o 75 (.mv (.t 15)), o 76 (.load true 3 (.t 11)), o 77 (.off 0 (.t 4)), o 78 (.load false 1 (.t 77)), o 79 (.ibin .add (.c (.int .i64 1)) (.t 78)), o 80 (.mv (.t 17)), o 81 (.ibin .add (.t 79) (.t 80)), o 82 (.ibin .mul (.c (.int .i64 2)) (.t 81)), o 83 (.call (.f n_cnf_Lit) [(.t 76), (.c (.int .i64 0)), (.t 82)]), o 84 (.mv (.t 3)), o 85 (.call (.f n_r19_Holds) [(.t 83), (.t 84)]), o 86 (.lit 1 [(.bool false)] [(0, (.t 85))]), o 87 (.append 1 t_bool 1 (.t 75) (.t 86)), o 15 (.mv (.t 87))]
abbrev w19_CnfOnly_p17 : List AG := [o 69 (.mv (.t 17)), o 70 (.mv (.t 1)), o 71 (.len (.t 70)), o 72 (.cmp .lss (.sc .int) (.t 69) (.t 71))]
abbrev w19_CnfOnly_b14 : ACode := (.seq (.seq (.reg w19_CnfOnly_p17) (.cond (.t 72) .skip (.exit 0))) (.seq (.block 1 [] (.reg w19_CnfOnly_p16)) (.reg w19_CnfOnly_p15)))
abbrev w19_CnfOnly_p18 : List AG := [o 17 (.mv (.c (.int .i64 0)))]
abbrev w19_CnfOnly_p19 : List AG := [o 16 (.nilrow 1 t_bool_2)]
abbrev w19_CnfOnly_p20 : List AG := [o 15 (.nilrow 1 t_bool)]
abbrev w19_CnfOnly_p21 : List AG := [o 64 (.mv (.t 9)), o 65 (.mv (.t 64)), oy 66 65 (.mv (.t 14)), oy 67 65 (.cmp .eql (.sc .int) (.t 66) (.c (.int .i64 0))), o 68 (.pick (.t 65) (.t 67) (.c (.bool false))), o 8 (.mv (.t 68))]
abbrev w19_CnfOnly_p22 : ACode := (.seq (.reg w19_CnfOnly_p21) .ret)
abbrev w19_CnfOnly_p23 : List AG := [o 58 (.mv (.t 14)), o 59 (.cmp .neq (.sc .int) (.t 58) (.c (.int .i64 0))), o 60 (.mv (.t 59)), on 61 60 (.mv (.t 13)), on 62 60 (.not (.t 61)), o 63 (.pick (.t 60) (.c (.bool true)) (.t 62))]
abbrev w19_CnfOnly_p24 : List AG := [o 52 (.off 1 (.t 11)), o 53 (.load false 1 (.t 52)), o 54 (.mv (.t 3)), o 55 (.call (.f n_cnf_True) [(.t 53), (.t 54)]), o 51 (.mv (.t 55)), o 56 (.extract (.t 51) 0), o 57 (.extract (.t 51) 1), o 13 (.mv (.t 56)), o 14 (.mv (.t 57))]
abbrev w19_CnfOnly_p25 : List AG := [o 50 (.mv (.t 9)), o 8 (.mv (.t 50))]
abbrev w19_CnfOnly_p26 : ACode := (.seq (.reg w19_CnfOnly_p25) .ret)
abbrev w19_CnfOnly_p27 : List AG := [o 37 (.mv (.t 10)), o 38 (.not (.t 37)), o 39 (.mv (.t 38)), on 40 39 (.mv (.t 12)), on 41 39 (.cmp .neq (.sc .int) (.t 40) (.c (.int .i64 0))), o 42 (.pick (.t 39) (.c (.bool true)) (.t 41)), o 43 (.mv (.t 42)), on 44 43 (.mv (.t 3)), on 45 43 (.len (.t 44)), on 46 43 (.off 0 (.t 11)), on 47 43 (.load false 1 (.t 46)), on 48 43 (.cmp .neq (.sc .int) (.t 45) (.t 47)), o 49 (.pick (.t 43) (.c (.bool true)) (.t 48))]
abbrev w19_CnfOnly_p28 : List AG := [o 31 (.load true 5 (.t 4)), o 32 (.mv (.t 1)), o 33 (.mv (.t 2)), o 34 (.call (.f n_cnf_Unroll) [(.t 31), (.t 32), (.t 33)]), o 30 (.mv (.t 34)), o 35 (.extract (.t 30) 0), o 36 (.extract (.t 30) 1), o 11 (.alloc [(.int .i64 0), (.own 1 t_api_Clause_2 []), (.own 1 t_int_3 [])]), q (.store 3 (.t 11) (.t 35)), o 12 (.mv (.t 36))]
abbrev w19_CnfOnly_p29 : List AG := [o 26 (.load true 5 (.t 4)), o 27 (.mv (.t 1)), o 28 (.mv (.t 2)), o 29 (.call (.f n_w19_small) [(.t 26), (.t 27), (.t 28)]), o 10 (.mv (.t 29))]
abbrev w19_CnfOnly_p30 : List AG := [o 8 (.mv (.c (.bool false)))]
abbrev w19_CnfOnly_p31 : ACode := (.seq (.reg w19_CnfOnly_p30) .ret)
abbrev w19_CnfOnly_p32 : List AG := [o 24 (.mv (.t 9)), o 25 (.not (.t 24))]
abbrev w19_CnfOnly_p33 : List AG := [o 23 (.call (.f n_w19_works) []), o 9 (.mv (.t 23))]
abbrev w19_CnfOnly_p34 : List AG := [o 4 (.box 5 (.t 0)), o 8 (.mv (.c (.bool false)))]
abbrev w19_CnfOnly : AFun := ⟨(.seq (.reg w19_CnfOnly_p34) (.seq (.reg w19_CnfOnly_p33) (.seq (.seq (.reg w19_CnfOnly_p32) (.cond (.t 25) w19_CnfOnly_p31 .skip)) (.seq (.reg w19_CnfOnly_p29) (.seq (.reg w19_CnfOnly_p28) (.seq (.seq (.reg w19_CnfOnly_p27) (.cond (.t 49) w19_CnfOnly_p26 .skip)) (.seq (.reg w19_CnfOnly_p24) (.seq (.seq (.reg w19_CnfOnly_p23) (.cond (.t 63) w19_CnfOnly_p22 .skip)) (.seq (.reg w19_CnfOnly_p20) (.seq (.reg w19_CnfOnly_p19) (.seq (.seq (.reg w19_CnfOnly_p18) (.block 0 w19_CnfOnly_x14 (.loop w19_CnfOnly_m14 w19_CnfOnly_b14))) (.seq (.seq (.reg w19_CnfOnly_p13) (.block 2 w19_CnfOnly_x2 (.loop w19_CnfOnly_m2 w19_CnfOnly_b2))) (.seq (.reg w19_CnfOnly_p1) (.seq (.reg w19_CnfOnly_p0) .ret)))))))))))))), 149, [.tmp 8]⟩
abbrev w19_CnfOnly_k5 : List It := [.code (.reg w19_CnfOnly_p4), .inBlock 3 [], .code (.reg w19_CnfOnly_p3), .inLoop w19_CnfOnly_m2 w19_CnfOnly_b2, .inBlock 2 w19_CnfOnly_x2, .code (.seq (.reg w19_CnfOnly_p1) (.seq (.reg w19_CnfOnly_p0) .ret))]
abbrev w19_CnfOnly_L5 (x1 x2 x3 x4 x9 x11 x15 x16 x18 x19 x20 : AV) (h : List Ob) (e : Cx := cx) : Cfg := atC n_w19_CnfOnly (.code w19_CnfOnly_b5 :: .inLoop w19_CnfOnly_m5 w19_CnfOnly_b5 :: .inBlock 4 w19_CnfOnly_x5 :: w19_CnfOnly_k5) [U,x1,x2,x3,x4,U,U,U,U,x9,U,x11,U,U,U,x15,x16,U,x18,x19,x20,U,U,U,U,U,U,U,U,U,U,U,U,U,U,U,U,U,U,U,U,U,U,U,U,U,U,U,U,U,U,U,U,U,U,U,U,U,U,U,U,U,U,U,U,U,U,U,U,U,U,U,U,U,U,U,U,U,U,U,U,U,U,U,U,U,U,U,U,U,U,U,U,U,U,U,U,U,U,U,U,U,U,U,U,U,U,U,U,U,U,U,U,U,U,U,U,U,U,U,U,U,U,U,U,U,U,U,U,U,U,U,U,U,U,U,U,U,U,U,U,U,U,U,U,U,U,U,U] h e
abbrev w19_CnfOnly_E5 (x1 x2 x3 x4 x9 x11 x15 x16 x18 x19 : AV) (h : List Ob) (e : Cx := cx) : Cfg := atC n_w19_CnfOnly w19_CnfOnly_k5 [U,x1,x2,x3,x4,U,U,U,U,x9,U,x11,U,U,U,x15,x16,U,x18,x19,U,U,U,U,U,U,U,U,U,U,U,U,U,U,U,U,U,U,U,U,U,U,U,U,U,U,U,U,U,U,U,U,U,U,U,U,U,U,U,U,U,U,U,U,U,U,U,U,U,U,U,U,U,U,U,U,U,U,U,U,U,U,U,U,U,U,U,U,U,U,U,U,U,U,U,U,U,U,U,U,U,U,U,U,U,U,U,U,U,U,U,U,U,U,U,U,U,U,U,U,U,U,U,U,U,U,U,U,U,U,U,U,U,U,U,U,U,U,U,U,U,U,U,U,U,U,U,U,U] h e
abbrev w19_CnfOnly_k2 : List It := [.code (.seq (.reg w19_CnfOnly_p1) (.seq (.reg w19_CnfOnly_p0) .ret))]
abbrev w19_CnfOnly_L2 (x1 x2 x3 x4 x9 x11 x15 x16 x18 : AV) (h : List Ob) (e : Cx := cx) : Cfg := atC n_w19_CnfOnly (.code w19_CnfOnly_b2 :: .inLoop w19_CnfOnly_m2 w19_CnfOnly_b2 :: .inBlock 2 w19_CnfOnly_x2 :: w19_CnfOnly_k2) [U,x1,x2,x3,x4,U,U,U,U,x9,U,x11,U,U,U,x15,x16,U,x18,U,U,U,U,U,U,U,U,U,U,U,U,U,U,U,U,U,U,U,U,U,U,U,U,U,U,U,U,U,U,U,U,U,U,U,U,U,U,U,U,U,U,U,U,U,U,U,U,U,U,U,U,U,U,U,U,U,U,U,U,U,U,U,U,U,U,U,U,U,U,U,U,U,U,U,U,U,U,U,U,U,U,U,U,U,U,U,U,U,U,U,U,U,U,U,U,U,U,U,U,U,U,U,U,U,U,U,U,U,U,U,U,U,U,U,U,U,U,U,U,U,U,U,U,U,U,U,U,U,U] h e
abbrev w19_CnfOnly_E2 (x1 x3 x4 x9 x15 x16 : AV) (h : List Ob) (e : Cx := cx) : Cfg := atC n_w19_CnfOnly w19_CnfOnly_k2 [U,x1,U,x3,x4,U,U,U,U,x9,U,U,U,U,U,x15,x16,U,U,U,U,U,U,U,U,U,U,U,U,U,U,U,U,U,U,U,U,U,U,U,U,U,U,U,U,U,U,U,U,U,U,U,U,U,U,U,U,U,U,U,U,U,U,U,U,U,U,U,U,U,U,U,U,U,U,U,U,U,U,U,U,U,U,U,U,U,U,U,U,U,U,U,U,U,U,U,U,U,U,U,U,U,U,U,U,U,U,U,U,U,U,U,U,U,U,U,U,U,U,U,U,U,U,U,U,U,U,U,U,U,U,U,U,U,U,U,U,U,U,U,U,U,U,U,U,U,U,U,U] h e
abbrev w19_CnfOnly_k14 : List It := [.code (.seq (.seq (.reg w19_CnfOnly_p13) (.block 2 w19_CnfOnly_x2 (.loop w19_CnfOnly_m2 w19_CnfOnly_b2))) (.seq (.reg w19_CnfOnly_p1) (.seq (.reg w19_CnfOnly_p0) .ret)))]
abbrev w19_CnfOnly_L14 (x1 x2 x3 x4 x9 x11 x15 x16 x17 : AV) (h : List Ob) (e : Cx := cx) : Cfg := atC n_w19_CnfOnly (.code w19_CnfOnly_b14 :: .inLoop w19_CnfOnly_m14 w19_CnfOnly_b14 :: .inBlock 0 w19_CnfOnly_x14 :: w19_CnfOnly_k14) [U,x1,x2,x3,x4,U,U,U,U,x9,U,x11,U,U,U,x15,x16,x17,U,U,U,U,U,U,U,U,U,U,U,U,U,U,U,U,U,U,U,U,U,U,U,U,U,U,U,U,U,U,U,U,U,U,U,U,U,U,U,U,U,U,U,U,U,U,U,U,U,U,U,U,U,U,U,U,U,U,U,U,U,U,U,U,U,U,U,U,U,U,U,U,U,U,U,U,U,U,U,U,U,U,U,U,U,U,U,U,U,U,U,U,U,U,U,U,U,U,U,U,U,U,U,U,U,U,U,U,U,U,U,U,U,U,U,U,U,U,U,U,U,U,U,U,U,U,U,U,U,U,U] h e
abbrev w19_CnfOnly_E14 (x1 x2 x3 x4 x9 x11 x15 x16 : AV) (h : List Ob) (e : Cx := cx) : Cfg := atC n_w19_CnfOnly w19_CnfOnly_k14 [U,x1,x2,x3,x4,U,U,U,U,x9,U,x11,U,U,U,x15,x16,U,U,U,U,U,U,U,U,U,U,U,U,U,U,U,U,U,U,U,U,U,U,U,U,U,U,U,U,U,U,U,U,U,U,U,U,U,U,U,U,U,U,U,U,U,U,U,U,U,U,U,U,U,U,U,U,U,U,U,U,U,U,U,U,U,U,U,U,U,U,U,U,U,U,U,U,U,U,U,U,U,U,U,U,U,U,U,U,U,U,U,U,U,U,U,U,U,U,U,U,U,U,U,U,U,U,U,U,U,U,U,U,U,U,U,U,U,U,U,U,U,U,U,U,U,U,U,U,U,U,U,U] h e
@[simp] theorem c_w19_CnfOnly : cfun Try.prog n_w19_CnfOnly = some w19_CnfOnly := by kernel_rfl
@[simp] theorem e_w19_CnfOnly : hasBody Try.prog n_w19_CnfOnly = true := by kernel_rfl

/- w19_CnfSizes: patchbay/patchbaylaw19.CnfSizes -/
abbrev w19_CnfSizes_p0 : List AG := [o 124 (.mv (.t 7)), o 125 (.mv (.t 124)), oy 126 125 (.off 2 (.t 9)), oy 127 125 (.load false 1 (.t 126)), oy 128 125 (.len (.t 127)), oy 129 125 (.mv (.t 2)), oy 130 125 (.ibin .add (.t 129) (.c (.int .i64 1))), oy 131 125 (.cmp .eql (.sc .int) (.t 128) (.t 130)), o 132 (.pick (.t 125) (.t 131) (.c (.bool false))), o 133 (.mv (.t 132)), oy 134 133 (.off 0 (.t 9)), oy 135 133 (.load false 1 (.t 134)), oy 136 133 (.mv (.t 17)), oy 137 133 (.cmp .eql (.sc .int) (.t 135) (.t 136)), o 138 (.pick (.t 133) (.t 137) (.c (.bool false))), o 139 (.mv (.t 138)), oy 140 139 (.off 1 (.t 9)), oy 141 139 (.load false 1 (.t 140)), oy 142 139 (.len (.t 141)), oy 143 139 (.mv (.t 18)), oy 144 139 (.cmp .eql (.sc .int) (.t 142) (.t 143)), o 145 (.pick (.t 139) (.t 144) (.c (.bool false))), o 146 (.mv (.t 145)), oy 147 146 (.off 1 (.t 9)), oy 148 146 (.load false 1 (.t 147)), oy 149 146 (.off 0 (.t 9)), oy 150 146 (.load false 1 (.t 149)), oy 151 146 (.call (.f n_cnf_Check) [(.t 148), (.t 150)]), oy 152 146 (.cmp .eql (.sc .int) (.t 151) (.c (.int .i64 0))), o 153 (.pick (.t 146) (.t 152) (.c (.bool false))), o 154 (.mv (.t 153)), oy 155 154 (.mv (.t 16)), oy 156 154 (.cmp .eql (.sc .int) (.t 155) (.c (.int .i64 0))), o 157 (.pick (.t 154) (.t 156) (.c (.bool false))), o 158 (.mv (.t 157)), oy 159 158 (.load true 3 (.t 15)), oy 160 158 (.load true 3 (.t 9)), oy 161 158 (.call (.f n_cnf_Same) [(.t 159), (.t 160)]), o 162 (.pick (.t 158) (.t 161) (.c (.bool false))), o 6 (.mv (.t 162))]
abbrev w19_CnfSizes_m1 : List Bool := [O,O,I,I,O,O,O,I,O,I,O,O,O,O,O,I,I,I,I,I,O,O,O,O,O,O,O,O,O,O,O,O,O,O,O,O,O,O,O,O,O,O,O,O,O,O,O,O,O,O,O,O,O,O,O,O,O,O,O,O,O,O,O,O,O,O,O,O,O,O,O,O,O,O,O,O,O,O,O,O,O,O,O,O,O,O,O,O,O,O,O,O,O,O,O,O,O,O,O,O,O,O,O,O,O,O,O,O,O,O,O,O,O,O,O,O,O,O,O,O,O,O,O,O,O,O,O,O,O,O,O,O,O,O,O,O,O,O,O,O,O,O,O,O,O,O,O,O,O,O,O,O,O,O,O,O,O,O,O,O,O,O,O]
abbrev w19_CnfSizes_x1 : List Bool := [O,O,I,O,O,O,O,I,O,I,O,O,O,O,O,I,I,I,I,O,O,O,O,O,O,O,O,O,O,O,O,O,O,O,O,O,O,O,O,O,O,O,O,O,O,O,O,O,O,O,O,O,O,O,O,O,O,O,O,O,O,O,O,O,O,O,O,O,O,O,O,O,O,O,O,O,O,O,O,O,O,O,O,O,O,O,O,O,O,O,O,O,O,O,O,O,O,O,O,O,O,O,O,O,O,O,O,O,O,O,O,O,O,O,O,O,O,O,O,O,O,O,O,O,O,O,O,O,O,O,O,O,O,O,O,O,O,O,O,O,O,O,O,O,O,O,O,O,O,O,O,O,O,O,O,O,O,O,O,O,O,O,O]
abbrev w19_CnfSizes_p2 : List AG := [o 108 (.mv (.t 19)), o 109 (.ibin .add (.t 108) (.c (.int .i64 1))), o 19 (.mv (.t 109))]
abbrev w19_CnfSizes_p3 : List AG := [o 118 (.mv (.t 18)), o 119 (.off 3 (.t 3)), o 120 (.load false 1 (.t 119)), o 121 (.len (.t 120)), o 122 (.ibin .mul (.c (.int .i64 3)) (.t 121)), o 123 (.ibin .add (.t 118) (.t 122)), o 18 (.mv (.t 123))]
abbrev w19_CnfSizes_p4 : List AG := [o 110 (.mv (.t 17)), o 111 (.off 0 (.t 3)), o 112 (.load false 1 (.t 111)), o 113 (.ibin .add (.t 110) (.t 112)), o 114 (.off 3 (.t 3)), o 115 (.load false 1 (.t 114)), o 116 (.len (.t 115)), o 117 (.ibin .add (.t 113) (.t 116)), o 17 (.mv (.t 117))]
abbrev w19_CnfSizes_p5 : ACode := (.seq (.reg w19_CnfSizes_p4) (.reg w19_CnfSizes_p3))
abbrev w19_CnfSizes_p6 : List AG := [o 103 (.mv (.t 19)), o 104 (.off 2 (.t 9)), o 105 (.load false 1 (.t 104)), o 106 (.len (.t 105)), o 107 (.cmp .lss (.sc .int) (.t 103) (.t 106))]
abbrev w19_CnfSizes_b1 : ACode := (.seq (.seq (.reg w19_CnfSizes_p6) (.cond (.t 107) .skip (.exit 4))) (.seq (.block 5 [] w19_CnfSizes_p5) (.reg w19_CnfSizes_p2)))
abbrev w19_CnfSizes_p7 : List AG := [o 19 (.mv (.c (.int .i64 1)))]
abbrev w19_CnfSizes_p8 : List AG := [o 18 (.mv (.c (.int .i64 1)))]
abbrev w19_CnfSizes_p9 : List AG := [o 101 (.mv (.t 11)), o 102 (.ibin .add (.c (.int .i64 1)) (.t 101)), o 17 (.mv (.t 102))]
abbrev w19_CnfSizes_p10 : List AG := [o 95 (.load true 5 (.t 3)), o 96 (.mv (.t 1)), o 97 (.mv (.t 2)), o 98 (.call (.f n_cnf_Unroll) [(.t 95), (.t 96), (.t 97)]), o 94 (.mv (.t 98)), o 99 (.extract (.t 94) 0), o 100 (.extract (.t 94) 1), o 15 (.alloc [(.int .i64 0), (.own 1 t_api_Clause_2 []), (.own 1 t_int_3 [])]), q (.store 3 (.t 15) (.t 99)), o 16 (.mv (.t 100))]
abbrev w19_CnfSizes_m11 : List Bool := [O,I,I,I,O,O,O,I,O,I,O,I,O,I,I,O,O,O,O,O,O,O,O,O,O,O,O,O,O,O,O,O,O,O,O,O,O,O,O,O,O,O,O,O,O,O,O,O,O,O,O,O,O,O,O,O,O,O,O,O,O,O,O,O,O,O,O,O,O,O,O,O,O,O,O,O,O,O,O,O,O,O,O,O,O,O,O,O,O,O,O,O,O,O,O,O,O,O,O,O,O,O,O,O,O,O,O,O,O,O,O,O,O,O,O,O,O,O,O,O,O,O,O,O,O,O,O,O,O,O,O,O,O,O,O,O,O,O,O,O,O,O,O,O,O,O,O,O,O,O,O,O,O,O,O,O,O,O,O,O,O,O,O]
abbrev w19_CnfSizes_x11 : List Bool := [O,I,I,I,O,O,O,I,O,I,O,I,O,O,O,O,O,O,O,O,O,O,O,O,O,O,O,O,O,O,O,O,O,O,O,O,O,O,O,O,O,O,O,O,O,O,O,O,O,O,O,O,O,O,O,O,O,O,O,O,O,O,O,O,O,O,O,O,O,O,O,O,O,O,O,O,O,O,O,O,O,O,O,O,O,O,O,O,O,O,O,O,O,O,O,O,O,O,O,O,O,O,O,O,O,O,O,O,O,O,O,O,O,O,O,O,O,O,O,O,O,O,O,O,O,O,O,O,O,O,O,O,O,O,O,O,O,O,O,O,O,O,O,O,O,O,O,O,O,O,O,O,O,O,O,O,O,O,O,O,O,O,O]
abbrev w19_CnfSizes_p12 : List AG := [o 74 (.mv (.t 14)), o 75 (.ibin .add (.t 74) (.c (.int .i64 1))), o 14 (.mv (.t 75))]
abbrev w19_CnfSizes_p13 : List AG := [o 6 (.mv (.c (.bool false)))]
abbrev w19_CnfSizes_p14 : ACode := (.seq (.reg w19_CnfSizes_p13) .ret)
abbrev w19_CnfSizes_p15 : List AG := [o 76 (.off 2 (.t 9)), o 77 (.load false 1 (.t 76)), o 78 (.mv (.t 14)), o 79 (.ixAddr 1 (.t 77) (.t 78)), o 80 (.load false 1 (.t 79)), o 81 (.len (.t 80)), o 82 (.mv (.t 13)), o 83 (.cmp .neq (.sc .int) (.t 81) (.t 82)), o 84 (.mv (.t 83)), on 85 84 (.off 2 (.t 9)), on 86 84 (.load false 1 (.t 85)), on 87 84 (.mv (.t 14)), on 88 84 (.ixAddr 1 (.t 86) (.t 87)), on 89 84 (.load false 1 (.t 88)), on 90 84 (.ixAddr 1 (.t 89) (.c (.int .i64 0))), on 91 84 (.load false 1 (.t 90)), on 92 84 (.cmp .neq (.sc .int) (.t 91) (.c (.int .i64 (-1)))), o 93 (.pick (.t 84) (.c (.bool true)) (.t 92))]
abbrev w19_CnfSizes_p16 : ACode := (.seq (.reg w19_CnfSizes_p15) (.cond (.t 93) w19_CnfSizes_p14 .skip))
abbrev w19_CnfSizes_p17 : List AG := [o 69 (.mv (.t 14)), o 70 (.off 2 (.t 9)), o 71 (.load false 1 (.t 70)), o 72 (.len (.t 71)), o 73 (.cmp .lss (.sc .int) (.t 69) (.t 72))]
abbrev w19_CnfSizes_b11 : ACode := (.seq (.seq (.reg w19_CnfSizes_p17) (.cond (.t 73) .skip (.exit 2))) (.seq (.block 3 [] w19_CnfSizes_p16) (.reg w19_CnfSizes_p12)))
abbrev w19_CnfSizes_p18 : List AG := [o 14 (.mv (.c (.int .i64 0)))]
abbrev w19_CnfSizes_p19 : List AG := [o 63 (.load true 5 (.t 3)), o 64 (.call (.f n_r09_First) [(.t 63)]), o 65 (.off 3 (.t 3)), o 66 (.load false 1 (.t 65)), o 67 (.len (.t 66)), o 68 (.ibin .add (.t 64) (.t 67)), o 13 (.mv (.t 68))]
abbrev w19_CnfSizes_m20 : List Bool := [O,I,I,I,O,O,O,I,O,I,O,I,I,O,O,O,O,O,O,O,O,O,O,O,O,O,O,O,O,O,O,O,O,O,O,O,O,O,O,O,O,O,O,O,O,O,O,O,O,O,O,O,O,O,O,O,O,O,O,O,O,O,O,O,O,O,O,O,O,O,O,O,O,O,O,O,O,O,O,O,O,O,O,O,O,O,O,O,O,O,O,O,O,O,O,O,O,O,O,O,O,O,O,O,O,O,O,O,O,O,O,O,O,O,O,O,O,O,O,O,O,O,O,O,O,O,O,O,O,O,O,O,O,O,O,O,O,O,O,O,O,O,O,O,O,O,O,O,O,O,O,O,O,O,O,O,O,O,O,O,O,O,O]
abbrev w19_CnfSizes_x20 : List Bool := [O,I,I,I,O,O,O,I,O,I,O,I,O,O,O,O,O,O,O,O,O,O,O,O,O,O,O,O,O,O,O,O,O,O,O,O,O,O,O,O,O,O,O,O,O,O,O,O,O,O,O,O,O,O,O,O,O,O,O,O,O,O,O,O,O,O,O,O,O,O,O,O,O,O,O,O,O,O,O,O,O,O,O,O,O,O,O,O,O,O,O,O,O,O,O,O,O,O,O,O,O,O,O,O,O,O,O,O,O,O,O,O,O,O,O,O,O,O,O,O,O,O,O,O,O,O,O,O,O,O,O,O,O,O,O,O,O,O,O,O,O,O,O,O,O,O,O,O,O,O,O,O,O,O,O,O,O,O,O,O,O,O,O]
abbrev w19_CnfSizes_p21 : List AG := [o 54 (.mv (.t 12)), o 55 (.ibin .add (.t 54) (.c (.int .i64 1))), o 12 (.mv (.t 55))]
abbrev w19_CnfSizes_p22 : List AG := [o 61 (.mv (.t 11)), o 62 (.ibin .add (.t 61) (.c (.int .i64 1))), o 11 (.mv (.t 62))]
abbrev w19_CnfSizes_p23 : List AG := [o 56 (.mv (.t 1)), o 57 (.mv (.t 12)), o 58 (.ixAddr 1 (.t 56) (.t 57)), o 59 (.load false 1 (.t 58)), o 60 (.cmp .eql (.sc .int) (.t 59) (.c (.int .i64 2)))]
abbrev w19_CnfSizes_p24 : ACode := (.seq (.reg w19_CnfSizes_p23) (.cond (.t 60) (.reg w19_CnfSizes_p22) .skip))
abbrev w19_CnfSizes_p25 : List AG := [o 50 (.mv (.t 12)), o 51 (.mv (.t 1)), o 52 (.len (.t 51)), o 53 (.cmp .lss (.sc .int) (.t 50) (.t 52))]
abbrev w19_CnfSizes_b20 : ACode := (.seq (.seq (.reg w19_CnfSizes_p25) (.cond (.t 53) .skip (.exit 0))) (.seq (.block 1 [] w19_CnfSizes_p24) (.reg w19_CnfSizes_p21)))
abbrev w19_CnfSizes_p26 : List AG := [o 12 (.mv (.c (.int .i64 0)))]
abbrev w19_CnfSizes_p27 : List AG := [o 11 (.mv (.c (.int .i64 0)))]
abbrev w19_CnfSizes_p28 : List AG := [o 40 (.mv (.t 7)), o 41 (.mv (.t 40)), oy 42 41 (.mv (.t 8)), oy 43 41 (.not (.t 42)), oy 44 41 (.mv (.t 43)), on 45 44 (.off 0 (.t 9)), on 46 44 (.load false 1 (.t 45)), on 47 44 (.cmp .eql (.sc .int) (.t 46) (.c (.int .i64 0))), oy 48 41 (.pick (.t 44) (.c (.bool true)) (.t 47)), o 49 (.pick (.t 41) (.t 48) (.c (.bool false))), o 6 (.mv (.t 49))]
abbrev w19_CnfSizes_p29 : ACode := (.seq (.reg w19_CnfSizes_p28) .ret)
abbrev w19_CnfSizes_p30 : List AG := [o 34 (.mv (.t 8)), o 35 (.not (.t 34)), o 36 (.mv (.t 35)), on 37 36 (.mv (.t 10)), on 38 36 (.cmp .neq (.sc .int) (.t 37) (.c (.int .i64 0))), o 39 (.pick (.t 36) (.c (.bool true)) (.t 38))]
abbrev w19_CnfSizes_p31 : List AG := [o 28 (.load true 5 (.t 3)), o 29 (.mv (.t 1)), o 30 (.mv (.t 2)), o 31 (.call (.f n_cnf_Unroll) [(.t 28), (.t 29), (.t 30)]), o 27 (.mv (.t 31)), o 32 (.extract (.t 27) 0), o 33 (.extract (.t 27) 1), o 9 (.alloc [(.int .i64 0), (.own 1 t_api_Clause_2 []), (.own 1 t_int_3 [])]), q (.store 3 (.t 9) (.t 32)), o 10 (.mv (.t 33))]
abbrev w19_CnfSizes_p32 : List AG := [o 23 (.load true 5 (.t 3)), o 24 (.mv (.t 1)), o 25 (.mv (.t 2)), o 26 (.call (.f n_w19_small) [(.t 23), (.t 24), (.t 25)]), o 8 (.mv (.t 26))]
abbrev w19_CnfSizes_p33 : List AG := [o 6 (.mv (.c (.bool false)))]
abbrev w19_CnfSizes_p34 : ACode := (.seq (.reg w19_CnfSizes_p33) .ret)
abbrev w19_CnfSizes_p35 : List AG := [o 21 (.mv (.t 7)), o 22 (.not (.t 21))]
abbrev w19_CnfSizes_p36 : List AG := [o 20 (.call (.f n_w19_works) []), o 7 (.mv (.t 20))]
abbrev w19_CnfSizes_p37 : List AG := [o 3 (.box 5 (.t 0)), o 6 (.mv (.c (.bool false)))]
abbrev w19_CnfSizes : AFun := ⟨(.seq (.reg w19_CnfSizes_p37) (.seq (.reg w19_CnfSizes_p36) (.seq (.seq (.reg w19_CnfSizes_p35) (.cond (.t 22) w19_CnfSizes_p34 .skip)) (.seq (.reg w19_CnfSizes_p32) (.seq (.reg w19_CnfSizes_p31) (.seq (.seq (.reg w19_CnfSizes_p30) (.cond (.t 39) w19_CnfSizes_p29 .skip)) (.seq (.reg w19_CnfSizes_p27) (.seq (.seq (.reg w19_CnfSizes_p26) (.block 0 w19_CnfSizes_x20 (.loop w19_CnfSizes_m20 w19_CnfSizes_b20))) (.seq (.dreg [O,O,O,I,O,O,O] [2,8,8,8,8,8,8] w19_CnfSizes_p19) (.seq (.seq (.reg w19_CnfSizes_p18) (.block 2 w19_CnfSizes_x11 (.loop w19_CnfSizes_m11 w19_CnfSizes_b11))) (.seq (.reg w19_CnfSizes_p10) (.seq (.reg w19_CnfSizes_p9) (.seq (.reg w19_CnfSizes_p8) (.seq (.seq (.reg w19_CnfSizes_p7) (.block 4 w19_CnfSizes_x1 (.loop w19_CnfSizes_m1 w19_CnfSizes_b1))) (.seq (.reg w19_CnfSizes_p0) .ret))))))))))))))), 163, [.tmp 6]⟩
abbrev w19_CnfSizes_k1 : List It := [.code (.seq (.reg w19_CnfSizes_p0) .ret)]
abbrev w19_CnfSizes_L1 (x2 x3 x7 x9 x15 x16 x17 x18 x19 : AV) (h : List Ob) (e : Cx := cx) : Cfg := atC n_w19_CnfSizes (.code w19_CnfSizes_b1 :: .inLoop w19_CnfSizes_m1 w19_CnfSizes_b1 :: .inBlock 4 w19_CnfSizes_x1 :: w19_CnfSizes_k1) [U,U,x2,x3,U,U,U,x7,U,x9,U,U,U,U,U,x15,x16,x17,x18,x19,U,U,U,U,U,U,U,U,U,U,U,U,U,U,U,U,U,U,U,U,U,U,U,U,U,U,U,U,U,U,U,U,U,U,U,U,U,U,U,U,U,U,U,U,U,U,U,U,U,U,U,U,U,U,U,U,U,U,U,U,U,U,U,U,U,U,U,U,U,U,U,U,U,U,U,U,U,U,U,U,U,U,U,U,U,U,U,U,U,U,U,U,U,U,U,U,U,U,U,U,U,U,U,U,U,U,U,U,U,U,U,U,U,U,U,U,U,U,U,U,U,U,U,U,U,U,U,U,U,U,U,U,U,U,U,U,U,U,U,U,U,U,U] h e
abbrev w19_CnfSizes_E1 (x2 x7 x9 x15 x16 x17 x18 : AV) (h : List Ob) (e : Cx := cx) : Cfg := atC n_w19_CnfSizes w19_CnfSizes_k1 [U,U,x2,U,U,U,U,x7,U,x9,U,U,U,U,U,x15,x16,x17,x18,U,U,U,U,U,U,U,U,U,U,U,U,U,U,U,U,U,U,U,U,U,U,U,U,U,U,U,U,U,U,U,U,U,U,U,U,U,U,U,U,U,U,U,U,U,U,U,U,U,U,U,U,U,U,U,U,U,U,U,U,U,U,U,U,U,U,U,U,U,U,U,U,U,U,U,U,U,U,U,U,U,U,U,U,U,U,U,U,U,U,U,U,U,U,U,U,U,U,U,U,U,U,U,U,U,U,U,U,U,U,U,U,U,U,U,U,U,U,U,U,U,U,U,U,U,U,U,U,U,U,U,U,U,U,U,U,U,U,U,U,U,U,U,U] h e
abbrev w19_CnfSizes_k11 : List It := [.code (.seq (.reg w19_CnfSizes_p10) (.seq (.reg w19_CnfSizes_p9) (.seq (.reg w19_CnfSizes_p8) (.seq (.seq (.reg w19_CnfSizes_p7) (.block 4 w19_CnfSizes_x1 (.loop w19_CnfSizes_m1 w19_CnfSizes_b1))) (.seq (.reg w19_CnfSizes_p0) .ret)))))]
abbrev w19_CnfSizes_L11 (x1 x2 x3 x7 x9 x11 x13 x14 : AV) (h : List Ob) (e : Cx := cx) : Cfg := atC n_w19_CnfSizes (.code w19_CnfSizes_b11 :: .inLoop w19_CnfSizes_m11 w19_CnfSizes_b11 :: .inBlock 2 w19_CnfSizes_x11 :: w19_CnfSizes_k11) [U,x1,x2,x3,U,U,U,x7,U,x9,U,x11,U,x13,x14,U,U,U,U,U,U,U,U,U,U,U,U,U,U,U,U,U,U,U,U,U,U,U,U,U,U,U,U,U,U,U,U,U,U,U,U,U,U,U,U,U,U,U,U,U,U,U,U,U,U,U,U,U,U,U,U,U,U,U,U,U,U,U,U,U,U,U,U,U,U,U,U,U,U,U,U,U,U,U,U,U,U,U,U,U,U,U,U,U,U,U,U,U,U,U,U,U,U,U,U,U,U,U,U,U,U,U,U,U,U,U,U,U,U,U,U,U,U,U,U,U,U,U,U,U,U,U,U,U,U,U,U,U,U,U,U,U,U,U,U,U,U,U,U,U,U,U,U] h e
abbrev w19_CnfSizes_E11 (x1 x2 x3 x7 x9 x11 : AV) (h : List Ob) (e : Cx := cx) : Cfg := atC n_w19_CnfSizes w19_CnfSizes_k11 [U,x1,x2,x3,U,U,U,x7,U,x9,U,x11,U,U,U,U,U,U,U,U,U,U,U,U,U,U,U,U,U,U,U,U,U,U,U,U,U,U,U,U,U,U,U,U,U,U,U,U,U,U,U,U,U,U,U,U,U,U,U,U,U,U,U,U,U,U,U,U,U,U,U,U,U,U,U,U,U,U,U,U,U,U,U,U,U,U,U,U,U,U,U,U,U,U,U,U,U,U,U,U,U,U,U,U,U,U,U,U,U,U,U,U,U,U,U,U,U,U,U,U,U,U,U,U,U,U,U,U,U,U,U,U,U,U,U,U,U,U,U,U,U,U,U,U,U,U,U,U,U,U,U,U,U,U,U,U,U,U,U,U,U,U,U] h e
abbrev w19_CnfSizes_k20 : List It := [.code (.seq (.dreg [O,O,O,I,O,O,O] [2,8,8,8,8,8,8] w19_CnfSizes_p19) (.seq (.seq (.reg w19_CnfSizes_p18) (.block 2 w19_CnfSizes_x11 (.loop w19_CnfSizes_m11 w19_CnfSizes_b11))) (.seq (.reg w19_CnfSizes_p10) (.seq (.reg w19_CnfSizes_p9) (.seq (.reg w19_CnfSizes_p8) (.seq (.seq (.reg w19_CnfSizes_p7) (.block 4 w19_CnfSizes_x1 (.loop w19_CnfSizes_m1 w19_CnfSizes_b1))) (.seq (.reg w19_CnfSizes_p0) .ret)))))))]
abbrev w19_CnfSizes_L20 (x1 x2 x3 x7 x9 x11 x12 : AV) (h : List Ob) (e : Cx := cx) : Cfg := atC n_w19_CnfSizes (.code w19_CnfSizes_b20 :: .inLoop w19_CnfSizes_m20 w19_CnfSizes_b20 :: .inBlock 0 w19_CnfSizes_x20 :: w19_CnfSizes_k20) [U,x1,x2,x3,U,U,U,x7,U,x9,U,x11,x12,U,U,U,U,U,U,U,U,U,U,U,U,U,U,U,U,U,U,U,U,U,U,U,U,U,U,U,U,U,U,U,U,U,U,U,U,U,U,U,U,U,U,U,U,U,U,U,U,U,U,U,U,U,U,U,U,U,U,U,U,U,U,U,U,U,U,U,U,U,U,U,U,U,U,U,U,U,U,U,U,U,U,U,U,U,U,U,U,U,U,U,U,U,U,U,U,U,U,U,U,U,U,U,U,U,U,U,U,U,U,U,U,U,U,U,U,U,U,U,U,U,U,U,U,U,U,U,U,U,U,U,U,U,U,U,U,U,U,U,U,U,U,U,U,U,U,U,U,U,U] h e
abbrev w19_CnfSizes_E20 (x1 x2 x3 x7 x9 x11 : AV) (h : List Ob) (e : Cx := cx) : Cfg := atC n_w19_CnfSizes w19_CnfSizes_k20 [U,x1,x2,x3,U,U,U,x7,U,x9,U,x11,U,U,U,U,U,U,U,U,U,U,U,U,U,U,U,U,U,U,U,U,U,U,U,U,U,U,U,U,U,U,U,U,U,U,U,U,U,U,U,U,U,U,U,U,U,U,U,U,U,U,U,U,U,U,U,U,U,U,U,U,U,U,U,U,U,U,U,U,U,U,U,U,U,U,U,U,U,U,U,U,U,U,U,U,U,U,U,U,U,U,U,U,U,U,U,U,U,U,U,U,U,U,U,U,U,U,U,U,U,U,U,U,U,U,U,U,U,U,U,U,U,U,U,U,U,U,U,U,U,U,U,U,U,U,U,U,U,U,U,U,U,U,U,U,U,U,U,U,U,U,U] h e
@[simp] theorem c_w19_CnfSizes : cfun Try.prog n_w19_CnfSizes = some w19_CnfSizes := by kernel_rfl
@[simp] theorem e_w19_CnfSizes : hasBody Try.prog n_w19_CnfSizes = true := by kernel_rfl

/- w19_CnfBegins: patchbay/patchbaylaw19.CnfBegins -/
abbrev w19_CnfBegins_p0 : List AG := [o 96 (.mv (.t 9)), o 97 (.mv (.t 96)), oy 98 97 (.mv (.t 17)), o 99 (.pick (.t 97) (.t 98) (.c (.bool false))), o 100 (.mv (.t 99)), oy 101 100 (.off 0 (.t 14)), oy 102 100 (.load false 1 (.t 101)), oy 103 100 (.off 0 (.t 11)), oy 104 100 (.load false 1 (.t 103)), oy 105 100 (.cmp .leq (.sc .int) (.t 102) (.t 104)), o 106 (.pick (.t 100) (.t 105) (.c (.bool false))), o 8 (.mv (.t 106))]
abbrev w19_CnfBegins_p1 : List AG := [o 87 (.off 1 (.t 14)), o 88 (.load false 1 (.t 87)), o 89 (.off 1 (.t 11)), o 90 (.load false 1 (.t 89)), o 91 (.off 1 (.t 14)), o 92 (.load false 1 (.t 91)), o 93 (.len (.t 92)), o 94 (.slice 1 (.t 90) none (some (.t 93))), o 95 (.call (.f n_r19_Clauses) [(.t 88), (.t 94)]), o 17 (.mv (.t 95))]
abbrev w19_CnfBegins_m2 : List Bool := [O,O,O,O,O,O,O,O,O,I,O,I,O,I,I,O,I,O,O,O,O,O,O,O,O,O,O,O,O,O,O,O,O,O,O,O,O,O,O,O,O,O,O,O,O,O,O,O,O,O,O,O,O,O,O,O,O,O,O,O,O,O,O,O,O,O,O,O,O,O,O,O,O,O,O,O,O,O,O,O,O,O,O,O,O,O,O,O,O,O,O,O,O,O,O,O,O,O,O,O,O,O,O,O,O,O,O]
abbrev w19_CnfBegins_x2 : List Bool := [O,O,O,O,O,O,O,O,O,I,O,I,O,O,I,O,O,O,O,O,O,O,O,O,O,O,O,O,O,O,O,O,O,O,O,O,O,O,O,O,O,O,O,O,O,O,O,O,O,O,O,O,O,O,O,O,O,O,O,O,O,O,O,O,O,O,O,O,O,O,O,O,O,O,O,O,O,O,O,O,O,O,O,O,O,O,O,O,O,O,O,O,O,O,O,O,O,O,O,O,O,O,O,O,O,O,O]
abbrev w19_CnfBegins_p3 : List AG := [o 73 (.mv (.t 16)), o 74 (.ibin .add (.t 73) (.c (.int .i64 1))), o 16 (.mv (.t 74))]
abbrev w19_CnfBegins_p4 : List AG := [o 8 (.mv (.c (.bool false)))]
abbrev w19_CnfBegins_p5 : ACode := (.seq (.reg w19_CnfBegins_p4) .ret)
abbrev w19_CnfBegins_p6 : List AG := [o 75 (.off 2 (.t 14)), o 76 (.load false 1 (.t 75)), o 77 (.mv (.t 16)), o 78 (.ixAddr 1 (.t 76) (.t 77)), o 79 (.load false 1 (.t 78)), o 80 (.off 2 (.t 11)), o 81 (.load false 1 (.t 80)), o 82 (.mv (.t 16)), o 83 (.ixAddr 1 (.t 81) (.t 82)), o 84 (.load false 1 (.t 83)), o 85 (.call (.f n_r01_Ints) [(.t 79), (.t 84)]), o 86 (.not (.t 85))]
abbrev w19_CnfBegins_p7 : ACode := (.seq (.dreg [O,O,O,O,O,O,O,O,O,O,O,O] [11,11,11,11,11,11,11,11,11,11,13,13] w19_CnfBegins_p6) (.cond (.t 86) w19_CnfBegins_p5 .skip))
abbrev w19_CnfBegins_p8 : List AG := [o 70 (.mv (.t 16)), o 71 (.mv (.t 13)), o 72 (.cmp .lss (.sc .int) (.t 70) (.t 71))]
abbrev w19_CnfBegins_b2 : ACode := (.seq (.seq (.reg w19_CnfBegins_p8) (.cond (.t 72) .skip (.exit 0))) (.seq (.block 1 [] w19_CnfBegins_p7) (.reg w19_CnfBegins_p3)))
abbrev w19_CnfBegins_p9 : List AG := [o 16 (.mv (.c (.int .i64 0)))]
abbrev w19_CnfBegins_p10 : List AG := [o 8 (.mv (.c (.bool false)))]
abbrev w19_CnfBegins_p11 : ACode := (.seq (.reg w19_CnfBegins_p10) .ret)
abbrev w19_CnfBegins_p12 : List AG := [o 51 (.mv (.t 15)), o 52 (.cmp .neq (.sc .int) (.t 51) (.c (.int .i64 0))), o 53 (.mv (.t 52)), on 54 53 (.off 1 (.t 14)), on 55 53 (.load false 1 (.t 54)), on 56 53 (.len (.t 55)), on 57 53 (.off 1 (.t 11)), on 58 53 (.load false 1 (.t 57)), on 59 53 (.len (.t 58)), on 60 53 (.cmp .gtr (.sc .int) (.t 56) (.t 59)), o 61 (.pick (.t 53) (.c (.bool true)) (.t 60)), o 62 (.mv (.t 61)), on 63 62 (.off 2 (.t 14)), on 64 62 (.load false 1 (.t 63)), on 65 62 (.len (.t 64)), on 66 62 (.mv (.t 13)), on 67 62 (.ibin .add (.t 66) (.c (.int .i64 1))), on 68 62 (.cmp .neq (.sc .int) (.t 65) (.t 67)), o 69 (.pick (.t 62) (.c (.bool true)) (.t 68))]
abbrev w19_CnfBegins_p13 : List AG := [o 45 (.load true 5 (.t 4)), o 46 (.mv (.t 1)), o 47 (.mv (.t 13)), o 48 (.call (.f n_cnf_Unroll) [(.t 45), (.t 46), (.t 47)]), o 44 (.mv (.t 48)), o 49 (.extract (.t 44) 0), o 50 (.extract (.t 44) 1), o 14 (.alloc [(.int .i64 0), (.own 1 t_api_Clause_2 []), (.own 1 t_int_3 [])]), q (.store 3 (.t 14) (.t 49)), o 15 (.mv (.t 50))]
abbrev w19_CnfBegins_p14 : List AG := [o 39 (.mv (.t 3)), o 40 (.conv .i64 (.t 39)), o 41 (.mv (.t 2)), o 42 (.ibin .add (.t 41) (.c (.int .i64 1))), o 43 (.ibin .rem (.t 40) (.t 42)), o 13 (.mv (.t 43))]
abbrev w19_CnfBegins_p15 : List AG := [o 38 (.mv (.t 9)), o 8 (.mv (.t 38))]
abbrev w19_CnfBegins_p16 : ACode := (.seq (.reg w19_CnfBegins_p15) .ret)
abbrev w19_CnfBegins_p17 : List AG := [o 32 (.mv (.t 10)), o 33 (.not (.t 32)), o 34 (.mv (.t 33)), on 35 34 (.mv (.t 12)), on 36 34 (.cmp .neq (.sc .int) (.t 35) (.c (.int .i64 0))), o 37 (.pick (.t 34) (.c (.bool true)) (.t 36))]
abbrev w19_CnfBegins_p18 : List AG := [o 26 (.load true 5 (.t 4)), o 27 (.mv (.t 1)), o 28 (.mv (.t 2)), o 29 (.call (.f n_cnf_Unroll) [(.t 26), (.t 27), (.t 28)]), o 25 (.mv (.t 29)), o 30 (.extract (.t 25) 0), o 31 (.extract (.t 25) 1), o 11 (.alloc [(.int .i64 0), (.own 1 t_api_Clause_2 []), (.own 1 t_int_3 [])]), q (.store 3 (.t 11) (.t 30)), o 12 (.mv (.t 31))]
abbrev w19_CnfBegins_p19 : List AG := [o 21 (.load true 5 (.t 4)), o 22 (.mv (.t 1)), o 23 (.mv (.t 2)), o 24 (.call (.f n_w19_small) [(.t 21), (.t 22), (.t 23)]), o 10 (.mv (.t 24))]
abbrev w19_CnfBegins_p20 : List AG := [o 8 (.mv (.c (.bool false)))]
abbrev w19_CnfBegins_p21 : ACode := (.seq (.reg w19_CnfBegins_p20) .ret)
abbrev w19_CnfBegins_p22 : List AG := [o 19 (.mv (.t 9)), o 20 (.not (.t 19))]
abbrev w19_CnfBegins_p23 : List AG := [o 18 (.call (.f n_w19_works) []), o 9 (.mv (.t 18))]
abbrev w19_CnfBegins_p24 : List AG := [o 4 (.box 5 (.t 0)), o 8 (.mv (.c (.bool false)))]
abbrev w19_CnfBegins : AFun := ⟨(.seq (.reg w19_CnfBegins_p24) (.seq (.reg w19_CnfBegins_p23) (.seq (.seq (.reg w19_CnfBegins_p22) (.cond (.t 20) w19_CnfBegins_p21 .skip)) (.seq (.reg w19_CnfBegins_p19) (.seq (.reg w19_CnfBegins_p18) (.seq (.seq (.reg w19_CnfBegins_p17) (.cond (.t 37) w19_CnfBegins_p16 .skip)) (.seq (.reg w19_CnfBegins_p14) (.seq (.reg w19_CnfBegins_p13) (.seq (.seq (.reg w19_CnfBegins_p12) (.cond (.t 69) w19_CnfBegins_p11 .skip)) (.seq (.seq (.reg w19_CnfBegins_p9) (.block 0 w19_CnfBegins_x2 (.loop w19_CnfBegins_m2 w19_CnfBegins_b2))) (.seq (.dreg [O,O,O,O,O,O,O,O,O,O] [9,9,9,9,9,9,9,9,11,11] w19_CnfBegins_p1) (.seq (.reg w19_CnfBegins_p0) .ret)))))))))))), 107, [.tmp 8]⟩
abbrev w19_CnfBegins_k2 : List It := [.code (.seq (.dreg [O,O,O,O,O,O,O,O,O,O] [9,9,9,9,9,9,9,9,11,11] w19_CnfBegins_p1) (.seq (.reg w19_CnfBegins_p0) .ret))]
abbrev w19_CnfBegins_L2 (x9 x11 x13 x14 x16 : AV) (h : List Ob) (e : Cx := cx) : Cfg := atC n_w19_CnfBegins (.code w19_CnfBegins_b2 :: .inLoop w19_CnfBegins_m2 w19_CnfBegins_b2 :: .inBlock 0 w19_CnfBegins_x2 :: w19_CnfBegins_k2) [U,U,U,U,U,U,U,U,U,x9,U,x11,U,x13,x14,U,x16,U,U,U,U,U,U,U,U,U,U,U,U,U,U,U,U,U,U,U,U,U,U,U,U,U,U,U,U,U,U,U,U,U,U,U,U,U,U,U,U,U,U,U,U,U,U,U,U,U,U,U,U,U,U,U,U,U,U,U,U,U,U,U,U,U,U,U,U,U,U,U,U,U,U,U,U,U,U,U,U,U,U,U,U,U,U,U,U,U,U] h e
abbrev w19_CnfBegins_E2 (x9 x11 x14 : AV) (h : List Ob) (e : Cx := cx) : Cfg := atC n_w19_CnfBegins w19_CnfBegins_k2 [U,U,U,U,U,U,U,U,U,x9,U,x11,U,U,x14,U,U,U,U,U,U,U,U,U,U,U,U,U,U,U,U,U,U,U,U,U,U,U,U,U,U,U,U,U,U,U,U,U,U,U,U,U,U,U,U,U,U,U,U,U,U,U,U,U,U,U,U,U,U,U,U,U,U,U,U,U,U,U,U,U,U,U,U,U,U,U,U,U,U,U,U,U,U,U,U,U,U,U,U,U,U,U,U,U,U,U,U] h e
@[simp] theorem c_w19_CnfBegins : cfun Try.prog n_w19_CnfBegins = some w19_CnfBegins := by kernel_rfl
@[simp] theorem e_w19_CnfBegins : hasBody Try.prog n_w19_CnfBegins = true := by kernel_rfl

/- w19_works: patchbay/patchbaylaw19.works -/
abbrev w19_works_p0 : List AG := [o 66 (.off 0 (.t 1)), o 67 (.load false 1 (.t 66)), o 68 (.cmp .eql (.sc .int) (.t 67) (.c (.int .i64 1))), o 69 (.mv (.t 68)), oy 70 69 (.off 1 (.t 1)), oy 71 69 (.load false 1 (.t 70)), oy 72 69 (.len (.t 71)), oy 73 69 (.cmp .eql (.sc .int) (.t 72) (.c (.int .i64 1))), o 74 (.pick (.t 69) (.t 73) (.c (.bool false))), o 75 (.mv (.t 74)), oy 76 75 (.mv (.t 2)), oy 77 75 (.cmp .eql (.sc .int) (.t 76) (.c (.int .i64 0))), o 78 (.pick (.t 75) (.t 77) (.c (.bool false))), o 79 (.mv (.t 78)), oy 80 79 (.mv (.t 5)), oy 81 79 (.cmp .eql (.sc .int) (.t 80) (.c (.int .i64 0))), o 82 (.pick (.t 79) (.t 81) (.c (.bool false))), o 83 (.mv (.t 82)), oy 84 83 (.off 0 (.t 4)), oy 85 83 (.load false 1 (.t 84)), oy 86 83 (.cmp .eql (.sc .int) (.t 85) (.c (.int .i64 4))), o 87 (.pick (.t 83) (.t 86) (.c (.bool false))), o 88 (.mv (.t 87)), oy 89 88 (.off 1 (.t 4)), oy 90 88 (.load false 1 (.t 89)), oy 91 88 (.len (.t 90)), oy 92 88 (.cmp .eql (.sc .int) (.t 91) (.c (.int .i64 4))), o 93 (.pick (.t 88) (.t 92) (.c (.bool false))), o 94 (.mv (.t 93)), oy 95 94 (.mv (.t 7)), oy 96 94 (.cmp .eql (.sc .int) (.t 95) (.c (.int .i64 0))), o 97 (.pick (.t 94) (.t 96) (.c (.bool false))), o 98 (.mv (.t 97)), oy 99 98 (.mv (.t 6)), oy 100 98 (.len (.t 99)), oy 101 98 (.cmp .eql (.sc .int) (.t 100) (.c (.int .i64 4))), o 102 (.pick (.t 98) (.t 101) (.c (.bool false))), o 103 (.mv (.t 102)), oy 104 103 (.mv (.t 8)), o 105 (.pick (.t 103) (.t 104) (.c (.bool false))), o 106 (.mv (.t 105)), oy 107 106 (.mv (.t 9)), oy 108 106 (.cmp .eql (.sc .int) (.t 107) (.c (.int .i64 0))), o 109 (.pick (.t 106) (.t 108) (.c (.bool false))), o 110 (.mv (.t 109)), oy 111 110 (.mv (.t 10)), oy 112 110 (.not (.t 111)), o 113 (.pick (.t 110) (.t 112) (.c (.bool false))), o 114 (.mv (.t 113)), oy 115 114 (.mv (.t 13)), oy 116 114 (.cmp .eql (.sc .int) (.t 115) (.c (.int .i64 1))), o 117 (.pick (.t 114) (.t 116) (.c (.bool false))), o 118 (.mv (.t 117)), oy 119 118 (.load true 3 (.t 4)), oy 120 118 (.call (.f n_cnf_Lit) [(.t 119), (.c (.int .i64 0)), (.c (.int .i64 7))]), oy 121 118 (.cmp .eql (.sc .int) (.t 120) (.c (.int .i64 (-4)))), o 122 (.pick (.t 118) (.t 121) (.c (.bool false))), o 123 (.mv (.t 122)), oy 124 123 (.load true 3 (.t 4)), oy 125 123 (.call (.f n_cnf_Lit) [(.t 124), (.c (.int .i64 1)), (.c (.int .i64 4))]), oy 126 123 (.cmp .eql (.sc .int) (.t 125) (.c (.int .i64 4))), o 127 (.pick (.t 123) (.t 126) (.c (.bool false))), o 128 (.mv (.t 127)), oy 129 128 (.load true 3 (.t 4)), oy 130 128 (.call (.f n_cnf_Lit) [(.t 129), (.c (.int .i64 2)), (.c (.int .i64 4))]), oy 131 128 (.cmp .eql (.sc .int) (.t 130) (.c (.int .i64 0))), o 132 (.pick (.t 128) (.t 131) (.c (.bool false))), o 133 (.mv (.t 132)), oy 134 133 (.off 1 (.t 4)), oy 135 133 (.load false 1 (.t 134)), oy 136 133 (.call (.f n_cnf_Check) [(.t 135), (.c (.int .i64 4))]), oy 137 133 (.cmp .eql (.sc .int) (.t 136) (.c (.int .i64 0))), o 138 (.pick (.t 133) (.t 137) (.c (.bool false))), o 139 (.mv (.t 138)), oy 140 139 (.off 1 (.t 4)), oy 141 139 (.load false 1 (.t 140)), oy 142 139 (.call (.f n_cnf_Check) [(.t 141), (.c (.int .i64 3))]), oy 143 139 (.cmp .eql (.sc .int) (.t 142) (.c (.int .i64 1))), o 144 (.pick (.t 139) (.t 143) (.c (.bool false))), o 145 (.mv (.t 144)), oy 146 145 (.load true 3 (.t 4)), oy 147 145 (.load true 3 (.t 4)), oy 148 145 (.call (.f n_cnf_Same) [(.t 146), (.t 147)]), o 149 (.pick (.t 145) (.t 148) (.c (.bool false))), o 150 (.mv (.t 149)), oy 151 150 (.load true 3 (.t 1)), oy 152 150 (.load true 3 (.t 4)), oy 153 150 (.call (.f n_cnf_Same) [(.t 151), (.t 152)]), oy 154 150 (.not (.t 153)), o 155 (.pick (.t 150) (.t 154) (.c (.bool false))), o 0 (.mv (.t 155))]
abbrev w19_works_p1 : List AG := [o 60 (.lit 1 [(.int .i64 0)] [(0, (.c (.int .i64 3)))]), o 61 (.lit 1 [(.list true 0 [])] [(0, (.t 60))]), o 62 (.lit 1 [(.bool false)] [(0, (.c (.bool true)))]), o 63 (.call (.f n_cnf_True) [(.t 61), (.t 62)]), o 59 (.mv (.t 63)), o 64 (.extract (.t 59) 0), o 65 (.extract (.t 59) 1), o 12 (.mv (.t 64)), o 13 (.mv (.t 65))]
abbrev w19_works_p2 : List AG := [o 53 (.off 1 (.t 4)), o 54 (.load false 1 (.t 53)), o 55 (.mv (.t 6)), o 56 (.call (.f n_cnf_True) [(.t 54), (.t 55)]), o 52 (.mv (.t 56)), o 57 (.extract (.t 52) 0), o 58 (.extract (.t 52) 1), o 10 (.mv (.t 57)), o 11 (.mv (.t 58))]
abbrev w19_works_p3 : List AG := [o 50 (.mv (.t 6)), o 51 (.ixAddr 1 (.t 50) (.c (.int .i64 3))), q (.store 1 (.t 51) (.c (.bool false)))]
abbrev w19_works_p4 : List AG := [o 44 (.off 1 (.t 4)), o 45 (.load false 1 (.t 44)), o 46 (.mv (.t 6)), o 47 (.call (.f n_cnf_True) [(.t 45), (.t 46)]), o 43 (.mv (.t 47)), o 48 (.extract (.t 43) 0), o 49 (.extract (.t 43) 1), o 8 (.mv (.t 48)), o 9 (.mv (.t 49))]
abbrev w19_works_p5 : List AG := [o 0 (.mv (.c (.bool false)))]
abbrev w19_works_p6 : ACode := (.seq (.reg w19_works_p5) .ret)
abbrev w19_works_p7 : List AG := [o 40 (.mv (.t 6)), o 41 (.len (.t 40)), o 42 (.cmp .neq (.sc .int) (.t 41) (.c (.int .i64 4)))]
abbrev w19_works_p8 : List AG := [o 32 (.load true 5 (.t 3)), o 33 (.lit 1 [(.int .i64 0)] [(0, (.c (.int .i64 2)))]), o 34 (.lit 1 [(.bool false)] [(0, (.c (.bool false)))]), o 35 (.lit 1 [(.bool false)] [(0, (.c (.bool true)))]), o 36 (.lit 1 [(.list true 0 [])] [(0, (.t 35))]), o 37 (.call (.f n_cnf_Values) [(.t 32), (.t 33), (.t 34), (.t 36)]), o 31 (.mv (.t 37)), o 38 (.extract (.t 31) 0), o 39 (.extract (.t 31) 1), o 6 (.mv (.t 38)), o 7 (.mv (.t 39))]
abbrev w19_works_p9 : List AG := [o 26 (.load true 5 (.t 3)), o 27 (.lit 1 [(.int .i64 0)] [(0, (.c (.int .i64 2)))]), o 28 (.call (.f n_cnf_Unroll) [(.t 26), (.t 27), (.c (.int .i64 1))]), o 25 (.mv (.t 28)), o 29 (.extract (.t 25) 0), o 30 (.extract (.t 25) 1), o 4 (.alloc [(.int .i64 0), (.own 1 t_api_Clause_2 []), (.own 1 t_int_3 [])]), q (.store 3 (.t 4) (.t 29)), o 5 (.mv (.t 30))]
abbrev w19_works_p10 : List AG := [o 19 (.lit 1 [(.int .i64 0)] [(0, (.c (.int .i64 6)))]), o 20 (.lit 1 [(.int .i64 0)] [(0, (.c (.int .i64 2)))]), o 21 (.build [(.int .i64 0), (.int .i64 0)] [(0, 1, (.c (.int .i64 5))), (1, 1, (.c (.int .i64 2)))]), o 22 (.lit 2 [(.agg [(.int .i64 0), (.int .i64 0)])] [(0, (.t 21))]), o 23 (.lit 1 [(.int .i64 0)] [(0, (.c (.int .i64 7)))]), o 24 (.build [(.int .i64 0), (.list true 0 []), (.list true 0 []), (.list true 0 []), (.list true 0 [])] [(0, 1, (.c (.int .i64 1))), (1, 1, (.t 19)), (2, 1, (.t 20)), (3, 1, (.t 22)), (4, 1, (.t 23))]), o 3 (.alloc [(.int .i64 0), (.own 1 t_int []), (.own 1 t_int []), (.own 2 t_2_int_2 []), (.own 1 t_int [])]), q (.store 5 (.t 3) (.t 24))]
abbrev w19_works_p11 : List AG := [o 15 (.build [(.int .i64 0), (.list true 0 []), (.list true 0 []), (.list true 0 []), (.list true 0 [])] []), o 16 (.call (.f n_cnf_Unroll) [(.t 15), (.c (.list true 0 [])), (.c (.int .i64 0))]), o 14 (.mv (.t 16)), o 17 (.extract (.t 14) 0), o 18 (.extract (.t 14) 1), o 1 (.alloc [(.int .i64 0), (.own 1 t_api_Clause_2 []), (.own 1 t_int_3 [])]), q (.store 3 (.t 1) (.t 17)), o 2 (.mv (.t 18))]
abbrev w19_works_p12 : List AG := [o 0 (.mv (.c (.bool false)))]
abbrev w19_works : AFun := ⟨(.seq (.reg w19_works_p12) (.seq (.reg w19_works_p11) (.seq (.reg w19_works_p10) (.seq (.reg w19_works_p9) (.seq (.reg w19_works_p8) (.seq (.seq (.reg w19_works_p7) (.cond (.t 42) w19_works_p6 .skip)) (.seq (.reg w19_works_p4) (.seq (.reg w19_works_p3) (.seq (.reg w19_works_p2) (.seq (.reg w19_works_p1) (.seq (.reg w19_works_p0) .ret))))))))))), 156, [.tmp 0]⟩
@[simp] theorem c_w19_works : cfun Try.prog n_w19_works = some w19_works := by kernel_rfl
@[simp] theorem e_w19_works : hasBody Try.prog n_w19_works = true := by kernel_rfl

/- w19_Few: patchbay/patchbaylaw19.Few -/
abbrev w19_Few_p0 : List AG := [o 23 (.mv (.t 0)), o 24 (.len (.t 23)), o 25 (.mv (.t 1)), o 26 (.cmp .leq (.sc .int) (.t 24) (.t 25)), o 4 (.mv (.t 26))]
abbrev w19_Few_m1 : List Bool := [I,I,O,O,O,I,O,O,O,O,O,O,O,O,O,O,O,O,O,O,O,O,O,O,O,O,O]
abbrev w19_Few_x1 : List Bool := [I,I,O,O,O,O,O,O,O,O,O,O,O,O,O,O,O,O,O,O,O,O,O,O,O,O,O]
abbrev w19_Few_p2 : List AG := [o 15 (.mv (.t 5)), o 16 (.ibin .add (.t 15) (.c (.int .i64 1))), o 5 (.mv (.t 16))]
abbrev w19_Few_p3 : List AG := [o 4 (.mv (.c (.bool false)))]
abbrev w19_Few_p4 : ACode := (.seq (.reg w19_Few_p3) .ret)
abbrev w19_Few_p5 : List AG := [o 17 (.mv (.t 0)), o 18 (.mv (.t 5)), o 19 (.ixAddr 1 (.t 17) (.t 18)), o 20 (.load false 1 (.t 19)), o 21 (.len (.t 20)), o 22 (.cmp .gtr (.sc .int) (.t 21) (.c (.int .i64 30)))]
abbrev w19_Few_p6 : ACode := (.seq (.reg w19_Few_p5) (.cond (.t 22) w19_Few_p4 .skip))
abbrev w19_Few_p7 : List AG := [o 6 (.mv (.t 5)), o 7 (.mv (.t 0)), o 8 (.len (.t 7)), o 9 (.cmp .lss (.sc .int) (.t 6) (.t 8)), o 10 (.mv (.t 9)), oy 11 10 (.mv (.t 5)), oy 12 10 (.mv (.t 1)), oy 13 10 (.cmp .leq (.sc .int) (.t 11) (.t 12)), o 14 (.pick (.t 10) (.t 13) (.c (.bool false)))]
abbrev w19_Few_b1 : ACode := (.seq (.seq (.reg w19_Few_p7) (.cond (.t 14) .skip (.exit 0))) (.seq (.block 1 [] w19_Few_p6) (.reg w19_Few_p2)))
abbrev w19_Few_p8 : List AG := [o 5 (.mv (.c (.int .i64 0)))]
abbrev w19_Few_p9 : List AG := [o 4 (.mv (.c (.bool false)))]
abbrev w19_Few : AFun := ⟨(.seq (.reg w19_Few_p9) (.seq (.seq (.reg w19_Few_p8) (.block 0 w19_Few_x1 (.loop w19_Few_m1 w19_Few_b1))) (.seq (.reg w19_Few_p0) .ret))), 27, [.tmp 4]⟩
abbrev w19_Few_k1 : List It := [.code (.seq (.reg w19_Few_p0) .ret)]
abbrev w19_Few_L1 (x0 x1 x5 : AV) (h : List Ob) (e : Cx := cx) : Cfg := atC n_w19_Few (.code w19_Few_b1 :: .inLoop w19_Few_m1 w19_Few_b1 :: .inBlock 0 w19_Few_x1 :: w19_Few_k1) [x0,x1,U,U,U,x5,U,U,U,U,U,U,U,U,U,U,U,U,U,U,U,U,U,U,U,U,U] h e
abbrev w19_Few_E1 (x0 x1 : AV) (h : List Ob) (e : Cx := cx) : Cfg := atC n_w19_Few w19_Few_k1 [x0,x1,U,U,U,U,U,U,U,U,U,U,U,U,U,U,U,U,U,U,U,U,U,U,U,U,U] h e
@[simp] theorem c_w19_Few : cfun Try.prog n_w19_Few = some w19_Few := by kernel_rfl
@[simp] theorem e_w19_Few : hasBody Try.prog n_w19_Few = true := by kernel_rfl

/- w19_little: patchbay/patchbaylaw19.little -/
abbrev w19_little_p0 : List AG := [o 26 (.mv (.t 3)), o 27 (.mv (.t 26)), oy 28 27 (.off 2 (.t 1)), oy 29 27 (.load false 1 (.t 28)), oy 30 27 (.len (.t 29)), oy 31 27 (.cmp .leq (.sc .int) (.t 30) (.c (.int .i64 60))), o 32 (.pick (.t 27) (.t 31) (.c (.bool false))), o 2 (.mv (.t 32))]
abbrev w19_little_m1 : List Bool := [O,I,O,I,I,O,O,O,O,O,O,O,O,O,O,O,O,O,O,O,O,O,O,O,O,O,O,O,O,O,O,O,O]
abbrev w19_little_x1 : List Bool := [O,I,O,I,O,O,O,O,O,O,O,O,O,O,O,O,O,O,O,O,O,O,O,O,O,O,O,O,O,O,O,O,O]
abbrev w19_little_p2 : List AG := [o 17 (.mv (.t 4)), o 18 (.ibin .add (.t 17) (.c (.int .i64 1))), o 4 (.mv (.t 18))]
abbrev w19_little_p3 : List AG := [o 2 (.mv (.c (.bool false)))]
abbrev w19_little_p4 : ACode := (.seq (.reg w19_little_p3) .ret)
abbrev w19_little_p5 : List AG := [o 19 (.off 2 (.t 1)), o 20 (.load false 1 (.t 19)), o 21 (.mv (.t 4)), o 22 (.ixAddr 1 (.t 20) (.t 21)), o 23 (.load false 1 (.t 22)), o 24 (.len (.t 23)), o 25 (.cmp .gtr (.sc .int) (.t 24) (.c (.int .i64 60)))]
abbrev w19_little_p6 : ACode := (.seq (.reg w19_little_p5) (.cond (.t 25) w19_little_p4 .skip))
abbrev w19_little_p7 : List AG := [o 8 (.mv (.t 4)), o 9 (.off 2 (.t 1)), o 10 (.load false 1 (.t 9)), o 11 (.len (.t 10)), o 12 (.cmp .lss (.sc .int) (.t 8) (.t 11)), o 13 (.mv (.t 12)), oy 14 13 (.mv (.t 4)), oy 15 13 (.cmp .leq (.sc .int) (.t 14) (.c (.int .i64 60))), o 16 (.pick (.t 13) (.t 15) (.c (.bool false)))]
abbrev w19_little_b1 : ACode := (.seq (.seq (.reg w19_little_p7) (.cond (.t 16) .skip (.exit 0))) (.seq (.block 1 [] w19_little_p6) (.reg w19_little_p2)))
abbrev w19_little_p8 : List AG := [o 4 (.mv (.c (.int .i64 0)))]
abbrev w19_little_p9 : List AG := [o 5 (.off 1 (.t 1)), o 6 (.load false 1 (.t 5)), o 7 (.call (.f n_w19_Few) [(.t 6), (.c (.int .i64 60))]), o 3 (.mv (.t 7))]
abbrev w19_little_p10 : List AG := [o 1 (.box 3 (.t 0)), o 2 (.mv (.c (.bool false)))]
abbrev w19_little : AFun := ⟨(.seq (.reg w19_little_p10) (.seq (.reg w19_little_p9) (.seq (.seq (.reg w19_little_p8) (.block 0 w19_little_x1 (.loop w19_little_m1 w19_little_b1))) (.seq (.reg w19_little_p0) .ret)))), 33, [.tmp 2]⟩
abbrev w19_little_k1 : List It := [.code (.seq (.reg w19_little_p0) .ret)]
abbrev w19_little_L1 (x1 x3 x4 : AV) (h : List Ob) (e : Cx := cx) : Cfg := atC n_w19_little (.code w19_little_b1 :: .inLoop w19_little_m1 w19_little_b1 :: .inBlock 0 w19_little_x1 :: w19_little_k1) [U,x1,U,x3,x4,U,U,U,U,U,U,U,U,U,U,U,U,U,U,U,U,U,U,U,U,U,U,U,U,U,U,U,U] h e
abbrev w19_little_E1 (x1 x3 : AV) (h : List Ob) (e : Cx := cx) : Cfg := atC n_w19_little w19_little_k1 [U,x1,U,x3,U,U,U,U,U,U,U,U,U,U,U,U,U,U,U,U,U,U,U,U,U,U,U,U,U,U,U,U,U] h e
@[simp] theorem c_w19_little : cfun Try.prog n_w19_little = some w19_little := by kernel_rfl
@[simp] theorem e_w19_little : hasBody Try.prog n_w19_little = true := by kernel_rfl

/- r19_Check: patchbay/patchbayref19.Check -/
abbrev r19_Check_p0 : List AG := [o 4 (.mv (.c (.int .i64 0)))]
abbrev r19_Check_m1 : List Bool := [I,I,O,O,O,I,O,O,O,O,O,O,O,O,O,O,O,O,O,O,O,O,O,O,O,O,O,O,O,O,O,O,O,O,O,O,O,O,O,O,O,O,O]
abbrev r19_Check_x1 : List Bool := [O,O,O,O,O,O,O,O,O,O,O,O,O,O,O,O,O,O,O,O,O,O,O,O,O,O,O,O,O,O,O,O,O,O,O,O,O,O,O,O,O,O,O]
abbrev r19_Check_p2 : List AG := [o 22 (.mv (.t 5)), o 23 (.ibin .add (.t 22) (.c (.int .i64 1))), o 5 (.mv (.t 23))]
abbrev r19_Check_m3 : List Bool := [I,I,O,O,O,I,I,O,O,O,O,O,O,O,O,O,O,O,O,O,O,O,O,O,O,O,O,O,O,O,O,O,O,O,O,O,O,O,O,O,O,O,O]
abbrev r19_Check_x3 : List Bool := [I,I,O,O,O,I,O,O,O,O,O,O,O,O,O,O,O,O,O,O,O,O,O,O,O,O,O,O,O,O,O,O,O,O,O,O,O,O,O,O,O,O,O]
abbrev r19_Check_p4 : List AG := [o 31 (.mv (.t 6)), o 32 (.ibin .add (.t 31) (.c (.int .i64 1))), o 6 (.mv (.t 32))]
abbrev r19_Check_p5 : List AG := [o 4 (.mv (.c (.int .i64 1)))]
abbrev r19_Check_p6 : ACode := (.seq (.reg r19_Check_p5) .ret)
abbrev r19_Check_p7 : List AG := [o 33 (.mv (.t 0)), o 34 (.mv (.t 5)), o 35 (.ixAddr 1 (.t 33) (.t 34)), o 36 (.load false 1 (.t 35)), o 37 (.mv (.t 6)), o 38 (.ixAddr 1 (.t 36) (.t 37)), o 39 (.load false 1 (.t 38)), o 40 (.mv (.t 1)), o 41 (.call (.f n_r19_Literal) [(.t 39), (.t 40)]), o 42 (.not (.t 41))]
abbrev r19_Check_p8 : ACode := (.seq (.reg r19_Check_p7) (.cond (.t 42) r19_Check_p6 .skip))
abbrev r19_Check_p9 : List AG := [o 24 (.mv (.t 6)), o 25 (.mv (.t 0)), o 26 (.mv (.t 5)), o 27 (.ixAddr 1 (.t 25) (.t 26)), o 28 (.load false 1 (.t 27)), o 29 (.len (.t 28)), o 30 (.cmp .lss (.sc .int) (.t 24) (.t 29))]
abbrev r19_Check_b3 : ACode := (.seq (.seq (.reg r19_Check_p9) (.cond (.t 30) .skip (.exit 2))) (.seq (.block 3 [] r19_Check_p8) (.reg r19_Check_p4)))
abbrev r19_Check_p10 : List AG := [o 6 (.mv (.c (.int .i64 0)))]
abbrev r19_Check_p11 : ACode := (.seq (.reg r19_Check_p10) (.block 2 r19_Check_x3 (.loop r19_Check_m3 r19_Check_b3)))
abbrev r19_Check_p12 : List AG := [o 18 (.mv (.t 5)), o 19 (.mv (.t 0)), o 20 (.len (.t 19)), o 21 (.cmp .lss (.sc .int) (.t 18) (.t 20))]
abbrev r19_Check_b1 : ACode := (.seq (.seq (.reg r19_Check_p12) (.cond (.t 21) .skip (.exit 0))) (.seq (.block 1 [] r19_Check_p11) (.reg r19_Check_p2)))
abbrev r19_Check_p13 : List AG := [o 5 (.mv (.c (.int .i64 0)))]
abbrev r19_Check_p14 : List AG := [o 4 (.mv (.c (.int .i64 8)))]
abbrev r19_Check_p15 : ACode := (.seq (.reg r19_Check_p14) .ret)
abbrev r19_Check_p16 : List AG := [o 7 (.mv (.t 1)), o 8 (.cmp .lss (.sc .int) (.t 7) (.c (.int .i64 0))), o 9 (.mv (.t 8)), on 10 9 (.mv (.t 1)), on 11 9 (.cmp .gtr (.sc .int) (.t 10) (.c (.int .i64 20000))), o 12 (.pick (.t 9) (.c (.bool true)) (.t 11)), o 13 (.mv (.t 12)), on 14 13 (.mv (.t 0)), on 15 13 (.len (.t 14)), on 16 13 (.cmp .gtr (.sc .int) (.t 15) (.c (.int .i64 100000))), o 17 (.pick (.t 13) (.c (.bool true)) (.t 16))]
abbrev r19_Check_p17 : List AG := [o 4 (.mv (.c (.int .i64 0)))]
abbrev r19_Check : AFun := ⟨(.seq (.reg r19_Check_p17) (.seq (.seq (.reg r19_Check_p16) (.cond (.t 17) r19_Check_p15 .skip)) (.seq (.seq (.reg r19_Check_p13) (.block 0 r19_Check_x1 (.loop r19_Check_m1 r19_Check_b1))) (.seq (.reg r19_Check_p0) .ret)))), 43, [.tmp 4]⟩
abbrev r19_Check_k3 : List It := [.inBlock 1 [], .code (.reg r19_Check_p2), .inLoop r19_Check_m1 r19_Check_b1, .inBlock 0 r19_Check_x1, .code (.seq (.reg r19_Check_p0) .ret)]
abbrev r19_Check_L3 (x0 x1 x5 x6 : AV) (h : List Ob) (e : Cx := cx) : Cfg := atC n_r19_Check (.code r19_Check_b3 :: .inLoop r19_Check_m3 r19_Check_b3 :: .inBlock 2 r19_Check_x3 :: r19_Check_k3) [x0,x1,U,U,U,x5,x6,U,U,U,U,U,U,U,U,U,U,U,U,U,U,U,U,U,U,U,U,U,U,U,U,U,U,U,U,U,U,U,U,U,U,U,U] h e
abbrev r19_Check_E3 (x0 x1 x5 : AV) (h : List Ob) (e : Cx := cx) : Cfg := atC n_r19_Check r19_Check_k3 [x0,x1,U,U,U,x5,U,U,U,U,U,U,U,U,U,U,U,U,U,U,U,U,U,U,U,U,U,U,U,U,U,U,U,U,U,U,U,U,U,U,U,U,U] h e
abbrev r19_Check_k1 : List It := [.code (.seq (.reg r19_Check_p0) .ret)]
abbrev r19_Check_L1 (x0 x1 x5 : AV) (h : List Ob) (e : Cx := cx) : Cfg := atC n_r19_Check (.code r19_Check_b1 :: .inLoop r19_Check_m1 r19_Check_b1 :: .inBlock 0 r19_Check_x1 :: r19_Check_k1) [x0,x1,U,U,U,x5,U,U,U,U,U,U,U,U,U,U,U,U,U,U,U,U,U,U,U,U,U,U,U,U,U,U,U,U,U,U,U,U,U,U,U,U,U] h e
abbrev r19_Check_E1 (h : List Ob) (e : Cx := cx) : Cfg := atC n_r19_Check r19_Check_k1 [U,U,U,U,U,U,U,U,U,U,U,U,U,U,U,U,U,U,U,U,U,U,U,U,U,U,U,U,U,U,U,U,U,U,U,U,U,U,U,U,U,U,U] h e
@[simp] theorem c_r19_Check : cfun Try.prog n_r19_Check = some r19_Check := by kernel_rfl
@[simp] theorem e_r19_Check : hasBody Try.prog n_r19_Check = true := by kernel_rfl

/- cnf_True: patchbay/cnf.True -/
abbrev cnf_True_p0 : List AG := [o 18 (.mv (.t 0)), o 19 (.mv (.t 8)), o 20 (.call (.f n_slices_ContainsFunc_api_Clause_api_Clause) [(.t 18), (.t 19)]), o 21 (.not (.t 20)), o 4 (.mv (.t 21)), o 5 (.mv (.c (.int .i64 0)))]
abbrev cnf_True_p1 : List AG := [o 17 (.mkFunc (.func n_cnf_True_2) [] [(.t 7)]), o 8 (.mv (.t 17))]
abbrev cnf_True_p2 : List AG := [o 16 (.mkFunc (.func n_cnf_True_1) [] [(.t 3)]), o 7 (.alloc [.nilf]), q (.store 1 (.t 7) (.t 16))]
abbrev cnf_True_p3 : List AG := [o 15 (.mv (.t 6)), o 4 (.mv (.c (.bool false))), o 5 (.mv (.t 15))]
abbrev cnf_True_p4 : ACode := (.seq (.reg cnf_True_p3) .ret)
abbrev cnf_True_p5 : List AG := [o 13 (.mv (.t 6)), o 14 (.cmp .neq (.sc .int) (.t 13) (.c (.int .i64 0)))]
abbrev cnf_True_p6 : List AG := [o 9 (.mv (.t 0)), o 10 (.load false 1 (.t 3)), o 11 (.len (.t 10)), o 12 (.call (.f n_cnf_Check) [(.t 9), (.t 11)]), o 6 (.mv (.t 12))]
abbrev cnf_True_p7 : List AG := [o 3 (.box 1 (.t 1)), o 4 (.mv (.c (.bool false))), o 5 (.mv (.c (.int .i64 0)))]
abbrev cnf_True : AFun := ⟨(.seq (.reg cnf_True_p7) (.seq (.seq (.reg cnf_True_p6) (.seq (.reg cnf_True_p5) (.cond (.t 14) cnf_True_p4 .skip))) (.seq (.reg cnf_True_p2) (.seq (.reg cnf_True_p1) (.seq (.reg cnf_True_p0) .ret))))), 22, [.tmp 4, .tmp 5]⟩
@[simp] theorem c_cnf_True : cfun Try.prog n_cnf_True = some cnf_True := by kernel_rfl
@[simp] theorem e_cnf_True : hasBody Try.prog n_cnf_True = true := by kernel_rfl

/- r19_True: patchbay/patchbayref19.True -/
abbrev r19_True_p0 : List AG := [o 14 (.mv (.t 0)), o 15 (.mv (.t 1)), o 16 (.call (.f n_r19_All) [(.t 14), (.t 15)]), o 4 (.mv (.t 16)), o 5 (.mv (.c (.int .i64 0)))]
abbrev r19_True_p1 : List AG := [o 13 (.mv (.t 6)), o 4 (.mv (.c (.bool false))), o 5 (.mv (.t 13))]
abbrev r19_True_p2 : ACode := (.seq (.reg r19_True_p1) .ret)
abbrev r19_True_p3 : List AG := [o 11 (.mv (.t 6)), o 12 (.cmp .neq (.sc .int) (.t 11) (.c (.int .i64 0)))]
abbrev r19_True_p4 : List AG := [o 7 (.mv (.t 0)), o 8 (.mv (.t 1)), o 9 (.len (.t 8)), o 10 (.call (.f n_r19_Check) [(.t 7), (.t 9)]), o 6 (.mv (.t 10))]
abbrev r19_True_p5 : List AG := [o 4 (.mv (.c (.bool false))), o 5 (.mv (.c (.int .i64 0)))]
abbrev r19_True : AFun := ⟨(.seq (.reg r19_True_p5) (.seq (.reg r19_True_p4) (.seq (.seq (.reg r19_True_p3) (.cond (.t 12) r19_True_p2 .skip)) (.seq (.reg r19_True_p0) .ret)))), 17, [.tmp 4, .tmp 5]⟩
@[simp] theorem c_r19_True : cfun Try.prog n_r19_True = some r19_True := by kernel_rfl
@[simp] theorem e_r19_True : hasBody Try.prog n_r19_True = true := by kernel_rfl

/- r19_Lit: patchbay/patchbayref19.Lit -/
abbrev r19_Lit_p0 : List AG := [o 31 (.off 2 (.t 3)), o 32 (.load false 1 (.t 31)), o 33 (.mv (.t 1)), o 34 (.ixAddr 1 (.t 32) (.t 33)), o 35 (.load false 1 (.t 34)), o 36 (.mv (.t 2)), o 37 (.call (.f n_r19_in) [(.t 35), (.t 36)]), o 6 (.mv (.t 37))]
abbrev r19_Lit_p1 : List AG := [o 6 (.mv (.c (.int .i64 0)))]
abbrev r19_Lit_p2 : ACode := (.seq (.reg r19_Lit_p1) .ret)
abbrev r19_Lit_p3 : List AG := [o 7 (.mv (.t 1)), o 8 (.cmp .lss (.sc .int) (.t 7) (.c (.int .i64 0))), o 9 (.mv (.t 8)), on 10 9 (.mv (.t 1)), on 11 9 (.off 2 (.t 3)), on 12 9 (.load false 1 (.t 11)), on 13 9 (.len (.t 12)), on 14 9 (.cmp .geq (.sc .int) (.t 10) (.t 13)), o 15 (.pick (.t 9) (.c (.bool true)) (.t 14)), o 16 (.mv (.t 15)), on 17 16 (.mv (.t 2)), on 18 16 (.cmp .lss (.sc .int) (.t 17) (.c (.int .i64 0))), o 19 (.pick (.t 16) (.c (.bool true)) (.t 18)), o 20 (.mv (.t 19)), on 21 20 (.mv (.t 2)), on 22 20 (.ibin .quo (.t 21) (.c (.int .i64 2))), on 23 20 (.off 2 (.t 3)), on 24 20 (.load false 1 (.t 23)), on 25 20 (.mv (.t 1)), on 26 20 (.ixAddr 1 (.t 24) (.t 25)), on 27 20 (.load false 1 (.t 26)), on 28 20 (.len (.t 27)), on 29 20 (.cmp .geq (.sc .int) (.t 22) (.t 28)), o 30 (.pick (.t 20) (.c (.bool true)) (.t 29))]
abbrev r19_Lit_p4 : List AG := [o 3 (.box 3 (.t 0)), o 6 (.mv (.c (.int .i64 0)))]
abbrev r19_Lit : AFun := ⟨(.seq (.reg r19_Lit_p4) (.seq (.seq (.reg r19_Lit_p3) (.cond (.t 30) r19_Lit_p2 .skip)) (.seq (.reg r19_Lit_p0) .ret))), 38, [.tmp 6]⟩
@[simp] theorem c_r19_Lit : cfun Try.prog n_r19_Lit = some r19_Lit := by kernel_rfl
@[simp] theorem e_r19_Lit : hasBody Try.prog n_r19_Lit = true := by kernel_rfl

/- w19_Of: patchbay/patchbaylaw19.Of -/
abbrev w19_Of_p0 : List AG := [o 3 (.off 0 (.t 1)), o 4 (.load false 1 (.t 3)), o 5 (.off 1 (.t 1)), o 6 (.load false 1 (.t 5)), o 7 (.off 2 (.t 1)), o 8 (.load false 1 (.t 7)), o 9 (.build [(.int .i64 0), (.list true 0 []), (.list true 0 [])] [(0, 1, (.t 4)), (1, 1, (.t 6)), (2, 1, (.t 8))]), q (.store 3 (.t 2) (.t 9))]
abbrev w19_Of_p1 : List AG := [o 1 (.box 3 (.t 0)), o 2 (.alloc [(.int .i64 0), (.own 1 t_api_Clause_2 []), (.own 1 t_int_3 [])])]
abbrev w19_Of : AFun := ⟨(.seq (.reg w19_Of_p1) (.seq (.reg w19_Of_p0) .ret)), 10, [.cell 2 true 3]⟩
@[simp] theorem c_w19_Of : cfun Try.prog n_w19_Of = some w19_Of := by kernel_rfl
@[simp] theorem e_w19_Of : hasBody Try.prog n_w19_Of = true := by kernel_rfl

/- r19_Same: patchbay/patchbayref19.Same -/
abbrev r19_Same_p0 : List AG := [o 4 (.mv (.c (.bool true)))]
abbrev r19_Same_m1 : List Bool := [O,O,I,I,O,I,O,O,O,O,O,O,O,O,O,O,O,O,O,O,O,O,O,O,O,O,O,O,O,O,O,O,O,O,O,O,O,O,O,O,O,O,O,O,O,O,O]
abbrev r19_Same_x1 : List Bool := [O,O,O,O,O,O,O,O,O,O,O,O,O,O,O,O,O,O,O,O,O,O,O,O,O,O,O,O,O,O,O,O,O,O,O,O,O,O,O,O,O,O,O,O,O,O,O]
abbrev r19_Same_p2 : List AG := [o 33 (.mv (.t 5)), o 34 (.ibin .add (.t 33) (.c (.int .i64 1))), o 5 (.mv (.t 34))]
abbrev r19_Same_p3 : List AG := [o 4 (.mv (.c (.bool false)))]
abbrev r19_Same_p4 : ACode := (.seq (.reg r19_Same_p3) .ret)
abbrev r19_Same_p5 : List AG := [o 35 (.off 2 (.t 2)), o 36 (.load false 1 (.t 35)), o 37 (.mv (.t 5)), o 38 (.ixAddr 1 (.t 36) (.t 37)), o 39 (.load false 1 (.t 38)), o 40 (.off 2 (.t 3)), o 41 (.load false 1 (.t 40)), o 42 (.mv (.t 5)), o 43 (.ixAddr 1 (.t 41) (.t 42)), o 44 (.load false 1 (.t 43)), o 45 (.call (.f n_r01_Ints) [(.t 39), (.t 44)]), o 46 (.not (.t 45))]
abbrev r19_Same_p6 : ACode := (.seq (.dreg [O,O,O,O,O,O,O,O,O,O,O,O] [11,11,11,11,11,11,11,11,11,11,13,13] r19_Same_p5) (.cond (.t 46) r19_Same_p4 .skip))
abbrev r19_Same_p7 : List AG := [o 28 (.mv (.t 5)), o 29 (.off 2 (.t 2)), o 30 (.load false 1 (.t 29)), o 31 (.len (.t 30)), o 32 (.cmp .lss (.sc .int) (.t 28) (.t 31))]
abbrev r19_Same_b1 : ACode := (.seq (.seq (.reg r19_Same_p7) (.cond (.t 32) .skip (.exit 0))) (.seq (.block 1 [] r19_Same_p6) (.reg r19_Same_p2)))
abbrev r19_Same_p8 : List AG := [o 5 (.mv (.c (.int .i64 0)))]
abbrev r19_Same_p9 : List AG := [o 4 (.mv (.c (.bool false)))]
abbrev r19_Same_p10 : ACode := (.seq (.reg r19_Same_p9) .ret)
abbrev r19_Same_p11 : List AG := [o 6 (.off 0 (.t 2)), o 7 (.load false 1 (.t 6)), o 8 (.off 0 (.t 3)), o 9 (.load false 1 (.t 8)), o 10 (.cmp .neq (.sc .int) (.t 7) (.t 9)), o 11 (.mv (.t 10)), on 12 11 (.off 1 (.t 2)), on 13 11 (.load false 1 (.t 12)), on 14 11 (.off 1 (.t 3)), on 15 11 (.load false 1 (.t 14)), on 16 11 (.call (.f n_r19_Clauses) [(.t 13), (.t 15)]), on 17 11 (.not (.t 16)), o 18 (.pick (.t 11) (.c (.bool true)) (.t 17)), o 19 (.mv (.t 18)), on 20 19 (.off 2 (.t 2)), on 21 19 (.load false 1 (.t 20)), on 22 19 (.len (.t 21)), on 23 19 (.off 2 (.t 3)), on 24 19 (.load false 1 (.t 23)), on 25 19 (.len (.t 24)), on 26 19 (.cmp .neq (.sc .int) (.t 22) (.t 25)), o 27 (.pick (.t 19) (.c (.bool true)) (.t 26))]
abbrev r19_Same_p12 : List AG := [o 2 (.box 3 (.t 0)), o 3 (.box 3 (.t 1)), o 4 (.mv (.c (.bool false)))]
abbrev r19_Same : AFun := ⟨(.seq (.reg r19_Same_p12) (.seq (.seq (.reg r19_Same_p11) (.cond (.t 27) r19_Same_p10 .skip)) (.seq (.seq (.reg r19_Same_p8) (.block 0 r19_Same_x1 (.loop r19_Same_m1 r19_Same_b1))) (.seq (.reg r19_Same_p0) .ret)))), 47, [.tmp 4]⟩
abbrev r19_Same_k1 : List It := [.code (.seq (.reg r19_Same_p0) .ret)]
abbrev r19_Same_L1 (x2 x3 x5 : AV) (h : List Ob) (e : Cx := cx) : Cfg := atC n_r19_Same (.code r19_Same_b1 :: .inLoop r19_Same_m1 r19_Same_b1 :: .inBlock 0 r19_Same_x1 :: r19_Same_k1) [U,U,x2,x3,U,x5,U,U,U,U,U,U,U,U,U,U,U,U,U,U,U,U,U,U,U,U,U,U,U,U,U,U,U,U,U,U,U,U,U,U,U,U,U,U,U,U,U] h e
abbrev r19_Same_E1 (h : List Ob) (e : Cx := cx) : Cfg := atC n_r19_Same r19_Same_k1 [U,U,U,U,U,U,U,U,U,U,U,U,U,U,U,U,U,U,U,U,U,U,U,U,U,U,U,U,U,U,U,U,U,U,U,U,U,U,U,U,U,U,U,U,U,U,U] h e
@[simp] theorem c_r19_Same : cfun Try.prog n_r19_Same = some r19_Same := by kernel_rfl
@[simp] theorem e_r19_Same : hasBody Try.prog n_r19_Same = true := by kernel_rfl

/- cnf_Check: patchbay/cnf.Check -/
abbrev cnf_Check_p0 : List AG := [o 4 (.mv (.c (.int .i64 0)))]
abbrev cnf_Check_p1 : List AG := [o 4 (.mv (.c (.int .i64 1)))]
abbrev cnf_Check_p2 : ACode := (.seq (.reg cnf_Check_p1) .ret)
abbrev cnf_Check_p3 : List AG := [o 18 (.mv (.t 0)), o 19 (.mkFunc (.func n_cnf_Check_2) [] [(.t 5)]), o 20 (.call (.f n_slices_ContainsFunc_api_Clause_api_Clause) [(.t 18), (.t 19)])]
abbrev cnf_Check_p4 : List AG := [o 17 (.mkFunc (.func n_cnf_Check_1) [] [(.t 3)]), o 5 (.alloc [.nilf]), q (.store 1 (.t 5) (.t 17))]
abbrev cnf_Check_p5 : List AG := [o 4 (.mv (.c (.int .i64 8)))]
abbrev cnf_Check_p6 : ACode := (.seq (.reg cnf_Check_p5) .ret)
abbrev cnf_Check_p7 : List AG := [o 6 (.load false 1 (.t 3)), o 7 (.cmp .lss (.sc .int) (.t 6) (.c (.int .i64 0))), o 8 (.mv (.t 7)), on 9 8 (.load false 1 (.t 3)), on 10 8 (.cmp .gtr (.sc .int) (.t 9) (.c (.int .i64 20000))), o 11 (.pick (.t 8) (.c (.bool true)) (.t 10)), o 12 (.mv (.t 11)), on 13 12 (.mv (.t 0)), on 14 12 (.len (.t 13)), on 15 12 (.cmp .gtr (.sc .int) (.t 14) (.c (.int .i64 100000))), o 16 (.pick (.t 12) (.c (.bool true)) (.t 15))]
abbrev cnf_Check_p8 : List AG := [o 3 (.box 1 (.t 1)), o 4 (.mv (.c (.int .i64 0)))]
abbrev cnf_Check : AFun := ⟨(.seq (.reg cnf_Check_p8) (.seq (.seq (.reg cnf_Check_p7) (.cond (.t 16) cnf_Check_p6 .skip)) (.seq (.reg cnf_Check_p4) (.seq (.seq (.reg cnf_Check_p3) (.cond (.t 20) cnf_Check_p2 .skip)) (.seq (.reg cnf_Check_p0) .ret))))), 21, [.tmp 4]⟩
@[simp] theorem c_cnf_Check : cfun Try.prog n_cnf_Check = some cnf_Check := by kernel_rfl
@[simp] theorem e_cnf_Check : hasBody Try.prog n_cnf_Check = true := by kernel_rfl

/- cnf_Lit: patchbay/cnf.Lit -/
abbrev cnf_Lit_p0 : List AG := [o 31 (.off 2 (.t 3)), o 32 (.load false 1 (.t 31)), o 33 (.mv (.t 1)), o 34 (.ixAddr 1 (.t 32) (.t 33)), o 35 (.load false 1 (.t 34)), o 36 (.build [(.int .i64 0), (.list true 0 []), (.list true 0 []), (.int .i64 0), (.list true 0 []), (.list true 0 []), (.list true 0 []), (.list true 0 []), (.list true 0 [])] [(8, 1, (.t 35))]), o 37 (.box 9 (.t 36)), o 38 (.mv (.t 2)), o 39 (.call (.f n_cnf_builder_lit) [(.t 37), (.t 38)]), o 6 (.mv (.t 39))]
abbrev cnf_Lit_p1 : List AG := [o 6 (.mv (.c (.int .i64 0)))]
abbrev cnf_Lit_p2 : ACode := (.seq (.reg cnf_Lit_p1) .ret)
abbrev cnf_Lit_p3 : List AG := [o 7 (.mv (.t 1)), o 8 (.cmp .lss (.sc .int) (.t 7) (.c (.int .i64 0))), o 9 (.mv (.t 8)), on 10 9 (.mv (.t 1)), on 11 9 (.off 2 (.t 3)), on 12 9 (.load false 1 (.t 11)), on 13 9 (.len (.t 12)), on 14 9 (.cmp .geq (.sc .int) (.t 10) (.t 13)), o 15 (.pick (.t 9) (.c (.bool true)) (.t 14)), o 16 (.mv (.t 15)), on 17 16 (.mv (.t 2)), on 18 16 (.cmp .lss (.sc .int) (.t 17) (.c (.int .i64 0))), o 19 (.pick (.t 16) (.c (.bool true)) (.t 18)), o 20 (.mv (.t 19)), on 21 20 (.mv (.t 2)), on 22 20 (.ibin .shr (.t 21) (.c (.int .u64 1))), on 23 20 (.off 2 (.t 3)), on 24 20 (.load false 1 (.t 23)), on 25 20 (.mv (.t 1)), on 26 20 (.ixAddr 1 (.t 24) (.t 25)), on 27 20 (.load false 1 (.t 26)), on 28 20 (.len (.t 27)), on 29 20 (.cmp .geq (.sc .int) (.t 22) (.t 28)), o 30 (.pick (.t 20) (.c (.bool true)) (.t 29))]
abbrev cnf_Lit_p4 : List AG := [o 3 (.box 3 (.t 0)), o 6 (.mv (.c (.int .i64 0)))]
abbrev cnf_Lit : AFun := ⟨(.seq (.reg cnf_Lit_p4) (.seq (.seq (.reg cnf_Lit_p3) (.cond (.t 30) cnf_Lit_p2 .skip)) (.seq (.reg cnf_Lit_p0) .ret))), 40, [.tmp 6]⟩
@[simp] theorem c_cnf_Lit : cfun Try.prog n_cnf_Lit = some cnf_Lit := by kernel_rfl
@[simp] theorem e_cnf_Lit : hasBody Try.prog n_cnf_Lit = true := by kernel_rfl

/- cnf_Same: patchbay/cnf.Same -/
abbrev cnf_Same_p0 : List AG := [o 6 (.off 0 (.t 2)), o 7 (.load false 1 (.t 6)), o 8 (.off 0 (.t 3)), o 9 (.load false 1 (.t 8)), o 10 (.cmp .eql (.sc .int) (.t 7) (.t 9)), o 11 (.mv (.t 10)), oy 12 11 (.off 1 (.t 2)), oy 13 11 (.load false 1 (.t 12)), oy 14 11 (.off 1 (.t 3)), oy 15 11 (.load false 1 (.t 14)), oy 16 11 (.mv (.t 5)), oy 17 11 (.call (.f n_slices_EqualFunc_api_Clause_api_Clause_api_Clause_api_Clause) [(.t 13), (.t 15), (.t 16)]), o 18 (.pick (.t 11) (.t 17) (.c (.bool false))), o 19 (.mv (.t 18)), oy 20 19 (.off 2 (.t 2)), oy 21 19 (.load false 1 (.t 20)), oy 22 19 (.off 2 (.t 3)), oy 23 19 (.load false 1 (.t 22)), oy 24 19 (.call (.f n_slices_EqualFunc_int_int_int_int) [(.t 21), (.t 23), (.f n_slices_Equal_int_int)]), o 25 (.pick (.t 19) (.t 24) (.c (.bool false))), o 4 (.mv (.t 25))]
abbrev cnf_Same_p1 : List AG := [o 5 (.mv (.f n_cnf_Same_1))]
abbrev cnf_Same_p2 : List AG := [o 2 (.box 3 (.t 0)), o 3 (.box 3 (.t 1)), o 4 (.mv (.c (.bool false)))]
abbrev cnf_Same : AFun := ⟨(.seq (.reg cnf_Same_p2) (.seq (.reg cnf_Same_p1) (.seq (.reg cnf_Same_p0) .ret))), 26, [.tmp 4]⟩
@[simp] theorem c_cnf_Same : cfun Try.prog n_cnf_Same = some cnf_Same := by kernel_rfl
@[simp] theorem e_cnf_Same : hasBody Try.prog n_cnf_Same = true := by kernel_rfl

/- w19_small: patchbay/patchbaylaw19.small -/
abbrev w19_small_p0 : List AG := [o 10 (.mv (.t 7)), o 11 (.mv (.t 10)), oy 12 11 (.mv (.t 1)), oy 13 11 (.len (.t 12)), oy 14 11 (.cmp .leq (.sc .int) (.t 13) (.c (.int .i64 60))), o 15 (.pick (.t 11) (.t 14) (.c (.bool false))), o 16 (.mv (.t 15)), oy 17 16 (.off 0 (.t 3)), oy 18 16 (.load false 1 (.t 17)), oy 19 16 (.cmp .leq (.sc .int) (.t 18) (.c (.int .i64 30))), oy 20 16 (.mv (.t 19)), on 21 20 (.off 0 (.t 3)), on 22 20 (.load false 1 (.t 21)), on 23 20 (.cmp .gtr (.sc .int) (.t 22) (.c (.int .i64 4000))), oy 24 16 (.pick (.t 20) (.c (.bool true)) (.t 23)), o 25 (.pick (.t 16) (.t 24) (.c (.bool false))), o 26 (.mv (.t 25)), oy 27 26 (.mv (.t 2)), oy 28 26 (.cmp .leq (.sc .int) (.t 27) (.c (.int .i64 6))), oy 29 26 (.mv (.t 28)), on 30 29 (.mv (.t 2)), on 31 29 (.cmp .gtr (.sc .int) (.t 30) (.c (.int .i64 40))), oy 32 26 (.pick (.t 29) (.c (.bool true)) (.t 31)), o 33 (.pick (.t 26) (.t 32) (.c (.bool false))), o 6 (.mv (.t 33))]
abbrev w19_small_p1 : List AG := [o 8 (.load true 5 (.t 3)), o 9 (.call (.f n_w09_Few) [(.t 8)]), o 7 (.mv (.t 9))]
abbrev w19_small_p2 : List AG := [o 3 (.box 5 (.t 0)), o 6 (.mv (.c (.bool false)))]
abbrev w19_small : AFun := ⟨(.seq (.reg w19_small_p2) (.seq (.reg w19_small_p1) (.seq (.reg w19_small_p0) .ret))), 34, [.tmp 6]⟩
@[simp] theorem c_w19_small : cfun Try.prog n_w19_small = some w19_small := by kernel_rfl
@[simp] theorem e_w19_small : hasBody Try.prog n_w19_small = true := by kernel_rfl

/- w08_Rows: patchbay/patchbaylaw08.Rows -/
abbrev w08_Rows_p0 : List AG := [o 23 (.mv (.t 0)), o 24 (.len (.t 23)), o 25 (.mv (.t 1)), o 26 (.cmp .leq (.sc .int) (.t 24) (.t 25)), o 4 (.mv (.t 26))]
abbrev w08_Rows_m1 : List Bool := [I,I,O,O,O,I,O,O,O,O,O,O,O,O,O,O,O,O,O,O,O,O,O,O,O,O,O]
abbrev w08_Rows_x1 : List Bool := [I,I,O,O,O,O,O,O,O,O,O,O,O,O,O,O,O,O,O,O,O,O,O,O,O,O,O]
abbrev w08_Rows_p2 : List AG := [o 15 (.mv (.t 5)), o 16 (.ibin .add (.t 15) (.c (.int .i64 1))), o 5 (.mv (.t 16))]
abbrev w08_Rows_p3 : List AG := [o 4 (.mv (.c (.bool false)))]
abbrev w08_Rows_p4 : ACode := (.seq (.reg w08_Rows_p3) .ret)
abbrev w08_Rows_p5 : List AG := [o 17 (.mv (.t 0)), o 18 (.mv (.t 5)), o 19 (.ixAddr 1 (.t 17) (.t 18)), o 20 (.load false 1 (.t 19)), o 21 (.len (.t 20)), o 22 (.cmp .gtr (.sc .int) (.t 21) (.c (.int .i64 60)))]
abbrev w08_Rows_p6 : ACode := (.seq (.reg w08_Rows_p5) (.cond (.t 22) w08_Rows_p4 .skip))
abbrev w08_Rows_p7 : List AG := [o 6 (.mv (.t 5)), o 7 (.mv (.t 0)), o 8 (.len (.t 7)), o 9 (.cmp .lss (.sc .int) (.t 6) (.t 8)), o 10 (.mv (.t 9)), oy 11 10 (.mv (.t 5)), oy 12 10 (.mv (.t 1)), oy 13 10 (.cmp .leq (.sc .int) (.t 11) (.t 12)), o 14 (.pick (.t 10) (.t 13) (.c (.bool false)))]
abbrev w08_Rows_b1 : ACode := (.seq (.seq (.reg w08_Rows_p7) (.cond (.t 14) .skip (.exit 0))) (.seq (.block 1 [] w08_Rows_p6) (.reg w08_Rows_p2)))
abbrev w08_Rows_p8 : List AG := [o 5 (.mv (.c (.int .i64 0)))]
abbrev w08_Rows_p9 : List AG := [o 4 (.mv (.c (.bool false)))]
abbrev w08_Rows : AFun := ⟨(.seq (.reg w08_Rows_p9) (.seq (.seq (.reg w08_Rows_p8) (.block 0 w08_Rows_x1 (.loop w08_Rows_m1 w08_Rows_b1))) (.seq (.reg w08_Rows_p0) .ret))), 27, [.tmp 4]⟩
abbrev w08_Rows_k1 : List It := [.code (.seq (.reg w08_Rows_p0) .ret)]
abbrev w08_Rows_L1 (x0 x1 x5 : AV) (h : List Ob) (e : Cx := cx) : Cfg := atC n_w08_Rows (.code w08_Rows_b1 :: .inLoop w08_Rows_m1 w08_Rows_b1 :: .inBlock 0 w08_Rows_x1 :: w08_Rows_k1) [x0,x1,U,U,U,x5,U,U,U,U,U,U,U,U,U,U,U,U,U,U,U,U,U,U,U,U,U] h e
abbrev w08_Rows_E1 (x0 x1 : AV) (h : List Ob) (e : Cx := cx) : Cfg := atC n_w08_Rows w08_Rows_k1 [x0,x1,U,U,U,U,U,U,U,U,U,U,U,U,U,U,U,U,U,U,U,U,U,U,U,U,U] h e
@[simp] theorem c_w08_Rows : cfun Try.prog n_w08_Rows = some w08_Rows := by kernel_rfl
@[simp] theorem e_w08_Rows : hasBody Try.prog n_w08_Rows = true := by kernel_rfl

/- cnf_Unroll: patchbay/cnf.Unroll -/
abbrev cnf_Unroll_p0 : List AG := [o 76 (.mv (.t 9)), o 77 (.nilck (.t 76)), o 78 (.off 0 (.t 77)), o 79 (.load true 3 (.t 78)), q (.store 3 (.t 6) (.t 79)), o 7 (.mv (.c (.int .i64 0)))]
abbrev cnf_Unroll_p1 : List AG := [o 57 (.mv (.t 9)), o 58 (.mv (.t 9)), o 59 (.nilck (.t 58)), o 60 (.off 0 (.t 59)), o 61 (.off 2 (.t 60)), o 62 (.load false 1 (.t 61)), o 63 (.mv (.t 9)), o 64 (.nilck (.t 63)), o 65 (.off 8 (.t 64)), o 66 (.load false 1 (.t 65)), o 67 (.off 3 (.t 3)), o 68 (.load false 1 (.t 67)), o 69 (.len (.t 68)), o 70 (.appendZ 1 t_int 8 (.int .i64 0) (.t 66) (.t 69)), o 71 (.lit 1 [(.list true 0 [])] [(0, (.t 70))]), o 72 (.append 1 t_int_3 24 (.t 62) (.t 71)), o 73 (.nilck (.t 57)), o 74 (.off 0 (.t 73)), o 75 (.off 2 (.t 74)), q (.store 1 (.t 75) (.t 72))]
abbrev cnf_Unroll_m2 : List Bool := [O,O,O,I,O,O,I,O,O,I,O,O,O,O,O,O,O,O,O,O,O,O,O,O,O,O,O,O,O,O,O,O,O,O,O,O,O,O,O,O,O,O,O,O,O,O,O,O,O,O,O,I,I,O,O,O,O,O,O,O,O,O,O,O,O,O,O,O,O,O,O,O,O,O,O,O,O,O,O,O]
abbrev cnf_Unroll_x2 : List Bool := [O,O,O,I,O,O,I,O,O,I,O,O,O,O,O,O,O,O,O,O,O,O,O,O,O,O,O,O,O,O,O,O,O,O,O,O,O,O,O,O,O,O,O,O,O,O,O,O,O,O,O,O,O,O,O,O,O,O,O,O,O,O,O,O,O,O,O,O,O,O,O,O,O,O,O,O,O,O,O,O]
abbrev cnf_Unroll_p3 : List AG := [o 56 (.ibin .add (.t 52) (.c (.int .i64 1))), o 52 (.mv (.t 56))]
abbrev cnf_Unroll_p4 : List AG := [o 54 (.mv (.t 9)), o 55 (.call (.f n_cnf_builder_step) [(.t 54)])]
abbrev cnf_Unroll_p5 : List AG := [o 53 (.cmp .lss (.sc .int) (.t 52) (.t 51))]
abbrev cnf_Unroll_b2 : ACode := (.seq (.reg cnf_Unroll_p5) (.seq (.cond (.t 53) .skip (.exit 2)) (.seq (.block 3 [] (.reg cnf_Unroll_p4)) (.reg cnf_Unroll_p3))))
abbrev cnf_Unroll_p6 : List AG := [o 51 (.mv (.t 2)), o 52 (.mv (.c (.int .i64 0)))]
abbrev cnf_Unroll_p7 : List AG := [o 48 (.mv (.t 9)), o 49 (.mv (.t 10)), o 50 (.call (.f n_cnf_builder_begin) [(.t 48), (.t 49)])]
abbrev cnf_Unroll_m8 : List Bool := [O,O,I,I,O,O,I,O,O,I,I,O,O,O,O,O,O,O,O,O,O,O,O,O,O,O,O,O,O,O,I,I,I,O,O,O,O,O,O,O,O,O,O,O,O,O,O,O,O,O,O,O,O,O,O,O,O,O,O,O,O,O,O,O,O,O,O,O,O,O,O,O,O,O,O,O,O,O,O,O]
abbrev cnf_Unroll_x8 : List Bool := [O,O,I,I,O,O,I,O,O,I,I,O,O,O,O,O,O,O,O,O,O,O,O,O,O,O,O,O,O,O,O,O,O,O,O,O,O,O,O,O,O,O,O,O,O,O,O,O,O,O,O,O,O,O,O,O,O,O,O,O,O,O,O,O,O,O,O,O,O,O,O,O,O,O,O,O,O,O,O,O]
abbrev cnf_Unroll_p9 : List AG := [o 47 (.ibin .add (.t 32) (.c (.int .i64 1))), o 32 (.mv (.t 47))]
abbrev cnf_Unroll_p10 : List AG := [o 43 (.mv (.t 10)), o 44 (.mv (.t 13)), o 45 (.lit 1 [(.int .i64 0)] [(0, (.t 44))]), o 46 (.append 1 t_int 8 (.t 43) (.t 45)), o 10 (.mv (.t 46))]
abbrev cnf_Unroll_p11 : List AG := [o 41 (.mv (.t 9)), o 42 (.call (.f n_cnf_builder_fresh) [(.t 41)]), o 13 (.mv (.t 42))]
abbrev cnf_Unroll_p12 : List AG := [o 39 (.mv (.t 12)), o 40 (.cmp .eql (.sc .int) (.t 39) (.c (.int .i64 2)))]
abbrev cnf_Unroll_p13 : List AG := [o 36 (.mv (.t 12)), o 37 (.ibin .mul (.c (.int .i64 2)) (.t 36)), o 38 (.ibin .sub (.t 37) (.c (.int .i64 1))), o 13 (.mv (.t 38))]
abbrev cnf_Unroll_p14 : List AG := [o 34 (.ixAddr 1 (.t 30) (.t 32)), o 35 (.load false 1 (.t 34)), o 12 (.mv (.t 35))]
abbrev cnf_Unroll_p15 : ACode := (.seq (.reg cnf_Unroll_p14) (.seq (.reg cnf_Unroll_p13) (.seq (.seq (.reg cnf_Unroll_p12) (.cond (.t 40) (.reg cnf_Unroll_p11) .skip)) (.reg cnf_Unroll_p10))))
abbrev cnf_Unroll_p16 : List AG := [o 33 (.cmp .lss (.sc .int) (.t 32) (.t 31))]
abbrev cnf_Unroll_b8 : ACode := (.seq (.reg cnf_Unroll_p16) (.seq (.cond (.t 33) .skip (.exit 0)) (.seq (.block 1 [] cnf_Unroll_p15) (.reg cnf_Unroll_p9))))
abbrev cnf_Unroll_p17 : List AG := [o 30 (.mv (.t 1)), o 31 (.len (.t 30)), o 32 (.mv (.c (.int .i64 0)))]
abbrev cnf_Unroll_p18 : List AG := [o 10 (.nilrow 1 t_int)]
abbrev cnf_Unroll_p19 : List AG := [o 25 (.mv (.t 9)), o 26 (.mv (.t 9)), o 27 (.call (.f n_cnf_builder_fresh) [(.t 26)]), o 28 (.lit 1 [(.int .i64 0)] [(0, (.t 27))]), o 29 (.call (.f n_cnf_builder_add) [(.t 25), (.t 28)])]
abbrev cnf_Unroll_p20 : List AG := [o 22 (.load true 5 (.t 3)), o 23 (.build [(.int .i64 0), (.list true 0 []), (.list true 0 []), (.int .i64 0), (.list true 0 []), (.list true 0 []), (.list true 0 []), (.list true 0 []), (.list true 0 [])] [(3, 5, (.t 22))]), o 24 (.box 9 (.t 23)), o 9 (.mv (.t 24))]
abbrev cnf_Unroll_p21 : List AG := [o 20 (.build [(.int .i64 0), (.list true 0 []), (.list true 0 [])] []), o 21 (.mv (.t 8)), q (.store 3 (.t 6) (.t 20)), o 7 (.mv (.t 21))]
abbrev cnf_Unroll_p22 : ACode := (.seq (.reg cnf_Unroll_p21) .ret)
abbrev cnf_Unroll_p23 : List AG := [o 18 (.mv (.t 8)), o 19 (.cmp .neq (.sc .int) (.t 18) (.c (.int .i64 0)))]
abbrev cnf_Unroll_p24 : List AG := [o 14 (.load true 5 (.t 3)), o 15 (.mv (.t 1)), o 16 (.mv (.t 2)), o 17 (.call (.f n_cnf_can) [(.t 14), (.t 15), (.t 16)]), o 8 (.mv (.t 17))]
abbrev cnf_Unroll_p25 : List AG := [o 3 (.box 5 (.t 0)), o 6 (.alloc [(.int .i64 0), (.own 1 t_api_Clause_2 []), (.own 1 t_int_3 [])]), o 7 (.mv (.c (.int .i64 0)))]
abbrev cnf_Unroll : AFun := ⟨(.seq (.reg cnf_Unroll_p25) (.seq (.seq (.reg cnf_Unroll_p24) (.seq (.reg cnf_Unroll_p23) (.cond (.t 19) cnf_Unroll_p22 .skip))) (.seq (.reg cnf_Unroll_p20) (.seq (.reg cnf_Unroll_p19) (.seq (.reg cnf_Unroll_p18) (.seq (.seq (.reg cnf_Unroll_p17) (.block 0 cnf_Unroll_x8 (.loop cnf_Unroll_m8 cnf_Unroll_b8))) (.seq (.reg cnf_Unroll_p7) (.seq (.seq (.reg cnf_Unroll_p6) (.block 2 cnf_Unroll_x2 (.loop cnf_Unroll_m2 cnf_Unroll_b2))) (.seq (.dreg [O,O,O,O,O,I,O,O,O,O,O,O,O,O,O,O,O,O,O,O] [20,16,16,16,16,16,14,14,14,14,14,14,14,15,16,20,20,20,20,21] cnf_Unroll_p1) (.seq (.reg cnf_Unroll_p0) .ret)))))))))), 80, [.cell 6 true 3, .tmp 7]⟩
abbrev cnf_Unroll_k2 : List It := [.code (.seq (.dreg [O,O,O,O,O,I,O,O,O,O,O,O,O,O,O,O,O,O,O,O] [20,16,16,16,16,16,14,14,14,14,14,14,14,15,16,20,20,20,20,21] cnf_Unroll_p1) (.seq (.reg cnf_Unroll_p0) .ret))]
abbrev cnf_Unroll_L2 (x3 x6 x9 x51 x52 : AV) (h : List Ob) (e : Cx := cx) : Cfg := atC n_cnf_Unroll (.code cnf_Unroll_b2 :: .inLoop cnf_Unroll_m2 cnf_Unroll_b2 :: .inBlock 2 cnf_Unroll_x2 :: cnf_Unroll_k2) [U,U,U,x3,U,U,x6,U,U,x9,U,U,U,U,U,U,U,U,U,U,U,U,U,U,U,U,U,U,U,U,U,U,U,U,U,U,U,U,U,U,U,U,U,U,U,U,U,U,U,U,U,x51,x52,U,U,U,U,U,U,U,U,U,U,U,U,U,U,U,U,U,U,U,U,U,U,U,U,U,U,U] h e
abbrev cnf_Unroll_E2 (x3 x6 x9 : AV) (h : List Ob) (e : Cx := cx) : Cfg := atC n_cnf_Unroll cnf_Unroll_k2 [U,U,U,x3,U,U,x6,U,U,x9,U,U,U,U,U,U,U,U,U,U,U,U,U,U,U,U,U,U,U,U,U,U,U,U,U,U,U,U,U,U,U,U,U,U,U,U,U,U,U,U,U,U,U,U,U,U,U,U,U,U,U,U,U,U,U,U,U,U,U,U,U,U,U,U,U,U,U,U,U,U] h e
abbrev cnf_Unroll_k8 : List It := [.code (.seq (.reg cnf_Unroll_p7) (.seq (.seq (.reg cnf_Unroll_p6) (.block 2 cnf_Unroll_x2 (.loop cnf_Unroll_m2 cnf_Unroll_b2))) (.seq (.dreg [O,O,O,O,O,I,O,O,O,O,O,O,O,O,O,O,O,O,O,O] [20,16,16,16,16,16,14,14,14,14,14,14,14,15,16,20,20,20,20,21] cnf_Unroll_p1) (.seq (.reg cnf_Unroll_p0) .ret))))]
abbrev cnf_Unroll_L8 (x2 x3 x6 x9 x10 x30 x31 x32 : AV) (h : List Ob) (e : Cx := cx) : Cfg := atC n_cnf_Unroll (.code cnf_Unroll_b8 :: .inLoop cnf_Unroll_m8 cnf_Unroll_b8 :: .inBlock 0 cnf_Unroll_x8 :: cnf_Unroll_k8) [U,U,x2,x3,U,U,x6,U,U,x9,x10,U,U,U,U,U,U,U,U,U,U,U,U,U,U,U,U,U,U,U,x30,x31,x32,U,U,U,U,U,U,U,U,U,U,U,U,U,U,U,U,U,U,U,U,U,U,U,U,U,U,U,U,U,U,U,U,U,U,U,U,U,U,U,U,U,U,U,U,U,U,U] h e
abbrev cnf_Unroll_E8 (x2 x3 x6 x9 x10 : AV) (h : List Ob) (e : Cx := cx) : Cfg := atC n_cnf_Unroll cnf_Unroll_k8 [U,U,x2,x3,U,U,x6,U,U,x9,x10,U,U,U,U,U,U,U,U,U,U,U,U,U,U,U,U,U,U,U,U,U,U,U,U,U,U,U,U,U,U,U,U,U,U,U,U,U,U,U,U,U,U,U,U,U,U,U,U,U,U,U,U,U,U,U,U,U,U,U,U,U,U,U,U,U,U,U,U,U] h e
@[simp] theorem c_cnf_Unroll : cfun Try.prog n_cnf_Unroll = some cnf_Unroll := by kernel_rfl
@[simp] theorem e_cnf_Unroll : hasBody Try.prog n_cnf_Unroll = true := by kernel_rfl

/- r19_Unroll: patchbay/patchbayref19.Unroll -/
abbrev r19_Unroll_p0 : List AG := [o 49 (.load true 3 (.t 9)), q (.store 3 (.t 6) (.t 49)), o 7 (.mv (.c (.int .i64 0)))]
abbrev r19_Unroll_m1 : List Bool := [O,O,I,I,O,O,I,O,O,I,O,I,O,O,O,O,O,O,O,O,O,O,O,O,O,O,O,O,O,O,O,O,O,O,O,O,O,O,O,O,O,O,O,O,O,O,O,O,O,O]
abbrev r19_Unroll_x1 : List Bool := [O,O,O,O,O,O,I,O,O,I,O,O,O,O,O,O,O,O,O,O,O,O,O,O,O,O,O,O,O,O,O,O,O,O,O,O,O,O,O,O,O,O,O,O,O,O,O,O,O,O]
abbrev r19_Unroll_p2 : List AG := [o 36 (.mv (.t 11)), o 37 (.ibin .add (.t 36) (.c (.int .i64 1))), o 11 (.mv (.t 37))]
abbrev r19_Unroll_p3 : List AG := [o 38 (.off 2 (.t 9)), o 39 (.load false 1 (.t 38)), o 40 (.mv (.t 2)), o 41 (.off 2 (.t 9)), o 42 (.load false 1 (.t 41)), o 43 (.mv (.t 2)), o 44 (.ixAddr 1 (.t 42) (.t 43)), o 45 (.load false 1 (.t 44)), o 46 (.lit 1 [(.int .i64 0)] [(0, (.c (.int .i64 0)))]), o 47 (.append 1 t_int 8 (.t 45) (.t 46)), o 48 (.ixAddr 1 (.t 39) (.t 40)), q (.store 1 (.t 48) (.t 47))]
abbrev r19_Unroll_p4 : List AG := [o 31 (.mv (.t 11)), o 32 (.off 3 (.t 3)), o 33 (.load false 1 (.t 32)), o 34 (.len (.t 33)), o 35 (.cmp .lss (.sc .int) (.t 31) (.t 34))]
abbrev r19_Unroll_b1 : ACode := (.seq (.seq (.reg r19_Unroll_p4) (.cond (.t 35) .skip (.exit 2))) (.seq (.block 3 [] (.dreg [O,I,O,O,I,O,O,I,O,O,O,O] [12,12,12,10,10,10,10,10,10,12,12,13] r19_Unroll_p3)) (.reg r19_Unroll_p2)))
abbrev r19_Unroll_p5 : List AG := [o 11 (.mv (.c (.int .i64 0)))]
abbrev r19_Unroll_m6 : List Bool := [O,O,I,I,O,O,I,O,O,I,I,O,O,O,O,O,O,O,O,O,O,O,O,O,O,O,O,O,O,O,O,O,O,O,O,O,O,O,O,O,O,O,O,O,O,O,O,O,O,O]
abbrev r19_Unroll_x6 : List Bool := [O,O,I,I,O,O,I,O,O,I,O,O,O,O,O,O,O,O,O,O,O,O,O,O,O,O,O,O,O,O,O,O,O,O,O,O,O,O,O,O,O,O,O,O,O,O,O,O,O,O]
abbrev r19_Unroll_p7 : List AG := [o 26 (.mv (.t 10)), o 27 (.ibin .add (.t 26) (.c (.int .i64 1))), o 10 (.mv (.t 27))]
abbrev r19_Unroll_p8 : List AG := [o 28 (.load true 3 (.t 9)), o 29 (.load true 5 (.t 3)), o 30 (.call (.f n_r19_step) [(.t 28), (.t 29)]), q (.store 3 (.t 9) (.t 30))]
abbrev r19_Unroll_p9 : List AG := [o 23 (.mv (.t 10)), o 24 (.mv (.t 2)), o 25 (.cmp .lss (.sc .int) (.t 23) (.t 24))]
abbrev r19_Unroll_b6 : ACode := (.seq (.seq (.reg r19_Unroll_p9) (.cond (.t 25) .skip (.exit 0))) (.seq (.block 1 [] (.reg r19_Unroll_p8)) (.reg r19_Unroll_p7)))
abbrev r19_Unroll_p10 : List AG := [o 10 (.mv (.c (.int .i64 0)))]
abbrev r19_Unroll_p11 : List AG := [o 20 (.load true 5 (.t 3)), o 21 (.mv (.t 1)), o 22 (.call (.f n_r19_begins) [(.t 20), (.t 21)]), o 9 (.alloc [(.int .i64 0), (.own 1 t_api_Clause_2 []), (.own 1 t_int_3 [])]), q (.store 3 (.t 9) (.t 22))]
abbrev r19_Unroll_p12 : List AG := [o 18 (.build [(.int .i64 0), (.list true 0 []), (.list true 0 [])] []), o 19 (.mv (.t 8)), q (.store 3 (.t 6) (.t 18)), o 7 (.mv (.t 19))]
abbrev r19_Unroll_p13 : ACode := (.seq (.reg r19_Unroll_p12) .ret)
abbrev r19_Unroll_p14 : List AG := [o 16 (.mv (.t 8)), o 17 (.cmp .neq (.sc .int) (.t 16) (.c (.int .i64 0)))]
abbrev r19_Unroll_p15 : List AG := [o 12 (.load true 5 (.t 3)), o 13 (.mv (.t 1)), o 14 (.mv (.t 2)), o 15 (.call (.f n_r19_can) [(.t 12), (.t 13), (.t 14)]), o 8 (.mv (.t 15))]
abbrev r19_Unroll_p16 : List AG := [o 3 (.box 5 (.t 0)), o 6 (.alloc [(.int .i64 0), (.own 1 t_api_Clause_2 []), (.own 1 t_int_3 [])]), o 7 (.mv (.c (.int .i64 0)))]
abbrev r19_Unroll : AFun := ⟨(.seq (.reg r19_Unroll_p16) (.seq (.reg r19_Unroll_p15) (.seq (.seq (.reg r19_Unroll_p14) (.cond (.t 17) r19_Unroll_p13 .skip)) (.seq (.reg r19_Unroll_p11) (.seq (.seq (.reg r19_Unroll_p10) (.block 0 r19_Unroll_x6 (.loop r19_Unroll_m6 r19_Unroll_b6))) (.seq (.seq (.reg r19_Unroll_p5) (.block 2 r19_Unroll_x1 (.loop r19_Unroll_m1 r19_Unroll_b1))) (.seq (.reg r19_Unroll_p0) .ret))))))), 50, [.cell 6 true 3, .tmp 7]⟩
abbrev r19_Unroll_k1 : List It := [.code (.seq (.reg r19_Unroll_p0) .ret)]
abbrev r19_Unroll_L1 (x2 x3 x6 x9 x11 : AV) (h : List Ob) (e : Cx := cx) : Cfg := atC n_r19_Unroll (.code r19_Unroll_b1 :: .inLoop r19_Unroll_m1 r19_Unroll_b1 :: .inBlock 2 r19_Unroll_x1 :: r19_Unroll_k1) [U,U,x2,x3,U,U,x6,U,U,x9,U,x11,U,U,U,U,U,U,U,U,U,U,U,U,U,U,U,U,U,U,U,U,U,U,U,U,U,U,U,U,U,U,U,U,U,U,U,U,U,U] h e
abbrev r19_Unroll_E1 (x6 x9 : AV) (h : List Ob) (e : Cx := cx) : Cfg := atC n_r19_Unroll r19_Unroll_k1 [U,U,U,U,U,U,x6,U,U,x9,U,U,U,U,U,U,U,U,U,U,U,U,U,U,U,U,U,U,U,U,U,U,U,U,U,U,U,U,U,U,U,U,U,U,U,U,U,U,U,U] h e
abbrev r19_Unroll_k6 : List It := [.code (.seq (.seq (.reg r19_Unroll_p5) (.block 2 r19_Unroll_x1 (.loop r19_Unroll_m1 r19_Unroll_b1))) (.seq (.reg r19_Unroll_p0) .ret))]
abbrev r19_Unroll_L6 (x2 x3 x6 x9 x10 : AV) (h : List Ob) (e : Cx := cx) : Cfg := atC n_r19_Unroll (.code r19_Unroll_b6 :: .inLoop r19_Unroll_m6 r19_Unroll_b6 :: .inBlock 0 r19_Unroll_x6 :: r19_Unroll_k6) [U,U,x2,x3,U,U,x6,U,U,x9,x10,U,U,U,U,U,U,U,U,U,U,U,U,U,U,U,U,U,U,U,U,U,U,U,U,U,U,U,U,U,U,U,U,U,U,U,U,U,U,U] h e
abbrev r19_Unroll_E6 (x2 x3 x6 x9 : AV) (h : List Ob) (e : Cx := cx) : Cfg := atC n_r19_Unroll r19_Unroll_k6 [U,U,x2,x3,U,U,x6,U,U,x9,U,U,U,U,U,U,U,U,U,U,U,U,U,U,U,U,U,U,U,U,U,U,U,U,U,U,U,U,U,U,U,U,U,U,U,U,U,U,U,U] h e
@[simp] theorem c_r19_Unroll : cfun Try.prog n_r19_Unroll = some r19_Unroll := by kernel_rfl
@[simp] theorem e_r19_Unroll : hasBody Try.prog n_r19_Unroll = true := by kernel_rfl

/- cnf_Values: patchbay/cnf.Values -/
abbrev cnf_Values_p0 : List AG := [o 95 (.mv (.t 11)), o 8 (.mv (.t 95)), o 9 (.mv (.c (.int .i64 0)))]
abbrev cnf_Values_m1 : List Bool := [O,O,I,O,I,O,O,O,O,O,O,I,O,O,O,O,O,O,O,O,O,O,O,O,O,O,O,O,O,O,O,O,O,O,O,O,O,O,O,O,O,O,O,O,O,O,O,O,O,O,O,O,O,O,O,O,O,O,I,I,I,O,O,O,O,O,O,O,O,O,O,O,O,O,O,O,O,O,O,O,O,O,O,O,O,O,O,O,O,O,O,O,O,O,O,O]
abbrev cnf_Values_x1 : List Bool := [O,O,O,O,O,O,O,O,O,O,O,I,O,O,O,O,O,O,O,O,O,O,O,O,O,O,O,O,O,O,O,O,O,O,O,O,O,O,O,O,O,O,O,O,O,O,O,O,O,O,O,O,O,O,O,O,O,O,O,O,O,O,O,O,O,O,O,O,O,O,O,O,O,O,O,O,O,O,O,O,O,O,O,O,O,O,O,O,O,O,O,O,O,O,O,O]
abbrev cnf_Values_p2 : List AG := [o 94 (.ibin .add (.t 60) (.c (.int .i64 1))), o 60 (.mv (.t 94))]
abbrev cnf_Values_p3 : List AG := [o 87 (.load true 5 (.t 4)), o 88 (.mv (.t 2)), o 89 (.mv (.t 15)), o 90 (.call (.f n_aig_Step) [(.t 87), (.t 88), (.t 89)]), o 86 (.mv (.t 90)), o 91 (.extract (.t 86) 0), o 92 (.extract (.t 86) 1), o 93 (.extract (.t 86) 2), o 2 (.mv (.t 92))]
abbrev cnf_Values_p4 : List AG := [o 74 (.mv (.t 11)), o 75 (.mv (.t 15)), o 76 (.mv (.t 16)), o 77 (.off 0 (.t 4)), o 78 (.load false 1 (.t 77)), o 79 (.ibin .add (.c (.int .i64 1)) (.t 78)), o 80 (.mv (.t 2)), o 81 (.len (.t 80)), o 82 (.ibin .add (.t 79) (.t 81)), o 83 (.slice 1 (.t 76) (some (.t 82)) none), o 84 (.lit 1 [(.list true 0 []), (.list true 0 []), (.list true 0 [])] [(0, (.t 74)), (1, (.t 75)), (2, (.t 83))]), o 85 (.call (.f n_slices_Concat_bool_bool) [(.t 84)]), o 11 (.mv (.t 85))]
abbrev cnf_Values_p5 : List AG := [o 73 (.mv (.t 17)), o 8 (.nilrow 1 t_bool), o 9 (.mv (.t 73))]
abbrev cnf_Values_p6 : ACode := (.seq (.reg cnf_Values_p5) .ret)
abbrev cnf_Values_p7 : List AG := [o 71 (.mv (.t 17)), o 72 (.cmp .neq (.sc .int) (.t 71) (.c (.int .i64 0)))]
abbrev cnf_Values_p8 : List AG := [o 65 (.load true 5 (.t 4)), o 66 (.mv (.t 2)), o 67 (.mv (.t 15)), o 68 (.call (.f n_aig_Values) [(.t 65), (.t 66), (.t 67)]), o 64 (.mv (.t 68)), o 69 (.extract (.t 64) 0), o 70 (.extract (.t 64) 1), o 16 (.mv (.t 69)), o 17 (.mv (.t 70))]
abbrev cnf_Values_p9 : List AG := [o 62 (.ixAddr 1 (.t 58) (.t 60)), o 63 (.load false 1 (.t 62)), o 15 (.mv (.t 63))]
abbrev cnf_Values_p10 : ACode := (.seq (.reg cnf_Values_p9) (.seq (.reg cnf_Values_p8) (.seq (.seq (.reg cnf_Values_p7) (.cond (.t 72) cnf_Values_p6 .skip)) (.seq (.reg cnf_Values_p4) (.reg cnf_Values_p3)))))
abbrev cnf_Values_p11 : List AG := [o 61 (.cmp .lss (.sc .int) (.t 60) (.t 59))]
abbrev cnf_Values_b1 : ACode := (.seq (.reg cnf_Values_p11) (.seq (.cond (.t 61) .skip (.exit 3)) (.seq (.block 4 [] cnf_Values_p10) (.reg cnf_Values_p2))))
abbrev cnf_Values_p12 : List AG := [o 58 (.mv (.t 3)), o 59 (.len (.t 58)), o 60 (.mv (.c (.int .i64 0)))]
abbrev cnf_Values_m13 : List Bool := [O,I,I,I,I,O,O,O,O,O,O,I,O,O,O,O,O,O,O,O,O,O,O,O,O,O,O,O,O,O,O,O,I,I,I,O,O,O,O,O,O,O,O,O,O,O,O,O,O,O,O,O,O,O,O,O,O,O,O,O,O,O,O,O,O,O,O,O,O,O,O,O,O,O,O,O,O,O,O,O,O,O,O,O,O,O,O,O,O,O,O,O,O,O,O,O]
abbrev cnf_Values_x13 : List Bool := [O,O,I,I,I,O,O,O,O,O,O,I,O,O,O,O,O,O,O,O,O,O,O,O,O,O,O,O,O,O,O,O,O,O,O,O,O,O,O,O,O,O,O,O,O,O,O,O,O,O,O,O,O,O,O,O,O,O,O,O,O,O,O,O,O,O,O,O,O,O,O,O,O,O,O,O,O,O,O,O,O,O,O,O,O,O,O,O,O,O,O,O,O,O,O,O]
abbrev cnf_Values_p14 : List AG := [o 57 (.ibin .add (.t 34) (.c (.int .i64 1))), o 34 (.mv (.t 57))]
abbrev cnf_Values_p15 : List AG := [o 45 (.mv (.t 11)), o 46 (.mv (.t 13)), o 47 (.lit 1 [(.bool false)] [(0, (.t 46))]), o 48 (.append 1 t_bool 1 (.t 45) (.t 47)), o 11 (.mv (.t 48))]
abbrev cnf_Values_p16 : List AG := [o 8 (.nilrow 1 t_bool), o 9 (.mv (.c (.int .i64 11)))]
abbrev cnf_Values_p17 : ACode := (.seq (.reg cnf_Values_p16) .ret)
abbrev cnf_Values_p18 : List AG := [o 50 (.mv (.t 1)), o 51 (.mv (.t 12)), o 52 (.ixAddr 1 (.t 50) (.t 51)), o 53 (.load false 1 (.t 52)), o 54 (.cmp .eql (.sc .int) (.t 53) (.c (.int .i64 1))), o 55 (.mv (.t 13)), o 56 (.cmp .neq (.sc .bool) (.t 54) (.t 55)), o 49 (.mv (.t 56))]
abbrev cnf_Values_p19 : ACode := (.seq (.reg cnf_Values_p18) (.cond (.t 49) cnf_Values_p17 .skip))
abbrev cnf_Values_p20 : List AG := [o 40 (.mv (.t 1)), o 41 (.mv (.t 12)), o 42 (.ixAddr 1 (.t 40) (.t 41)), o 43 (.load false 1 (.t 42)), o 44 (.cmp .eql (.sc .int) (.t 43) (.c (.int .i64 2))), o 39 (.mv (.t 44))]
abbrev cnf_Values_p21 : ACode := (.seq (.reg cnf_Values_p20) (.cond (.t 39) (.reg cnf_Values_p15) cnf_Values_p19))
abbrev cnf_Values_p22 : List AG := [o 36 (.mv (.t 34)), o 37 (.ixAddr 1 (.t 32) (.t 34)), o 38 (.load false 1 (.t 37)), o 12 (.mv (.t 36)), o 13 (.mv (.t 38))]
abbrev cnf_Values_p23 : ACode := (.seq (.reg cnf_Values_p22) (.block 2 [] cnf_Values_p21))
abbrev cnf_Values_p24 : List AG := [o 35 (.cmp .lss (.sc .int) (.t 34) (.t 33))]
abbrev cnf_Values_b13 : ACode := (.seq (.reg cnf_Values_p24) (.seq (.cond (.t 35) .skip (.exit 0)) (.seq (.block 1 [] cnf_Values_p23) (.reg cnf_Values_p14))))
abbrev cnf_Values_p25 : List AG := [o 32 (.mv (.t 2)), o 33 (.len (.t 32)), o 34 (.mv (.c (.int .i64 0)))]
abbrev cnf_Values_p26 : List AG := [o 31 (.lit 1 [(.bool false)] [(0, (.c (.bool true)))]), o 11 (.mv (.t 31))]
abbrev cnf_Values_p27 : List AG := [o 8 (.nilrow 1 t_bool), o 9 (.mv (.c (.int .i64 11)))]
abbrev cnf_Values_p28 : ACode := (.seq (.reg cnf_Values_p27) .ret)
abbrev cnf_Values_p29 : List AG := [o 26 (.mv (.t 2)), o 27 (.len (.t 26)), o 28 (.mv (.t 1)), o 29 (.len (.t 28)), o 30 (.cmp .neq (.sc .int) (.t 27) (.t 29))]
abbrev cnf_Values_p30 : List AG := [o 25 (.mv (.t 10)), o 8 (.nilrow 1 t_bool), o 9 (.mv (.t 25))]
abbrev cnf_Values_p31 : ACode := (.seq (.reg cnf_Values_p30) .ret)
abbrev cnf_Values_p32 : List AG := [o 23 (.mv (.t 10)), o 24 (.cmp .neq (.sc .int) (.t 23) (.c (.int .i64 0)))]
abbrev cnf_Values_p33 : List AG := [o 18 (.load true 5 (.t 4)), o 19 (.mv (.t 1)), o 20 (.mv (.t 3)), o 21 (.len (.t 20)), o 22 (.call (.f n_cnf_can) [(.t 18), (.t 19), (.t 21)]), o 10 (.mv (.t 22))]
abbrev cnf_Values_p34 : List AG := [o 4 (.box 5 (.t 0)), o 8 (.nilrow 1 t_bool), o 9 (.mv (.c (.int .i64 0)))]
abbrev cnf_Values : AFun := ⟨(.seq (.reg cnf_Values_p34) (.seq (.seq (.reg cnf_Values_p33) (.seq (.reg cnf_Values_p32) (.cond (.t 24) cnf_Values_p31 .skip))) (.seq (.seq (.reg cnf_Values_p29) (.cond (.t 30) cnf_Values_p28 .skip)) (.seq (.reg cnf_Values_p26) (.seq (.seq (.reg cnf_Values_p25) (.block 0 cnf_Values_x13 (.loop cnf_Values_m13 cnf_Values_b13))) (.seq (.seq (.reg cnf_Values_p12) (.block 3 cnf_Values_x1 (.loop cnf_Values_m1 cnf_Values_b1))) (.seq (.reg cnf_Values_p0) .ret))))))), 96, [.tmp 8, .tmp 9]⟩
abbrev cnf_Values_k1 : List It := [.code (.seq (.reg cnf_Values_p0) .ret)]
abbrev cnf_Values_L1 (x2 x4 x11 x58 x59 x60 : AV) (h : List Ob) (e : Cx := cx) : Cfg := atC n_cnf_Values (.code cnf_Values_b1 :: .inLoop cnf_Values_m1 cnf_Values_b1 :: .inBlock 3 cnf_Values_x1 :: cnf_Values_k1) [U,U,x2,U,x4,U,U,U,U,U,U,x11,U,U,U,U,U,U,U,U,U,U,U,U,U,U,U,U,U,U,U,U,U,U,U,U,U,U,U,U,U,U,U,U,U,U,U,U,U,U,U,U,U,U,U,U,U,U,x58,x59,x60,U,U,U,U,U,U,U,U,U,U,U,U,U,U,U,U,U,U,U,U,U,U,U,U,U,U,U,U,U,U,U,U,U,U,U] h e
abbrev cnf_Values_E1 (x11 : AV) (h : List Ob) (e : Cx := cx) : Cfg := atC n_cnf_Values cnf_Values_k1 [U,U,U,U,U,U,U,U,U,U,U,x11,U,U,U,U,U,U,U,U,U,U,U,U,U,U,U,U,U,U,U,U,U,U,U,U,U,U,U,U,U,U,U,U,U,U,U,U,U,U,U,U,U,U,U,U,U,U,U,U,U,U,U,U,U,U,U,U,U,U,U,U,U,U,U,U,U,U,U,U,U,U,U,U,U,U,U,U,U,U,U,U,U,U,U,U] h e
abbrev cnf_Values_k13 : List It := [.code (.seq (.seq (.reg cnf_Values_p12) (.block 3 cnf_Values_x1 (.loop cnf_Values_m1 cnf_Values_b1))) (.seq (.reg cnf_Values_p0) .ret))]
abbrev cnf_Values_L13 (x1 x2 x3 x4 x11 x32 x33 x34 : AV) (h : List Ob) (e : Cx := cx) : Cfg := atC n_cnf_Values (.code cnf_Values_b13 :: .inLoop cnf_Values_m13 cnf_Values_b13 :: .inBlock 0 cnf_Values_x13 :: cnf_Values_k13) [U,x1,x2,x3,x4,U,U,U,U,U,U,x11,U,U,U,U,U,U,U,U,U,U,U,U,U,U,U,U,U,U,U,U,x32,x33,x34,U,U,U,U,U,U,U,U,U,U,U,U,U,U,U,U,U,U,U,U,U,U,U,U,U,U,U,U,U,U,U,U,U,U,U,U,U,U,U,U,U,U,U,U,U,U,U,U,U,U,U,U,U,U,U,U,U,U,U,U,U] h e
abbrev cnf_Values_E13 (x2 x3 x4 x11 : AV) (h : List Ob) (e : Cx := cx) : Cfg := atC n_cnf_Values cnf_Values_k13 [U,U,x2,x3,x4,U,U,U,U,U,U,x11,U,U,U,U,U,U,U,U,U,U,U,U,U,U,U,U,U,U,U,U,U,U,U,U,U,U,U,U,U,U,U,U,U,U,U,U,U,U,U,U,U,U,U,U,U,U,U,U,U,U,U,U,U,U,U,U,U,U,U,U,U,U,U,U,U,U,U,U,U,U,U,U,U,U,U,U,U,U,U,U,U,U,U,U] h e
@[simp] theorem c_cnf_Values : cfun Try.prog n_cnf_Values = some cnf_Values := by kernel_rfl
@[simp] theorem e_cnf_Values : hasBody Try.prog n_cnf_Values = true := by kernel_rfl

/- r19_Values: patchbay/patchbayref19.Values -/
abbrev r19_Values_p0 : List AG := [o 110 (.mv (.t 11)), o 8 (.mv (.t 110)), o 9 (.mv (.c (.int .i64 0)))]
abbrev r19_Values_m1 : List Bool := [O,O,I,I,I,O,O,O,O,O,O,I,O,I,O,O,O,O,O,O,O,O,O,O,O,O,O,O,O,O,O,O,O,O,O,O,O,O,O,O,O,O,O,O,O,O,O,O,O,O,O,O,O,O,O,O,O,O,O,O,O,O,O,O,O,O,O,O,O,O,O,O,O,O,O,O,O,O,O,O,O,O,O,O,O,O,O,O,O,O,O,O,O,O,O,O,O,O,O,O,O,O,O,O,O,O,O,O,O,O,O]
abbrev r19_Values_x1 : List Bool := [O,O,O,O,O,O,O,O,O,O,O,I,O,O,O,O,O,O,O,O,O,O,O,O,O,O,O,O,O,O,O,O,O,O,O,O,O,O,O,O,O,O,O,O,O,O,O,O,O,O,O,O,O,O,O,O,O,O,O,O,O,O,O,O,O,O,O,O,O,O,O,O,O,O,O,O,O,O,O,O,O,O,O,O,O,O,O,O,O,O,O,O,O,O,O,O,O,O,O,O,O,O,O,O,O,O,O,O,O,O,O]
abbrev r19_Values_p2 : List AG := [o 65 (.mv (.t 13)), o 66 (.ibin .add (.t 65) (.c (.int .i64 1))), o 13 (.mv (.t 66))]
abbrev r19_Values_p3 : List AG := [o 109 (.mv (.t 16)), o 2 (.mv (.t 109))]
abbrev r19_Values_m4 : List Bool := [O,O,O,I,I,O,O,O,O,O,O,I,O,I,I,O,I,I,O,O,O,O,O,O,O,O,O,O,O,O,O,O,O,O,O,O,O,O,O,O,O,O,O,O,O,O,O,O,O,O,O,O,O,O,O,O,O,O,O,O,O,O,O,O,O,O,O,O,O,O,O,O,O,O,O,O,O,O,O,O,O,O,O,O,O,O,O,O,O,O,O,O,O,O,O,O,O,O,O,O,O,O,O,O,O,O,O,O,O,O,O]
abbrev r19_Values_x4 : List Bool := [O,O,O,I,I,O,O,O,O,O,O,I,O,I,O,O,I,O,O,O,O,O,O,O,O,O,O,O,O,O,O,O,O,O,O,O,O,O,O,O,O,O,O,O,O,O,O,O,O,O,O,O,O,O,O,O,O,O,O,O,O,O,O,O,O,O,O,O,O,O,O,O,O,O,O,O,O,O,O,O,O,O,O,O,O,O,O,O,O,O,O,O,O,O,O,O,O,O,O,O,O,O,O,O,O,O,O,O,O,O,O]
abbrev r19_Values_p5 : List AG := [o 97 (.mv (.t 17)), o 98 (.ibin .add (.t 97) (.c (.int .i64 1))), o 17 (.mv (.t 98))]
abbrev r19_Values_p6 : List AG := [o 99 (.mv (.t 16)), o 100 (.mv (.t 14)), o 101 (.off 1 (.t 4)), o 102 (.load false 1 (.t 101)), o 103 (.mv (.t 17)), o 104 (.ixAddr 1 (.t 102) (.t 103)), o 105 (.load false 1 (.t 104)), o 106 (.call (.f n_r09_Lit) [(.t 100), (.t 105)]), o 107 (.lit 1 [(.bool false)] [(0, (.t 106))]), o 108 (.append 1 t_bool 1 (.t 99) (.t 107)), o 16 (.mv (.t 108))]
abbrev r19_Values_p7 : List AG := [o 92 (.mv (.t 17)), o 93 (.off 1 (.t 4)), o 94 (.load false 1 (.t 93)), o 95 (.len (.t 94)), o 96 (.cmp .lss (.sc .int) (.t 92) (.t 95))]
abbrev r19_Values_b4 : ACode := (.seq (.seq (.reg r19_Values_p7) (.cond (.t 96) .skip (.exit 4))) (.seq (.block 5 [] (.reg r19_Values_p6)) (.reg r19_Values_p5)))
abbrev r19_Values_p8 : List AG := [o 17 (.mv (.c (.int .i64 0)))]
abbrev r19_Values_p9 : List AG := [o 16 (.nilrow 1 t_bool)]
abbrev r19_Values_p10 : List AG := [o 86 (.mv (.t 11)), o 87 (.mv (.t 14)), o 88 (.load true 5 (.t 4)), o 89 (.call (.f n_r09_First) [(.t 88)]), o 90 (.slice 1 (.t 87) (some (.t 89)) none), o 91 (.append 1 t_bool 1 (.t 86) (.t 90)), o 11 (.mv (.t 91))]
abbrev r19_Values_p11 : List AG := [o 80 (.mv (.t 11)), o 81 (.mv (.t 3)), o 82 (.mv (.t 13)), o 83 (.ixAddr 1 (.t 81) (.t 82)), o 84 (.load false 1 (.t 83)), o 85 (.append 1 t_bool 1 (.t 80) (.t 84)), o 11 (.mv (.t 85))]
abbrev r19_Values_p12 : List AG := [o 79 (.mv (.t 15)), o 8 (.nilrow 1 t_bool), o 9 (.mv (.t 79))]
abbrev r19_Values_p13 : ACode := (.seq (.reg r19_Values_p12) .ret)
abbrev r19_Values_p14 : List AG := [o 77 (.mv (.t 15)), o 78 (.cmp .neq (.sc .int) (.t 77) (.c (.int .i64 0)))]
abbrev r19_Values_p15 : List AG := [o 68 (.load true 5 (.t 4)), o 69 (.mv (.t 2)), o 70 (.mv (.t 3)), o 71 (.mv (.t 13)), o 72 (.ixAddr 1 (.t 70) (.t 71)), o 73 (.load false 1 (.t 72)), o 74 (.call (.f n_r09_Values) [(.t 68), (.t 69), (.t 73)]), o 67 (.mv (.t 74)), o 75 (.extract (.t 67) 0), o 76 (.extract (.t 67) 1), o 14 (.mv (.t 75)), o 15 (.mv (.t 76))]
abbrev r19_Values_p16 : ACode := (.seq (.dreg [O,O,O,O,O,O,O,O,O,O,O,O] [7,7,7,7,7,7,13,13,13,13,13,13] r19_Values_p15) (.seq (.seq (.reg r19_Values_p14) (.cond (.t 78) r19_Values_p13 .skip)) (.seq (.reg r19_Values_p11) (.seq (.reg r19_Values_p10) (.seq (.reg r19_Values_p9) (.seq (.seq (.reg r19_Values_p8) (.block 4 r19_Values_x4 (.loop r19_Values_m4 r19_Values_b4))) (.reg r19_Values_p3)))))))
abbrev r19_Values_p17 : List AG := [o 61 (.mv (.t 13)), o 62 (.mv (.t 3)), o 63 (.len (.t 62)), o 64 (.cmp .lss (.sc .int) (.t 61) (.t 63))]
abbrev r19_Values_b1 : ACode := (.seq (.seq (.reg r19_Values_p17) (.cond (.t 64) .skip (.exit 2))) (.seq (.block 3 [] r19_Values_p16) (.reg r19_Values_p2)))
abbrev r19_Values_p18 : List AG := [o 13 (.mv (.c (.int .i64 0)))]
abbrev r19_Values_m19 : List Bool := [O,I,I,I,I,O,O,O,O,O,O,I,I,O,O,O,O,O,O,O,O,O,O,O,O,O,O,O,O,O,O,O,O,O,O,O,O,O,O,O,O,O,O,O,O,O,O,O,O,O,O,O,O,O,O,O,O,O,O,O,O,O,O,O,O,O,O,O,O,O,O,O,O,O,O,O,O,O,O,O,O,O,O,O,O,O,O,O,O,O,O,O,O,O,O,O,O,O,O,O,O,O,O,O,O,O,O,O,O,O,O]
abbrev r19_Values_x19 : List Bool := [O,O,I,I,I,O,O,O,O,O,O,I,O,O,O,O,O,O,O,O,O,O,O,O,O,O,O,O,O,O,O,O,O,O,O,O,O,O,O,O,O,O,O,O,O,O,O,O,O,O,O,O,O,O,O,O,O,O,O,O,O,O,O,O,O,O,O,O,O,O,O,O,O,O,O,O,O,O,O,O,O,O,O,O,O,O,O,O,O,O,O,O,O,O,O,O,O,O,O,O,O,O,O,O,O,O,O,O,O,O,O]
abbrev r19_Values_p20 : List AG := [o 37 (.mv (.t 12)), o 38 (.ibin .add (.t 37) (.c (.int .i64 1))), o 12 (.mv (.t 38))]
abbrev r19_Values_p21 : List AG := [o 44 (.mv (.t 11)), o 45 (.mv (.t 2)), o 46 (.mv (.t 12)), o 47 (.ixAddr 1 (.t 45) (.t 46)), o 48 (.load false 1 (.t 47)), o 49 (.lit 1 [(.bool false)] [(0, (.t 48))]), o 50 (.append 1 t_bool 1 (.t 44) (.t 49)), o 11 (.mv (.t 50))]
abbrev r19_Values_p22 : List AG := [o 8 (.nilrow 1 t_bool), o 9 (.mv (.c (.int .i64 11)))]
abbrev r19_Values_p23 : ACode := (.seq (.reg r19_Values_p22) .ret)
abbrev r19_Values_p24 : List AG := [o 51 (.mv (.t 2)), o 52 (.mv (.t 12)), o 53 (.ixAddr 1 (.t 51) (.t 52)), o 54 (.load false 1 (.t 53)), o 55 (.mv (.t 1)), o 56 (.mv (.t 12)), o 57 (.ixAddr 1 (.t 55) (.t 56)), o 58 (.load false 1 (.t 57)), o 59 (.cmp .eql (.sc .int) (.t 58) (.c (.int .i64 1))), o 60 (.cmp .neq (.sc .bool) (.t 54) (.t 59))]
abbrev r19_Values_p25 : ACode := (.seq (.dreg [O,O,O,O,O,O,O,O,O,O] [11,11,11,11,11,11,11,11,11,11] r19_Values_p24) (.cond (.t 60) r19_Values_p23 .skip))
abbrev r19_Values_p26 : List AG := [o 39 (.mv (.t 1)), o 40 (.mv (.t 12)), o 41 (.ixAddr 1 (.t 39) (.t 40)), o 42 (.load false 1 (.t 41)), o 43 (.cmp .eql (.sc .int) (.t 42) (.c (.int .i64 2)))]
abbrev r19_Values_p27 : ACode := (.seq (.reg r19_Values_p26) (.cond (.t 43) (.reg r19_Values_p21) r19_Values_p25))
abbrev r19_Values_p28 : List AG := [o 33 (.mv (.t 12)), o 34 (.mv (.t 2)), o 35 (.len (.t 34)), o 36 (.cmp .lss (.sc .int) (.t 33) (.t 35))]
abbrev r19_Values_b19 : ACode := (.seq (.seq (.reg r19_Values_p28) (.cond (.t 36) .skip (.exit 0))) (.seq (.block 1 [] r19_Values_p27) (.reg r19_Values_p20)))
abbrev r19_Values_p29 : List AG := [o 12 (.mv (.c (.int .i64 0)))]
abbrev r19_Values_p30 : List AG := [o 32 (.lit 1 [(.bool false)] [(0, (.c (.bool true)))]), o 11 (.mv (.t 32))]
abbrev r19_Values_p31 : List AG := [o 8 (.nilrow 1 t_bool), o 9 (.mv (.c (.int .i64 11)))]
abbrev r19_Values_p32 : ACode := (.seq (.reg r19_Values_p31) .ret)
abbrev r19_Values_p33 : List AG := [o 26 (.mv (.t 2)), o 27 (.len (.t 26)), o 28 (.off 1 (.t 4)), o 29 (.load false 1 (.t 28)), o 30 (.len (.t 29)), o 31 (.cmp .neq (.sc .int) (.t 27) (.t 30))]
abbrev r19_Values_p34 : List AG := [o 25 (.mv (.t 10)), o 8 (.nilrow 1 t_bool), o 9 (.mv (.t 25))]
abbrev r19_Values_p35 : ACode := (.seq (.reg r19_Values_p34) .ret)
abbrev r19_Values_p36 : List AG := [o 23 (.mv (.t 10)), o 24 (.cmp .neq (.sc .int) (.t 23) (.c (.int .i64 0)))]
abbrev r19_Values_p37 : List AG := [o 18 (.load true 5 (.t 4)), o 19 (.mv (.t 1)), o 20 (.mv (.t 3)), o 21 (.len (.t 20)), o 22 (.call (.f n_r19_can) [(.t 18), (.t 19), (.t 21)]), o 10 (.mv (.t 22))]
abbrev r19_Values_p38 : List AG := [o 4 (.box 5 (.t 0)), o 8 (.nilrow 1 t_bool), o 9 (.mv (.c (.int .i64 0)))]
abbrev r19_Values : AFun := ⟨(.seq (.reg r19_Values_p38) (.seq (.reg r19_Values_p37) (.seq (.seq (.reg r19_Values_p36) (.cond (.t 24) r19_Values_p35 .skip)) (.seq (.seq (.reg r19_Values_p33) (.cond (.t 31) r19_Values_p32 .skip)) (.seq (.reg r19_Values_p30) (.seq (.seq (.reg r19_Values_p29) (.block 0 r19_Values_x19 (.loop r19_Values_m19 r19_Values_b19))) (.seq (.seq (.reg r19_Values_p18) (.block 2 r19_Values_x1 (.loop r19_Values_m1 r19_Values_b1))) (.seq (.reg r19_Values_p0) .ret)))))))), 111, [.tmp 8, .tmp 9]⟩
abbrev r19_Values_k4 : List It := [.code (.reg r19_Values_p3), .inBlock 3 [], .code (.reg r19_Values_p2), .inLoop r19_Values_m1 r19_Values_b1, .inBlock 2 r19_Values_x1, .code (.seq (.reg r19_Values_p0) .ret)]
abbrev r19_Values_L4 (x3 x4 x11 x13 x14 x16 x17 : AV) (h : List Ob) (e : Cx := cx) : Cfg := atC n_r19_Values (.code r19_Values_b4 :: .inLoop r19_Values_m4 r19_Values_b4 :: .inBlock 4 r19_Values_x4 :: r19_Values_k4) [U,U,U,x3,x4,U,U,U,U,U,U,x11,U,x13,x14,U,x16,x17,U,U,U,U,U,U,U,U,U,U,U,U,U,U,U,U,U,U,U,U,U,U,U,U,U,U,U,U,U,U,U,U,U,U,U,U,U,U,U,U,U,U,U,U,U,U,U,U,U,U,U,U,U,U,U,U,U,U,U,U,U,U,U,U,U,U,U,U,U,U,U,U,U,U,U,U,U,U,U,U,U,U,U,U,U,U,U,U,U,U,U,U,U] h e
abbrev r19_Values_E4 (x3 x4 x11 x13 x16 : AV) (h : List Ob) (e : Cx := cx) : Cfg := atC n_r19_Values r19_Values_k4 [U,U,U,x3,x4,U,U,U,U,U,U,x11,U,x13,U,U,x16,U,U,U,U,U,U,U,U,U,U,U,U,U,U,U,U,U,U,U,U,U,U,U,U,U,U,U,U,U,U,U,U,U,U,U,U,U,U,U,U,U,U,U,U,U,U,U,U,U,U,U,U,U,U,U,U,U,U,U,U,U,U,U,U,U,U,U,U,U,U,U,U,U,U,U,U,U,U,U,U,U,U,U,U,U,U,U,U,U,U,U,U,U,U] h e
abbrev r19_Values_k1 : List It := [.code (.seq (.reg r19_Values_p0) .ret)]
abbrev r19_Values_L1 (x2 x3 x4 x11 x13 : AV) (h : List Ob) (e : Cx := cx) : Cfg := atC n_r19_Values (.code r19_Values_b1 :: .inLoop r19_Values_m1 r19_Values_b1 :: .inBlock 2 r19_Values_x1 :: r19_Values_k1) [U,U,x2,x3,x4,U,U,U,U,U,U,x11,U,x13,U,U,U,U,U,U,U,U,U,U,U,U,U,U,U,U,U,U,U,U,U,U,U,U,U,U,U,U,U,U,U,U,U,U,U,U,U,U,U,U,U,U,U,U,U,U,U,U,U,U,U,U,U,U,U,U,U,U,U,U,U,U,U,U,U,U,U,U,U,U,U,U,U,U,U,U,U,U,U,U,U,U,U,U,U,U,U,U,U,U,U,U,U,U,U,U,U] h e
abbrev r19_Values_E1 (x11 : AV) (h : List Ob) (e : Cx := cx) : Cfg := atC n_r19_Values r19_Values_k1 [U,U,U,U,U,U,U,U,U,U,U,x11,U,U,U,U,U,U,U,U,U,U,U,U,U,U,U,U,U,U,U,U,U,U,U,U,U,U,U,U,U,U,U,U,U,U,U,U,U,U,U,U,U,U,U,U,U,U,U,U,U,U,U,U,U,U,U,U,U,U,U,U,U,U,U,U,U,U,U,U,U,U,U,U,U,U,U,U,U,U,U,U,U,U,U,U,U,U,U,U,U,U,U,U,U,U,U,U,U,U,U] h e
abbrev r19_Values_k19 : List It := [.code (.seq (.seq (.reg r19_Values_p18) (.block 2 r19_Values_x1 (.loop r19_Values_m1 r19_Values_b1))) (.seq (.reg r19_Values_p0) .ret))]
abbrev r19_Values_L19 (x1 x2 x3 x4 x11 x12 : AV) (h : List Ob) (e : Cx := cx) : Cfg := atC n_r19_Values (.code r19_Values_b19 :: .inLoop r19_Values_m19 r19_Values_b19 :: .inBlock 0 r19_Values_x19 :: r19_Values_k19) [U,x1,x2,x3,x4,U,U,U,U,U,U,x11,x12,U,U,U,U,U,U,U,U,U,U,U,U,U,U,U,U,U,U,U,U,U,U,U,U,U,U,U,U,U,U,U,U,U,U,U,U,U,U,U,U,U,U,U,U,U,U,U,U,U,U,U,U,U,U,U,U,U,U,U,U,U,U,U,U,U,U,U,U,U,U,U,U,U,U,U,U,U,U,U,U,U,U,U,U,U,U,U,U,U,U,U,U,U,U,U,U,U,U] h e
abbrev r19_Values_E19 (x2 x3 x4 x11 : AV) (h : List Ob) (e : Cx := cx) : Cfg := atC n_r19_Values r19_Values_k19 [U,U,x2,x3,x4,U,U,U,U,U,U,x11,U,U,U,U,U,U,U,U,U,U,U,U,U,U,U,U,U,U,U,U,U,U,U,U,U,U,U,U,U,U,U,U,U,U,U,U,U,U,U,U,U,U,U,U,U,U,U,U,U,U,U,U,U,U,U,U,U,U,U,U,U,U,U,U,U,U,U,U,U,U,U,U,U,U,U,U,U,U,U,U,U,U,U,U,U,U,U,U,U,U,U,U,U,U,U,U,U,U,U] h e
@[simp] theorem c_r19_Values : cfun Try.prog n_r19_Values = some r19_Values := by kernel_rfl
@[simp] theorem e_r19_Values : hasBody Try.prog n_r19_Values = true := by kernel_rfl

/- r08_Bools: patchbay/patchbayref08.Bools -/
abbrev r08_Bools_p0 : List AG := [o 4 (.mv (.c (.bool true)))]
abbrev r08_Bools_m1 : List Bool := [I,I,O,O,O,I,O,O,O,O,O,O,O,O,O,O,O,O,O,O,O,O,O,O,O,O]
abbrev r08_Bools_x1 : List Bool := [O,O,O,O,O,O,O,O,O,O,O,O,O,O,O,O,O,O,O,O,O,O,O,O,O,O]
abbrev r08_Bools_p2 : List AG := [o 15 (.mv (.t 5)), o 16 (.ibin .add (.t 15) (.c (.int .i64 1))), o 5 (.mv (.t 16))]
abbrev r08_Bools_p3 : List AG := [o 4 (.mv (.c (.bool false)))]
abbrev r08_Bools_p4 : ACode := (.seq (.reg r08_Bools_p3) .ret)
abbrev r08_Bools_p5 : List AG := [o 17 (.mv (.t 0)), o 18 (.mv (.t 5)), o 19 (.ixAddr 1 (.t 17) (.t 18)), o 20 (.load false 1 (.t 19)), o 21 (.mv (.t 1)), o 22 (.mv (.t 5)), o 23 (.ixAddr 1 (.t 21) (.t 22)), o 24 (.load false 1 (.t 23)), o 25 (.cmp .neq (.sc .bool) (.t 20) (.t 24))]
abbrev r08_Bools_p6 : ACode := (.seq (.dreg [O,O,O,O,O,O,O,O,O] [10,10,10,10,10,10,10,10,10] r08_Bools_p5) (.cond (.t 25) r08_Bools_p4 .skip))
abbrev r08_Bools_p7 : List AG := [o 11 (.mv (.t 5)), o 12 (.mv (.t 0)), o 13 (.len (.t 12)), o 14 (.cmp .lss (.sc .int) (.t 11) (.t 13))]
abbrev r08_Bools_b1 : ACode := (.seq (.seq (.reg r08_Bools_p7) (.cond (.t 14) .skip (.exit 0))) (.seq (.block 1 [] r08_Bools_p6) (.reg r08_Bools_p2)))
abbrev r08_Bools_p8 : List AG := [o 5 (.mv (.c (.int .i64 0)))]
abbrev r08_Bools_p9 : List AG := [o 4 (.mv (.c (.bool false)))]
abbrev r08_Bools_p10 : ACode := (.seq (.reg r08_Bools_p9) .ret)
abbrev r08_Bools_p11 : List AG := [o 6 (.mv (.t 0)), o 7 (.len (.t 6)), o 8 (.mv (.t 1)), o 9 (.len (.t 8)), o 10 (.cmp .neq (.sc .int) (.t 7) (.t 9))]
abbrev r08_Bools_p12 : List AG := [o 4 (.mv (.c (.bool false)))]
abbrev r08_Bools : AFun := ⟨(.seq (.reg r08_Bools_p12) (.seq (.seq (.reg r08_Bools_p11) (.cond (.t 10) r08_Bools_p10 .skip)) (.seq (.seq (.reg r08_Bools_p8) (.block 0 r08_Bools_x1 (.loop r08_Bools_m1 r08_Bools_b1))) (.seq (.reg r08_Bools_p0) .ret)))), 26, [.tmp 4]⟩
abbrev r08_Bools_k1 : List It := [.code (.seq (.reg r08_Bools_p0) .ret)]
abbrev r08_Bools_L1 (x0 x1 x5 : AV) (h : List Ob) (e : Cx := cx) : Cfg := atC n_r08_Bools (.code r08_Bools_b1 :: .inLoop r08_Bools_m1 r08_Bools_b1 :: .inBlock 0 r08_Bools_x1 :: r08_Bools_k1) [x0,x1,U,U,U,x5,U,U,U,U,U,U,U,U,U,U,U,U,U,U,U,U,U,U,U,U] h e
abbrev r08_Bools_E1 (h : List Ob) (e : Cx := cx) : Cfg := atC n_r08_Bools r08_Bools_k1 [U,U,U,U,U,U,U,U,U,U,U,U,U,U,U,U,U,U,U,U,U,U,U,U,U,U] h e
@[simp] theorem c_r08_Bools : cfun Try.prog n_r08_Bools = some r08_Bools := by kernel_rfl
@[simp] theorem e_r08_Bools : hasBody Try.prog n_r08_Bools = true := by kernel_rfl

/- aig_Values: patchbay/aig.Values -/
abbrev aig_Values_p0 : List AG := [o 56 (.mv (.t 9)), o 6 (.mv (.t 56)), o 7 (.mv (.c (.int .i64 0)))]
abbrev aig_Values_m1 : List Bool := [O,O,O,O,O,O,O,O,O,I,O,O,O,O,O,O,O,O,O,O,O,O,O,O,O,O,O,O,O,O,O,O,O,O,O,O,I,I,I,O,O,O,O,O,O,O,O,O,O,O,O,O,O,O,O,O,O]
abbrev aig_Values_x1 : List Bool := [O,O,O,O,O,O,O,O,O,I,O,O,O,O,O,O,O,O,O,O,O,O,O,O,O,O,O,O,O,O,O,O,O,O,O,O,O,O,O,O,O,O,O,O,O,O,O,O,O,O,O,O,O,O,O,O,O]
abbrev aig_Values_p2 : List AG := [o 55 (.ibin .add (.t 38) (.c (.int .i64 1))), o 38 (.mv (.t 55))]
abbrev aig_Values_p3 : List AG := [o 42 (.mv (.t 9)), o 43 (.mv (.t 9)), o 44 (.arrAddr 2 1 (.t 11) (.c (.int .i64 0))), o 45 (.load false 1 (.t 44)), o 46 (.call (.f n_aig_value) [(.t 43), (.t 45)]), o 47 (.mv (.t 46)), oy 48 47 (.mv (.t 9)), oy 49 47 (.arrAddr 2 1 (.t 11) (.c (.int .i64 1))), oy 50 47 (.load false 1 (.t 49)), oy 51 47 (.call (.f n_aig_value) [(.t 48), (.t 50)]), o 52 (.pick (.t 47) (.t 51) (.c (.bool false))), o 53 (.lit 1 [(.bool false)] [(0, (.t 52))]), o 54 (.append 1 t_bool 1 (.t 42) (.t 53)), o 9 (.mv (.t 54))]
abbrev aig_Values_p4 : List AG := [o 40 (.ixAddr 2 (.t 36) (.t 38)), o 41 (.load true 2 (.t 40)), o 11 (.alloc [(.int .i64 0), (.int .i64 0)]), q (.store 2 (.t 11) (.t 41))]
abbrev aig_Values_p5 : ACode := (.seq (.reg aig_Values_p4) (.reg aig_Values_p3))
abbrev aig_Values_p6 : List AG := [o 39 (.cmp .lss (.sc .int) (.t 38) (.t 37))]
abbrev aig_Values_b1 : ACode := (.seq (.reg aig_Values_p6) (.seq (.cond (.t 39) .skip (.exit 0)) (.seq (.block 1 [] aig_Values_p5) (.reg aig_Values_p2))))
abbrev aig_Values_p7 : List AG := [o 35 (.off 3 (.t 3)), o 36 (.load false 1 (.t 35)), o 37 (.len (.t 36)), o 38 (.mv (.c (.int .i64 0)))]
abbrev aig_Values_p8 : List AG := [o 30 (.lit 1 [(.bool false)] [(0, (.c (.bool false)))]), o 31 (.mv (.t 2)), o 32 (.mv (.t 1)), o 33 (.lit 1 [(.list true 0 []), (.list true 0 []), (.list true 0 [])] [(0, (.t 30)), (1, (.t 31)), (2, (.t 32))]), o 34 (.call (.f n_slices_Concat_bool_bool) [(.t 33)]), o 9 (.mv (.t 34))]
abbrev aig_Values_p9 : List AG := [o 6 (.nilrow 1 t_bool), o 7 (.mv (.c (.int .i64 11)))]
abbrev aig_Values_p10 : ACode := (.seq (.reg aig_Values_p9) .ret)
abbrev aig_Values_p11 : List AG := [o 17 (.mv (.t 1)), o 18 (.len (.t 17)), o 19 (.off 1 (.t 3)), o 20 (.load false 1 (.t 19)), o 21 (.len (.t 20)), o 22 (.cmp .neq (.sc .int) (.t 18) (.t 21)), o 23 (.mv (.t 22)), on 24 23 (.mv (.t 2)), on 25 23 (.len (.t 24)), on 26 23 (.off 0 (.t 3)), on 27 23 (.load false 1 (.t 26)), on 28 23 (.cmp .neq (.sc .int) (.t 25) (.t 27)), o 29 (.pick (.t 23) (.c (.bool true)) (.t 28))]
abbrev aig_Values_p12 : List AG := [o 16 (.mv (.t 8)), o 6 (.nilrow 1 t_bool), o 7 (.mv (.t 16))]
abbrev aig_Values_p13 : ACode := (.seq (.reg aig_Values_p12) .ret)
abbrev aig_Values_p14 : List AG := [o 14 (.mv (.t 8)), o 15 (.cmp .neq (.sc .int) (.t 14) (.c (.int .i64 0)))]
abbrev aig_Values_p15 : List AG := [o 12 (.load true 5 (.t 3)), o 13 (.call (.f n_aig_Check) [(.t 12)]), o 8 (.mv (.t 13))]
abbrev aig_Values_p16 : List AG := [o 3 (.box 5 (.t 0)), o 6 (.nilrow 1 t_bool), o 7 (.mv (.c (.int .i64 0)))]
abbrev aig_Values : AFun := ⟨(.seq (.reg aig_Values_p16) (.seq (.seq (.reg aig_Values_p15) (.seq (.reg aig_Values_p14) (.cond (.t 15) aig_Values_p13 .skip))) (.seq (.seq (.reg aig_Values_p11) (.cond (.t 29) aig_Values_p10 .skip)) (.seq (.reg aig_Values_p8) (.seq (.seq (.reg aig_Values_p7) (.block 0 aig_Values_x1 (.loop aig_Values_m1 aig_Values_b1))) (.seq (.reg aig_Values_p0) .ret)))))), 57, [.tmp 6, .tmp 7]⟩
abbrev aig_Values_k1 : List It := [.code (.seq (.reg aig_Values_p0) .ret)]
abbrev aig_Values_L1 (x9 x36 x37 x38 : AV) (h : List Ob) (e : Cx := cx) : Cfg := atC n_aig_Values (.code aig_Values_b1 :: .inLoop aig_Values_m1 aig_Values_b1 :: .inBlock 0 aig_Values_x1 :: aig_Values_k1) [U,U,U,U,U,U,U,U,U,x9,U,U,U,U,U,U,U,U,U,U,U,U,U,U,U,U,U,U,U,U,U,U,U,U,U,U,x36,x37,x38,U,U,U,U,U,U,U,U,U,U,U,U,U,U,U,U,U,U] h e
abbrev aig_Values_E1 (x9 : AV) (h : List Ob) (e : Cx := cx) : Cfg := atC n_aig_Values aig_Values_k1 [U,U,U,U,U,U,U,U,U,x9,U,U,U,U,U,U,U,U,U,U,U,U,U,U,U,U,U,U,U,U,U,U,U,U,U,U,U,U,U,U,U,U,U,U,U,U,U,U,U,U,U,U,U,U,U,U,U] h e
@[simp] theorem c_aig_Values : cfun Try.prog n_aig_Values = some aig_Values := by kernel_rfl
@[simp] theorem e_aig_Values : hasBody Try.prog n_aig_Values = true := by kernel_rfl

/- r19_Holds: patchbay/patchbayref19.Holds -/
abbrev r19_Holds_p0 : List AG := [o 14 (.mv (.t 1)), o 15 (.mv (.t 0)), o 16 (.ibin .sub (.t 15) (.c (.int .i64 1))), o 17 (.ixAddr 1 (.t 14) (.t 16)), o 18 (.load false 1 (.t 17)), o 4 (.mv (.t 18))]
abbrev r19_Holds_p1 : List AG := [o 7 (.mv (.t 1)), o 8 (.mv (.t 0)), o 9 (.neg (.t 8)), o 10 (.ibin .sub (.t 9) (.c (.int .i64 1))), o 11 (.ixAddr 1 (.t 7) (.t 10)), o 12 (.load false 1 (.t 11)), o 13 (.not (.t 12)), o 4 (.mv (.t 13))]
abbrev r19_Holds_p2 : ACode := (.seq (.reg r19_Holds_p1) .ret)
abbrev r19_Holds_p3 : List AG := [o 5 (.mv (.t 0)), o 6 (.cmp .lss (.sc .int) (.t 5) (.c (.int .i64 0)))]
abbrev r19_Holds_p4 : List AG := [o 4 (.mv (.c (.bool false)))]
abbrev r19_Holds : AFun := ⟨(.seq (.reg r19_Holds_p4) (.seq (.seq (.reg r19_Holds_p3) (.cond (.t 6) r19_Holds_p2 .skip)) (.seq (.reg r19_Holds_p0) .ret))), 19, [.tmp 4]⟩
@[simp] theorem c_r19_Holds : cfun Try.prog n_r19_Holds = some r19_Holds := by kernel_rfl
@[simp] theorem e_r19_Holds : hasBody Try.prog n_r19_Holds = true := by kernel_rfl

/- aig_Step: patchbay/aig.Step -/
abbrev aig_Step_p0 : List AG := [o 23 (.mv (.t 11)), o 24 (.off 4 (.t 3)), o 25 (.load false 1 (.t 24)), o 26 (.call (.t 23) [(.t 25)]), o 27 (.mv (.t 11)), o 28 (.off 1 (.t 3)), o 29 (.load false 1 (.t 28)), o 30 (.call (.t 27) [(.t 29)]), o 6 (.mv (.t 26)), o 7 (.mv (.t 30)), o 8 (.mv (.c (.int .i64 0)))]
abbrev aig_Step_p1 : List AG := [o 22 (.mkFunc (.func n_aig_Step_1) [] [(.t 9)]), o 11 (.mv (.t 22))]
abbrev aig_Step_p2 : List AG := [o 21 (.mv (.t 10)), o 6 (.nilrow 1 t_bool), o 7 (.nilrow 1 t_bool), o 8 (.mv (.t 21))]
abbrev aig_Step_p3 : ACode := (.seq (.reg aig_Step_p2) .ret)
abbrev aig_Step_p4 : List AG := [o 19 (.mv (.t 10)), o 20 (.cmp .neq (.sc .int) (.t 19) (.c (.int .i64 0)))]
abbrev aig_Step_p5 : List AG := [o 13 (.load true 5 (.t 3)), o 14 (.mv (.t 1)), o 15 (.mv (.t 2)), o 16 (.call (.f n_aig_Values) [(.t 13), (.t 14), (.t 15)]), o 12 (.mv (.t 16)), o 17 (.extract (.t 12) 0), o 18 (.extract (.t 12) 1), o 9 (.alloc [(.own 1 t_bool [])]), q (.store 1 (.t 9) (.t 17)), o 10 (.mv (.t 18))]
abbrev aig_Step_p6 : List AG := [o 3 (.box 5 (.t 0)), o 6 (.nilrow 1 t_bool), o 7 (.nilrow 1 t_bool), o 8 (.mv (.c (.int .i64 0)))]
abbrev aig_Step : AFun := ⟨(.seq (.reg aig_Step_p6) (.seq (.reg aig_Step_p5) (.seq (.seq (.reg aig_Step_p4) (.cond (.t 20) aig_Step_p3 .skip)) (.seq (.reg aig_Step_p1) (.seq (.dreg [O,O,O,O,O,O,I,O,O,O,O] [4,4,4,8,8,8,8,12,12,12,12] aig_Step_p0) .ret))))), 31, [.tmp 6, .tmp 7, .tmp 8]⟩
@[simp] theorem c_aig_Step : cfun Try.prog n_aig_Step = some aig_Step := by kernel_rfl
@[simp] theorem e_aig_Step : hasBody Try.prog n_aig_Step = true := by kernel_rfl

/- r09_First: patchbay/patchbayref09.First -/
abbrev r09_First_p0 : List AG := [o 3 (.off 0 (.t 1)), o 4 (.load false 1 (.t 3)), o 5 (.ibin .add (.c (.int .i64 1)) (.t 4)), o 6 (.off 1 (.t 1)), o 7 (.load false 1 (.t 6)), o 8 (.len (.t 7)), o 9 (.ibin .add (.t 5) (.t 8)), o 2 (.mv (.t 9))]
abbrev r09_First_p1 : List AG := [o 1 (.box 5 (.t 0)), o 2 (.mv (.c (.int .i64 0)))]
abbrev r09_First : AFun := ⟨(.seq (.reg r09_First_p1) (.seq (.reg r09_First_p0) .ret)), 10, [.tmp 2]⟩
@[simp] theorem c_r09_First : cfun Try.prog n_r09_First = some r09_First := by kernel_rfl
@[simp] theorem e_r09_First : hasBody Try.prog n_r09_First = true := by kernel_rfl

/- r01_Ints: patchbay/patchbayref01.Ints -/
abbrev r01_Ints_p0 : List AG := [o 4 (.mv (.c (.bool true)))]
abbrev r01_Ints_m1 : List Bool := [I,I,O,O,O,I,O,O,O,O,O,O,O,O,O,O,O,O,O,O,O,O,O,O,O,O]
abbrev r01_Ints_x1 : List Bool := [O,O,O,O,O,O,O,O,O,O,O,O,O,O,O,O,O,O,O,O,O,O,O,O,O,O]
abbrev r01_Ints_p2 : List AG := [o 15 (.mv (.t 5)), o 16 (.ibin .add (.t 15) (.c (.int .i64 1))), o 5 (.mv (.t 16))]
abbrev r01_Ints_p3 : List AG := [o 4 (.mv (.c (.bool false)))]
abbrev r01_Ints_p4 : ACode := (.seq (.reg r01_Ints_p3) .ret)
abbrev r01_Ints_p5 : List AG := [o 17 (.mv (.t 0)), o 18 (.mv (.t 5)), o 19 (.ixAddr 1 (.t 17) (.t 18)), o 20 (.load false 1 (.t 19)), o 21 (.mv (.t 1)), o 22 (.mv (.t 5)), o 23 (.ixAddr 1 (.t 21) (.t 22)), o 24 (.load false 1 (.t 23)), o 25 (.cmp .neq (.sc .int) (.t 20) (.t 24))]
abbrev r01_Ints_p6 : ACode := (.seq (.dreg [O,O,O,O,O,O,O,O,O] [10,10,10,10,10,10,10,10,10] r01_Ints_p5) (.cond (.t 25) r01_Ints_p4 .skip))
abbrev r01_Ints_p7 : List AG := [o 11 (.mv (.t 5)), o 12 (.mv (.t 0)), o 13 (.len (.t 12)), o 14 (.cmp .lss (.sc .int) (.t 11) (.t 13))]
abbrev r01_Ints_b1 : ACode := (.seq (.seq (.reg r01_Ints_p7) (.cond (.t 14) .skip (.exit 0))) (.seq (.block 1 [] r01_Ints_p6) (.reg r01_Ints_p2)))
abbrev r01_Ints_p8 : List AG := [o 5 (.mv (.c (.int .i64 0)))]
abbrev r01_Ints_p9 : List AG := [o 4 (.mv (.c (.bool false)))]
abbrev r01_Ints_p10 : ACode := (.seq (.reg r01_Ints_p9) .ret)
abbrev r01_Ints_p11 : List AG := [o 6 (.mv (.t 0)), o 7 (.len (.t 6)), o 8 (.mv (.t 1)), o 9 (.len (.t 8)), o 10 (.cmp .neq (.sc .int) (.t 7) (.t 9))]
abbrev r01_Ints_p12 : List AG := [o 4 (.mv (.c (.bool false)))]
abbrev r01_Ints : AFun := ⟨(.seq (.reg r01_Ints_p12) (.seq (.seq (.reg r01_Ints_p11) (.cond (.t 10) r01_Ints_p10 .skip)) (.seq (.seq (.reg r01_Ints_p8) (.block 0 r01_Ints_x1 (.loop r01_Ints_m1 r01_Ints_b1))) (.seq (.reg r01_Ints_p0) .ret)))), 26, [.tmp 4]⟩
abbrev r01_Ints_k1 : List It := [.code (.seq (.reg r01_Ints_p0) .ret)]
abbrev r01_Ints_L1 (x0 x1 x5 : AV) (h : List Ob) (e : Cx := cx) : Cfg := atC n_r01_Ints (.code r01_Ints_b1 :: .inLoop r01_Ints_m1 r01_Ints_b1 :: .inBlock 0 r01_Ints_x1 :: r01_Ints_k1) [x0,x1,U,U,U,x5,U,U,U,U,U,U,U,U,U,U,U,U,U,U,U,U,U,U,U,U] h e
abbrev r01_Ints_E1 (h : List Ob) (e : Cx := cx) : Cfg := atC n_r01_Ints r01_Ints_k1 [U,U,U,U,U,U,U,U,U,U,U,U,U,U,U,U,U,U,U,U,U,U,U,U,U,U] h e
@[simp] theorem c_r01_Ints : cfun Try.prog n_r01_Ints = some r01_Ints := by kernel_rfl
@[simp] theorem e_r01_Ints : hasBody Try.prog n_r01_Ints = true := by kernel_rfl

/- r19_Clauses: patchbay/patchbayref19.Clauses -/
abbrev r19_Clauses_p0 : List AG := [o 4 (.mv (.c (.bool true)))]
abbrev r19_Clauses_m1 : List Bool := [I,I,O,O,O,I,O,O,O,O,O,O,O,O,O,O,O,O,O,O,O,O,O,O,O,O,O]
abbrev r19_Clauses_x1 : List Bool := [O,O,O,O,O,O,O,O,O,O,O,O,O,O,O,O,O,O,O,O,O,O,O,O,O,O,O]
abbrev r19_Clauses_p2 : List AG := [o 15 (.mv (.t 5)), o 16 (.ibin .add (.t 15) (.c (.int .i64 1))), o 5 (.mv (.t 16))]
abbrev r19_Clauses_p3 : List AG := [o 4 (.mv (.c (.bool false)))]
abbrev r19_Clauses_p4 : ACode := (.seq (.reg r19_Clauses_p3) .ret)
abbrev r19_Clauses_p5 : List AG := [o 17 (.mv (.t 0)), o 18 (.mv (.t 5)), o 19 (.ixAddr 1 (.t 17) (.t 18)), o 20 (.load false 1 (.t 19)), o 21 (.mv (.t 1)), o 22 (.mv (.t 5)), o 23 (.ixAddr 1 (.t 21) (.t 22)), o 24 (.load false 1 (.t 23)), o 25 (.call (.f n_r01_Ints) [(.t 20), (.t 24)]), o 26 (.not (.t 25))]
abbrev r19_Clauses_p6 : ACode := (.seq (.dreg [O,O,O,O,O,O,O,O,O,O] [9,9,9,9,9,9,9,9,11,11] r19_Clauses_p5) (.cond (.t 26) r19_Clauses_p4 .skip))
abbrev r19_Clauses_p7 : List AG := [o 11 (.mv (.t 5)), o 12 (.mv (.t 0)), o 13 (.len (.t 12)), o 14 (.cmp .lss (.sc .int) (.t 11) (.t 13))]
abbrev r19_Clauses_b1 : ACode := (.seq (.seq (.reg r19_Clauses_p7) (.cond (.t 14) .skip (.exit 0))) (.seq (.block 1 [] r19_Clauses_p6) (.reg r19_Clauses_p2)))
abbrev r19_Clauses_p8 : List AG := [o 5 (.mv (.c (.int .i64 0)))]
abbrev r19_Clauses_p9 : List AG := [o 4 (.mv (.c (.bool false)))]
abbrev r19_Clauses_p10 : ACode := (.seq (.reg r19_Clauses_p9) .ret)
abbrev r19_Clauses_p11 : List AG := [o 6 (.mv (.t 0)), o 7 (.len (.t 6)), o 8 (.mv (.t 1)), o 9 (.len (.t 8)), o 10 (.cmp .neq (.sc .int) (.t 7) (.t 9))]
abbrev r19_Clauses_p12 : List AG := [o 4 (.mv (.c (.bool false)))]
abbrev r19_Clauses : AFun := ⟨(.seq (.reg r19_Clauses_p12) (.seq (.seq (.reg r19_Clauses_p11) (.cond (.t 10) r19_Clauses_p10 .skip)) (.seq (.seq (.reg r19_Clauses_p8) (.block 0 r19_Clauses_x1 (.loop r19_Clauses_m1 r19_Clauses_b1))) (.seq (.reg r19_Clauses_p0) .ret)))), 27, [.tmp 4]⟩
abbrev r19_Clauses_k1 : List It := [.code (.seq (.reg r19_Clauses_p0) .ret)]
abbrev r19_Clauses_L1 (x0 x1 x5 : AV) (h : List Ob) (e : Cx := cx) : Cfg := atC n_r19_Clauses (.code r19_Clauses_b1 :: .inLoop r19_Clauses_m1 r19_Clauses_b1 :: .inBlock 0 r19_Clauses_x1 :: r19_Clauses_k1) [x0,x1,U,U,U,x5,U,U,U,U,U,U,U,U,U,U,U,U,U,U,U,U,U,U,U,U,U] h e
abbrev r19_Clauses_E1 (h : List Ob) (e : Cx := cx) : Cfg := atC n_r19_Clauses r19_Clauses_k1 [U,U,U,U,U,U,U,U,U,U,U,U,U,U,U,U,U,U,U,U,U,U,U,U,U,U,U] h e
@[simp] theorem c_r19_Clauses : cfun Try.prog n_r19_Clauses = some r19_Clauses := by kernel_rfl
@[simp] theorem e_r19_Clauses : hasBody Try.prog n_r19_Clauses = true := by kernel_rfl

/- r19_Literal: patchbay/patchbayref19.Literal -/
abbrev r19_Literal_p0 : List AG := [o 5 (.mv (.t 0)), o 6 (.cmp .neq (.sc .int) (.t 5) (.c (.int .i64 0))), o 7 (.mv (.t 6)), oy 8 7 (.mv (.t 0)), oy 9 7 (.mv (.t 1)), oy 10 7 (.neg (.t 9)), oy 11 7 (.cmp .geq (.sc .int) (.t 8) (.t 10)), o 12 (.pick (.t 7) (.t 11) (.c (.bool false))), o 13 (.mv (.t 12)), oy 14 13 (.mv (.t 0)), oy 15 13 (.mv (.t 1)), oy 16 13 (.cmp .leq (.sc .int) (.t 14) (.t 15)), o 17 (.pick (.t 13) (.t 16) (.c (.bool false))), o 4 (.mv (.t 17))]
abbrev r19_Literal_p1 : List AG := [o 4 (.mv (.c (.bool false)))]
abbrev r19_Literal : AFun := ⟨(.seq (.reg r19_Literal_p1) (.seq (.reg r19_Literal_p0) .ret)), 18, [.tmp 4]⟩
@[simp] theorem c_r19_Literal : cfun Try.prog n_r19_Literal = some r19_Literal := by kernel_rfl
@[simp] theorem e_r19_Literal : hasBody Try.prog n_r19_Literal = true := by kernel_rfl

/- cnf_True_1: patchbay/cnf.True$1 -/
abbrev cnf_True_1_p0 : List AG := [o 4 (.load false 1 (.t 1)), o 5 (.mv (.t 0)), o 6 (.mv (.t 0)), o 7 (.neg (.t 6)), o 8 (.max [(.t 5), (.t 7)]), o 9 (.ibin .sub (.t 8) (.c (.int .i64 1))), o 10 (.ixAddr 1 (.t 4) (.t 9)), o 11 (.load false 1 (.t 10)), o 12 (.mv (.t 0)), o 13 (.cmp .gtr (.sc .int) (.t 12) (.c (.int .i64 0))), o 14 (.cmp .eql (.sc .bool) (.t 11) (.t 13)), o 3 (.mv (.t 14))]
abbrev cnf_True_1_p1 : List AG := [o 3 (.mv (.c (.bool false)))]
abbrev cnf_True_1 : AFun := ⟨(.seq (.reg cnf_True_1_p1) (.seq (.reg cnf_True_1_p0) .ret)), 15, [.tmp 3]⟩
@[simp] theorem c_cnf_True_1 : cfun Try.prog n_cnf_True_1 = some cnf_True_1 := by kernel_rfl
@[simp] theorem e_cnf_True_1 : hasBody Try.prog n_cnf_True_1 = true := by kernel_rfl

/- cnf_True_2: patchbay/cnf.True$2 -/
abbrev cnf_True_2_p0 : List AG := [o 4 (.mv (.t 0)), o 5 (.load false 1 (.t 1)), o 6 (.call (.f n_slices_ContainsFunc_api_Clause_int) [(.t 4), (.t 5)]), o 7 (.not (.t 6)), o 3 (.mv (.t 7))]
abbrev cnf_True_2_p1 : List AG := [o 3 (.mv (.c (.bool false)))]
abbrev cnf_True_2 : AFun := ⟨(.seq (.reg cnf_True_2_p1) (.seq (.reg cnf_True_2_p0) .ret)), 8, [.tmp 3]⟩
@[simp] theorem c_cnf_True_2 : cfun Try.prog n_cnf_True_2 = some cnf_True_2 := by kernel_rfl
@[simp] theorem e_cnf_True_2 : hasBody Try.prog n_cnf_True_2 = true := by kernel_rfl

/- slices_ContainsFunc_api_Clause_int: slices.ContainsFunc[patchbay/api.Clause,int] -/
abbrev slices_ContainsFunc_api_Clause_int_p0 : List AG := [o 5 (.mv (.t 0)), o 6 (.mv (.t 1)), o 7 (.call (.f n_slices_IndexFunc_api_Clause_int) [(.t 5), (.t 6)]), o 8 (.cmp .geq (.sc .int) (.t 7) (.c (.int .i64 0))), o 4 (.mv (.t 8))]
abbrev slices_ContainsFunc_api_Clause_int_p1 : List AG := [o 4 (.mv (.c (.bool false)))]
abbrev slices_ContainsFunc_api_Clause_int : AFun := ⟨(.seq (.reg slices_ContainsFunc_api_Clause_int_p1) (.seq (.reg slices_ContainsFunc_api_Clause_int_p0) .ret)), 9, [.tmp 4]⟩
@[simp] theorem c_slices_ContainsFunc_api_Clause_int : cfun Try.prog n_slices_ContainsFunc_api_Clause_int = some slices_ContainsFunc_api_Clause_int := by kernel_rfl
@[simp] theorem e_slices_ContainsFunc_api_Clause_int : hasBody Try.prog n_slices_ContainsFunc_api_Clause_int = true := by kernel_rfl

/- slices_ContainsFunc_api_Clause_api_Clause: slices.ContainsFunc[[]patchbay/api.Clause,patchbay/api.Clause] -/
abbrev slices_ContainsFunc_api_Clause_api_Clause_p0 : List AG := [o 5 (.mv (.t 0)), o 6 (.mv (.t 1)), o 7 (.call (.f n_slices_IndexFunc_api_Clause_api_Clause) [(.t 5), (.t 6)]), o 8 (.cmp .geq (.sc .int) (.t 7) (.c (.int .i64 0))), o 4 (.mv (.t 8))]
abbrev slices_ContainsFunc_api_Clause_api_Clause_p1 : List AG := [o 4 (.mv (.c (.bool false)))]
abbrev slices_ContainsFunc_api_Clause_api_Clause : AFun := ⟨(.seq (.reg slices_ContainsFunc_api_Clause_api_Clause_p1) (.seq (.reg slices_ContainsFunc_api_Clause_api_Clause_p0) .ret)), 9, [.tmp 4]⟩
@[simp] theorem c_slices_ContainsFunc_api_Clause_api_Clause : cfun Try.prog n_slices_ContainsFunc_api_Clause_api_Clause = some slices_ContainsFunc_api_Clause_api_Clause := by kernel_rfl
@[simp] theorem e_slices_ContainsFunc_api_Clause_api_Clause : hasBody Try.prog n_slices_ContainsFunc_api_Clause_api_Clause = true := by kernel_rfl

/- r19_All: patchbay/patchbayref19.All -/
abbrev r19_All_p0 : List AG := [o 4 (.mv (.c (.bool true)))]
abbrev r19_All_m1 : List Bool := [I,I,O,O,O,I,O,O,O,O,O,O,O,O,O,O,O,O,O]
abbrev r19_All_x1 : List Bool := [O,O,O,O,O,O,O,O,O,O,O,O,O,O,O,O,O,O,O]
abbrev r19_All_p2 : List AG := [o 10 (.mv (.t 5)), o 11 (.ibin .add (.t 10) (.c (.int .i64 1))), o 5 (.mv (.t 11))]
abbrev r19_All_p3 : List AG := [o 4 (.mv (.c (.bool false)))]
abbrev r19_All_p4 : ACode := (.seq (.reg r19_All_p3) .ret)
abbrev r19_All_p5 : List AG := [o 12 (.mv (.t 0)), o 13 (.mv (.t 5)), o 14 (.ixAddr 1 (.t 12) (.t 13)), o 15 (.load false 1 (.t 14)), o 16 (.mv (.t 1)), o 17 (.call (.f n_r19_one) [(.t 15), (.t 16)]), o 18 (.not (.t 17))]
abbrev r19_All_p6 : ACode := (.seq (.reg r19_All_p5) (.cond (.t 18) r19_All_p4 .skip))
abbrev r19_All_p7 : List AG := [o 6 (.mv (.t 5)), o 7 (.mv (.t 0)), o 8 (.len (.t 7)), o 9 (.cmp .lss (.sc .int) (.t 6) (.t 8))]
abbrev r19_All_b1 : ACode := (.seq (.seq (.reg r19_All_p7) (.cond (.t 9) .skip (.exit 0))) (.seq (.block 1 [] r19_All_p6) (.reg r19_All_p2)))
abbrev r19_All_p8 : List AG := [o 5 (.mv (.c (.int .i64 0)))]
abbrev r19_All_p9 : List AG := [o 4 (.mv (.c (.bool false)))]
abbrev r19_All : AFun := ⟨(.seq (.reg r19_All_p9) (.seq (.seq (.reg r19_All_p8) (.block 0 r19_All_x1 (.loop r19_All_m1 r19_All_b1))) (.seq (.reg r19_All_p0) .ret))), 19, [.tmp 4]⟩
abbrev r19_All_k1 : List It := [.code (.seq (.reg r19_All_p0) .ret)]
abbrev r19_All_L1 (x0 x1 x5 : AV) (h : List Ob) (e : Cx := cx) : Cfg := atC n_r19_All (.code r19_All_b1 :: .inLoop r19_All_m1 r19_All_b1 :: .inBlock 0 r19_All_x1 :: r19_All_k1) [x0,x1,U,U,U,x5,U,U,U,U,U,U,U,U,U,U,U,U,U] h e
abbrev r19_All_E1 (h : List Ob) (e : Cx := cx) : Cfg := atC n_r19_All r19_All_k1 [U,U,U,U,U,U,U,U,U,U,U,U,U,U,U,U,U,U,U] h e
@[simp] theorem c_r19_All : cfun Try.prog n_r19_All = some r19_All := by kernel_rfl
@[simp] theorem e_r19_All : hasBody Try.prog n_r19_All = true := by kernel_rfl

/- r19_in: patchbay/patchbayref19.in -/
abbrev r19_in_p0 : List AG := [o 14 (.mv (.t 0)), o 15 (.mv (.t 1)), o 16 (.ibin .quo (.t 15) (.c (.int .i64 2))), o 17 (.ixAddr 1 (.t 14) (.t 16)), o 18 (.load false 1 (.t 17)), o 4 (.mv (.t 18))]
abbrev r19_in_p1 : List AG := [o 8 (.mv (.t 0)), o 9 (.mv (.t 1)), o 10 (.ibin .quo (.t 9) (.c (.int .i64 2))), o 11 (.ixAddr 1 (.t 8) (.t 10)), o 12 (.load false 1 (.t 11)), o 13 (.neg (.t 12)), o 4 (.mv (.t 13))]
abbrev r19_in_p2 : ACode := (.seq (.reg r19_in_p1) .ret)
abbrev r19_in_p3 : List AG := [o 5 (.mv (.t 1)), o 6 (.ibin .rem (.t 5) (.c (.int .i64 2))), o 7 (.cmp .eql (.sc .int) (.t 6) (.c (.int .i64 1)))]
abbrev r19_in_p4 : List AG := [o 4 (.mv (.c (.int .i64 0)))]
abbrev r19_in : AFun := ⟨(.seq (.reg r19_in_p4) (.seq (.seq (.reg r19_in_p3) (.cond (.t 7) r19_in_p2 .skip)) (.seq (.reg r19_in_p0) .ret))), 19, [.tmp 4]⟩
@[simp] theorem c_r19_in : cfun Try.prog n_r19_in = some r19_in := by kernel_rfl
@[simp] theorem e_r19_in : hasBody Try.prog n_r19_in = true := by kernel_rfl

/- cnf_Check_1: patchbay/cnf.Check$1 -/
abbrev cnf_Check_1_p0 : List AG := [o 4 (.mv (.t 0)), o 5 (.cmp .eql (.sc .int) (.t 4) (.c (.int .i64 0))), o 6 (.mv (.t 5)), on 7 6 (.mv (.t 0)), on 8 6 (.load false 1 (.t 1)), on 9 6 (.neg (.t 8)), on 10 6 (.cmp .lss (.sc .int) (.t 7) (.t 9)), o 11 (.pick (.t 6) (.c (.bool true)) (.t 10)), o 12 (.mv (.t 11)), on 13 12 (.mv (.t 0)), on 14 12 (.load false 1 (.t 1)), on 15 12 (.cmp .gtr (.sc .int) (.t 13) (.t 14)), o 16 (.pick (.t 12) (.c (.bool true)) (.t 15)), o 3 (.mv (.t 16))]
abbrev cnf_Check_1_p1 : List AG := [o 3 (.mv (.c (.bool false)))]
abbrev cnf_Check_1 : AFun := ⟨(.seq (.reg cnf_Check_1_p1) (.seq (.reg cnf_Check_1_p0) .ret)), 17, [.tmp 3]⟩
@[simp] theorem c_cnf_Check_1 : cfun Try.prog n_cnf_Check_1 = some cnf_Check_1 := by kernel_rfl
@[simp] theorem e_cnf_Check_1 : hasBody Try.prog n_cnf_Check_1 = true := by kernel_rfl

/- cnf_Check_2: patchbay/cnf.Check$2 -/
abbrev cnf_Check_2_p0 : List AG := [o 4 (.mv (.t 0)), o 5 (.load false 1 (.t 1)), o 6 (.call (.f n_slices_ContainsFunc_api_Clause_int) [(.t 4), (.t 5)]), o 3 (.mv (.t 6))]
abbrev cnf_Check_2_p1 : List AG := [o 3 (.mv (.c (.bool false)))]
abbrev cnf_Check_2 : AFun := ⟨(.seq (.reg cnf_Check_2_p1) (.seq (.reg cnf_Check_2_p0) .ret)), 7, [.tmp 3]⟩
@[simp] theorem c_cnf_Check_2 : cfun Try.prog n_cnf_Check_2 = some cnf_Check_2 := by kernel_rfl
@[simp] theorem e_cnf_Check_2 : hasBody Try.prog n_cnf_Check_2 = true := by kernel_rfl

/- cnf_builder_lit: (*patchbay/cnf.builder).lit -/
abbrev cnf_builder_lit_p0 : List AG := [o 17 (.mv (.t 0)), o 18 (.nilck (.t 17)), o 19 (.off 8 (.t 18)), o 20 (.load false 1 (.t 19)), o 21 (.mv (.t 1)), o 22 (.ibin .shr (.t 21) (.c (.int .u64 1))), o 23 (.ixAddr 1 (.t 20) (.t 22)), o 24 (.load false 1 (.t 23)), o 4 (.mv (.t 24))]
abbrev cnf_builder_lit_p1 : List AG := [o 8 (.mv (.t 0)), o 9 (.nilck (.t 8)), o 10 (.off 8 (.t 9)), o 11 (.load false 1 (.t 10)), o 12 (.mv (.t 1)), o 13 (.ibin .shr (.t 12) (.c (.int .u64 1))), o 14 (.ixAddr 1 (.t 11) (.t 13)), o 15 (.load false 1 (.t 14)), o 16 (.neg (.t 15)), o 4 (.mv (.t 16))]
abbrev cnf_builder_lit_p2 : ACode := (.seq (.reg cnf_builder_lit_p1) .ret)
abbrev cnf_builder_lit_p3 : List AG := [o 5 (.mv (.t 1)), o 6 (.ibin .and (.t 5) (.c (.int .i64 1))), o 7 (.cmp .eql (.sc .int) (.t 6) (.c (.int .i64 1)))]
abbrev cnf_builder_lit_p4 : List AG := [o 4 (.mv (.c (.int .i64 0)))]
abbrev cnf_builder_lit : AFun := ⟨(.seq (.reg cnf_builder_lit_p4) (.seq (.seq (.reg cnf_builder_lit_p3) (.cond (.t 7) cnf_builder_lit_p2 .skip)) (.seq (.reg cnf_builder_lit_p0) .ret))), 25, [.tmp 4]⟩
@[simp] theorem c_cnf_builder_lit : cfun Try.prog n_cnf_builder_lit = some cnf_builder_lit := by kernel_rfl
@[simp] theorem e_cnf_builder_lit : hasBody Try.prog n_cnf_builder_lit = true := by kernel_rfl

/- cnf_Same_1: patchbay/cnf.Same$1 -/
abbrev cnf_Same_1_p0 : List AG := [o 5 (.mv (.t 0)), o 6 (.mv (.t 1)), o 7 (.call (.f n_slices_Equal_api_Clause_int) [(.t 5), (.t 6)]), o 4 (.mv (.t 7))]
abbrev cnf_Same_1_p1 : List AG := [o 4 (.mv (.c (.bool false)))]
abbrev cnf_Same_1 : AFun := ⟨(.seq (.reg cnf_Same_1_p1) (.seq (.reg cnf_Same_1_p0) .ret)), 8, [.tmp 4]⟩
@[simp] theorem c_cnf_Same_1 : cfun Try.prog n_cnf_Same_1 = some cnf_Same_1 := by kernel_rfl
@[simp] theorem e_cnf_Same_1 : hasBody Try.prog n_cnf_Same_1 = true := by kernel_rfl

/- slices_Equal_api_Clause_int: slices.Equal[patchbay/api.Clause,int] -/
abbrev slices_Equal_api_Clause_int_p0 : List AG := [o 4 (.mv (.c (.bool true)))]
abbrev slices_Equal_api_Clause_int_m1 : List Bool := [I,I,O,O,O,O,O,O,O,O,O,O,I,I,O,O,O,O,O,O,O,O,O,O,O,O]
abbrev slices_Equal_api_Clause_int_x1 : List Bool := [O,O,O,O,O,O,O,O,O,O,O,O,O,O,O,O,O,O,O,O,O,O,O,O,O,O]
abbrev slices_Equal_api_Clause_int_p2 : List AG := [o 25 (.ibin .add (.t 13) (.c (.int .i64 1))), o 13 (.mv (.t 25))]
abbrev slices_Equal_api_Clause_int_p3 : List AG := [o 4 (.mv (.c (.bool false)))]
abbrev slices_Equal_api_Clause_int_p4 : ACode := (.seq (.reg slices_Equal_api_Clause_int_p3) .ret)
abbrev slices_Equal_api_Clause_int_p5 : List AG := [o 16 (.mv (.t 0)), o 17 (.mv (.t 5)), o 18 (.ixAddr 1 (.t 16) (.t 17)), o 19 (.load false 1 (.t 18)), o 20 (.mv (.t 1)), o 21 (.mv (.t 5)), o 22 (.ixAddr 1 (.t 20) (.t 21)), o 23 (.load false 1 (.t 22)), o 24 (.cmp .neq (.sc .int) (.t 19) (.t 23))]
abbrev slices_Equal_api_Clause_int_p6 : List AG := [o 15 (.mv (.t 13)), o 5 (.mv (.t 15))]
abbrev slices_Equal_api_Clause_int_p7 : ACode := (.seq (.reg slices_Equal_api_Clause_int_p6) (.seq (.dreg [O,O,O,O,O,O,O,O,O] [10,10,10,10,10,10,10,10,10] slices_Equal_api_Clause_int_p5) (.cond (.t 24) slices_Equal_api_Clause_int_p4 .skip)))
abbrev slices_Equal_api_Clause_int_p8 : List AG := [o 14 (.cmp .lss (.sc .int) (.t 13) (.t 12))]
abbrev slices_Equal_api_Clause_int_b1 : ACode := (.seq (.reg slices_Equal_api_Clause_int_p8) (.seq (.cond (.t 14) .skip (.exit 0)) (.seq (.block 1 [] slices_Equal_api_Clause_int_p7) (.reg slices_Equal_api_Clause_int_p2))))
abbrev slices_Equal_api_Clause_int_p9 : List AG := [o 11 (.mv (.t 0)), o 12 (.len (.t 11)), o 13 (.mv (.c (.int .i64 0)))]
abbrev slices_Equal_api_Clause_int_p10 : List AG := [o 4 (.mv (.c (.bool false)))]
abbrev slices_Equal_api_Clause_int_p11 : ACode := (.seq (.reg slices_Equal_api_Clause_int_p10) .ret)
abbrev slices_Equal_api_Clause_int_p12 : List AG := [o 6 (.mv (.t 0)), o 7 (.len (.t 6)), o 8 (.mv (.t 1)), o 9 (.len (.t 8)), o 10 (.cmp .neq (.sc .int) (.t 7) (.t 9))]
abbrev slices_Equal_api_Clause_int_p13 : List AG := [o 4 (.mv (.c (.bool false)))]
abbrev slices_Equal_api_Clause_int : AFun := ⟨(.seq (.reg slices_Equal_api_Clause_int_p13) (.seq (.seq (.reg slices_Equal_api_Clause_int_p12) (.cond (.t 10) slices_Equal_api_Clause_int_p11 .skip)) (.seq (.seq (.reg slices_Equal_api_Clause_int_p9) (.block 0 slices_Equal_api_Clause_int_x1 (.loop slices_Equal_api_Clause_int_m1 slices_Equal_api_Clause_int_b1))) (.seq (.reg slices_Equal_api_Clause_int_p0) .ret)))), 26, [.tmp 4]⟩
abbrev slices_Equal_api_Clause_int_k1 : List It := [.code (.seq (.reg slices_Equal_api_Clause_int_p0) .ret)]
abbrev slices_Equal_api_Clause_int_L1 (x0 x1 x12 x13 : AV) (h : List Ob) (e : Cx := cx) : Cfg := atC n_slices_Equal_api_Clause_int (.code slices_Equal_api_Clause_int_b1 :: .inLoop slices_Equal_api_Clause_int_m1 slices_Equal_api_Clause_int_b1 :: .inBlock 0 slices_Equal_api_Clause_int_x1 :: slices_Equal_api_Clause_int_k1) [x0,x1,U,U,U,U,U,U,U,U,U,U,x12,x13,U,U,U,U,U,U,U,U,U,U,U,U] h e
abbrev slices_Equal_api_Clause_int_E1 (h : List Ob) (e : Cx := cx) : Cfg := atC n_slices_Equal_api_Clause_int slices_Equal_api_Clause_int_k1 [U,U,U,U,U,U,U,U,U,U,U,U,U,U,U,U,U,U,U,U,U,U,U,U,U,U] h e
@[simp] theorem c_slices_Equal_api_Clause_int : cfun Try.prog n_slices_Equal_api_Clause_int = some slices_Equal_api_Clause_int := by kernel_rfl
@[simp] theorem e_slices_Equal_api_Clause_int : hasBody Try.prog n_slices_Equal_api_Clause_int = true := by kernel_rfl

/- slices_EqualFunc_api_Clause_api_Clause_api_Clause_api_Clause: slices.EqualFunc[[]patchbay/api.Clause,[]patchbay/api.Clause,patchbay/api.Clause,patchbay/api.Clause] -/
abbrev slices_EqualFunc_api_Clause_api_Clause_api_Clause_api_Clause_p0 : List AG := [o 6 (.mv (.c (.bool true)))]
abbrev slices_EqualFunc_api_Clause_api_Clause_api_Clause_api_Clause_m1 : List Bool := [O,I,I,O,O,O,O,O,O,O,O,O,O,O,O,I,I,I,O,O,O,O,O,O,O,O,O,O,O,O,O,O]
abbrev slices_EqualFunc_api_Clause_api_Clause_api_Clause_api_Clause_x1 : List Bool := [O,O,O,O,O,O,O,O,O,O,O,O,O,O,O,O,O,O,O,O,O,O,O,O,O,O,O,O,O,O,O,O]
abbrev slices_EqualFunc_api_Clause_api_Clause_api_Clause_api_Clause_p2 : List AG := [o 31 (.ibin .add (.t 17) (.c (.int .i64 1))), o 17 (.mv (.t 31))]
abbrev slices_EqualFunc_api_Clause_api_Clause_api_Clause_api_Clause_p3 : List AG := [o 6 (.mv (.c (.bool false)))]
abbrev slices_EqualFunc_api_Clause_api_Clause_api_Clause_api_Clause_p4 : ACode := (.seq (.reg slices_EqualFunc_api_Clause_api_Clause_api_Clause_api_Clause_p3) .ret)
abbrev slices_EqualFunc_api_Clause_api_Clause_api_Clause_api_Clause_p5 : List AG := [o 26 (.mv (.t 2)), o 27 (.mv (.t 8)), o 28 (.mv (.t 9)), o 29 (.call (.t 26) [(.t 27), (.t 28)]), o 30 (.not (.t 29))]
abbrev slices_EqualFunc_api_Clause_api_Clause_api_Clause_api_Clause_p6 : List AG := [o 22 (.mv (.t 1)), o 23 (.mv (.t 7)), o 24 (.ixAddr 1 (.t 22) (.t 23)), o 25 (.load false 1 (.t 24)), o 9 (.mv (.t 25))]
abbrev slices_EqualFunc_api_Clause_api_Clause_api_Clause_api_Clause_p7 : List AG := [o 19 (.mv (.t 17)), o 20 (.ixAddr 1 (.t 15) (.t 17)), o 21 (.load false 1 (.t 20)), o 7 (.mv (.t 19)), o 8 (.mv (.t 21))]
abbrev slices_EqualFunc_api_Clause_api_Clause_api_Clause_api_Clause_p8 : ACode := (.seq (.reg slices_EqualFunc_api_Clause_api_Clause_api_Clause_api_Clause_p7) (.seq (.reg slices_EqualFunc_api_Clause_api_Clause_api_Clause_api_Clause_p6) (.seq (.reg slices_EqualFunc_api_Clause_api_Clause_api_Clause_api_Clause_p5) (.cond (.t 30) slices_EqualFunc_api_Clause_api_Clause_api_Clause_api_Clause_p4 .skip))))
abbrev slices_EqualFunc_api_Clause_api_Clause_api_Clause_api_Clause_p9 : List AG := [o 18 (.cmp .lss (.sc .int) (.t 17) (.t 16))]
abbrev slices_EqualFunc_api_Clause_api_Clause_api_Clause_api_Clause_b1 : ACode := (.seq (.reg slices_EqualFunc_api_Clause_api_Clause_api_Clause_api_Clause_p9) (.seq (.cond (.t 18) .skip (.exit 0)) (.seq (.block 1 [] slices_EqualFunc_api_Clause_api_Clause_api_Clause_api_Clause_p8) (.reg slices_EqualFunc_api_Clause_api_Clause_api_Clause_api_Clause_p2))))
abbrev slices_EqualFunc_api_Clause_api_Clause_api_Clause_api_Clause_p10 : List AG := [o 15 (.mv (.t 0)), o 16 (.len (.t 15)), o 17 (.mv (.c (.int .i64 0)))]
abbrev slices_EqualFunc_api_Clause_api_Clause_api_Clause_api_Clause_p11 : List AG := [o 6 (.mv (.c (.bool false)))]
abbrev slices_EqualFunc_api_Clause_api_Clause_api_Clause_api_Clause_p12 : ACode := (.seq (.reg slices_EqualFunc_api_Clause_api_Clause_api_Clause_api_Clause_p11) .ret)
abbrev slices_EqualFunc_api_Clause_api_Clause_api_Clause_api_Clause_p13 : List AG := [o 10 (.mv (.t 0)), o 11 (.len (.t 10)), o 12 (.mv (.t 1)), o 13 (.len (.t 12)), o 14 (.cmp .neq (.sc .int) (.t 11) (.t 13))]
abbrev slices_EqualFunc_api_Clause_api_Clause_api_Clause_api_Clause_p14 : List AG := [o 6 (.mv (.c (.bool false)))]
abbrev slices_EqualFunc_api_Clause_api_Clause_api_Clause_api_Clause : AFun := ⟨(.seq (.reg slices_EqualFunc_api_Clause_api_Clause_api_Clause_api_Clause_p14) (.seq (.seq (.reg slices_EqualFunc_api_Clause_api_Clause_api_Clause_api_Clause_p13) (.cond (.t 14) slices_EqualFunc_api_Clause_api_Clause_api_Clause_api_Clause_p12 .skip)) (.seq (.seq (.reg slices_EqualFunc_api_Clause_api_Clause_api_Clause_api_Clause_p10) (.block 0 slices_EqualFunc_api_Clause_api_Clause_api_Clause_api_Clause_x1 (.loop slices_EqualFunc_api_Clause_api_Clause_api_Clause_api_Clause_m1 slices_EqualFunc_api_Clause_api_Clause_api_Clause_api_Clause_b1))) (.seq (.reg slices_EqualFunc_api_Clause_api_Clause_api_Clause_api_Clause_p0) .ret)))), 32, [.tmp 6]⟩
abbrev slices_EqualFunc_api_Clause_api_Clause_api_Clause_api_Clause_k1 : List It := [.code (.seq (.reg slices_EqualFunc_api_Clause_api_Clause_api_Clause_api_Clause_p0) .ret)]
abbrev slices_EqualFunc_api_Clause_api_Clause_api_Clause_api_Clause_L1 (x1 x2 x15 x16 x17 : AV) (h : List Ob) (e : Cx := cx) : Cfg := atC n_slices_EqualFunc_api_Clause_api_Clause_api_Clause_api_Clause (.code slices_EqualFunc_api_Clause_api_Clause_api_Clause_api_Clause_b1 :: .inLoop slices_EqualFunc_api_Clause_api_Clause_api_Clause_api_Clause_m1 slices_EqualFunc_api_Clause_api_Clause_api_Clause_api_Clause_b1 :: .inBlock 0 slices_EqualFunc_api_Clause_api_Clause_api_Clause_api_Clause_x1 :: slices_EqualFunc_api_Clause_api_Clause_api_Clause_api_Clause_k1) [U,x1,x2,U,U,U,U,U,U,U,U,U,U,U,U,x15,x16,x17,U,U,U,U,U,U,U,U,U,U,U,U,U,U] h e
abbrev slices_EqualFunc_api_Clause_api_Clause_api_Clause_api_Clause_E1 (h : List Ob) (e : Cx := cx) : Cfg := atC n_slices_EqualFunc_api_Clause_api_Clause_api_Clause_api_Clause slices_EqualFunc_api_Clause_api_Clause_api_Clause_api_Clause_k1 [U,U,U,U,U,U,U,U,U,U,U,U,U,U,U,U,U,U,U,U,U,U,U,U,U,U,U,U,U,U,U,U] h e
@[simp] theorem c_slices_EqualFunc_api_Clause_api_Clause_api_Clause_api_Clause : cfun Try.prog n_slices_EqualFunc_api_Clause_api_Clause_api_Clause_api_Clause = some slices_EqualFunc_api_Clause_api_Clause_api_Clause_api_Clause := by kernel_rfl
@[simp] theorem e_slices_EqualFunc_api_Clause_api_Clause_api_Clause_api_Clause : hasBody Try.prog n_slices_EqualFunc_api_Clause_api_Clause_api_Clause_api_Clause = true := by kernel_rfl

/- slices_EqualFunc_int_int_int_int: slices.EqualFunc[[][]int,[][]int,[]int,[]int] -/
abbrev slices_EqualFunc_int_int_int_int_p0 : List AG := [o 6 (.mv (.c (.bool true)))]
abbrev slices_EqualFunc_int_int_int_int_m1 : List Bool := [O,I,I,O,O,O,O,O,O,O,O,O,O,O,O,I,I,I,O,O,O,O,O,O,O,O,O,O,O,O,O,O]
abbrev slices_EqualFunc_int_int_int_int_x1 : List Bool := [O,O,O,O,O,O,O,O,O,O,O,O,O,O,O,O,O,O,O,O,O,O,O,O,O,O,O,O,O,O,O,O]
abbrev slices_EqualFunc_int_int_int_int_p2 : List AG := [o 31 (.ibin .add (.t 17) (.c (.int .i64 1))), o 17 (.mv (.t 31))]
abbrev slices_EqualFunc_int_int_int_int_p3 : List AG := [o 6 (.mv (.c (.bool false)))]
abbrev slices_EqualFunc_int_int_int_int_p4 : ACode := (.seq (.reg slices_EqualFunc_int_int_int_int_p3) .ret)
abbrev slices_EqualFunc_int_int_int_int_p5 : List AG := [o 26 (.mv (.t 2)), o 27 (.mv (.t 8)), o 28 (.mv (.t 9)), o 29 (.call (.t 26) [(.t 27), (.t 28)]), o 30 (.not (.t 29))]
abbrev slices_EqualFunc_int_int_int_int_p6 : List AG := [o 22 (.mv (.t 1)), o 23 (.mv (.t 7)), o 24 (.ixAddr 1 (.t 22) (.t 23)), o 25 (.load false 1 (.t 24)), o 9 (.mv (.t 25))]
abbrev slices_EqualFunc_int_int_int_int_p7 : List AG := [o 19 (.mv (.t 17)), o 20 (.ixAddr 1 (.t 15) (.t 17)), o 21 (.load false 1 (.t 20)), o 7 (.mv (.t 19)), o 8 (.mv (.t 21))]
abbrev slices_EqualFunc_int_int_int_int_p8 : ACode := (.seq (.reg slices_EqualFunc_int_int_int_int_p7) (.seq (.reg slices_EqualFunc_int_int_int_int_p6) (.seq (.reg slices_EqualFunc_int_int_int_int_p5) (.cond (.t 30) slices_EqualFunc_int_int_int_int_p4 .skip))))
abbrev slices_EqualFunc_int_int_int_int_p9 : List AG := [o 18 (.cmp .lss (.sc .int) (.t 17) (.t 16))]
abbrev slices_EqualFunc_int_int_int_int_b1 : ACode := (.seq (.reg slices_EqualFunc_int_int_int_int_p9) (.seq (.cond (.t 18) .skip (.exit 0)) (.seq (.block 1 [] slices_EqualFunc_int_int_int_int_p8) (.reg slices_EqualFunc_int_int_int_int_p2))))
abbrev slices_EqualFunc_int_int_int_int_p10 : List AG := [o 15 (.mv (.t 0)), o 16 (.len (.t 15)), o 17 (.mv (.c (.int .i64 0)))]
abbrev slices_EqualFunc_int_int_int_int_p11 : List AG := [o 6 (.mv (.c (.bool false)))]
abbrev slices_EqualFunc_int_int_int_int_p12 : ACode := (.seq (.reg slices_EqualFunc_int_int_int_int_p11) .ret)
abbrev slices_EqualFunc_int_int_int_int_p13 : List AG := [o 10 (.mv (.t 0)), o 11 (.len (.t 10)), o 12 (.mv (.t 1)), o 13 (.len (.t 12)), o 14 (.cmp .neq (.sc .int) (.t 11) (.t 13))]
abbrev slices_EqualFunc_int_int_int_int_p14 : List AG := [o 6 (.mv (.c (.bool false)))]
abbrev slices_EqualFunc_int_int_int_int : AFun := ⟨(.seq (.reg slices_EqualFunc_int_int_int_int_p14) (.seq (.seq (.reg slices_EqualFunc_int_int_int_int_p13) (.cond (.t 14) slices_EqualFunc_int_int_int_int_p12 .skip)) (.seq (.seq (.reg slices_EqualFunc_int_int_int_int_p10) (.block 0 slices_EqualFunc_int_int_int_int_x1 (.loop slices_EqualFunc_int_int_int_int_m1 slices_EqualFunc_int_int_int_int_b1))) (.seq (.reg slices_EqualFunc_int_int_int_int_p0) .ret)))), 32, [.tmp 6]⟩
abbrev slices_EqualFunc_int_int_int_int_k1 : List It := [.code (.seq (.reg slices_EqualFunc_int_int_int_int_p0) .ret)]
abbrev slices_EqualFunc_int_int_int_int_L1 (x1 x2 x15 x16 x17 : AV) (h : List Ob) (e : Cx := cx) : Cfg := atC n_slices_EqualFunc_int_int_int_int (.code slices_EqualFunc_int_int_int_int_b1 :: .inLoop slices_EqualFunc_int_int_int_int_m1 slices_EqualFunc_int_int_int_int_b1 :: .inBlock 0 slices_EqualFunc_int_int_int_int_x1 :: slices_EqualFunc_int_int_int_int_k1) [U,x1,x2,U,U,U,U,U,U,U,U,U,U,U,U,x15,x16,x17,U,U,U,U,U,U,U,U,U,U,U,U,U,U] h e
abbrev slices_EqualFunc_int_int_int_int_E1 (h : List Ob) (e : Cx := cx) : Cfg := atC n_slices_EqualFunc_int_int_int_int slices_EqualFunc_int_int_int_int_k1 [U,U,U,U,U,U,U,U,U,U,U,U,U,U,U,U,U,U,U,U,U,U,U,U,U,U,U,U,U,U,U,U] h e
@[simp] theorem c_slices_EqualFunc_int_int_int_int : cfun Try.prog n_slices_EqualFunc_int_int_int_int = some slices_EqualFunc_int_int_int_int := by kernel_rfl
@[simp] theorem e_slices_EqualFunc_int_int_int_int : hasBody Try.prog n_slices_EqualFunc_int_int_int_int = true := by kernel_rfl

/- slices_Equal_int_int: slices.Equal[[]int,int] -/
abbrev slices_Equal_int_int_p0 : List AG := [o 4 (.mv (.c (.bool true)))]
abbrev slices_Equal_int_int_m1 : List Bool := [I,I,O,O,O,O,O,O,O,O,O,O,I,I,O,O,O,O,O,O,O,O,O,O,O,O]
abbrev slices_Equal_int_int_x1 : List Bool := [O,O,O,O,O,O,O,O,O,O,O,O,O,O,O,O,O,O,O,O,O,O,O,O,O,O]
abbrev slices_Equal_int_int_p2 : List AG := [o 25 (.ibin .add (.t 13) (.c (.int .i64 1))), o 13 (.mv (.t 25))]
abbrev slices_Equal_int_int_p3 : List AG := [o 4 (.mv (.c (.bool false)))]
abbrev slices_Equal_int_int_p4 : ACode := (.seq (.reg slices_Equal_int_int_p3) .ret)
abbrev slices_Equal_int_int_p5 : List AG := [o 16 (.mv (.t 0)), o 17 (.mv (.t 5)), o 18 (.ixAddr 1 (.t 16) (.t 17)), o 19 (.load false 1 (.t 18)), o 20 (.mv (.t 1)), o 21 (.mv (.t 5)), o 22 (.ixAddr 1 (.t 20) (.t 21)), o 23 (.load false 1 (.t 22)), o 24 (.cmp .neq (.sc .int) (.t 19) (.t 23))]
abbrev slices_Equal_int_int_p6 : List AG := [o 15 (.mv (.t 13)), o 5 (.mv (.t 15))]
abbrev slices_Equal_int_int_p7 : ACode := (.seq (.reg slices_Equal_int_int_p6) (.seq (.dreg [O,O,O,O,O,O,O,O,O] [10,10,10,10,10,10,10,10,10] slices_Equal_int_int_p5) (.cond (.t 24) slices_Equal_int_int_p4 .skip)))
abbrev slices_Equal_int_int_p8 : List AG := [o 14 (.cmp .lss (.sc .int) (.t 13) (.t 12))]
abbrev slices_Equal_int_int_b1 : ACode := (.seq (.reg slices_Equal_int_int_p8) (.seq (.cond (.t 14) .skip (.exit 0)) (.seq (.block 1 [] slices_Equal_int_int_p7) (.reg slices_Equal_int_int_p2))))
abbrev slices_Equal_int_int_p9 : List AG := [o 11 (.mv (.t 0)), o 12 (.len (.t 11)), o 13 (.mv (.c (.int .i64 0)))]
abbrev slices_Equal_int_int_p10 : List AG := [o 4 (.mv (.c (.bool false)))]
abbrev slices_Equal_int_int_p11 : ACode := (.seq (.reg slices_Equal_int_int_p10) .ret)
abbrev slices_Equal_int_int_p12 : List AG := [o 6 (.mv (.t 0)), o 7 (.len (.t 6)), o 8 (.mv (.t 1)), o 9 (.len (.t 8)), o 10 (.cmp .neq (.sc .int) (.t 7) (.t 9))]
abbrev slices_Equal_int_int_p13 : List AG := [o 4 (.mv (.c (.bool false)))]
abbrev slices_Equal_int_int : AFun := ⟨(.seq (.reg slices_Equal_int_int_p13) (.seq (.seq (.reg slices_Equal_int_int_p12) (.cond (.t 10) slices_Equal_int_int_p11 .skip)) (.seq (.seq (.reg slices_Equal_int_int_p9) (.block 0 slices_Equal_int_int_x1 (.loop slices_Equal_int_int_m1 slices_Equal_int_int_b1))) (.seq (.reg slices_Equal_int_int_p0) .ret)))), 26, [.tmp 4]⟩
abbrev slices_Equal_int_int_k1 : List It := [.code (.seq (.reg slices_Equal_int_int_p0) .ret)]
abbrev slices_Equal_int_int_L1 (x0 x1 x12 x13 : AV) (h : List Ob) (e : Cx := cx) : Cfg := atC n_slices_Equal_int_int (.code slices_Equal_int_int_b1 :: .inLoop slices_Equal_int_int_m1 slices_Equal_int_int_b1 :: .inBlock 0 slices_Equal_int_int_x1 :: slices_Equal_int_int_k1) [x0,x1,U,U,U,U,U,U,U,U,U,U,x12,x13,U,U,U,U,U,U,U,U,U,U,U,U] h e
abbrev slices_Equal_int_int_E1 (h : List Ob) (e : Cx := cx) : Cfg := atC n_slices_Equal_int_int slices_Equal_int_int_k1 [U,U,U,U,U,U,U,U,U,U,U,U,U,U,U,U,U,U,U,U,U,U,U,U,U,U] h e
@[simp] theorem c_slices_Equal_int_int : cfun Try.prog n_slices_Equal_int_int = some slices_Equal_int_int := by kernel_rfl
@[simp] theorem e_slices_Equal_int_int : hasBody Try.prog n_slices_Equal_int_int = true := by kernel_rfl

/- w09_Few: patchbay/patchbaylaw09.Few -/
abbrev w09_Few_p0 : List AG := [o 3 (.off 0 (.t 1)), o 4 (.load false 1 (.t 3)), o 5 (.cmp .leq (.sc .int) (.t 4) (.c (.int .i64 100))), o 6 (.mv (.t 5)), on 7 6 (.off 0 (.t 1)), on 8 6 (.load false 1 (.t 7)), on 9 6 (.cmp .gtr (.sc .int) (.t 8) (.c (.int .i64 4000))), o 10 (.pick (.t 6) (.c (.bool true)) (.t 9)), o 11 (.mv (.t 10)), oy 12 11 (.off 1 (.t 1)), oy 13 11 (.load false 1 (.t 12)), oy 14 11 (.len (.t 13)), oy 15 11 (.cmp .leq (.sc .int) (.t 14) (.c (.int .i64 40))), o 16 (.pick (.t 11) (.t 15) (.c (.bool false))), o 17 (.mv (.t 16)), oy 18 17 (.off 2 (.t 1)), oy 19 17 (.load false 1 (.t 18)), oy 20 17 (.len (.t 19)), oy 21 17 (.cmp .leq (.sc .int) (.t 20) (.c (.int .i64 40))), o 22 (.pick (.t 17) (.t 21) (.c (.bool false))), o 23 (.mv (.t 22)), oy 24 23 (.off 3 (.t 1)), oy 25 23 (.load false 1 (.t 24)), oy 26 23 (.len (.t 25)), oy 27 23 (.cmp .leq (.sc .int) (.t 26) (.c (.int .i64 60))), o 28 (.pick (.t 23) (.t 27) (.c (.bool false))), o 29 (.mv (.t 28)), oy 30 29 (.off 4 (.t 1)), oy 31 29 (.load false 1 (.t 30)), oy 32 29 (.len (.t 31)), oy 33 29 (.cmp .leq (.sc .int) (.t 32) (.c (.int .i64 60))), o 34 (.pick (.t 29) (.t 33) (.c (.bool false))), o 2 (.mv (.t 34))]
abbrev w09_Few_p1 : List AG := [o 1 (.box 5 (.t 0)), o 2 (.mv (.c (.bool false)))]
abbrev w09_Few : AFun := ⟨(.seq (.reg w09_Few_p1) (.seq (.reg w09_Few_p0) .ret)), 35, [.tmp 2]⟩
@[simp] theorem c_w09_Few : cfun Try.prog n_w09_Few = some w09_Few := by kernel_rfl
@[simp] theorem e_w09_Few : hasBody Try.prog n_w09_Few = true := by kernel_rfl

/- cnf_can: patchbay/cnf.can -/
abbrev cnf_can_p0 : List AG := [o 6 (.mv (.c (.int .i64 0)))]
abbrev cnf_can_p1 : List AG := [o 6 (.mv (.c (.int .i64 8)))]
abbrev cnf_can_p2 : ACode := (.seq (.reg cnf_can_p1) .ret)
abbrev cnf_can_p3 : List AG := [o 52 (.mv (.t 8)), o 53 (.cmp .gtr (.sc .int) (.t 52) (.c (.int .i64 20000)))]
abbrev cnf_can_m4 : List Bool := [O,O,O,O,O,O,O,O,I,O,O,O,O,O,O,O,O,O,O,O,O,O,O,O,O,O,O,O,O,O,O,O,O,O,O,O,O,O,O,O,O,I,I,I,O,O,O,O,O,O,O,O,O,O]
abbrev cnf_can_x4 : List Bool := [O,O,O,O,O,O,O,O,I,O,O,O,O,O,O,O,O,O,O,O,O,O,O,O,O,O,O,O,O,O,O,O,O,O,O,O,O,O,O,O,O,O,O,O,O,O,O,O,O,O,O,O,O,O]
abbrev cnf_can_p5 : List AG := [o 51 (.ibin .add (.t 43) (.c (.int .i64 1))), o 43 (.mv (.t 51))]
abbrev cnf_can_p6 : List AG := [o 47 (.mv (.t 8)), o 48 (.mv (.t 10)), o 49 (.ibin .quo (.t 48) (.c (.int .i64 2))), o 50 (.ibin .add (.t 47) (.t 49)), o 8 (.mv (.t 50))]
abbrev cnf_can_p7 : List AG := [o 45 (.ixAddr 1 (.t 41) (.t 43)), o 46 (.load false 1 (.t 45)), o 10 (.mv (.t 46))]
abbrev cnf_can_p8 : ACode := (.seq (.reg cnf_can_p7) (.reg cnf_can_p6))
abbrev cnf_can_p9 : List AG := [o 44 (.cmp .lss (.sc .int) (.t 43) (.t 42))]
abbrev cnf_can_b4 : ACode := (.seq (.reg cnf_can_p9) (.seq (.cond (.t 44) .skip (.exit 0)) (.seq (.block 1 [] cnf_can_p8) (.reg cnf_can_p5))))
abbrev cnf_can_p10 : List AG := [o 41 (.mv (.t 1)), o 42 (.len (.t 41)), o 43 (.mv (.c (.int .i64 0)))]
abbrev cnf_can_p11 : List AG := [o 32 (.mv (.t 2)), o 33 (.off 0 (.t 3)), o 34 (.load false 1 (.t 33)), o 35 (.off 3 (.t 3)), o 36 (.load false 1 (.t 35)), o 37 (.len (.t 36)), o 38 (.ibin .add (.t 34) (.t 37)), o 39 (.ibin .mul (.t 32) (.t 38)), o 40 (.ibin .add (.c (.int .i64 1)) (.t 39)), o 8 (.mv (.t 40))]
abbrev cnf_can_p12 : List AG := [o 6 (.mv (.c (.int .i64 8)))]
abbrev cnf_can_p13 : ACode := (.seq (.reg cnf_can_p12) .ret)
abbrev cnf_can_p14 : List AG := [o 26 (.mv (.t 2)), o 27 (.cmp .lss (.sc .int) (.t 26) (.c (.int .i64 0))), o 28 (.mv (.t 27)), on 29 28 (.mv (.t 2)), on 30 28 (.cmp .gtr (.sc .int) (.t 29) (.c (.int .i64 40))), o 31 (.pick (.t 28) (.c (.bool true)) (.t 30))]
abbrev cnf_can_p15 : List AG := [o 6 (.mv (.c (.int .i64 1)))]
abbrev cnf_can_p16 : ACode := (.seq (.reg cnf_can_p15) .ret)
abbrev cnf_can_p17 : List AG := [o 16 (.mv (.t 1)), o 17 (.len (.t 16)), o 18 (.off 1 (.t 3)), o 19 (.load false 1 (.t 18)), o 20 (.len (.t 19)), o 21 (.cmp .neq (.sc .int) (.t 17) (.t 20)), o 22 (.mv (.t 21)), on 23 22 (.mv (.t 1)), on 24 22 (.call (.f n_slices_ContainsFunc_int_int) [(.t 23), (.f n_cnf_can_1)]), o 25 (.pick (.t 22) (.c (.bool true)) (.t 24))]
abbrev cnf_can_p18 : List AG := [o 15 (.mv (.t 7)), o 6 (.mv (.t 15))]
abbrev cnf_can_p19 : ACode := (.seq (.reg cnf_can_p18) .ret)
abbrev cnf_can_p20 : List AG := [o 13 (.mv (.t 7)), o 14 (.cmp .neq (.sc .int) (.t 13) (.c (.int .i64 0)))]
abbrev cnf_can_p21 : List AG := [o 11 (.load true 5 (.t 3)), o 12 (.call (.f n_aig_Check) [(.t 11)]), o 7 (.mv (.t 12))]
abbrev cnf_can_p22 : List AG := [o 3 (.box 5 (.t 0)), o 6 (.mv (.c (.int .i64 0)))]
abbrev cnf_can : AFun := ⟨(.seq (.reg cnf_can_p22) (.seq (.seq (.reg cnf_can_p21) (.seq (.reg cnf_can_p20) (.cond (.t 14) cnf_can_p19 .skip))) (.seq (.seq (.reg cnf_can_p17) (.cond (.t 25) cnf_can_p16 .skip)) (.seq (.seq (.reg cnf_can_p14) (.cond (.t 31) cnf_can_p13 .skip)) (.seq (.reg cnf_can_p11) (.seq (.seq (.reg cnf_can_p10) (.block 0 cnf_can_x4 (.loop cnf_can_m4 cnf_can_b4))) (.seq (.seq (.reg cnf_can_p3) (.cond (.t 53) cnf_can_p2 .skip)) (.seq (.reg cnf_can_p0) .ret)))))))), 54, [.tmp 6]⟩
abbrev cnf_can_k4 : List It := [.code (.seq (.seq (.reg cnf_can_p3) (.cond (.t 53) cnf_can_p2 .skip)) (.seq (.reg cnf_can_p0) .ret))]
abbrev cnf_can_L4 (x8 x41 x42 x43 : AV) (h : List Ob) (e : Cx := cx) : Cfg := atC n_cnf_can (.code cnf_can_b4 :: .inLoop cnf_can_m4 cnf_can_b4 :: .inBlock 0 cnf_can_x4 :: cnf_can_k4) [U,U,U,U,U,U,U,U,x8,U,U,U,U,U,U,U,U,U,U,U,U,U,U,U,U,U,U,U,U,U,U,U,U,U,U,U,U,U,U,U,U,x41,x42,x43,U,U,U,U,U,U,U,U,U,U] h e
abbrev cnf_can_E4 (x8 : AV) (h : List Ob) (e : Cx := cx) : Cfg := atC n_cnf_can cnf_can_k4 [U,U,U,U,U,U,U,U,x8,U,U,U,U,U,U,U,U,U,U,U,U,U,U,U,U,U,U,U,U,U,U,U,U,U,U,U,U,U,U,U,U,U,U,U,U,U,U,U,U,U,U,U,U,U] h e
@[simp] theorem c_cnf_can : cfun Try.prog n_cnf_can = some cnf_can := by kernel_rfl
@[simp] theorem e_cnf_can : hasBody Try.prog n_cnf_can = true := by kernel_rfl

/- cnf_builder_add: (*patchbay/cnf.builder).add -/
abbrev cnf_builder_add_p0 : List AG := [o 4 (.mv (.t 0)), o 5 (.mv (.t 0)), o 6 (.nilck (.t 5)), o 7 (.off 0 (.t 6)), o 8 (.off 1 (.t 7)), o 9 (.load false 1 (.t 8)), o 10 (.mv (.t 1)), o 11 (.lit 1 [(.list true 0 [])] [(0, (.t 10))]), o 12 (.append 1 t_api_Clause_2 24 (.t 9) (.t 11)), o 13 (.nilck (.t 4)), o 14 (.off 0 (.t 13)), o 15 (.off 1 (.t 14)), q (.store 1 (.t 15) (.t 12))]
abbrev cnf_builder_add : AFun := ⟨(.reg cnf_builder_add_p0), 16, []⟩
@[simp] theorem c_cnf_builder_add : cfun Try.prog n_cnf_builder_add = some cnf_builder_add := by kernel_rfl
@[simp] theorem e_cnf_builder_add : hasBody Try.prog n_cnf_builder_add = true := by kernel_rfl

/- cnf_builder_fresh: (*patchbay/cnf.builder).fresh -/
abbrev cnf_builder_fresh_p0 : List AG := [o 12 (.mv (.t 0)), o 13 (.nilck (.t 12)), o 14 (.off 0 (.t 13)), o 15 (.off 0 (.t 14)), o 16 (.load false 1 (.t 15)), o 2 (.mv (.t 16))]
abbrev cnf_builder_fresh_p1 : List AG := [o 3 (.mv (.t 0)), o 4 (.nilck (.t 3)), o 5 (.off 0 (.t 4)), o 6 (.off 0 (.t 5)), o 7 (.load false 1 (.t 6)), o 8 (.ibin .add (.t 7) (.c (.int .i64 1))), o 9 (.nilck (.t 3)), o 10 (.off 0 (.t 9)), o 11 (.off 0 (.t 10)), q (.store 1 (.t 11) (.t 8))]
abbrev cnf_builder_fresh_p2 : List AG := [o 2 (.mv (.c (.int .i64 0)))]
abbrev cnf_builder_fresh : AFun := ⟨(.seq (.reg cnf_builder_fresh_p2) (.seq (.reg cnf_builder_fresh_p1) (.seq (.reg cnf_builder_fresh_p0) .ret))), 17, [.tmp 2]⟩
@[simp] theorem c_cnf_builder_fresh : cfun Try.prog n_cnf_builder_fresh = some cnf_builder_fresh := by kernel_rfl
@[simp] theorem e_cnf_builder_fresh : hasBody Try.prog n_cnf_builder_fresh = true := by kernel_rfl

/- cnf_builder_begin: (*patchbay/cnf.builder).begin -/
abbrev cnf_builder_begin_p0 : List AG := [o 14 (.mv (.t 0)), o 15 (.mv (.t 0)), o 16 (.nilck (.t 15)), o 17 (.off 8 (.t 16)), o 18 (.load false 1 (.t 17)), o 19 (.mv (.t 1)), o 20 (.append 1 t_int 8 (.t 18) (.t 19)), o 21 (.nilck (.t 14)), o 22 (.off 8 (.t 21)), q (.store 1 (.t 22) (.t 20))]
abbrev cnf_builder_begin_p1 : List AG := [o 4 (.mv (.t 0)), o 5 (.lit 1 [(.int .i64 0)] [(0, (.c (.int .i64 (-1))))]), o 6 (.mv (.t 0)), o 7 (.nilck (.t 6)), o 8 (.off 3 (.t 7)), o 9 (.off 0 (.t 8)), o 10 (.load false 1 (.t 9)), o 11 (.appendZ 1 t_int 8 (.int .i64 0) (.t 5) (.t 10)), o 12 (.nilck (.t 4)), o 13 (.off 8 (.t 12)), q (.store 1 (.t 13) (.t 11))]
abbrev cnf_builder_begin : AFun := ⟨(.seq (.reg cnf_builder_begin_p1) (.reg cnf_builder_begin_p0)), 23, []⟩
@[simp] theorem c_cnf_builder_begin : cfun Try.prog n_cnf_builder_begin = some cnf_builder_begin := by kernel_rfl
@[simp] theorem e_cnf_builder_begin : hasBody Try.prog n_cnf_builder_begin = true := by kernel_rfl

/- cnf_builder_step: (*patchbay/cnf.builder).step -/
abbrev cnf_builder_step_p0 : List AG := [o 115 (.mv (.t 0)), o 116 (.mv (.t 9)), o 117 (.call (.f n_cnf_builder_begin) [(.t 115), (.t 116)])]
abbrev cnf_builder_step_m1 : List Bool := [I,O,O,O,O,O,O,O,I,I,O,O,O,O,O,O,O,O,O,O,O,O,O,O,O,O,O,O,O,O,O,O,O,O,O,O,O,O,O,O,O,O,O,O,O,O,O,O,O,O,O,O,O,O,O,O,O,O,O,O,O,O,O,O,O,O,O,O,O,O,O,O,O,O,O,O,O,O,O,O,O,O,O,O,O,O,O,O,O,O,O,O,O,O,O,O,O,O,O,O,O,O,I,I,I,O,O,O,O,O,O,O,O,O,O,O,O,O]
abbrev cnf_builder_step_x1 : List Bool := [I,O,O,O,O,O,O,O,O,I,O,O,O,O,O,O,O,O,O,O,O,O,O,O,O,O,O,O,O,O,O,O,O,O,O,O,O,O,O,O,O,O,O,O,O,O,O,O,O,O,O,O,O,O,O,O,O,O,O,O,O,O,O,O,O,O,O,O,O,O,O,O,O,O,O,O,O,O,O,O,O,O,O,O,O,O,O,O,O,O,O,O,O,O,O,O,O,O,O,O,O,O,O,O,O,O,O,O,O,O,O,O,O,O,O,O,O,O]
abbrev cnf_builder_step_p2 : List AG := [o 114 (.ibin .add (.t 104) (.c (.int .i64 1))), o 104 (.mv (.t 114))]
abbrev cnf_builder_step_p3 : List AG := [o 108 (.mv (.t 9)), o 109 (.mv (.t 8)), o 110 (.mv (.t 11)), o 111 (.call (.t 109) [(.t 110)]), o 112 (.lit 1 [(.int .i64 0)] [(0, (.t 111))]), o 113 (.append 1 t_int 8 (.t 108) (.t 112)), o 9 (.mv (.t 113))]
abbrev cnf_builder_step_p4 : List AG := [o 106 (.ixAddr 1 (.t 102) (.t 104)), o 107 (.load false 1 (.t 106)), o 11 (.mv (.t 107))]
abbrev cnf_builder_step_p5 : ACode := (.seq (.reg cnf_builder_step_p4) (.reg cnf_builder_step_p3))
abbrev cnf_builder_step_p6 : List AG := [o 105 (.cmp .lss (.sc .int) (.t 104) (.t 103))]
abbrev cnf_builder_step_b1 : ACode := (.seq (.reg cnf_builder_step_p6) (.seq (.cond (.t 105) .skip (.exit 4)) (.seq (.block 5 [] cnf_builder_step_p5) (.reg cnf_builder_step_p2))))
abbrev cnf_builder_step_p7 : List AG := [o 98 (.mv (.t 0)), o 99 (.nilck (.t 98)), o 100 (.off 3 (.t 99)), o 101 (.off 1 (.t 100)), o 102 (.load false 1 (.t 101)), o 103 (.len (.t 102)), o 104 (.mv (.c (.int .i64 0)))]
abbrev cnf_builder_step_p8 : List AG := [o 9 (.nilrow 1 t_int)]
abbrev cnf_builder_step_p9 : List AG := [o 96 (.mv (.t 0)), o 97 (.mkFunc (.func n_cnf_builder_lit) [(.t 96)] []), o 8 (.mv (.t 97))]
abbrev cnf_builder_step_p10 : List AG := [o 81 (.mv (.t 0)), o 82 (.mv (.t 0)), o 83 (.nilck (.t 82)), o 84 (.off 0 (.t 83)), o 85 (.off 2 (.t 84)), o 86 (.load false 1 (.t 85)), o 87 (.mv (.t 0)), o 88 (.nilck (.t 87)), o 89 (.off 8 (.t 88)), o 90 (.load false 1 (.t 89)), o 91 (.lit 1 [(.list true 0 [])] [(0, (.t 90))]), o 92 (.append 1 t_int_3 24 (.t 86) (.t 91)), o 93 (.nilck (.t 81)), o 94 (.off 0 (.t 93)), o 95 (.off 2 (.t 94)), q (.store 1 (.t 95) (.t 92))]
abbrev cnf_builder_step_m11 : List Bool := [I,O,O,O,O,O,O,O,O,O,O,O,O,O,O,O,O,O,O,O,O,O,O,O,O,O,O,O,O,O,O,O,O,O,I,I,I,O,O,O,O,O,O,O,O,O,O,O,O,O,O,O,O,O,O,O,O,O,O,O,O,O,O,O,O,O,O,O,O,O,O,O,O,O,O,O,O,O,O,O,O,O,O,O,O,O,O,O,O,O,O,O,O,O,O,O,O,O,O,O,O,O,O,O,O,O,O,O,O,O,O,O,O,O,O,O,O,O]
abbrev cnf_builder_step_x11 : List Bool := [I,O,O,O,O,O,O,O,O,O,O,O,O,O,O,O,O,O,O,O,O,O,O,O,O,O,O,O,O,O,O,O,O,O,O,O,O,O,O,O,O,O,O,O,O,O,O,O,O,O,O,O,O,O,O,O,O,O,O,O,O,O,O,O,O,O,O,O,O,O,O,O,O,O,O,O,O,O,O,O,O,O,O,O,O,O,O,O,O,O,O,O,O,O,O,O,O,O,O,O,O,O,O,O,O,O,O,O,O,O,O,O,O,O,O,O,O,O]
abbrev cnf_builder_step_p12 : List AG := [o 80 (.ibin .add (.t 36) (.c (.int .i64 1))), o 36 (.mv (.t 80))]
abbrev cnf_builder_step_p13 : List AG := [o 70 (.mv (.t 0)), o 71 (.mv (.t 0)), o 72 (.nilck (.t 71)), o 73 (.off 8 (.t 72)), o 74 (.load false 1 (.t 73)), o 75 (.mv (.t 5)), o 76 (.lit 1 [(.int .i64 0)] [(0, (.t 75))]), o 77 (.append 1 t_int 8 (.t 74) (.t 76)), o 78 (.nilck (.t 70)), o 79 (.off 8 (.t 78)), q (.store 1 (.t 79) (.t 77))]
abbrev cnf_builder_step_p14 : List AG := [o 62 (.mv (.t 0)), o 63 (.mv (.t 5)), o 64 (.mv (.t 6)), o 65 (.neg (.t 64)), o 66 (.mv (.t 7)), o 67 (.neg (.t 66)), o 68 (.lit 1 [(.int .i64 0), (.int .i64 0), (.int .i64 0)] [(0, (.t 63)), (1, (.t 65)), (2, (.t 67))]), o 69 (.call (.f n_cnf_builder_add) [(.t 62), (.t 68)])]
abbrev cnf_builder_step_p15 : List AG := [o 56 (.mv (.t 0)), o 57 (.mv (.t 5)), o 58 (.neg (.t 57)), o 59 (.mv (.t 7)), o 60 (.lit 1 [(.int .i64 0), (.int .i64 0)] [(0, (.t 58)), (1, (.t 59))]), o 61 (.call (.f n_cnf_builder_add) [(.t 56), (.t 60)])]
abbrev cnf_builder_step_p16 : List AG := [o 50 (.mv (.t 0)), o 51 (.mv (.t 5)), o 52 (.neg (.t 51)), o 53 (.mv (.t 6)), o 54 (.lit 1 [(.int .i64 0), (.int .i64 0)] [(0, (.t 52)), (1, (.t 53))]), o 55 (.call (.f n_cnf_builder_add) [(.t 50), (.t 54)])]
abbrev cnf_builder_step_p17 : List AG := [o 40 (.mv (.t 0)), o 41 (.call (.f n_cnf_builder_fresh) [(.t 40)]), o 42 (.mv (.t 0)), o 43 (.arrAddr 2 1 (.t 4) (.c (.int .i64 0))), o 44 (.load false 1 (.t 43)), o 45 (.call (.f n_cnf_builder_lit) [(.t 42), (.t 44)]), o 46 (.mv (.t 0)), o 47 (.arrAddr 2 1 (.t 4) (.c (.int .i64 1))), o 48 (.load false 1 (.t 47)), o 49 (.call (.f n_cnf_builder_lit) [(.t 46), (.t 48)]), o 5 (.mv (.t 41)), o 6 (.mv (.t 45)), o 7 (.mv (.t 49))]
abbrev cnf_builder_step_p18 : List AG := [o 38 (.ixAddr 2 (.t 34) (.t 36)), o 39 (.load true 2 (.t 38)), o 4 (.alloc [(.int .i64 0), (.int .i64 0)]), q (.store 2 (.t 4) (.t 39))]
abbrev cnf_builder_step_p19 : ACode := (.seq (.reg cnf_builder_step_p18) (.seq (.dreg [O,O,O,O,I,O,O,O,I,O,O,O,O] [2,6,6,6,6,10,10,10,10,14,14,14,14] cnf_builder_step_p17) (.seq (.reg cnf_builder_step_p16) (.seq (.reg cnf_builder_step_p15) (.seq (.reg cnf_builder_step_p14) (.reg cnf_builder_step_p13))))))
abbrev cnf_builder_step_p20 : List AG := [o 37 (.cmp .lss (.sc .int) (.t 36) (.t 35))]
abbrev cnf_builder_step_b11 : ACode := (.seq (.reg cnf_builder_step_p20) (.seq (.cond (.t 37) .skip (.exit 2)) (.seq (.block 3 [] cnf_builder_step_p19) (.reg cnf_builder_step_p12))))
abbrev cnf_builder_step_p21 : List AG := [o 30 (.mv (.t 0)), o 31 (.nilck (.t 30)), o 32 (.off 3 (.t 31)), o 33 (.off 3 (.t 32)), o 34 (.load false 1 (.t 33)), o 35 (.len (.t 34)), o 36 (.mv (.c (.int .i64 0)))]
abbrev cnf_builder_step_m22 : List Bool := [I,O,O,O,O,O,O,O,O,O,O,O,O,O,O,O,I,I,O,O,O,O,O,O,O,O,O,O,O,O,O,O,O,O,O,O,O,O,O,O,O,O,O,O,O,O,O,O,O,O,O,O,O,O,O,O,O,O,O,O,O,O,O,O,O,O,O,O,O,O,O,O,O,O,O,O,O,O,O,O,O,O,O,O,O,O,O,O,O,O,O,O,O,O,O,O,O,O,O,O,O,O,O,O,O,O,O,O,O,O,O,O,O,O,O,O,O,O]
abbrev cnf_builder_step_x22 : List Bool := [I,O,O,O,O,O,O,O,O,O,O,O,O,O,O,O,O,O,O,O,O,O,O,O,O,O,O,O,O,O,O,O,O,O,O,O,O,O,O,O,O,O,O,O,O,O,O,O,O,O,O,O,O,O,O,O,O,O,O,O,O,O,O,O,O,O,O,O,O,O,O,O,O,O,O,O,O,O,O,O,O,O,O,O,O,O,O,O,O,O,O,O,O,O,O,O,O,O,O,O,O,O,O,O,O,O,O,O,O,O,O,O,O,O,O,O,O,O]
abbrev cnf_builder_step_p23 : List AG := [o 29 (.ibin .add (.t 17) (.c (.int .i64 1))), o 17 (.mv (.t 29))]
abbrev cnf_builder_step_p24 : List AG := [o 20 (.mv (.t 0)), o 21 (.nilck (.t 20)), o 22 (.off 8 (.t 21)), o 23 (.load false 1 (.t 22)), o 24 (.mv (.t 2)), o 25 (.ibin .add (.c (.int .i64 1)) (.t 24)), o 26 (.mv (.t 0)), o 27 (.call (.f n_cnf_builder_fresh) [(.t 26)]), o 28 (.ixAddr 1 (.t 23) (.t 25)), q (.store 1 (.t 28) (.t 27))]
abbrev cnf_builder_step_p25 : List AG := [o 19 (.mv (.t 17)), o 2 (.mv (.t 19))]
abbrev cnf_builder_step_p26 : ACode := (.seq (.reg cnf_builder_step_p25) (.dreg [O,O,O,I,O,O,O,O,O,O] [10,10,10,10,10,10,8,10,10,11] cnf_builder_step_p24))
abbrev cnf_builder_step_p27 : List AG := [o 18 (.cmp .lss (.sc .int) (.t 17) (.t 16))]
abbrev cnf_builder_step_b22 : ACode := (.seq (.reg cnf_builder_step_p27) (.seq (.cond (.t 18) .skip (.exit 0)) (.seq (.block 1 [] cnf_builder_step_p26) (.reg cnf_builder_step_p23))))
abbrev cnf_builder_step_p28 : List AG := [o 12 (.mv (.t 0)), o 13 (.nilck (.t 12)), o 14 (.off 3 (.t 13)), o 15 (.off 0 (.t 14)), o 16 (.load false 1 (.t 15)), o 17 (.mv (.c (.int .i64 0)))]
abbrev cnf_builder_step : AFun := ⟨(.seq (.seq (.reg cnf_builder_step_p28) (.block 0 cnf_builder_step_x22 (.loop cnf_builder_step_m22 cnf_builder_step_b22))) (.seq (.seq (.reg cnf_builder_step_p21) (.block 2 cnf_builder_step_x11 (.loop cnf_builder_step_m11 cnf_builder_step_b11))) (.seq (.dreg [O,O,O,O,O,I,O,O,O,O,O,O,O,O,O,O] [16,12,12,12,12,12,11,11,11,11,12,16,16,16,16,17] cnf_builder_step_p10) (.seq (.reg cnf_builder_step_p9) (.seq (.reg cnf_builder_step_p8) (.seq (.seq (.reg cnf_builder_step_p7) (.block 4 cnf_builder_step_x1 (.loop cnf_builder_step_m1 cnf_builder_step_b1))) (.reg cnf_builder_step_p0))))))), 118, []⟩
abbrev cnf_builder_step_k1 : List It := [.code (.reg cnf_builder_step_p0)]
abbrev cnf_builder_step_L1 (x0 x8 x9 x102 x103 x104 : AV) (h : List Ob) (e : Cx := cx) : Cfg := atC n_cnf_builder_step (.code cnf_builder_step_b1 :: .inLoop cnf_builder_step_m1 cnf_builder_step_b1 :: .inBlock 4 cnf_builder_step_x1 :: cnf_builder_step_k1) [x0,U,U,U,U,U,U,U,x8,x9,U,U,U,U,U,U,U,U,U,U,U,U,U,U,U,U,U,U,U,U,U,U,U,U,U,U,U,U,U,U,U,U,U,U,U,U,U,U,U,U,U,U,U,U,U,U,U,U,U,U,U,U,U,U,U,U,U,U,U,U,U,U,U,U,U,U,U,U,U,U,U,U,U,U,U,U,U,U,U,U,U,U,U,U,U,U,U,U,U,U,U,U,x102,x103,x104,U,U,U,U,U,U,U,U,U,U,U,U,U] h e
abbrev cnf_builder_step_E1 (x0 x9 : AV) (h : List Ob) (e : Cx := cx) : Cfg := atC n_cnf_builder_step cnf_builder_step_k1 [x0,U,U,U,U,U,U,U,U,x9,U,U,U,U,U,U,U,U,U,U,U,U,U,U,U,U,U,U,U,U,U,U,U,U,U,U,U,U,U,U,U,U,U,U,U,U,U,U,U,U,U,U,U,U,U,U,U,U,U,U,U,U,U,U,U,U,U,U,U,U,U,U,U,U,U,U,U,U,U,U,U,U,U,U,U,U,U,U,U,U,U,U,U,U,U,U,U,U,U,U,U,U,U,U,U,U,U,U,U,U,U,U,U,U,U,U,U,U] h e
abbrev cnf_builder_step_k11 : List It := [.code (.seq (.dreg [O,O,O,O,O,I,O,O,O,O,O,O,O,O,O,O] [16,12,12,12,12,12,11,11,11,11,12,16,16,16,16,17] cnf_builder_step_p10) (.seq (.reg cnf_builder_step_p9) (.seq (.reg cnf_builder_step_p8) (.seq (.seq (.reg cnf_builder_step_p7) (.block 4 cnf_builder_step_x1 (.loop cnf_builder_step_m1 cnf_builder_step_b1))) (.reg cnf_builder_step_p0)))))]
abbrev cnf_builder_step_L11 (x0 x34 x35 x36 : AV) (h : List Ob) (e : Cx := cx) : Cfg := atC n_cnf_builder_step (.code cnf_builder_step_b11 :: .inLoop cnf_builder_step_m11 cnf_builder_step_b11 :: .inBlock 2 cnf_builder_step_x11 :: cnf_builder_step_k11) [x0,U,U,U,U,U,U,U,U,U,U,U,U,U,U,U,U,U,U,U,U,U,U,U,U,U,U,U,U,U,U,U,U,U,x34,x35,x36,U,U,U,U,U,U,U,U,U,U,U,U,U,U,U,U,U,U,U,U,U,U,U,U,U,U,U,U,U,U,U,U,U,U,U,U,U,U,U,U,U,U,U,U,U,U,U,U,U,U,U,U,U,U,U,U,U,U,U,U,U,U,U,U,U,U,U,U,U,U,U,U,U,U,U,U,U,U,U,U,U] h e
abbrev cnf_builder_step_E11 (x0 : AV) (h : List Ob) (e : Cx := cx) : Cfg := atC n_cnf_builder_step cnf_builder_step_k11 [x0,U,U,U,U,U,U,U,U,U,U,U,U,U,U,U,U,U,U,U,U,U,U,U,U,U,U,U,U,U,U,U,U,U,U,U,U,U,U,U,U,U,U,U,U,U,U,U,U,U,U,U,U,U,U,U,U,U,U,U,U,U,U,U,U,U,U,U,U,U,U,U,U,U,U,U,U,U,U,U,U,U,U,U,U,U,U,U,U,U,U,U,U,U,U,U,U,U,U,U,U,U,U,U,U,U,U,U,U,U,U,U,U,U,U,U,U,U] h e
abbrev cnf_builder_step_k22 : List It := [.code (.seq (.seq (.reg cnf_builder_step_p21) (.block 2 cnf_builder_step_x11 (.loop cnf_builder_step_m11 cnf_builder_step_b11))) (.seq (.dreg [O,O,O,O,O,I,O,O,O,O,O,O,O,O,O,O] [16,12,12,12,12,12,11,11,11,11,12,16,16,16,16,17] cnf_builder_step_p10) (.seq (.reg cnf_builder_step_p9) (.seq (.reg cnf_builder_step_p8) (.seq (.seq (.reg cnf_builder_step_p7) (.block 4 cnf_builder_step_x1 (.loop cnf_builder_step_m1 cnf_builder_step_b1))) (.reg cnf_builder_step_p0))))))]
abbrev cnf_builder_step_L22 (x0 x16 x17 : AV) (h : List Ob) (e : Cx := cx) : Cfg := atC n_cnf_builder_step (.code cnf_builder_step_b22 :: .inLoop cnf_builder_step_m22 cnf_builder_step_b22 :: .inBlock 0 cnf_builder_step_x22 :: cnf_builder_step_k22) [x0,U,U,U,U,U,U,U,U,U,U,U,U,U,U,U,x16,x17,U,U,U,U,U,U,U,U,U,U,U,U,U,U,U,U,U,U,U,U,U,U,U,U,U,U,U,U,U,U,U,U,U,U,U,U,U,U,U,U,U,U,U,U,U,U,U,U,U,U,U,U,U,U,U,U,U,U,U,U,U,U,U,U,U,U,U,U,U,U,U,U,U,U,U,U,U,U,U,U,U,U,U,U,U,U,U,U,U,U,U,U,U,U,U,U,U,U,U,U] h e
abbrev cnf_builder_step_E22 (x0 : AV) (h : List Ob) (e : Cx := cx) : Cfg := atC n_cnf_builder_step cnf_builder_step_k22 [x0,U,U,U,U,U,U,U,U,U,U,U,U,U,U,U,U,U,U,U,U,U,U,U,U,U,U,U,U,U,U,U,U,U,U,U,U,U,U,U,U,U,U,U,U,U,U,U,U,U,U,U,U,U,U,U,U,U,U,U,U,U,U,U,U,U,U,U,U,U,U,U,U,U,U,U,U,U,U,U,U,U,U,U,U,U,U,U,U,U,U,U,U,U,U,U,U,U,U,U,U,U,U,U,U,U,U,U,U,U,U,U,U,U,U,U,U,U] h e
@[simp] theorem c_cnf_builder_step : cfun Try.prog n_cnf_builder_step = some cnf_builder_step := by kernel_rfl
@[simp] theorem e_cnf_builder_step : hasBody Try.prog n_cnf_builder_step = true := by kernel_rfl

/- r19_can: patchbay/patchbayref19.can -/
abbrev r19_can_p0 : List AG := [o 6 (.mv (.c (.int .i64 0)))]
abbrev r19_can_p1 : List AG := [o 6 (.mv (.c (.int .i64 8)))]
abbrev r19_can_p2 : ACode := (.seq (.reg r19_can_p1) .ret)
abbrev r19_can_p3 : List AG := [o 17 (.mv (.t 2)), o 18 (.cmp .lss (.sc .int) (.t 17) (.c (.int .i64 0))), o 19 (.mv (.t 18)), on 20 19 (.mv (.t 2)), on 21 19 (.cmp .gtr (.sc .int) (.t 20) (.c (.int .i64 40))), o 22 (.pick (.t 19) (.c (.bool true)) (.t 21)), o 23 (.mv (.t 22)), on 24 23 (.load true 5 (.t 3)), on 25 23 (.mv (.t 1)), on 26 23 (.mv (.t 2)), on 27 23 (.call (.f n_r19_many) [(.t 24), (.t 25), (.t 26)]), on 28 23 (.cmp .gtr (.sc .int) (.t 27) (.c (.int .i64 20000))), o 29 (.pick (.t 23) (.c (.bool true)) (.t 28))]
abbrev r19_can_p4 : List AG := [o 6 (.mv (.c (.int .i64 1)))]
abbrev r19_can_p5 : ACode := (.seq (.reg r19_can_p4) .ret)
abbrev r19_can_p6 : List AG := [o 13 (.load true 5 (.t 3)), o 14 (.mv (.t 1)), o 15 (.call (.f n_r19_right) [(.t 13), (.t 14)]), o 16 (.not (.t 15))]
abbrev r19_can_p7 : List AG := [o 12 (.mv (.t 7)), o 6 (.mv (.t 12))]
abbrev r19_can_p8 : ACode := (.seq (.reg r19_can_p7) .ret)
abbrev r19_can_p9 : List AG := [o 10 (.mv (.t 7)), o 11 (.cmp .neq (.sc .int) (.t 10) (.c (.int .i64 0)))]
abbrev r19_can_p10 : List AG := [o 8 (.load true 5 (.t 3)), o 9 (.call (.f n_r09_Check) [(.t 8)]), o 7 (.mv (.t 9))]
abbrev r19_can_p11 : List AG := [o 3 (.box 5 (.t 0)), o 6 (.mv (.c (.int .i64 0)))]
abbrev r19_can : AFun := ⟨(.seq (.reg r19_can_p11) (.seq (.reg r19_can_p10) (.seq (.seq (.reg r19_can_p9) (.cond (.t 11) r19_can_p8 .skip)) (.seq (.seq (.reg r19_can_p6) (.cond (.t 16) r19_can_p5 .skip)) (.seq (.seq (.reg r19_can_p3) (.cond (.t 29) r19_can_p2 .skip)) (.seq (.reg r19_can_p0) .ret)))))), 30, [.tmp 6]⟩
@[simp] theorem c_r19_can : cfun Try.prog n_r19_can = some r19_can := by kernel_rfl
@[simp] theorem e_r19_can : hasBody Try.prog n_r19_can = true := by kernel_rfl

/- r19_begins: patchbay/patchbayref19.begins -/
abbrev r19_begins_p0 : List AG := [o 54 (.load true 3 (.t 5)), q (.store 3 (.t 4) (.t 54))]
abbrev r19_begins_p1 : List AG := [o 51 (.mv (.t 6)), o 52 (.lit 1 [(.list true 0 [])] [(0, (.t 51))]), o 53 (.off 2 (.t 5)), q (.store 1 (.t 53) (.t 52))]
abbrev r19_begins_m2 : List Bool := [O,I,O,O,I,I,I,O,I,O,O,O,O,O,O,O,O,O,O,O,O,O,O,O,O,O,O,O,O,O,O,O,O,O,O,O,O,O,O,O,O,O,O,O,O,O,O,O,O,O,O,O,O,O,O]
abbrev r19_begins_x2 : List Bool := [O,O,O,O,I,I,I,O,O,O,O,O,O,O,O,O,O,O,O,O,O,O,O,O,O,O,O,O,O,O,O,O,O,O,O,O,O,O,O,O,O,O,O,O,O,O,O,O,O,O,O,O,O,O,O]
abbrev r19_begins_p3 : List AG := [o 26 (.mv (.t 8)), o 27 (.ibin .add (.t 26) (.c (.int .i64 1))), o 8 (.mv (.t 27))]
abbrev r19_begins_p4 : List AG := [o 37 (.mv (.t 6)), o 38 (.off 0 (.t 5)), o 39 (.load false 1 (.t 38)), o 40 (.lit 1 [(.int .i64 0)] [(0, (.t 39))]), o 41 (.append 1 t_int 8 (.t 37) (.t 40)), o 6 (.mv (.t 41))]
abbrev r19_begins_p5 : List AG := [o 33 (.off 0 (.t 5)), o 34 (.load false 1 (.t 33)), o 35 (.ibin .add (.t 34) (.c (.int .i64 1))), o 36 (.off 0 (.t 5)), q (.store 1 (.t 36) (.t 35))]
abbrev r19_begins_p6 : List AG := [o 42 (.mv (.t 6)), o 43 (.mv (.t 1)), o 44 (.mv (.t 8)), o 45 (.ixAddr 1 (.t 43) (.t 44)), o 46 (.load false 1 (.t 45)), o 47 (.ibin .mul (.c (.int .i64 2)) (.t 46)), o 48 (.ibin .sub (.t 47) (.c (.int .i64 1))), o 49 (.lit 1 [(.int .i64 0)] [(0, (.t 48))]), o 50 (.append 1 t_int 8 (.t 42) (.t 49)), o 6 (.mv (.t 50))]
abbrev r19_begins_p7 : ACode := (.seq (.reg r19_begins_p5) (.reg r19_begins_p4))
abbrev r19_begins_p8 : List AG := [o 28 (.mv (.t 1)), o 29 (.mv (.t 8)), o 30 (.ixAddr 1 (.t 28) (.t 29)), o 31 (.load false 1 (.t 30)), o 32 (.cmp .eql (.sc .int) (.t 31) (.c (.int .i64 2)))]
abbrev r19_begins_p9 : ACode := (.seq (.reg r19_begins_p8) (.cond (.t 32) r19_begins_p7 (.reg r19_begins_p6)))
abbrev r19_begins_p10 : List AG := [o 22 (.mv (.t 8)), o 23 (.mv (.t 1)), o 24 (.len (.t 23)), o 25 (.cmp .lss (.sc .int) (.t 22) (.t 24))]
abbrev r19_begins_b2 : ACode := (.seq (.seq (.reg r19_begins_p10) (.cond (.t 25) .skip (.exit 2))) (.seq (.block 3 [] r19_begins_p9) (.reg r19_begins_p3)))
abbrev r19_begins_p11 : List AG := [o 8 (.mv (.c (.int .i64 0)))]
abbrev r19_begins_m12 : List Bool := [O,I,I,O,I,I,I,I,O,O,O,O,O,O,O,O,O,O,O,O,O,O,O,O,O,O,O,O,O,O,O,O,O,O,O,O,O,O,O,O,O,O,O,O,O,O,O,O,O,O,O,O,O,O,O]
abbrev r19_begins_x12 : List Bool := [O,I,O,O,I,I,I,O,O,O,O,O,O,O,O,O,O,O,O,O,O,O,O,O,O,O,O,O,O,O,O,O,O,O,O,O,O,O,O,O,O,O,O,O,O,O,O,O,O,O,O,O,O,O,O]
abbrev r19_begins_p13 : List AG := [o 17 (.mv (.t 7)), o 18 (.ibin .add (.t 17) (.c (.int .i64 1))), o 7 (.mv (.t 18))]
abbrev r19_begins_p14 : List AG := [o 19 (.mv (.t 6)), o 20 (.lit 1 [(.int .i64 0)] [(0, (.c (.int .i64 0)))]), o 21 (.append 1 t_int 8 (.t 19) (.t 20)), o 6 (.mv (.t 21))]
abbrev r19_begins_p15 : List AG := [o 13 (.mv (.t 7)), o 14 (.off 0 (.t 2)), o 15 (.load false 1 (.t 14)), o 16 (.cmp .lss (.sc .int) (.t 13) (.t 15))]
abbrev r19_begins_b12 : ACode := (.seq (.seq (.reg r19_begins_p15) (.cond (.t 16) .skip (.exit 0))) (.seq (.block 1 [] (.reg r19_begins_p14)) (.reg r19_begins_p13)))
abbrev r19_begins_p16 : List AG := [o 7 (.mv (.c (.int .i64 0)))]
abbrev r19_begins_p17 : List AG := [o 12 (.lit 1 [(.int .i64 0)] [(0, (.c (.int .i64 (-1))))]), o 6 (.mv (.t 12))]
abbrev r19_begins_p18 : List AG := [o 9 (.lit 1 [(.int .i64 0)] [(0, (.c (.int .i64 1)))]), o 10 (.lit 1 [(.list true 0 [])] [(0, (.t 9))]), o 11 (.build [(.int .i64 0), (.list true 0 []), (.list true 0 [])] [(0, 1, (.c (.int .i64 1))), (1, 1, (.t 10))]), o 5 (.alloc [(.int .i64 0), (.own 1 t_api_Clause_2 []), (.own 1 t_int_3 [])]), q (.store 3 (.t 5) (.t 11))]
abbrev r19_begins_p19 : List AG := [o 2 (.box 5 (.t 0)), o 4 (.alloc [(.int .i64 0), (.own 1 t_api_Clause_2 []), (.own 1 t_int_3 [])])]
abbrev r19_begins : AFun := ⟨(.seq (.reg r19_begins_p19) (.seq (.reg r19_begins_p18) (.seq (.reg r19_begins_p17) (.seq (.seq (.reg r19_begins_p16) (.block 0 r19_begins_x12 (.loop r19_begins_m12 r19_begins_b12))) (.seq (.seq (.reg r19_begins_p11) (.block 2 r19_begins_x2 (.loop r19_begins_m2 r19_begins_b2))) (.seq (.reg r19_begins_p1) (.seq (.reg r19_begins_p0) .ret))))))), 55, [.cell 4 true 3]⟩
abbrev r19_begins_k2 : List It := [.code (.seq (.reg r19_begins_p1) (.seq (.reg r19_begins_p0) .ret))]
abbrev r19_begins_L2 (x1 x4 x5 x6 x8 : AV) (h : List Ob) (e : Cx := cx) : Cfg := atC n_r19_begins (.code r19_begins_b2 :: .inLoop r19_begins_m2 r19_begins_b2 :: .inBlock 2 r19_begins_x2 :: r19_begins_k2) [U,x1,U,U,x4,x5,x6,U,x8,U,U,U,U,U,U,U,U,U,U,U,U,U,U,U,U,U,U,U,U,U,U,U,U,U,U,U,U,U,U,U,U,U,U,U,U,U,U,U,U,U,U,U,U,U,U] h e
abbrev r19_begins_E2 (x4 x5 x6 : AV) (h : List Ob) (e : Cx := cx) : Cfg := atC n_r19_begins r19_begins_k2 [U,U,U,U,x4,x5,x6,U,U,U,U,U,U,U,U,U,U,U,U,U,U,U,U,U,U,U,U,U,U,U,U,U,U,U,U,U,U,U,U,U,U,U,U,U,U,U,U,U,U,U,U,U,U,U,U] h e
abbrev r19_begins_k12 : List It := [.code (.seq (.seq (.reg r19_begins_p11) (.block 2 r19_begins_x2 (.loop r19_begins_m2 r19_begins_b2))) (.seq (.reg r19_begins_p1) (.seq (.reg r19_begins_p0) .ret)))]
abbrev r19_begins_L12 (x1 x2 x4 x5 x6 x7 : AV) (h : List Ob) (e : Cx := cx) : Cfg := atC n_r19_begins (.code r19_begins_b12 :: .inLoop r19_begins_m12 r19_begins_b12 :: .inBlock 0 r19_begins_x12 :: r19_begins_k12) [U,x1,x2,U,x4,x5,x6,x7,U,U,U,U,U,U,U,U,U,U,U,U,U,U,U,U,U,U,U,U,U,U,U,U,U,U,U,U,U,U,U,U,U,U,U,U,U,U,U,U,U,U,U,U,U,U,U] h e
abbrev r19_begins_E12 (x1 x4 x5 x6 : AV) (h : List Ob) (e : Cx := cx) : Cfg := atC n_r19_begins r19_begins_k12 [U,x1,U,U,x4,x5,x6,U,U,U,U,U,U,U,U,U,U,U,U,U,U,U,U,U,U,U,U,U,U,U,U,U,U,U,U,U,U,U,U,U,U,U,U,U,U,U,U,U,U,U,U,U,U,U,U] h e
@[simp] theorem c_r19_begins : cfun Try.prog n_r19_begins = some r19_begins := by kernel_rfl
@[simp] theorem e_r19_begins : hasBody Try.prog n_r19_begins = true := by kernel_rfl

/- r19_step: patchbay/patchbayref19.step -/
abbrev r19_step_p0 : List AG := [o 130 (.load true 3 (.t 2)), q (.store 3 (.t 4) (.t 130))]
abbrev r19_step_p1 : List AG := [o 124 (.off 2 (.t 2)), o 125 (.load false 1 (.t 124)), o 126 (.mv (.t 12)), o 127 (.lit 1 [(.list true 0 [])] [(0, (.t 126))]), o 128 (.append 1 t_int_3 24 (.t 125) (.t 127)), o 129 (.off 2 (.t 2)), q (.store 1 (.t 129) (.t 128))]
abbrev r19_step_m2 : List Bool := [O,O,I,I,I,O,I,O,O,O,O,O,I,O,I,O,O,O,O,O,O,O,O,O,O,O,O,O,O,O,O,O,O,O,O,O,O,O,O,O,O,O,O,O,O,O,O,O,O,O,O,O,O,O,O,O,O,O,O,O,O,O,O,O,O,O,O,O,O,O,O,O,O,O,O,O,O,O,O,O,O,O,O,O,O,O,O,O,O,O,O,O,O,O,O,O,O,O,O,O,O,O,O,O,O,O,O,O,O,O,O,O,O,O,O,O,O,O,O,O,O,O,O,O,O,O,O,O,O,O,O]
abbrev r19_step_x2 : List Bool := [O,O,I,O,I,O,O,O,O,O,O,O,I,O,O,O,O,O,O,O,O,O,O,O,O,O,O,O,O,O,O,O,O,O,O,O,O,O,O,O,O,O,O,O,O,O,O,O,O,O,O,O,O,O,O,O,O,O,O,O,O,O,O,O,O,O,O,O,O,O,O,O,O,O,O,O,O,O,O,O,O,O,O,O,O,O,O,O,O,O,O,O,O,O,O,O,O,O,O,O,O,O,O,O,O,O,O,O,O,O,O,O,O,O,O,O,O,O,O,O,O,O,O,O,O,O,O,O,O,O,O]
abbrev r19_step_p3 : List AG := [o 112 (.mv (.t 14)), o 113 (.ibin .add (.t 112) (.c (.int .i64 1))), o 14 (.mv (.t 113))]
abbrev r19_step_p4 : List AG := [o 114 (.mv (.t 12)), o 115 (.mv (.t 6)), o 116 (.off 1 (.t 3)), o 117 (.load false 1 (.t 116)), o 118 (.mv (.t 14)), o 119 (.ixAddr 1 (.t 117) (.t 118)), o 120 (.load false 1 (.t 119)), o 121 (.call (.f n_r19_in) [(.t 115), (.t 120)]), o 122 (.lit 1 [(.int .i64 0)] [(0, (.t 121))]), o 123 (.append 1 t_int 8 (.t 114) (.t 122)), o 12 (.mv (.t 123))]
abbrev r19_step_p5 : List AG := [o 107 (.mv (.t 14)), o 108 (.off 1 (.t 3)), o 109 (.load false 1 (.t 108)), o 110 (.len (.t 109)), o 111 (.cmp .lss (.sc .int) (.t 107) (.t 110))]
abbrev r19_step_b2 : ACode := (.seq (.seq (.reg r19_step_p5) (.cond (.t 111) .skip (.exit 6))) (.seq (.block 7 [] (.reg r19_step_p4)) (.reg r19_step_p3)))
abbrev r19_step_p6 : List AG := [o 14 (.mv (.c (.int .i64 0)))]
abbrev r19_step_m7 : List Bool := [O,O,I,I,I,O,I,O,O,O,O,O,I,I,O,O,O,O,O,O,O,O,O,O,O,O,O,O,O,O,O,O,O,O,O,O,O,O,O,O,O,O,O,O,O,O,O,O,O,O,O,O,O,O,O,O,O,O,O,O,O,O,O,O,O,O,O,O,O,O,O,O,O,O,O,O,O,O,O,O,O,O,O,O,O,O,O,O,O,O,O,O,O,O,O,O,O,O,O,O,O,O,O,O,O,O,O,O,O,O,O,O,O,O,O,O,O,O,O,O,O,O,O,O,O,O,O,O,O,O,O]
abbrev r19_step_x7 : List Bool := [O,O,I,I,I,O,I,O,O,O,O,O,I,O,O,O,O,O,O,O,O,O,O,O,O,O,O,O,O,O,O,O,O,O,O,O,O,O,O,O,O,O,O,O,O,O,O,O,O,O,O,O,O,O,O,O,O,O,O,O,O,O,O,O,O,O,O,O,O,O,O,O,O,O,O,O,O,O,O,O,O,O,O,O,O,O,O,O,O,O,O,O,O,O,O,O,O,O,O,O,O,O,O,O,O,O,O,O,O,O,O,O,O,O,O,O,O,O,O,O,O,O,O,O,O,O,O,O,O,O,O]
abbrev r19_step_p8 : List AG := [o 102 (.mv (.t 13)), o 103 (.ibin .add (.t 102) (.c (.int .i64 1))), o 13 (.mv (.t 103))]
abbrev r19_step_p9 : List AG := [o 104 (.mv (.t 12)), o 105 (.lit 1 [(.int .i64 0)] [(0, (.c (.int .i64 0)))]), o 106 (.append 1 t_int 8 (.t 104) (.t 105)), o 12 (.mv (.t 106))]
abbrev r19_step_p10 : List AG := [o 98 (.mv (.t 13)), o 99 (.off 0 (.t 3)), o 100 (.load false 1 (.t 99)), o 101 (.cmp .lss (.sc .int) (.t 98) (.t 100))]
abbrev r19_step_b7 : ACode := (.seq (.seq (.reg r19_step_p10) (.cond (.t 101) .skip (.exit 4))) (.seq (.block 5 [] (.reg r19_step_p9)) (.reg r19_step_p8)))
abbrev r19_step_p11 : List AG := [o 13 (.mv (.c (.int .i64 0)))]
abbrev r19_step_p12 : List AG := [o 97 (.lit 1 [(.int .i64 0)] [(0, (.c (.int .i64 (-1))))]), o 12 (.mv (.t 97))]
abbrev r19_step_p13 : List AG := [o 92 (.off 2 (.t 2)), o 93 (.load false 1 (.t 92)), o 94 (.mv (.t 5)), o 95 (.mv (.t 6)), o 96 (.ixAddr 1 (.t 93) (.t 94)), q (.store 1 (.t 96) (.t 95))]
abbrev r19_step_m14 : List Bool := [O,O,I,I,I,I,I,O,I,O,O,O,O,O,O,O,O,O,O,O,O,O,O,O,O,O,O,O,O,O,O,O,O,O,O,O,O,O,O,O,O,O,O,O,O,O,O,O,O,O,O,O,O,O,O,O,O,O,O,O,O,O,O,O,O,O,O,O,O,O,O,O,O,O,O,O,O,O,O,O,O,O,O,O,O,O,O,O,O,O,O,O,O,O,O,O,O,O,O,O,O,O,O,O,O,O,O,O,O,O,O,O,O,O,O,O,O,O,O,O,O,O,O,O,O,O,O,O,O,O,O]
abbrev r19_step_x14 : List Bool := [O,O,I,I,I,I,I,O,O,O,O,O,O,O,O,O,O,O,O,O,O,O,O,O,O,O,O,O,O,O,O,O,O,O,O,O,O,O,O,O,O,O,O,O,O,O,O,O,O,O,O,O,O,O,O,O,O,O,O,O,O,O,O,O,O,O,O,O,O,O,O,O,O,O,O,O,O,O,O,O,O,O,O,O,O,O,O,O,O,O,O,O,O,O,O,O,O,O,O,O,O,O,O,O,O,O,O,O,O,O,O,O,O,O,O,O,O,O,O,O,O,O,O,O,O,O,O,O,O,O,O]
abbrev r19_step_p15 : List AG := [o 45 (.mv (.t 8)), o 46 (.ibin .add (.t 45) (.c (.int .i64 1))), o 8 (.mv (.t 46))]
abbrev r19_step_p16 : List AG := [o 88 (.mv (.t 6)), o 89 (.mv (.t 9)), o 90 (.lit 1 [(.int .i64 0)] [(0, (.t 89))]), o 91 (.append 1 t_int 8 (.t 88) (.t 90)), o 6 (.mv (.t 91))]
abbrev r19_step_p17 : List AG := [o 69 (.off 1 (.t 2)), o 70 (.load false 1 (.t 69)), o 71 (.mv (.t 9)), o 72 (.neg (.t 71)), o 73 (.mv (.t 10)), o 74 (.lit 1 [(.int .i64 0), (.int .i64 0)] [(0, (.t 72)), (1, (.t 73))]), o 75 (.mv (.t 9)), o 76 (.neg (.t 75)), o 77 (.mv (.t 11)), o 78 (.lit 1 [(.int .i64 0), (.int .i64 0)] [(0, (.t 76)), (1, (.t 77))]), o 79 (.mv (.t 9)), o 80 (.mv (.t 10)), o 81 (.neg (.t 80)), o 82 (.mv (.t 11)), o 83 (.neg (.t 82)), o 84 (.lit 1 [(.int .i64 0), (.int .i64 0), (.int .i64 0)] [(0, (.t 79)), (1, (.t 81)), (2, (.t 83))]), o 85 (.lit 1 [(.list true 0 []), (.list true 0 []), (.list true 0 [])] [(0, (.t 74)), (1, (.t 78)), (2, (.t 84))]), o 86 (.append 1 t_api_Clause_2 24 (.t 70) (.t 85)), o 87 (.off 1 (.t 2)), q (.store 1 (.t 87) (.t 86))]
abbrev r19_step_p18 : List AG := [o 61 (.mv (.t 6)), o 62 (.off 3 (.t 3)), o 63 (.load false 1 (.t 62)), o 64 (.mv (.t 8)), o 65 (.ixAddr 2 (.t 63) (.t 64)), o 66 (.arrAddr 2 1 (.t 65) (.c (.int .i64 1))), o 67 (.load false 1 (.t 66)), o 68 (.call (.f n_r19_in) [(.t 61), (.t 67)]), o 11 (.mv (.t 68))]
abbrev r19_step_p19 : List AG := [o 53 (.mv (.t 6)), o 54 (.off 3 (.t 3)), o 55 (.load false 1 (.t 54)), o 56 (.mv (.t 8)), o 57 (.ixAddr 2 (.t 55) (.t 56)), o 58 (.arrAddr 2 1 (.t 57) (.c (.int .i64 0))), o 59 (.load false 1 (.t 58)), o 60 (.call (.f n_r19_in) [(.t 53), (.t 59)]), o 10 (.mv (.t 60))]
abbrev r19_step_p20 : List AG := [o 51 (.off 0 (.t 2)), o 52 (.load false 1 (.t 51)), o 9 (.mv (.t 52))]
abbrev r19_step_p21 : List AG := [o 47 (.off 0 (.t 2)), o 48 (.load false 1 (.t 47)), o 49 (.ibin .add (.t 48) (.c (.int .i64 1))), o 50 (.off 0 (.t 2)), q (.store 1 (.t 50) (.t 49))]
abbrev r19_step_p22 : ACode := (.seq (.reg r19_step_p21) (.seq (.reg r19_step_p20) (.seq (.reg r19_step_p19) (.seq (.reg r19_step_p18) (.seq (.reg r19_step_p17) (.reg r19_step_p16))))))
abbrev r19_step_p23 : List AG := [o 40 (.mv (.t 8)), o 41 (.off 3 (.t 3)), o 42 (.load false 1 (.t 41)), o 43 (.len (.t 42)), o 44 (.cmp .lss (.sc .int) (.t 40) (.t 43))]
abbrev r19_step_b14 : ACode := (.seq (.seq (.reg r19_step_p23) (.cond (.t 44) .skip (.exit 2))) (.seq (.block 3 [] r19_step_p22) (.reg r19_step_p15)))
abbrev r19_step_p24 : List AG := [o 8 (.mv (.c (.int .i64 0)))]
abbrev r19_step_m25 : List Bool := [O,O,I,I,I,I,I,I,O,O,O,O,O,O,O,O,O,O,O,O,O,O,O,O,O,O,O,O,O,O,O,O,O,O,O,O,O,O,O,O,O,O,O,O,O,O,O,O,O,O,O,O,O,O,O,O,O,O,O,O,O,O,O,O,O,O,O,O,O,O,O,O,O,O,O,O,O,O,O,O,O,O,O,O,O,O,O,O,O,O,O,O,O,O,O,O,O,O,O,O,O,O,O,O,O,O,O,O,O,O,O,O,O,O,O,O,O,O,O,O,O,O,O,O,O,O,O,O,O,O,O]
abbrev r19_step_x25 : List Bool := [O,O,I,I,I,I,I,O,O,O,O,O,O,O,O,O,O,O,O,O,O,O,O,O,O,O,O,O,O,O,O,O,O,O,O,O,O,O,O,O,O,O,O,O,O,O,O,O,O,O,O,O,O,O,O,O,O,O,O,O,O,O,O,O,O,O,O,O,O,O,O,O,O,O,O,O,O,O,O,O,O,O,O,O,O,O,O,O,O,O,O,O,O,O,O,O,O,O,O,O,O,O,O,O,O,O,O,O,O,O,O,O,O,O,O,O,O,O,O,O,O,O,O,O,O,O,O,O,O,O,O]
abbrev r19_step_p26 : List AG := [o 28 (.mv (.t 7)), o 29 (.ibin .add (.t 28) (.c (.int .i64 1))), o 7 (.mv (.t 29))]
abbrev r19_step_p27 : List AG := [o 34 (.mv (.t 6)), o 35 (.mv (.t 7)), o 36 (.ibin .add (.c (.int .i64 1)) (.t 35)), o 37 (.off 0 (.t 2)), o 38 (.load false 1 (.t 37)), o 39 (.ixAddr 1 (.t 34) (.t 36)), q (.store 1 (.t 39) (.t 38))]
abbrev r19_step_p28 : List AG := [o 30 (.off 0 (.t 2)), o 31 (.load false 1 (.t 30)), o 32 (.ibin .add (.t 31) (.c (.int .i64 1))), o 33 (.off 0 (.t 2)), q (.store 1 (.t 33) (.t 32))]
abbrev r19_step_p29 : ACode := (.seq (.reg r19_step_p28) (.reg r19_step_p27))
abbrev r19_step_p30 : List AG := [o 24 (.mv (.t 7)), o 25 (.off 0 (.t 3)), o 26 (.load false 1 (.t 25)), o 27 (.cmp .lss (.sc .int) (.t 24) (.t 26))]
abbrev r19_step_b25 : ACode := (.seq (.seq (.reg r19_step_p30) (.cond (.t 27) .skip (.exit 0))) (.seq (.block 1 [] r19_step_p29) (.reg r19_step_p26)))
abbrev r19_step_p31 : List AG := [o 7 (.mv (.c (.int .i64 0)))]
abbrev r19_step_p32 : List AG := [o 19 (.off 2 (.t 2)), o 20 (.load false 1 (.t 19)), o 21 (.mv (.t 5)), o 22 (.ixAddr 1 (.t 20) (.t 21)), o 23 (.load false 1 (.t 22)), o 6 (.mv (.t 23))]
abbrev r19_step_p33 : List AG := [o 15 (.off 2 (.t 2)), o 16 (.load false 1 (.t 15)), o 17 (.len (.t 16)), o 18 (.ibin .sub (.t 17) (.c (.int .i64 1))), o 5 (.mv (.t 18))]
abbrev r19_step_p34 : List AG := [o 2 (.box 3 (.t 0)), o 3 (.box 5 (.t 1)), o 4 (.alloc [(.int .i64 0), (.own 1 t_api_Clause_2 []), (.own 1 t_int_3 [])])]
abbrev r19_step : AFun := ⟨(.seq (.reg r19_step_p34) (.seq (.reg r19_step_p33) (.seq (.reg r19_step_p32) (.seq (.seq (.reg r19_step_p31) (.block 0 r19_step_x25 (.loop r19_step_m25 r19_step_b25))) (.seq (.seq (.reg r19_step_p24) (.block 2 r19_step_x14 (.loop r19_step_m14 r19_step_b14))) (.seq (.reg r19_step_p13) (.seq (.reg r19_step_p12) (.seq (.seq (.reg r19_step_p11) (.block 4 r19_step_x7 (.loop r19_step_m7 r19_step_b7))) (.seq (.seq (.reg r19_step_p6) (.block 6 r19_step_x2 (.loop r19_step_m2 r19_step_b2))) (.seq (.reg r19_step_p1) (.seq (.reg r19_step_p0) .ret))))))))))), 131, [.cell 4 true 3]⟩
abbrev r19_step_k2 : List It := [.code (.seq (.reg r19_step_p1) (.seq (.reg r19_step_p0) .ret))]
abbrev r19_step_L2 (x2 x3 x4 x6 x12 x14 : AV) (h : List Ob) (e : Cx := cx) : Cfg := atC n_r19_step (.code r19_step_b2 :: .inLoop r19_step_m2 r19_step_b2 :: .inBlock 6 r19_step_x2 :: r19_step_k2) [U,U,x2,x3,x4,U,x6,U,U,U,U,U,x12,U,x14,U,U,U,U,U,U,U,U,U,U,U,U,U,U,U,U,U,U,U,U,U,U,U,U,U,U,U,U,U,U,U,U,U,U,U,U,U,U,U,U,U,U,U,U,U,U,U,U,U,U,U,U,U,U,U,U,U,U,U,U,U,U,U,U,U,U,U,U,U,U,U,U,U,U,U,U,U,U,U,U,U,U,U,U,U,U,U,U,U,U,U,U,U,U,U,U,U,U,U,U,U,U,U,U,U,U,U,U,U,U,U,U,U,U,U,U] h e
abbrev r19_step_E2 (x2 x4 x12 : AV) (h : List Ob) (e : Cx := cx) : Cfg := atC n_r19_step r19_step_k2 [U,U,x2,U,x4,U,U,U,U,U,U,U,x12,U,U,U,U,U,U,U,U,U,U,U,U,U,U,U,U,U,U,U,U,U,U,U,U,U,U,U,U,U,U,U,U,U,U,U,U,U,U,U,U,U,U,U,U,U,U,U,U,U,U,U,U,U,U,U,U,U,U,U,U,U,U,U,U,U,U,U,U,U,U,U,U,U,U,U,U,U,U,U,U,U,U,U,U,U,U,U,U,U,U,U,U,U,U,U,U,U,U,U,U,U,U,U,U,U,U,U,U,U,U,U,U,U,U,U,U,U,U] h e
abbrev r19_step_k7 : List It := [.code (.seq (.seq (.reg r19_step_p6) (.block 6 r19_step_x2 (.loop r19_step_m2 r19_step_b2))) (.seq (.reg r19_step_p1) (.seq (.reg r19_step_p0) .ret)))]
abbrev r19_step_L7 (x2 x3 x4 x6 x12 x13 : AV) (h : List Ob) (e : Cx := cx) : Cfg := atC n_r19_step (.code r19_step_b7 :: .inLoop r19_step_m7 r19_step_b7 :: .inBlock 4 r19_step_x7 :: r19_step_k7) [U,U,x2,x3,x4,U,x6,U,U,U,U,U,x12,x13,U,U,U,U,U,U,U,U,U,U,U,U,U,U,U,U,U,U,U,U,U,U,U,U,U,U,U,U,U,U,U,U,U,U,U,U,U,U,U,U,U,U,U,U,U,U,U,U,U,U,U,U,U,U,U,U,U,U,U,U,U,U,U,U,U,U,U,U,U,U,U,U,U,U,U,U,U,U,U,U,U,U,U,U,U,U,U,U,U,U,U,U,U,U,U,U,U,U,U,U,U,U,U,U,U,U,U,U,U,U,U,U,U,U,U,U,U] h e
abbrev r19_step_E7 (x2 x3 x4 x6 x12 : AV) (h : List Ob) (e : Cx := cx) : Cfg := atC n_r19_step r19_step_k7 [U,U,x2,x3,x4,U,x6,U,U,U,U,U,x12,U,U,U,U,U,U,U,U,U,U,U,U,U,U,U,U,U,U,U,U,U,U,U,U,U,U,U,U,U,U,U,U,U,U,U,U,U,U,U,U,U,U,U,U,U,U,U,U,U,U,U,U,U,U,U,U,U,U,U,U,U,U,U,U,U,U,U,U,U,U,U,U,U,U,U,U,U,U,U,U,U,U,U,U,U,U,U,U,U,U,U,U,U,U,U,U,U,U,U,U,U,U,U,U,U,U,U,U,U,U,U,U,U,U,U,U,U,U] h e
abbrev r19_step_k14 : List It := [.code (.seq (.reg r19_step_p13) (.seq (.reg r19_step_p12) (.seq (.seq (.reg r19_step_p11) (.block 4 r19_step_x7 (.loop r19_step_m7 r19_step_b7))) (.seq (.seq (.reg r19_step_p6) (.block 6 r19_step_x2 (.loop r19_step_m2 r19_step_b2))) (.seq (.reg r19_step_p1) (.seq (.reg r19_step_p0) .ret))))))]
abbrev r19_step_L14 (x2 x3 x4 x5 x6 x8 : AV) (h : List Ob) (e : Cx := cx) : Cfg := atC n_r19_step (.code r19_step_b14 :: .inLoop r19_step_m14 r19_step_b14 :: .inBlock 2 r19_step_x14 :: r19_step_k14) [U,U,x2,x3,x4,x5,x6,U,x8,U,U,U,U,U,U,U,U,U,U,U,U,U,U,U,U,U,U,U,U,U,U,U,U,U,U,U,U,U,U,U,U,U,U,U,U,U,U,U,U,U,U,U,U,U,U,U,U,U,U,U,U,U,U,U,U,U,U,U,U,U,U,U,U,U,U,U,U,U,U,U,U,U,U,U,U,U,U,U,U,U,U,U,U,U,U,U,U,U,U,U,U,U,U,U,U,U,U,U,U,U,U,U,U,U,U,U,U,U,U,U,U,U,U,U,U,U,U,U,U,U,U] h e
abbrev r19_step_E14 (x2 x3 x4 x5 x6 : AV) (h : List Ob) (e : Cx := cx) : Cfg := atC n_r19_step r19_step_k14 [U,U,x2,x3,x4,x5,x6,U,U,U,U,U,U,U,U,U,U,U,U,U,U,U,U,U,U,U,U,U,U,U,U,U,U,U,U,U,U,U,U,U,U,U,U,U,U,U,U,U,U,U,U,U,U,U,U,U,U,U,U,U,U,U,U,U,U,U,U,U,U,U,U,U,U,U,U,U,U,U,U,U,U,U,U,U,U,U,U,U,U,U,U,U,U,U,U,U,U,U,U,U,U,U,U,U,U,U,U,U,U,U,U,U,U,U,U,U,U,U,U,U,U,U,U,U,U,U,U,U,U,U,U] h e
abbrev r19_step_k25 : List It := [.code (.seq (.seq (.reg r19_step_p24) (.block 2 r19_step_x14 (.loop r19_step_m14 r19_step_b14))) (.seq (.reg r19_step_p13) (.seq (.reg r19_step_p12) (.seq (.seq (.reg r19_step_p11) (.block 4 r19_step_x7 (.loop r19_step_m7 r19_step_b7))) (.seq (.seq (.reg r19_step_p6) (.block 6 r19_step_x2 (.loop r19_step_m2 r19_step_b2))) (.seq (.reg r19_step_p1) (.seq (.reg r19_step_p0) .ret)))))))]
abbrev r19_step_L25 (x2 x3 x4 x5 x6 x7 : AV) (h : List Ob) (e : Cx := cx) : Cfg := atC n_r19_step (.code r19_step_b25 :: .inLoop r19_step_m25 r19_step_b25 :: .inBlock 0 r19_step_x25 :: r19_step_k25) [U,U,x2,x3,x4,x5,x6,x7,U,U,U,U,U,U,U,U,U,U,U,U,U,U,U,U,U,U,U,U,U,U,U,U,U,U,U,U,U,U,U,U,U,U,U,U,U,U,U,U,U,U,U,U,U,U,U,U,U,U,U,U,U,U,U,U,U,U,U,U,U,U,U,U,U,U,U,U,U,U,U,U,U,U,U,U,U,U,U,U,U,U,U,U,U,U,U,U,U,U,U,U,U,U,U,U,U,U,U,U,U,U,U,U,U,U,U,U,U,U,U,U,U,U,U,U,U,U,U,U,U,U,U] h e
abbrev r19_step_E25 (x2 x3 x4 x5 x6 : AV) (h : List Ob) (e : Cx := cx) : Cfg := atC n_r19_step r19_step_k25 [U,U,x2,x3,x4,x5,x6,U,U,U,U,U,U,U,U,U,U,U,U,U,U,U,U,U,U,U,U,U,U,U,U,U,U,U,U,U,U,U,U,U,U,U,U,U,U,U,U,U,U,U,U,U,U,U,U,U,U,U,U,U,U,U,U,U,U,U,U,U,U,U,U,U,U,U,U,U,U,U,U,U,U,U,U,U,U,U,U,U,U,U,U,U,U,U,U,U,U,U,U,U,U,U,U,U,U,U,U,U,U,U,U,U,U,U,U,U,U,U,U,U,U,U,U,U,U,U,U,U,U,U,U] h e
@[simp] theorem c_r19_step : cfun Try.prog n_r19_step = some r19_step := by kernel_rfl
@[simp] theorem e_r19_step : hasBody Try.prog n_r19_step = true := by kernel_rfl

/- slices_Concat_bool_bool: slices.Concat[[]bool,bool] -/
abbrev slices_Concat_bool_bool_p0 : List AG := [o 35 (.mv (.t 6)), o 2 (.mv (.t 35))]
abbrev slices_Concat_bool_bool_m1 : List Bool := [O,O,O,O,O,O,I,O,O,O,O,O,O,O,O,O,O,O,O,O,O,O,O,O,O,I,I,I,O,O,O,O,O,O,O,O]
abbrev slices_Concat_bool_bool_x1 : List Bool := [O,O,O,O,O,O,I,O,O,O,O,O,O,O,O,O,O,O,O,O,O,O,O,O,O,O,O,O,O,O,O,O,O,O,O,O]
abbrev slices_Concat_bool_bool_p2 : List AG := [o 34 (.ibin .add (.t 27) (.c (.int .i64 1))), o 27 (.mv (.t 34))]
abbrev slices_Concat_bool_bool_p3 : List AG := [o 31 (.mv (.t 6)), o 32 (.mv (.t 8)), o 33 (.append 1 t_bool 1 (.t 31) (.t 32)), o 6 (.mv (.t 33))]
abbrev slices_Concat_bool_bool_p4 : List AG := [o 29 (.ixAddr 1 (.t 25) (.t 27)), o 30 (.load false 1 (.t 29)), o 8 (.mv (.t 30))]
abbrev slices_Concat_bool_bool_p5 : ACode := (.seq (.reg slices_Concat_bool_bool_p4) (.reg slices_Concat_bool_bool_p3))
abbrev slices_Concat_bool_bool_p6 : List AG := [o 28 (.cmp .lss (.sc .int) (.t 27) (.t 26))]
abbrev slices_Concat_bool_bool_b1 : ACode := (.seq (.reg slices_Concat_bool_bool_p6) (.seq (.cond (.t 28) .skip (.exit 2)) (.seq (.block 3 [] slices_Concat_bool_bool_p5) (.reg slices_Concat_bool_bool_p2))))
abbrev slices_Concat_bool_bool_p7 : List AG := [o 25 (.mv (.t 0)), o 26 (.len (.t 25)), o 27 (.mv (.c (.int .i64 0)))]
abbrev slices_Concat_bool_bool_p8 : List AG := [o 23 (.mv (.t 3)), o 24 (.call (.f n_slices_Grow_bool_bool) [(.c (.list true 0 [])), (.t 23)]), o 6 (.mv (.t 24))]
abbrev slices_Concat_bool_bool_m9 : List Bool := [I,O,O,I,O,O,O,O,O,I,I,I,O,O,O,O,O,O,O,O,O,O,O,O,O,O,O,O,O,O,O,O,O,O,O,O]
abbrev slices_Concat_bool_bool_x9 : List Bool := [I,O,O,I,O,O,O,O,O,O,O,O,O,O,O,O,O,O,O,O,O,O,O,O,O,O,O,O,O,O,O,O,O,O,O,O]
abbrev slices_Concat_bool_bool_p10 : List AG := [o 22 (.ibin .add (.t 11) (.c (.int .i64 1))), o 11 (.mv (.t 22))]
abbrev slices_Concat_bool_bool_p11 : List AG := [o 21 (.mkIface t_string (.c (.str [108, 101, 110, 32, 111, 117, 116, 32, 111, 102, 32, 114, 97, 110, 103, 101]))), q (.panic (.t 21))]
abbrev slices_Concat_bool_bool_p12 : List AG := [o 19 (.mv (.t 3)), o 20 (.cmp .lss (.sc .int) (.t 19) (.c (.int .i64 0)))]
abbrev slices_Concat_bool_bool_p13 : List AG := [o 15 (.mv (.t 3)), o 16 (.mv (.t 5)), o 17 (.len (.t 16)), o 18 (.ibin .add (.t 15) (.t 17)), o 3 (.mv (.t 18))]
abbrev slices_Concat_bool_bool_p14 : List AG := [o 13 (.ixAddr 1 (.t 9) (.t 11)), o 14 (.load false 1 (.t 13)), o 5 (.mv (.t 14))]
abbrev slices_Concat_bool_bool_p15 : ACode := (.seq (.reg slices_Concat_bool_bool_p14) (.seq (.reg slices_Concat_bool_bool_p13) (.seq (.reg slices_Concat_bool_bool_p12) (.cond (.t 20) (.reg slices_Concat_bool_bool_p11) .skip))))
abbrev slices_Concat_bool_bool_p16 : List AG := [o 12 (.cmp .lss (.sc .int) (.t 11) (.t 10))]
abbrev slices_Concat_bool_bool_b9 : ACode := (.seq (.reg slices_Concat_bool_bool_p16) (.seq (.cond (.t 12) .skip (.exit 0)) (.seq (.block 1 [] slices_Concat_bool_bool_p15) (.reg slices_Concat_bool_bool_p10))))
abbrev slices_Concat_bool_bool_p17 : List AG := [o 9 (.mv (.t 0)), o 10 (.len (.t 9)), o 11 (.mv (.c (.int .i64 0)))]
abbrev slices_Concat_bool_bool_p18 : List AG := [o 3 (.mv (.c (.int .i64 0)))]
abbrev slices_Concat_bool_bool_p19 : List AG := [o 2 (.nilrow 1 t_bool)]
abbrev slices_Concat_bool_bool : AFun := ⟨(.seq (.reg slices_Concat_bool_bool_p19) (.seq (.reg slices_Concat_bool_bool_p18) (.seq (.seq (.reg slices_Concat_bool_bool_p17) (.block 0 slices_Concat_bool_bool_x9 (.loop slices_Concat_bool_bool_m9 slices_Concat_bool_bool_b9))) (.seq (.reg slices_Concat_bool_bool_p8) (.seq (.seq (.reg slices_Concat_bool_bool_p7) (.block 2 slices_Concat_bool_bool_x1 (.loop slices_Concat_bool_bool_m1 slices_Concat_bool_bool_b1))) (.seq (.reg slices_Concat_bool_bool_p0) .ret)))))), 36, [.tmp 2]⟩
abbrev slices_Concat_bool_bool_k1 : List It := [.code (.seq (.reg slices_Concat_bool_bool_p0) .ret)]
abbrev slices_Concat_bool_bool_L1 (x6 x25 x26 x27 : AV) (h : List Ob) (e : Cx := cx) : Cfg := atC n_slices_Concat_bool_bool (.code slices_Concat_bool_bool_b1 :: .inLoop slices_Concat_bool_bool_m1 slices_Concat_bool_bool_b1 :: .inBlock 2 slices_Concat_bool_bool_x1 :: slices_Concat_bool_bool_k1) [U,U,U,U,U,U,x6,U,U,U,U,U,U,U,U,U,U,U,U,U,U,U,U,U,U,x25,x26,x27,U,U,U,U,U,U,U,U] h e
abbrev slices_Concat_bool_bool_E1 (x6 : AV) (h : List Ob) (e : Cx := cx) : Cfg := atC n_slices_Concat_bool_bool slices_Concat_bool_bool_k1 [U,U,U,U,U,U,x6,U,U,U,U,U,U,U,U,U,U,U,U,U,U,U,U,U,U,U,U,U,U,U,U,U,U,U,U,U] h e
abbrev slices_Concat_bool_bool_k9 : List It := [.code (.seq (.reg slices_Concat_bool_bool_p8) (.seq (.seq (.reg slices_Concat_bool_bool_p7) (.block 2 slices_Concat_bool_bool_x1 (.loop slices_Concat_bool_bool_m1 slices_Concat_bool_bool_b1))) (.seq (.reg slices_Concat_bool_bool_p0) .ret)))]
abbrev slices_Concat_bool_bool_L9 (x0 x3 x9 x10 x11 : AV) (h : List Ob) (e : Cx := cx) : Cfg := atC n_slices_Concat_bool_bool (.code slices_Concat_bool_bool_b9 :: .inLoop slices_Concat_bool_bool_m9 slices_Concat_bool_bool_b9 :: .inBlock 0 slices_Concat_bool_bool_x9 :: slices_Concat_bool_bool_k9) [x0,U,U,x3,U,U,U,U,U,x9,x10,x11,U,U,U,U,U,U,U,U,U,U,U,U,U,U,U,U,U,U,U,U,U,U,U,U] h e
abbrev slices_Concat_bool_bool_E9 (x0 x3 : AV) (h : List Ob) (e : Cx := cx) : Cfg := atC n_slices_Concat_bool_bool slices_Concat_bool_bool_k9 [x0,U,U,x3,U,U,U,U,U,U,U,U,U,U,U,U,U,U,U,U,U,U,U,U,U,U,U,U,U,U,U,U,U,U,U,U] h e
@[simp] theorem c_slices_Concat_bool_bool : cfun Try.prog n_slices_Concat_bool_bool = some slices_Concat_bool_bool := by kernel_rfl
@[simp] theorem e_slices_Concat_bool_bool : hasBody Try.prog n_slices_Concat_bool_bool = true := by kernel_rfl

/- r09_Values: patchbay/patchbayref09.Values -/
abbrev r09_Values_p0 : List AG := [o 64 (.mv (.t 9)), o 6 (.mv (.t 64)), o 7 (.mv (.c (.int .i64 0)))]
abbrev r09_Values_m1 : List Bool := [O,O,O,I,O,O,O,O,O,I,I,O,O,O,O,O,O,O,O,O,O,O,O,O,O,O,O,O,O,O,O,O,O,O,O,O,O,O,O,O,O,O,O,O,O,O,O,O,O,O,O,O,O,O,O,O,O,O,O,O,O,O,O,O,O]
abbrev r09_Values_x1 : List Bool := [O,O,O,O,O,O,O,O,O,I,O,O,O,O,O,O,O,O,O,O,O,O,O,O,O,O,O,O,O,O,O,O,O,O,O,O,O,O,O,O,O,O,O,O,O,O,O,O,O,O,O,O,O,O,O,O,O,O,O,O,O,O,O,O,O]
abbrev r09_Values_p2 : List AG := [o 41 (.mv (.t 10)), o 42 (.ibin .add (.t 41) (.c (.int .i64 1))), o 10 (.mv (.t 42))]
abbrev r09_Values_p3 : List AG := [o 43 (.mv (.t 9)), o 44 (.mv (.t 9)), o 45 (.off 3 (.t 3)), o 46 (.load false 1 (.t 45)), o 47 (.mv (.t 10)), o 48 (.ixAddr 2 (.t 46) (.t 47)), o 49 (.arrAddr 2 1 (.t 48) (.c (.int .i64 0))), o 50 (.load false 1 (.t 49)), o 51 (.call (.f n_r09_Lit) [(.t 44), (.t 50)]), o 52 (.mv (.t 51)), oy 53 52 (.mv (.t 9)), oy 54 52 (.off 3 (.t 3)), oy 55 52 (.load false 1 (.t 54)), oy 56 52 (.mv (.t 10)), oy 57 52 (.ixAddr 2 (.t 55) (.t 56)), oy 58 52 (.arrAddr 2 1 (.t 57) (.c (.int .i64 1))), oy 59 52 (.load false 1 (.t 58)), oy 60 52 (.call (.f n_r09_Lit) [(.t 53), (.t 59)]), o 61 (.pick (.t 52) (.t 60) (.c (.bool false))), o 62 (.lit 1 [(.bool false)] [(0, (.t 61))]), o 63 (.append 1 t_bool 1 (.t 43) (.t 62)), o 9 (.mv (.t 63))]
abbrev r09_Values_p4 : List AG := [o 36 (.mv (.t 10)), o 37 (.off 3 (.t 3)), o 38 (.load false 1 (.t 37)), o 39 (.len (.t 38)), o 40 (.cmp .lss (.sc .int) (.t 36) (.t 39))]
abbrev r09_Values_b1 : ACode := (.seq (.seq (.reg r09_Values_p4) (.cond (.t 40) .skip (.exit 0))) (.seq (.block 1 [] (.reg r09_Values_p3)) (.reg r09_Values_p2)))
abbrev r09_Values_p5 : List AG := [o 10 (.mv (.c (.int .i64 0)))]
abbrev r09_Values_p6 : List AG := [o 33 (.mv (.t 9)), o 34 (.mv (.t 1)), o 35 (.append 1 t_bool 1 (.t 33) (.t 34)), o 9 (.mv (.t 35))]
abbrev r09_Values_p7 : List AG := [o 30 (.mv (.t 9)), o 31 (.mv (.t 2)), o 32 (.append 1 t_bool 1 (.t 30) (.t 31)), o 9 (.mv (.t 32))]
abbrev r09_Values_p8 : List AG := [o 29 (.lit 1 [(.bool false)] [(0, (.c (.bool false)))]), o 9 (.mv (.t 29))]
abbrev r09_Values_p9 : List AG := [o 6 (.nilrow 1 t_bool), o 7 (.mv (.c (.int .i64 11)))]
abbrev r09_Values_p10 : ACode := (.seq (.reg r09_Values_p9) .ret)
abbrev r09_Values_p11 : List AG := [o 16 (.mv (.t 1)), o 17 (.len (.t 16)), o 18 (.off 1 (.t 3)), o 19 (.load false 1 (.t 18)), o 20 (.len (.t 19)), o 21 (.cmp .neq (.sc .int) (.t 17) (.t 20)), o 22 (.mv (.t 21)), on 23 22 (.mv (.t 2)), on 24 22 (.len (.t 23)), on 25 22 (.off 0 (.t 3)), on 26 22 (.load false 1 (.t 25)), on 27 22 (.cmp .neq (.sc .int) (.t 24) (.t 26)), o 28 (.pick (.t 22) (.c (.bool true)) (.t 27))]
abbrev r09_Values_p12 : List AG := [o 15 (.mv (.t 8)), o 6 (.nilrow 1 t_bool), o 7 (.mv (.t 15))]
abbrev r09_Values_p13 : ACode := (.seq (.reg r09_Values_p12) .ret)
abbrev r09_Values_p14 : List AG := [o 13 (.mv (.t 8)), o 14 (.cmp .neq (.sc .int) (.t 13) (.c (.int .i64 0)))]
abbrev r09_Values_p15 : List AG := [o 11 (.load true 5 (.t 3)), o 12 (.call (.f n_r09_Check) [(.t 11)]), o 8 (.mv (.t 12))]
abbrev r09_Values_p16 : List AG := [o 3 (.box 5 (.t 0)), o 6 (.nilrow 1 t_bool), o 7 (.mv (.c (.int .i64 0)))]
abbrev r09_Values : AFun := ⟨(.seq (.reg r09_Values_p16) (.seq (.reg r09_Values_p15) (.seq (.seq (.reg r09_Values_p14) (.cond (.t 14) r09_Values_p13 .skip)) (.seq (.seq (.reg r09_Values_p11) (.cond (.t 28) r09_Values_p10 .skip)) (.seq (.reg r09_Values_p8) (.seq (.reg r09_Values_p7) (.seq (.reg r09_Values_p6) (.seq (.seq (.reg r09_Values_p5) (.block 0 r09_Values_x1 (.loop r09_Values_m1 r09_Values_b1))) (.seq (.reg r09_Values_p0) .ret))))))))), 65, [.tmp 6, .tmp 7]⟩
abbrev r09_Values_k1 : List It := [.code (.seq (.reg r09_Values_p0) .ret)]
abbrev r09_Values_L1 (x3 x9 x10 : AV) (h : List Ob) (e : Cx := cx) : Cfg := atC n_r09_Values (.code r09_Values_b1 :: .inLoop r09_Values_m1 r09_Values_b1 :: .inBlock 0 r09_Values_x1 :: r09_Values_k1) [U,U,U,x3,U,U,U,U,U,x9,x10,U,U,U,U,U,U,U,U,U,U,U,U,U,U,U,U,U,U,U,U,U,U,U,U,U,U,U,U,U,U,U,U,U,U,U,U,U,U,U,U,U,U,U,U,U,U,U,U,U,U,U,U,U,U] h e
abbrev r09_Values_E1 (x9 : AV) (h : List Ob) (e : Cx := cx) : Cfg := atC n_r09_Values r09_Values_k1 [U,U,U,U,U,U,U,U,U,x9,U,U,U,U,U,U,U,U,U,U,U,U,U,U,U,U,U,U,U,U,U,U,U,U,U,U,U,U,U,U,U,U,U,U,U,U,U,U,U,U,U,U,U,U,U,U,U,U,U,U,U,U,U,U,U] h e
@[simp] theorem c_r09_Values : cfun Try.prog n_r09_Values = some r09_Values := by kernel_rfl
@[simp] theorem e_r09_Values : hasBody Try.prog n_r09_Values = true := by kernel_rfl

/- r09_Lit: patchbay/patchbayref09.Lit -/
abbrev r09_Lit_p0 : List AG := [o 5 (.mv (.t 0)), o 6 (.mv (.t 1)), o 7 (.ibin .quo (.t 6) (.c (.int .i64 2))), o 8 (.ixAddr 1 (.t 5) (.t 7)), o 9 (.load false 1 (.t 8)), o 10 (.mv (.t 1)), o 11 (.ibin .rem (.t 10) (.c (.int .i64 2))), o 12 (.cmp .eql (.sc .int) (.t 11) (.c (.int .i64 1))), o 13 (.cmp .neq (.sc .bool) (.t 9) (.t 12)), o 4 (.mv (.t 13))]
abbrev r09_Lit_p1 : List AG := [o 4 (.mv (.c (.bool false)))]
abbrev r09_Lit : AFun := ⟨(.seq (.reg r09_Lit_p1) (.seq (.reg r09_Lit_p0) .ret)), 14, [.tmp 4]⟩
@[simp] theorem c_r09_Lit : cfun Try.prog n_r09_Lit = some r09_Lit := by kernel_rfl
@[simp] theorem e_r09_Lit : hasBody Try.prog n_r09_Lit = true := by kernel_rfl

/- aig_Check: patchbay/aig.Check -/
abbrev aig_Check_p0 : List AG := [o 2 (.mv (.c (.int .i64 0)))]
abbrev aig_Check_m1 : List Bool := [O,I,O,O,O,O,O,O,O,O,O,O,O,O,O,O,O,O,O,O,O,O,O,O,O,O,O,O,O,O,O,O,O,O,O,O,O,O,O,O,O,O,O,O,O,O,O,O,O,O,O,O,O,O,O,O,O,O,O,O,O,O,O,O,O,O,O,O,O,O,I,I,I,O,O,O,O,O,O,O,O,O,O,O,O,O,O,O,O,O,O,O,O,O,O,O,O,O,O,O,O,O,O]
abbrev aig_Check_x1 : List Bool := [O,O,O,O,O,O,O,O,O,O,O,O,O,O,O,O,O,O,O,O,O,O,O,O,O,O,O,O,O,O,O,O,O,O,O,O,O,O,O,O,O,O,O,O,O,O,O,O,O,O,O,O,O,O,O,O,O,O,O,O,O,O,O,O,O,O,O,O,O,O,O,O,O,O,O,O,O,O,O,O,O,O,O,O,O,O,O,O,O,O,O,O,O,O,O,O,O,O,O,O,O,O,O]
abbrev aig_Check_p2 : List AG := [o 102 (.ibin .add (.t 72) (.c (.int .i64 1))), o 72 (.mv (.t 102))]
abbrev aig_Check_p3 : List AG := [o 2 (.mv (.c (.int .i64 1)))]
abbrev aig_Check_p4 : ACode := (.seq (.reg aig_Check_p3) .ret)
abbrev aig_Check_p5 : List AG := [o 82 (.arrAddr 2 1 (.t 7) (.c (.int .i64 0))), o 83 (.load false 1 (.t 82)), o 84 (.cmp .lss (.sc .int) (.t 83) (.c (.int .i64 0))), o 85 (.mv (.t 84)), on 86 85 (.arrAddr 2 1 (.t 7) (.c (.int .i64 1))), on 87 85 (.load false 1 (.t 86)), on 88 85 (.cmp .lss (.sc .int) (.t 87) (.c (.int .i64 0))), o 89 (.pick (.t 85) (.c (.bool true)) (.t 88)), o 90 (.mv (.t 89)), on 91 90 (.arrAddr 2 1 (.t 7) (.c (.int .i64 0))), on 92 90 (.load false 1 (.t 91)), on 93 90 (.mv (.t 8)), on 94 90 (.cmp .geq (.sc .int) (.t 92) (.t 93)), o 95 (.pick (.t 90) (.c (.bool true)) (.t 94)), o 96 (.mv (.t 95)), on 97 96 (.arrAddr 2 1 (.t 7) (.c (.int .i64 1))), on 98 96 (.load false 1 (.t 97)), on 99 96 (.mv (.t 8)), on 100 96 (.cmp .geq (.sc .int) (.t 98) (.t 99)), o 101 (.pick (.t 96) (.c (.bool true)) (.t 100))]
abbrev aig_Check_p6 : List AG := [o 77 (.load true 5 (.t 1)), o 78 (.call (.f n_aig_first) [(.t 77)]), o 79 (.mv (.t 6)), o 80 (.ibin .add (.t 78) (.t 79)), o 81 (.ibin .mul (.c (.int .i64 2)) (.t 80)), o 8 (.mv (.t 81))]
abbrev aig_Check_p7 : List AG := [o 74 (.mv (.t 72)), o 75 (.ixAddr 2 (.t 70) (.t 72)), o 76 (.load true 2 (.t 75)), o 7 (.alloc [(.int .i64 0), (.int .i64 0)]), o 6 (.mv (.t 74)), q (.store 2 (.t 7) (.t 76))]
abbrev aig_Check_p8 : ACode := (.seq (.reg aig_Check_p7) (.seq (.reg aig_Check_p6) (.seq (.reg aig_Check_p5) (.cond (.t 101) aig_Check_p4 .skip))))
abbrev aig_Check_p9 : List AG := [o 73 (.cmp .lss (.sc .int) (.t 72) (.t 71))]
abbrev aig_Check_b1 : ACode := (.seq (.reg aig_Check_p9) (.seq (.cond (.t 73) .skip (.exit 0)) (.seq (.block 1 [] aig_Check_p8) (.reg aig_Check_p2))))
abbrev aig_Check_p10 : List AG := [o 69 (.off 3 (.t 1)), o 70 (.load false 1 (.t 69)), o 71 (.len (.t 70)), o 72 (.mv (.c (.int .i64 0)))]
abbrev aig_Check_p11 : List AG := [o 2 (.mv (.c (.int .i64 1)))]
abbrev aig_Check_p12 : ACode := (.seq (.reg aig_Check_p11) .ret)
abbrev aig_Check_p13 : List AG := [o 44 (.off 2 (.t 1)), o 45 (.load false 1 (.t 44)), o 46 (.len (.t 45)), o 47 (.off 1 (.t 1)), o 48 (.load false 1 (.t 47)), o 49 (.len (.t 48)), o 50 (.cmp .neq (.sc .int) (.t 46) (.t 49)), o 51 (.mv (.t 50)), on 52 51 (.off 2 (.t 1)), on 53 51 (.load false 1 (.t 52)), on 54 51 (.mv (.t 5)), on 55 51 (.call (.f n_slices_ContainsFunc_int_int) [(.t 53), (.t 54)]), o 56 (.pick (.t 51) (.c (.bool true)) (.t 55)), o 57 (.mv (.t 56)), on 58 57 (.off 1 (.t 1)), on 59 57 (.load false 1 (.t 58)), on 60 57 (.mv (.t 4)), on 61 57 (.call (.f n_slices_ContainsFunc_int_int) [(.t 59), (.t 60)]), o 62 (.pick (.t 57) (.c (.bool true)) (.t 61)), o 63 (.mv (.t 62)), on 64 63 (.off 4 (.t 1)), on 65 63 (.load false 1 (.t 64)), on 66 63 (.mv (.t 4)), on 67 63 (.call (.f n_slices_ContainsFunc_int_int) [(.t 65), (.t 66)]), o 68 (.pick (.t 63) (.c (.bool true)) (.t 67))]
abbrev aig_Check_p14 : List AG := [o 5 (.mv (.f n_aig_Check_2))]
abbrev aig_Check_p15 : List AG := [o 43 (.mkFunc (.func n_aig_Check_1) [] [(.t 3)]), o 4 (.mv (.t 43))]
abbrev aig_Check_p16 : List AG := [o 36 (.load true 5 (.t 1)), o 37 (.call (.f n_aig_first) [(.t 36)]), o 38 (.off 3 (.t 1)), o 39 (.load false 1 (.t 38)), o 40 (.len (.t 39)), o 41 (.ibin .add (.t 37) (.t 40)), o 42 (.ibin .mul (.c (.int .i64 2)) (.t 41)), o 3 (.alloc [(.int .i64 0)]), q (.store 1 (.t 3) (.t 42))]
abbrev aig_Check_p17 : List AG := [o 2 (.mv (.c (.int .i64 8)))]
abbrev aig_Check_p18 : ACode := (.seq (.reg aig_Check_p17) .ret)
abbrev aig_Check_p19 : List AG := [o 9 (.off 0 (.t 1)), o 10 (.load false 1 (.t 9)), o 11 (.cmp .lss (.sc .int) (.t 10) (.c (.int .i64 0))), o 12 (.mv (.t 11)), on 13 12 (.off 0 (.t 1)), on 14 12 (.load false 1 (.t 13)), on 15 12 (.cmp .gtr (.sc .int) (.t 14) (.c (.int .i64 4000))), o 16 (.pick (.t 12) (.c (.bool true)) (.t 15)), o 17 (.mv (.t 16)), on 18 17 (.off 0 (.t 1)), on 19 17 (.load false 1 (.t 18)), on 20 17 (.off 1 (.t 1)), on 21 17 (.load false 1 (.t 20)), on 22 17 (.len (.t 21)), on 23 17 (.ibin .add (.t 19) (.t 22)), on 24 17 (.off 3 (.t 1)), on 25 17 (.load false 1 (.t 24)), on 26 17 (.len (.t 25)), on 27 17 (.ibin .add (.t 23) (.t 26)), on 28 17 (.cmp .gtr (.sc .int) (.t 27) (.c (.int .i64 4000))), o 29 (.pick (.t 17) (.c (.bool true)) (.t 28)), o 30 (.mv (.t 29)), on 31 30 (.off 4 (.t 1)), on 32 30 (.load false 1 (.t 31)), on 33 30 (.len (.t 32)), on 34 30 (.cmp .gtr (.sc .int) (.t 33) (.c (.int .i64 4000))), o 35 (.pick (.t 30) (.c (.bool true)) (.t 34))]
abbrev aig_Check_p20 : List AG := [o 1 (.box 5 (.t 0)), o 2 (.mv (.c (.int .i64 0)))]
abbrev aig_Check : AFun := ⟨(.seq (.reg aig_Check_p20) (.seq (.seq (.reg aig_Check_p19) (.cond (.t 35) aig_Check_p18 .skip)) (.seq (.dreg [I,I,O,I,O,O,O,O,O] [9,9,9,9,9,9,9,9,10] aig_Check_p16) (.seq (.reg aig_Check_p15) (.seq (.reg aig_Check_p14) (.seq (.seq (.reg aig_Check_p13) (.cond (.t 68) aig_Check_p12 .skip)) (.seq (.seq (.reg aig_Check_p10) (.block 0 aig_Check_x1 (.loop aig_Check_m1 aig_Check_b1))) (.seq (.reg aig_Check_p0) .ret)))))))), 103, [.tmp 2]⟩
abbrev aig_Check_k1 : List It := [.code (.seq (.reg aig_Check_p0) .ret)]
abbrev aig_Check_L1 (x1 x70 x71 x72 : AV) (h : List Ob) (e : Cx := cx) : Cfg := atC n_aig_Check (.code aig_Check_b1 :: .inLoop aig_Check_m1 aig_Check_b1 :: .inBlock 0 aig_Check_x1 :: aig_Check_k1) [U,x1,U,U,U,U,U,U,U,U,U,U,U,U,U,U,U,U,U,U,U,U,U,U,U,U,U,U,U,U,U,U,U,U,U,U,U,U,U,U,U,U,U,U,U,U,U,U,U,U,U,U,U,U,U,U,U,U,U,U,U,U,U,U,U,U,U,U,U,U,x70,x71,x72,U,U,U,U,U,U,U,U,U,U,U,U,U,U,U,U,U,U,U,U,U,U,U,U,U,U,U,U,U,U] h e
abbrev aig_Check_E1 (h : List Ob) (e : Cx := cx) : Cfg := atC n_aig_Check aig_Check_k1 [U,U,U,U,U,U,U,U,U,U,U,U,U,U,U,U,U,U,U,U,U,U,U,U,U,U,U,U,U,U,U,U,U,U,U,U,U,U,U,U,U,U,U,U,U,U,U,U,U,U,U,U,U,U,U,U,U,U,U,U,U,U,U,U,U,U,U,U,U,U,U,U,U,U,U,U,U,U,U,U,U,U,U,U,U,U,U,U,U,U,U,U,U,U,U,U,U,U,U,U,U,U,U] h e
@[simp] theorem c_aig_Check : cfun Try.prog n_aig_Check = some aig_Check := by kernel_rfl
@[simp] theorem e_aig_Check : hasBody Try.prog n_aig_Check = true := by kernel_rfl

/- aig_value: patchbay/aig.value -/
abbrev aig_value_p0 : List AG := [o 5 (.mv (.t 0)), o 6 (.mv (.t 1)), o 7 (.ibin .shr (.t 6) (.c (.int .u64 1))), o 8 (.ixAddr 1 (.t 5) (.t 7)), o 9 (.load false 1 (.t 8)), o 10 (.mv (.t 1)), o 11 (.ibin .and (.t 10) (.c (.int .i64 1))), o 12 (.cmp .eql (.sc .int) (.t 11) (.c (.int .i64 1))), o 13 (.cmp .neq (.sc .bool) (.t 9) (.t 12)), o 4 (.mv (.t 13))]
abbrev aig_value_p1 : List AG := [o 4 (.mv (.c (.bool false)))]
abbrev aig_value : AFun := ⟨(.seq (.reg aig_value_p1) (.seq (.reg aig_value_p0) .ret)), 14, [.tmp 4]⟩
@[simp] theorem c_aig_value : cfun Try.prog n_aig_value = some aig_value := by kernel_rfl
@[simp] theorem e_aig_value : hasBody Try.prog n_aig_value = true := by kernel_rfl

/- aig_Step_1: patchbay/aig.Step$1 -/
abbrev aig_Step_1_p0 : List AG := [o 20 (.mv (.t 4)), o 3 (.mv (.t 20))]
abbrev aig_Step_1_m1 : List Bool := [O,I,O,O,I,O,O,I,I,I,O,O,O,O,O,O,O,O,O,O,O]
abbrev aig_Step_1_x1 : List Bool := [O,O,O,O,I,O,O,O,O,O,O,O,O,O,O,O,O,O,O,O,O]
abbrev aig_Step_1_p2 : List AG := [o 19 (.ibin .add (.t 9) (.c (.int .i64 1))), o 9 (.mv (.t 19))]
abbrev aig_Step_1_p3 : List AG := [o 13 (.mv (.t 4)), o 14 (.load false 1 (.t 1)), o 15 (.mv (.t 6)), o 16 (.call (.f n_aig_value) [(.t 14), (.t 15)]), o 17 (.lit 1 [(.bool false)] [(0, (.t 16))]), o 18 (.append 1 t_bool 1 (.t 13) (.t 17)), o 4 (.mv (.t 18))]
abbrev aig_Step_1_p4 : List AG := [o 11 (.ixAddr 1 (.t 7) (.t 9)), o 12 (.load false 1 (.t 11)), o 6 (.mv (.t 12))]
abbrev aig_Step_1_p5 : ACode := (.seq (.reg aig_Step_1_p4) (.reg aig_Step_1_p3))
abbrev aig_Step_1_p6 : List AG := [o 10 (.cmp .lss (.sc .int) (.t 9) (.t 8))]
abbrev aig_Step_1_b1 : ACode := (.seq (.reg aig_Step_1_p6) (.seq (.cond (.t 10) .skip (.exit 0)) (.seq (.block 1 [] aig_Step_1_p5) (.reg aig_Step_1_p2))))
abbrev aig_Step_1_p7 : List AG := [o 7 (.mv (.t 0)), o 8 (.len (.t 7)), o 9 (.mv (.c (.int .i64 0)))]
abbrev aig_Step_1_p8 : List AG := [o 4 (.nilrow 1 t_bool)]
abbrev aig_Step_1_p9 : List AG := [o 3 (.nilrow 1 t_bool)]
abbrev aig_Step_1 : AFun := ⟨(.seq (.reg aig_Step_1_p9) (.seq (.reg aig_Step_1_p8) (.seq (.seq (.reg aig_Step_1_p7) (.block 0 aig_Step_1_x1 (.loop aig_Step_1_m1 aig_Step_1_b1))) (.seq (.reg aig_Step_1_p0) .ret)))), 21, [.tmp 3]⟩
abbrev aig_Step_1_k1 : List It := [.code (.seq (.reg aig_Step_1_p0) .ret)]
abbrev aig_Step_1_L1 (x1 x4 x7 x8 x9 : AV) (h : List Ob) (e : Cx := cx) : Cfg := atC n_aig_Step_1 (.code aig_Step_1_b1 :: .inLoop aig_Step_1_m1 aig_Step_1_b1 :: .inBlock 0 aig_Step_1_x1 :: aig_Step_1_k1) [U,x1,U,U,x4,U,U,x7,x8,x9,U,U,U,U,U,U,U,U,U,U,U] h e
abbrev aig_Step_1_E1 (x4 : AV) (h : List Ob) (e : Cx := cx) : Cfg := atC n_aig_Step_1 aig_Step_1_k1 [U,U,U,U,x4,U,U,U,U,U,U,U,U,U,U,U,U,U,U,U,U] h e
@[simp] theorem c_aig_Step_1 : cfun Try.prog n_aig_Step_1 = some aig_Step_1 := by kernel_rfl
@[simp] theorem e_aig_Step_1 : hasBody Try.prog n_aig_Step_1 = true := by kernel_rfl

/- slices_IndexFunc_api_Clause_int: slices.IndexFunc[patchbay/api.Clause,int] -/
abbrev slices_IndexFunc_api_Clause_int_p0 : List AG := [o 4 (.mv (.c (.int .i64 (-1))))]
abbrev slices_IndexFunc_api_Clause_int_m1 : List Bool := [I,I,O,O,O,O,O,I,I,O,O,O,O,O,O,O,O,O,O]
abbrev slices_IndexFunc_api_Clause_int_x1 : List Bool := [O,O,O,O,O,O,O,O,O,O,O,O,O,O,O,O,O,O,O]
abbrev slices_IndexFunc_api_Clause_int_p2 : List AG := [o 18 (.ibin .add (.t 8) (.c (.int .i64 1))), o 8 (.mv (.t 18))]
abbrev slices_IndexFunc_api_Clause_int_p3 : List AG := [o 17 (.mv (.t 5)), o 4 (.mv (.t 17))]
abbrev slices_IndexFunc_api_Clause_int_p4 : ACode := (.seq (.reg slices_IndexFunc_api_Clause_int_p3) .ret)
abbrev slices_IndexFunc_api_Clause_int_p5 : List AG := [o 11 (.mv (.t 1)), o 12 (.mv (.t 0)), o 13 (.mv (.t 5)), o 14 (.ixAddr 1 (.t 12) (.t 13)), o 15 (.load false 1 (.t 14)), o 16 (.call (.t 11) [(.t 15)])]
abbrev slices_IndexFunc_api_Clause_int_p6 : List AG := [o 10 (.mv (.t 8)), o 5 (.mv (.t 10))]
abbrev slices_IndexFunc_api_Clause_int_p7 : ACode := (.seq (.reg slices_IndexFunc_api_Clause_int_p6) (.seq (.reg slices_IndexFunc_api_Clause_int_p5) (.cond (.t 16) slices_IndexFunc_api_Clause_int_p4 .skip)))
abbrev slices_IndexFunc_api_Clause_int_p8 : List AG := [o 9 (.cmp .lss (.sc .int) (.t 8) (.t 7))]
abbrev slices_IndexFunc_api_Clause_int_b1 : ACode := (.seq (.reg slices_IndexFunc_api_Clause_int_p8) (.seq (.cond (.t 9) .skip (.exit 0)) (.seq (.block 1 [] slices_IndexFunc_api_Clause_int_p7) (.reg slices_IndexFunc_api_Clause_int_p2))))
abbrev slices_IndexFunc_api_Clause_int_p9 : List AG := [o 6 (.mv (.t 0)), o 7 (.len (.t 6)), o 8 (.mv (.c (.int .i64 0)))]
abbrev slices_IndexFunc_api_Clause_int_p10 : List AG := [o 4 (.mv (.c (.int .i64 0)))]
abbrev slices_IndexFunc_api_Clause_int : AFun := ⟨(.seq (.reg slices_IndexFunc_api_Clause_int_p10) (.seq (.seq (.reg slices_IndexFunc_api_Clause_int_p9) (.block 0 slices_IndexFunc_api_Clause_int_x1 (.loop slices_IndexFunc_api_Clause_int_m1 slices_IndexFunc_api_Clause_int_b1))) (.seq (.reg slices_IndexFunc_api_Clause_int_p0) .ret))), 19, [.tmp 4]⟩
abbrev slices_IndexFunc_api_Clause_int_k1 : List It := [.code (.seq (.reg slices_IndexFunc_api_Clause_int_p0) .ret)]
abbrev slices_IndexFunc_api_Clause_int_L1 (x0 x1 x7 x8 : AV) (h : List Ob) (e : Cx := cx) : Cfg := atC n_slices_IndexFunc_api_Clause_int (.code slices_IndexFunc_api_Clause_int_b1 :: .inLoop slices_IndexFunc_api_Clause_int_m1 slices_IndexFunc_api_Clause_int_b1 :: .inBlock 0 slices_IndexFunc_api_Clause_int_x1 :: slices_IndexFunc_api_Clause_int_k1) [x0,x1,U,U,U,U,U,x7,x8,U,U,U,U,U,U,U,U,U,U] h e
abbrev slices_IndexFunc_api_Clause_int_E1 (h : List Ob) (e : Cx := cx) : Cfg := atC n_slices_IndexFunc_api_Clause_int slices_IndexFunc_api_Clause_int_k1 [U,U,U,U,U,U,U,U,U,U,U,U,U,U,U,U,U,U,U] h e
@[simp] theorem c_slices_IndexFunc_api_Clause_int : cfun Try.prog n_slices_IndexFunc_api_Clause_int = some slices_IndexFunc_api_Clause_int := by kernel_rfl
@[simp] theorem e_slices_IndexFunc_api_Clause_int : hasBody Try.prog n_slices_IndexFunc_api_Clause_int = true := by kernel_rfl

/- slices_IndexFunc_api_Clause_api_Clause: slices.IndexFunc[[]patchbay/api.Clause,patchbay/api.Clause] -/
abbrev slices_IndexFunc_api_Clause_api_Clause_p0 : List AG := [o 4 (.mv (.c (.int .i64 (-1))))]
abbrev slices_IndexFunc_api_Clause_api_Clause_m1 : List Bool := [I,I,O,O,O,O,O,I,I,O,O,O,O,O,O,O,O,O,O]
abbrev slices_IndexFunc_api_Clause_api_Clause_x1 : List Bool := [O,O,O,O,O,O,O,O,O,O,O,O,O,O,O,O,O,O,O]
abbrev slices_IndexFunc_api_Clause_api_Clause_p2 : List AG := [o 18 (.ibin .add (.t 8) (.c (.int .i64 1))), o 8 (.mv (.t 18))]
abbrev slices_IndexFunc_api_Clause_api_Clause_p3 : List AG := [o 17 (.mv (.t 5)), o 4 (.mv (.t 17))]
abbrev slices_IndexFunc_api_Clause_api_Clause_p4 : ACode := (.seq (.reg slices_IndexFunc_api_Clause_api_Clause_p3) .ret)
abbrev slices_IndexFunc_api_Clause_api_Clause_p5 : List AG := [o 11 (.mv (.t 1)), o 12 (.mv (.t 0)), o 13 (.mv (.t 5)), o 14 (.ixAddr 1 (.t 12) (.t 13)), o 15 (.load false 1 (.t 14)), o 16 (.call (.t 11) [(.t 15)])]
abbrev slices_IndexFunc_api_Clause_api_Clause_p6 : List AG := [o 10 (.mv (.t 8)), o 5 (.mv (.t 10))]
abbrev slices_IndexFunc_api_Clause_api_Clause_p7 : ACode := (.seq (.reg slices_IndexFunc_api_Clause_api_Clause_p6) (.seq (.reg slices_IndexFunc_api_Clause_api_Clause_p5) (.cond (.t 16) slices_IndexFunc_api_Clause_api_Clause_p4 .skip)))
abbrev slices_IndexFunc_api_Clause_api_Clause_p8 : List AG := [o 9 (.cmp .lss (.sc .int) (.t 8) (.t 7))]
abbrev slices_IndexFunc_api_Clause_api_Clause_b1 : ACode := (.seq (.reg slices_IndexFunc_api_Clause_api_Clause_p8) (.seq (.cond (.t 9) .skip (.exit 0)) (.seq (.block 1 [] slices_IndexFunc_api_Clause_api_Clause_p7) (.reg slices_IndexFunc_api_Clause_api_Clause_p2))))
abbrev slices_IndexFunc_api_Clause_api_Clause_p9 : List AG := [o 6 (.mv (.t 0)), o 7 (.len (.t 6)), o 8 (.mv (.c (.int .i64 0)))]
abbrev slices_IndexFunc_api_Clause_api_Clause_p10 : List AG := [o 4 (.mv (.c (.int .i64 0)))]
abbrev slices_IndexFunc_api_Clause_api_Clause : AFun := ⟨(.seq (.reg slices_IndexFunc_api_Clause_api_Clause_p10) (.seq (.seq (.reg slices_IndexFunc_api_Clause_api_Clause_p9) (.block 0 slices_IndexFunc_api_Clause_api_Clause_x1 (.loop slices_IndexFunc_api_Clause_api_Clause_m1 slices_IndexFunc_api_Clause_api_Clause_b1))) (.seq (.reg slices_IndexFunc_api_Clause_api_Clause_p0) .ret))), 19, [.tmp 4]⟩
abbrev slices_IndexFunc_api_Clause_api_Clause_k1 : List It := [.code (.seq (.reg slices_IndexFunc_api_Clause_api_Clause_p0) .ret)]
abbrev slices_IndexFunc_api_Clause_api_Clause_L1 (x0 x1 x7 x8 : AV) (h : List Ob) (e : Cx := cx) : Cfg := atC n_slices_IndexFunc_api_Clause_api_Clause (.code slices_IndexFunc_api_Clause_api_Clause_b1 :: .inLoop slices_IndexFunc_api_Clause_api_Clause_m1 slices_IndexFunc_api_Clause_api_Clause_b1 :: .inBlock 0 slices_IndexFunc_api_Clause_api_Clause_x1 :: slices_IndexFunc_api_Clause_api_Clause_k1) [x0,x1,U,U,U,U,U,x7,x8,U,U,U,U,U,U,U,U,U,U] h e
abbrev slices_IndexFunc_api_Clause_api_Clause_E1 (h : List Ob) (e : Cx := cx) : Cfg := atC n_slices_IndexFunc_api_Clause_api_Clause slices_IndexFunc_api_Clause_api_Clause_k1 [U,U,U,U,U,U,U,U,U,U,U,U,U,U,U,U,U,U,U] h e
@[simp] theorem c_slices_IndexFunc_api_Clause_api_Clause : cfun Try.prog n_slices_IndexFunc_api_Clause_api_Clause = some slices_IndexFunc_api_Clause_api_Clause := by kernel_rfl
@[simp] theorem e_slices_IndexFunc_api_Clause_api_Clause : hasBody Try.prog n_slices_IndexFunc_api_Clause_api_Clause = true := by kernel_rfl

/- r19_one: patchbay/patchbayref19.one -/
abbrev r19_one_p0 : List AG := [o 4 (.mv (.c (.bool false)))]
abbrev r19_one_m1 : List Bool := [I,I,O,O,O,I,O,O,O,O,O,O,O,O,O,O,O,O]
abbrev r19_one_x1 : List Bool := [O,O,O,O,O,O,O,O,O,O,O,O,O,O,O,O,O,O]
abbrev r19_one_p2 : List AG := [o 10 (.mv (.t 5)), o 11 (.ibin .add (.t 10) (.c (.int .i64 1))), o 5 (.mv (.t 11))]
abbrev r19_one_p3 : List AG := [o 4 (.mv (.c (.bool true)))]
abbrev r19_one_p4 : ACode := (.seq (.reg r19_one_p3) .ret)
abbrev r19_one_p5 : List AG := [o 12 (.mv (.t 0)), o 13 (.mv (.t 5)), o 14 (.ixAddr 1 (.t 12) (.t 13)), o 15 (.load false 1 (.t 14)), o 16 (.mv (.t 1)), o 17 (.call (.f n_r19_Holds) [(.t 15), (.t 16)])]
abbrev r19_one_p6 : ACode := (.seq (.reg r19_one_p5) (.cond (.t 17) r19_one_p4 .skip))
abbrev r19_one_p7 : List AG := [o 6 (.mv (.t 5)), o 7 (.mv (.t 0)), o 8 (.len (.t 7)), o 9 (.cmp .lss (.sc .int) (.t 6) (.t 8))]
abbrev r19_one_b1 : ACode := (.seq (.seq (.reg r19_one_p7) (.cond (.t 9) .skip (.exit 0))) (.seq (.block 1 [] r19_one_p6) (.reg r19_one_p2)))
abbrev r19_one_p8 : List AG := [o 5 (.mv (.c (.int .i64 0)))]
abbrev r19_one_p9 : List AG := [o 4 (.mv (.c (.bool false)))]
abbrev r19_one : AFun := ⟨(.seq (.reg r19_one_p9) (.seq (.seq (.reg r19_one_p8) (.block 0 r19_one_x1 (.loop r19_one_m1 r19_one_b1))) (.seq (.reg r19_one_p0) .ret))), 18, [.tmp 4]⟩
abbrev r19_one_k1 : List It := [.code (.seq (.reg r19_one_p0) .ret)]
abbrev r19_one_L1 (x0 x1 x5 : AV) (h : List Ob) (e : Cx := cx) : Cfg := atC n_r19_one (.code r19_one_b1 :: .inLoop r19_one_m1 r19_one_b1 :: .inBlock 0 r19_one_x1 :: r19_one_k1) [x0,x1,U,U,U,x5,U,U,U,U,U,U,U,U,U,U,U,U] h e
abbrev r19_one_E1 (h : List Ob) (e : Cx := cx) : Cfg := atC n_r19_one r19_one_k1 [U,U,U,U,U,U,U,U,U,U,U,U,U,U,U,U,U,U] h e
@[simp] theorem c_r19_one : cfun Try.prog n_r19_one = some r19_one := by kernel_rfl
@[simp] theorem e_r19_one : hasBody Try.prog n_r19_one = true := by kernel_rfl

/- slices_ContainsFunc_int_int: slices.ContainsFunc[[]int,int] -/
abbrev slices_ContainsFunc_int_int_p0 : List AG := [o 5 (.mv (.t 0)), o 6 (.mv (.t 1)), o 7 (.call (.f n_slices_IndexFunc_int_int) [(.t 5), (.t 6)]), o 8 (.cmp .geq (.sc .int) (.t 7) (.c (.int .i64 0))), o 4 (.mv (.t 8))]
abbrev slices_ContainsFunc_int_int_p1 : List AG := [o 4 (.mv (.c (.bool false)))]
abbrev slices_ContainsFunc_int_int : AFun := ⟨(.seq (.reg slices_ContainsFunc_int_int_p1) (.seq (.reg slices_ContainsFunc_int_int_p0) .ret)), 9, [.tmp 4]⟩
@[simp] theorem c_slices_ContainsFunc_int_int : cfun Try.prog n_slices_ContainsFunc_int_int = some slices_ContainsFunc_int_int := by kernel_rfl
@[simp] theorem e_slices_ContainsFunc_int_int : hasBody Try.prog n_slices_ContainsFunc_int_int = true := by kernel_rfl

/- cnf_can_1: patchbay/cnf.can$1 -/
abbrev cnf_can_1_p0 : List AG := [o 3 (.mv (.t 0)), o 4 (.cmp .lss (.sc .int) (.t 3) (.c (.int .i64 0))), o 5 (.mv (.t 4)), on 6 5 (.mv (.t 0)), on 7 5 (.cmp .gtr (.sc .int) (.t 6) (.c (.int .i64 2))), o 8 (.pick (.t 5) (.c (.bool true)) (.t 7)), o 2 (.mv (.t 8))]
abbrev cnf_can_1_p1 : List AG := [o 2 (.mv (.c (.bool false)))]
abbrev cnf_can_1 : AFun := ⟨(.seq (.reg cnf_can_1_p1) (.seq (.reg cnf_can_1_p0) .ret)), 9, [.tmp 2]⟩
@[simp] theorem c_cnf_can_1 : cfun Try.prog n_cnf_can_1 = some cnf_can_1 := by kernel_rfl
@[simp] theorem e_cnf_can_1 : hasBody Try.prog n_cnf_can_1 = true := by kernel_rfl

/- r09_Check: patchbay/patchbayref09.Check -/
abbrev r09_Check_p0 : List AG := [o 2 (.mv (.c (.int .i64 0)))]
abbrev r09_Check_m1 : List Bool := [O,I,O,I,O,O,O,I,O,O,O,O,O,O,O,O,O,O,O,O,O,O,O,O,O,O,O,O,O,O,O,O,O,O,O,O,O,O,O,O,O,O,O,O,O,O,O,O,O,O,O,O,O,O,O,O,O,O,O,O,O,O,O,O,O,O,O,O,O,O,O,O,O,O,O,O,O,O,O,O,O,O,O,O,O,O,O,O,O,O,O,O,O,O,O,O,O,O,O,O,O,O,O,O,O,O,O,O,O,O,O,O,O,O,O,O,O,O,O,O,O,O,O,O,O]
abbrev r09_Check_x1 : List Bool := [O,O,O,O,O,O,O,O,O,O,O,O,O,O,O,O,O,O,O,O,O,O,O,O,O,O,O,O,O,O,O,O,O,O,O,O,O,O,O,O,O,O,O,O,O,O,O,O,O,O,O,O,O,O,O,O,O,O,O,O,O,O,O,O,O,O,O,O,O,O,O,O,O,O,O,O,O,O,O,O,O,O,O,O,O,O,O,O,O,O,O,O,O,O,O,O,O,O,O,O,O,O,O,O,O,O,O,O,O,O,O,O,O,O,O,O,O,O,O,O,O,O,O,O,O]
abbrev r09_Check_p2 : List AG := [o 115 (.mv (.t 7)), o 116 (.ibin .add (.t 115) (.c (.int .i64 1))), o 7 (.mv (.t 116))]
abbrev r09_Check_p3 : List AG := [o 2 (.mv (.c (.int .i64 1)))]
abbrev r09_Check_p4 : ACode := (.seq (.reg r09_Check_p3) .ret)
abbrev r09_Check_p5 : List AG := [o 117 (.off 4 (.t 1)), o 118 (.load false 1 (.t 117)), o 119 (.mv (.t 7)), o 120 (.ixAddr 1 (.t 118) (.t 119)), o 121 (.load false 1 (.t 120)), o 122 (.mv (.t 3)), o 123 (.call (.f n_r09_literal) [(.t 121), (.t 122)]), o 124 (.not (.t 123))]
abbrev r09_Check_p6 : ACode := (.seq (.reg r09_Check_p5) (.cond (.t 124) r09_Check_p4 .skip))
abbrev r09_Check_p7 : List AG := [o 110 (.mv (.t 7)), o 111 (.off 4 (.t 1)), o 112 (.load false 1 (.t 111)), o 113 (.len (.t 112)), o 114 (.cmp .lss (.sc .int) (.t 110) (.t 113))]
abbrev r09_Check_b1 : ACode := (.seq (.seq (.reg r09_Check_p7) (.cond (.t 114) .skip (.exit 4))) (.seq (.block 5 [] r09_Check_p6) (.reg r09_Check_p2)))
abbrev r09_Check_p8 : List AG := [o 7 (.mv (.c (.int .i64 0)))]
abbrev r09_Check_m9 : List Bool := [O,I,O,I,O,I,O,O,O,O,O,O,O,O,O,O,O,O,O,O,O,O,O,O,O,O,O,O,O,O,O,O,O,O,O,O,O,O,O,O,O,O,O,O,O,O,O,O,O,O,O,O,O,O,O,O,O,O,O,O,O,O,O,O,O,O,O,O,O,O,O,O,O,O,O,O,O,O,O,O,O,O,O,O,O,O,O,O,O,O,O,O,O,O,O,O,O,O,O,O,O,O,O,O,O,O,O,O,O,O,O,O,O,O,O,O,O,O,O,O,O,O,O,O,O]
abbrev r09_Check_x9 : List Bool := [O,I,O,I,O,O,O,O,O,O,O,O,O,O,O,O,O,O,O,O,O,O,O,O,O,O,O,O,O,O,O,O,O,O,O,O,O,O,O,O,O,O,O,O,O,O,O,O,O,O,O,O,O,O,O,O,O,O,O,O,O,O,O,O,O,O,O,O,O,O,O,O,O,O,O,O,O,O,O,O,O,O,O,O,O,O,O,O,O,O,O,O,O,O,O,O,O,O,O,O,O,O,O,O,O,O,O,O,O,O,O,O,O,O,O,O,O,O,O,O,O,O,O,O,O]
abbrev r09_Check_p10 : List AG := [o 84 (.mv (.t 5)), o 85 (.ibin .add (.t 84) (.c (.int .i64 1))), o 5 (.mv (.t 85))]
abbrev r09_Check_p11 : List AG := [o 2 (.mv (.c (.int .i64 1)))]
abbrev r09_Check_p12 : ACode := (.seq (.reg r09_Check_p11) .ret)
abbrev r09_Check_p13 : List AG := [o 90 (.off 3 (.t 1)), o 91 (.load false 1 (.t 90)), o 92 (.mv (.t 5)), o 93 (.ixAddr 2 (.t 91) (.t 92)), o 94 (.arrAddr 2 1 (.t 93) (.c (.int .i64 0))), o 95 (.load false 1 (.t 94)), o 96 (.mv (.t 6)), o 97 (.call (.f n_r09_literal) [(.t 95), (.t 96)]), o 98 (.not (.t 97)), o 99 (.mv (.t 98)), on 100 99 (.off 3 (.t 1)), on 101 99 (.load false 1 (.t 100)), on 102 99 (.mv (.t 5)), on 103 99 (.ixAddr 2 (.t 101) (.t 102)), on 104 99 (.arrAddr 2 1 (.t 103) (.c (.int .i64 1))), on 105 99 (.load false 1 (.t 104)), on 106 99 (.mv (.t 6)), on 107 99 (.call (.f n_r09_literal) [(.t 105), (.t 106)]), on 108 99 (.not (.t 107)), o 109 (.pick (.t 99) (.c (.bool true)) (.t 108))]
abbrev r09_Check_p14 : List AG := [o 86 (.load true 5 (.t 1)), o 87 (.call (.f n_r09_First) [(.t 86)]), o 88 (.mv (.t 5)), o 89 (.ibin .add (.t 87) (.t 88)), o 6 (.mv (.t 89))]
abbrev r09_Check_p15 : ACode := (.seq (.reg r09_Check_p14) (.seq (.reg r09_Check_p13) (.cond (.t 109) r09_Check_p12 .skip)))
abbrev r09_Check_p16 : List AG := [o 79 (.mv (.t 5)), o 80 (.off 3 (.t 1)), o 81 (.load false 1 (.t 80)), o 82 (.len (.t 81)), o 83 (.cmp .lss (.sc .int) (.t 79) (.t 82))]
abbrev r09_Check_b9 : ACode := (.seq (.seq (.reg r09_Check_p16) (.cond (.t 83) .skip (.exit 2))) (.seq (.block 3 [] r09_Check_p15) (.reg r09_Check_p10)))
abbrev r09_Check_p17 : List AG := [o 5 (.mv (.c (.int .i64 0)))]
abbrev r09_Check_m18 : List Bool := [O,I,O,I,I,O,O,O,O,O,O,O,O,O,O,O,O,O,O,O,O,O,O,O,O,O,O,O,O,O,O,O,O,O,O,O,O,O,O,O,O,O,O,O,O,O,O,O,O,O,O,O,O,O,O,O,O,O,O,O,O,O,O,O,O,O,O,O,O,O,O,O,O,O,O,O,O,O,O,O,O,O,O,O,O,O,O,O,O,O,O,O,O,O,O,O,O,O,O,O,O,O,O,O,O,O,O,O,O,O,O,O,O,O,O,O,O,O,O,O,O,O,O,O,O]
abbrev r09_Check_x18 : List Bool := [O,I,O,I,O,O,O,O,O,O,O,O,O,O,O,O,O,O,O,O,O,O,O,O,O,O,O,O,O,O,O,O,O,O,O,O,O,O,O,O,O,O,O,O,O,O,O,O,O,O,O,O,O,O,O,O,O,O,O,O,O,O,O,O,O,O,O,O,O,O,O,O,O,O,O,O,O,O,O,O,O,O,O,O,O,O,O,O,O,O,O,O,O,O,O,O,O,O,O,O,O,O,O,O,O,O,O,O,O,O,O,O,O,O,O,O,O,O,O,O,O,O,O,O,O]
abbrev r09_Check_p19 : List AG := [o 53 (.mv (.t 4)), o 54 (.ibin .add (.t 53) (.c (.int .i64 1))), o 4 (.mv (.t 54))]
abbrev r09_Check_p20 : List AG := [o 2 (.mv (.c (.int .i64 1)))]
abbrev r09_Check_p21 : ACode := (.seq (.reg r09_Check_p20) .ret)
abbrev r09_Check_p22 : List AG := [o 55 (.off 2 (.t 1)), o 56 (.load false 1 (.t 55)), o 57 (.mv (.t 4)), o 58 (.ixAddr 1 (.t 56) (.t 57)), o 59 (.load false 1 (.t 58)), o 60 (.cmp .lss (.sc .int) (.t 59) (.c (.int .i64 0))), o 61 (.mv (.t 60)), on 62 61 (.off 2 (.t 1)), on 63 61 (.load false 1 (.t 62)), on 64 61 (.mv (.t 4)), on 65 61 (.ixAddr 1 (.t 63) (.t 64)), on 66 61 (.load false 1 (.t 65)), on 67 61 (.cmp .gtr (.sc .int) (.t 66) (.c (.int .i64 2))), o 68 (.pick (.t 61) (.c (.bool true)) (.t 67)), o 69 (.mv (.t 68)), on 70 69 (.off 1 (.t 1)), on 71 69 (.load false 1 (.t 70)), on 72 69 (.mv (.t 4)), on 73 69 (.ixAddr 1 (.t 71) (.t 72)), on 74 69 (.load false 1 (.t 73)), on 75 69 (.mv (.t 3)), on 76 69 (.call (.f n_r09_literal) [(.t 74), (.t 75)]), on 77 69 (.not (.t 76)), o 78 (.pick (.t 69) (.c (.bool true)) (.t 77))]
abbrev r09_Check_p23 : ACode := (.seq (.reg r09_Check_p22) (.cond (.t 78) r09_Check_p21 .skip))
abbrev r09_Check_p24 : List AG := [o 48 (.mv (.t 4)), o 49 (.off 1 (.t 1)), o 50 (.load false 1 (.t 49)), o 51 (.len (.t 50)), o 52 (.cmp .lss (.sc .int) (.t 48) (.t 51))]
abbrev r09_Check_b18 : ACode := (.seq (.seq (.reg r09_Check_p24) (.cond (.t 52) .skip (.exit 0))) (.seq (.block 1 [] r09_Check_p23) (.reg r09_Check_p19)))
abbrev r09_Check_p25 : List AG := [o 4 (.mv (.c (.int .i64 0)))]
abbrev r09_Check_p26 : List AG := [o 42 (.load true 5 (.t 1)), o 43 (.call (.f n_r09_First) [(.t 42)]), o 44 (.off 3 (.t 1)), o 45 (.load false 1 (.t 44)), o 46 (.len (.t 45)), o 47 (.ibin .add (.t 43) (.t 46)), o 3 (.mv (.t 47))]
abbrev r09_Check_p27 : List AG := [o 2 (.mv (.c (.int .i64 1)))]
abbrev r09_Check_p28 : ACode := (.seq (.reg r09_Check_p27) .ret)
abbrev r09_Check_p29 : List AG := [o 35 (.off 2 (.t 1)), o 36 (.load false 1 (.t 35)), o 37 (.len (.t 36)), o 38 (.off 1 (.t 1)), o 39 (.load false 1 (.t 38)), o 40 (.len (.t 39)), o 41 (.cmp .neq (.sc .int) (.t 37) (.t 40))]
abbrev r09_Check_p30 : List AG := [o 2 (.mv (.c (.int .i64 8)))]
abbrev r09_Check_p31 : ACode := (.seq (.reg r09_Check_p30) .ret)
abbrev r09_Check_p32 : List AG := [o 8 (.off 0 (.t 1)), o 9 (.load false 1 (.t 8)), o 10 (.cmp .lss (.sc .int) (.t 9) (.c (.int .i64 0))), o 11 (.mv (.t 10)), on 12 11 (.off 0 (.t 1)), on 13 11 (.load false 1 (.t 12)), on 14 11 (.cmp .gtr (.sc .int) (.t 13) (.c (.int .i64 4000))), o 15 (.pick (.t 11) (.c (.bool true)) (.t 14)), o 16 (.mv (.t 15)), on 17 16 (.off 0 (.t 1)), on 18 16 (.load false 1 (.t 17)), on 19 16 (.off 1 (.t 1)), on 20 16 (.load false 1 (.t 19)), on 21 16 (.len (.t 20)), on 22 16 (.ibin .add (.t 18) (.t 21)), on 23 16 (.off 3 (.t 1)), on 24 16 (.load false 1 (.t 23)), on 25 16 (.len (.t 24)), on 26 16 (.ibin .add (.t 22) (.t 25)), on 27 16 (.cmp .gtr (.sc .int) (.t 26) (.c (.int .i64 4000))), o 28 (.pick (.t 16) (.c (.bool true)) (.t 27)), o 29 (.mv (.t 28)), on 30 29 (.off 4 (.t 1)), on 31 29 (.load false 1 (.t 30)), on 32 29 (.len (.t 31)), on 33 29 (.cmp .gtr (.sc .int) (.t 32) (.c (.int .i64 4000))), o 34 (.pick (.t 29) (.c (.bool true)) (.t 33))]
abbrev r09_Check_p33 : List AG := [o 1 (.box 5 (.t 0)), o 2 (.mv (.c (.int .i64 0)))]
abbrev r09_Check : AFun := ⟨(.seq (.reg r09_Check_p33) (.seq (.seq (.reg r09_Check_p32) (.cond (.t 34) r09_Check_p31 .skip)) (.seq (.seq (.reg r09_Check_p29) (.cond (.t 41) r09_Check_p28 .skip)) (.seq (.dreg [O,O,O,I,O,O,O] [2,8,8,8,8,8,8] r09_Check_p26) (.seq (.seq (.reg r09_Check_p25) (.block 0 r09_Check_x18 (.loop r09_Check_m18 r09_Check_b18))) (.seq (.seq (.reg r09_Check_p17) (.block 2 r09_Check_x9 (.loop r09_Check_m9 r09_Check_b9))) (.seq (.seq (.reg r09_Check_p8) (.block 4 r09_Check_x1 (.loop r09_Check_m1 r09_Check_b1))) (.seq (.reg r09_Check_p0) .ret)))))))), 125, [.tmp 2]⟩
abbrev r09_Check_k1 : List It := [.code (.seq (.reg r09_Check_p0) .ret)]
abbrev r09_Check_L1 (x1 x3 x7 : AV) (h : List Ob) (e : Cx := cx) : Cfg := atC n_r09_Check (.code r09_Check_b1 :: .inLoop r09_Check_m1 r09_Check_b1 :: .inBlock 4 r09_Check_x1 :: r09_Check_k1) [U,x1,U,x3,U,U,U,x7,U,U,U,U,U,U,U,U,U,U,U,U,U,U,U,U,U,U,U,U,U,U,U,U,U,U,U,U,U,U,U,U,U,U,U,U,U,U,U,U,U,U,U,U,U,U,U,U,U,U,U,U,U,U,U,U,U,U,U,U,U,U,U,U,U,U,U,U,U,U,U,U,U,U,U,U,U,U,U,U,U,U,U,U,U,U,U,U,U,U,U,U,U,U,U,U,U,U,U,U,U,U,U,U,U,U,U,U,U,U,U,U,U,U,U,U,U] h e
abbrev r09_Check_E1 (h : List Ob) (e : Cx := cx) : Cfg := atC n_r09_Check r09_Check_k1 [U,U,U,U,U,U,U,U,U,U,U,U,U,U,U,U,U,U,U,U,U,U,U,U,U,U,U,U,U,U,U,U,U,U,U,U,U,U,U,U,U,U,U,U,U,U,U,U,U,U,U,U,U,U,U,U,U,U,U,U,U,U,U,U,U,U,U,U,U,U,U,U,U,U,U,U,U,U,U,U,U,U,U,U,U,U,U,U,U,U,U,U,U,U,U,U,U,U,U,U,U,U,U,U,U,U,U,U,U,U,U,U,U,U,U,U,U,U,U,U,U,U,U,U,U] h e
abbrev r09_Check_k9 : List It := [.code (.seq (.seq (.reg r09_Check_p8) (.block 4 r09_Check_x1 (.loop r09_Check_m1 r09_Check_b1))) (.seq (.reg r09_Check_p0) .ret))]
abbrev r09_Check_L9 (x1 x3 x5 : AV) (h : List Ob) (e : Cx := cx) : Cfg := atC n_r09_Check (.code r09_Check_b9 :: .inLoop r09_Check_m9 r09_Check_b9 :: .inBlock 2 r09_Check_x9 :: r09_Check_k9) [U,x1,U,x3,U,x5,U,U,U,U,U,U,U,U,U,U,U,U,U,U,U,U,U,U,U,U,U,U,U,U,U,U,U,U,U,U,U,U,U,U,U,U,U,U,U,U,U,U,U,U,U,U,U,U,U,U,U,U,U,U,U,U,U,U,U,U,U,U,U,U,U,U,U,U,U,U,U,U,U,U,U,U,U,U,U,U,U,U,U,U,U,U,U,U,U,U,U,U,U,U,U,U,U,U,U,U,U,U,U,U,U,U,U,U,U,U,U,U,U,U,U,U,U,U,U] h e
abbrev r09_Check_E9 (x1 x3 : AV) (h : List Ob) (e : Cx := cx) : Cfg := atC n_r09_Check r09_Check_k9 [U,x1,U,x3,U,U,U,U,U,U,U,U,U,U,U,U,U,U,U,U,U,U,U,U,U,U,U,U,U,U,U,U,U,U,U,U,U,U,U,U,U,U,U,U,U,U,U,U,U,U,U,U,U,U,U,U,U,U,U,U,U,U,U,U,U,U,U,U,U,U,U,U,U,U,U,U,U,U,U,U,U,U,U,U,U,U,U,U,U,U,U,U,U,U,U,U,U,U,U,U,U,U,U,U,U,U,U,U,U,U,U,U,U,U,U,U,U,U,U,U,U,U,U,U,U] h e
abbrev r09_Check_k18 : List It := [.code (.seq (.seq (.reg r09_Check_p17) (.block 2 r09_Check_x9 (.loop r09_Check_m9 r09_Check_b9))) (.seq (.seq (.reg r09_Check_p8) (.block 4 r09_Check_x1 (.loop r09_Check_m1 r09_Check_b1))) (.seq (.reg r09_Check_p0) .ret)))]
abbrev r09_Check_L18 (x1 x3 x4 : AV) (h : List Ob) (e : Cx := cx) : Cfg := atC n_r09_Check (.code r09_Check_b18 :: .inLoop r09_Check_m18 r09_Check_b18 :: .inBlock 0 r09_Check_x18 :: r09_Check_k18) [U,x1,U,x3,x4,U,U,U,U,U,U,U,U,U,U,U,U,U,U,U,U,U,U,U,U,U,U,U,U,U,U,U,U,U,U,U,U,U,U,U,U,U,U,U,U,U,U,U,U,U,U,U,U,U,U,U,U,U,U,U,U,U,U,U,U,U,U,U,U,U,U,U,U,U,U,U,U,U,U,U,U,U,U,U,U,U,U,U,U,U,U,U,U,U,U,U,U,U,U,U,U,U,U,U,U,U,U,U,U,U,U,U,U,U,U,U,U,U,U,U,U,U,U,U,U] h e
abbrev r09_Check_E18 (x1 x3 : AV) (h : List Ob) (e : Cx := cx) : Cfg := atC n_r09_Check r09_Check_k18 [U,x1,U,x3,U,U,U,U,U,U,U,U,U,U,U,U,U,U,U,U,U,U,U,U,U,U,U,U,U,U,U,U,U,U,U,U,U,U,U,U,U,U,U,U,U,U,U,U,U,U,U,U,U,U,U,U,U,U,U,U,U,U,U,U,U,U,U,U,U,U,U,U,U,U,U,U,U,U,U,U,U,U,U,U,U,U,U,U,U,U,U,U,U,U,U,U,U,U,U,U,U,U,U,U,U,U,U,U,U,U,U,U,U,U,U,U,U,U,U,U,U,U,U,U,U] h e
@[simp] theorem c_r09_Check : cfun Try.prog n_r09_Check = some r09_Check := by kernel_rfl
@[simp] theorem e_r09_Check : hasBody Try.prog n_r09_Check = true := by kernel_rfl

/- r19_right: patchbay/patchbayref19.right -/
abbrev r19_right_p0 : List AG := [o 24 (.mv (.t 1)), o 25 (.len (.t 24)), o 26 (.off 1 (.t 2)), o 27 (.load false 1 (.t 26)), o 28 (.len (.t 27)), o 29 (.cmp .eql (.sc .int) (.t 25) (.t 28)), o 4 (.mv (.t 29))]
abbrev r19_right_m1 : List Bool := [O,I,I,O,O,I,O,O,O,O,O,O,O,O,O,O,O,O,O,O,O,O,O,O,O,O,O,O,O,O]
abbrev r19_right_x1 : List Bool := [O,I,I,O,O,O,O,O,O,O,O,O,O,O,O,O,O,O,O,O,O,O,O,O,O,O,O,O,O,O]
abbrev r19_right_p2 : List AG := [o 10 (.mv (.t 5)), o 11 (.ibin .add (.t 10) (.c (.int .i64 1))), o 5 (.mv (.t 11))]
abbrev r19_right_p3 : List AG := [o 4 (.mv (.c (.bool false)))]
abbrev r19_right_p4 : ACode := (.seq (.reg r19_right_p3) .ret)
abbrev r19_right_p5 : List AG := [o 12 (.mv (.t 1)), o 13 (.mv (.t 5)), o 14 (.ixAddr 1 (.t 12) (.t 13)), o 15 (.load false 1 (.t 14)), o 16 (.cmp .lss (.sc .int) (.t 15) (.c (.int .i64 0))), o 17 (.mv (.t 16)), on 18 17 (.mv (.t 1)), on 19 17 (.mv (.t 5)), on 20 17 (.ixAddr 1 (.t 18) (.t 19)), on 21 17 (.load false 1 (.t 20)), on 22 17 (.cmp .gtr (.sc .int) (.t 21) (.c (.int .i64 2))), o 23 (.pick (.t 17) (.c (.bool true)) (.t 22))]
abbrev r19_right_p6 : ACode := (.seq (.reg r19_right_p5) (.cond (.t 23) r19_right_p4 .skip))
abbrev r19_right_p7 : List AG := [o 6 (.mv (.t 5)), o 7 (.mv (.t 1)), o 8 (.len (.t 7)), o 9 (.cmp .lss (.sc .int) (.t 6) (.t 8))]
abbrev r19_right_b1 : ACode := (.seq (.seq (.reg r19_right_p7) (.cond (.t 9) .skip (.exit 0))) (.seq (.block 1 [] r19_right_p6) (.reg r19_right_p2)))
abbrev r19_right_p8 : List AG := [o 5 (.mv (.c (.int .i64 0)))]
abbrev r19_right_p9 : List AG := [o 2 (.box 5 (.t 0)), o 4 (.mv (.c (.bool false)))]
abbrev r19_right : AFun := ⟨(.seq (.reg r19_right_p9) (.seq (.seq (.reg r19_right_p8) (.block 0 r19_right_x1 (.loop r19_right_m1 r19_right_b1))) (.seq (.reg r19_right_p0) .ret))), 30, [.tmp 4]⟩
abbrev r19_right_k1 : List It := [.code (.seq (.reg r19_right_p0) .ret)]
abbrev r19_right_L1 (x1 x2 x5 : AV) (h : List Ob) (e : Cx := cx) : Cfg := atC n_r19_right (.code r19_right_b1 :: .inLoop r19_right_m1 r19_right_b1 :: .inBlock 0 r19_right_x1 :: r19_right_k1) [U,x1,x2,U,U,x5,U,U,U,U,U,U,U,U,U,U,U,U,U,U,U,U,U,U,U,U,U,U,U,U] h e
abbrev r19_right_E1 (x1 x2 : AV) (h : List Ob) (e : Cx := cx) : Cfg := atC n_r19_right r19_right_k1 [U,x1,x2,U,U,U,U,U,U,U,U,U,U,U,U,U,U,U,U,U,U,U,U,U,U,U,U,U,U,U] h e
@[simp] theorem c_r19_right : cfun Try.prog n_r19_right = some r19_right := by kernel_rfl
@[simp] theorem e_r19_right : hasBody Try.prog n_r19_right = true := by kernel_rfl

/- r19_many: patchbay/patchbayref19.many -/
abbrev r19_many_p0 : List AG := [o 22 (.mv (.t 7)), o 23 (.mv (.t 2)), o 24 (.off 0 (.t 3)), o 25 (.load false 1 (.t 24)), o 26 (.off 3 (.t 3)), o 27 (.load false 1 (.t 26)), o 28 (.len (.t 27)), o 29 (.ibin .add (.t 25) (.t 28)), o 30 (.ibin .mul (.t 23) (.t 29)), o 31 (.ibin .add (.t 22) (.t 30)), o 6 (.mv (.t 31))]
abbrev r19_many_m1 : List Bool := [O,I,I,I,O,O,O,I,I,O,O,O,O,O,O,O,O,O,O,O,O,O,O,O,O,O,O,O,O,O,O,O]
abbrev r19_many_x1 : List Bool := [O,O,I,I,O,O,O,I,O,O,O,O,O,O,O,O,O,O,O,O,O,O,O,O,O,O,O,O,O,O,O,O]
abbrev r19_many_p2 : List AG := [o 13 (.mv (.t 8)), o 14 (.ibin .add (.t 13) (.c (.int .i64 1))), o 8 (.mv (.t 14))]
abbrev r19_many_p3 : List AG := [o 20 (.mv (.t 7)), o 21 (.ibin .add (.t 20) (.c (.int .i64 1))), o 7 (.mv (.t 21))]
abbrev r19_many_p4 : List AG := [o 15 (.mv (.t 1)), o 16 (.mv (.t 8)), o 17 (.ixAddr 1 (.t 15) (.t 16)), o 18 (.load false 1 (.t 17)), o 19 (.cmp .eql (.sc .int) (.t 18) (.c (.int .i64 2)))]
abbrev r19_many_p5 : ACode := (.seq (.reg r19_many_p4) (.cond (.t 19) (.reg r19_many_p3) .skip))
abbrev r19_many_p6 : List AG := [o 9 (.mv (.t 8)), o 10 (.mv (.t 1)), o 11 (.len (.t 10)), o 12 (.cmp .lss (.sc .int) (.t 9) (.t 11))]
abbrev r19_many_b1 : ACode := (.seq (.seq (.reg r19_many_p6) (.cond (.t 12) .skip (.exit 0))) (.seq (.block 1 [] r19_many_p5) (.reg r19_many_p2)))
abbrev r19_many_p7 : List AG := [o 8 (.mv (.c (.int .i64 0)))]
abbrev r19_many_p8 : List AG := [o 7 (.mv (.c (.int .i64 1)))]
abbrev r19_many_p9 : List AG := [o 3 (.box 5 (.t 0)), o 6 (.mv (.c (.int .i64 0)))]
abbrev r19_many : AFun := ⟨(.seq (.reg r19_many_p9) (.seq (.reg r19_many_p8) (.seq (.seq (.reg r19_many_p7) (.block 0 r19_many_x1 (.loop r19_many_m1 r19_many_b1))) (.seq (.reg r19_many_p0) .ret)))), 32, [.tmp 6]⟩
abbrev r19_many_k1 : List It := [.code (.seq (.reg r19_many_p0) .ret)]
abbrev r19_many_L1 (x1 x2 x3 x7 x8 : AV) (h : List Ob) (e : Cx := cx) : Cfg := atC n_r19_many (.code r19_many_b1 :: .inLoop r19_many_m1 r19_many_b1 :: .inBlock 0 r19_many_x1 :: r19_many_k1) [U,x1,x2,x3,U,U,U,x7,x8,U,U,U,U,U,U,U,U,U,U,U,U,U,U,U,U,U,U,U,U,U,U,U] h e
abbrev r19_many_E1 (x2 x3 x7 : AV) (h : List Ob) (e : Cx := cx) : Cfg := atC n_r19_many r19_many_k1 [U,U,x2,x3,U,U,U,x7,U,U,U,U,U,U,U,U,U,U,U,U,U,U,U,U,U,U,U,U,U,U,U,U] h e
@[simp] theorem c_r19_many : cfun Try.prog n_r19_many = some r19_many := by kernel_rfl
@[simp] theorem e_r19_many : hasBody Try.prog n_r19_many = true := by kernel_rfl

/- slices_Grow_bool_bool: slices.Grow[[]bool,bool] -/
abbrev slices_Grow_bool_bool_p0 : List AG := [o 26 (.mv (.t 0)), o 4 (.mv (.t 26))]
abbrev slices_Grow_bool_bool_p1 : List AG := [o 17 (.mv (.t 0)), o 18 (.mv (.t 0)), o 19 (.cap (.t 18)), o 20 (.slice 1 (.t 17) none (some (.t 19))), o 21 (.mv (.t 1)), o 22 (.appendZ 1 t_bool 1 (.bool false) (.t 20) (.t 21)), o 23 (.mv (.t 0)), o 24 (.len (.t 23)), o 25 (.slice 1 (.t 22) none (some (.t 24))), o 0 (.mv (.t 25))]
abbrev slices_Grow_bool_bool_p2 : List AG := [o 15 (.mv (.t 1)), o 16 (.cmp .gtr (.sc .int) (.t 15) (.c (.int .i64 0)))]
abbrev slices_Grow_bool_bool_p3 : List AG := [o 8 (.mv (.t 1)), o 9 (.mv (.t 0)), o 10 (.cap (.t 9)), o 11 (.mv (.t 0)), o 12 (.len (.t 11)), o 13 (.ibin .sub (.t 10) (.t 12)), o 14 (.ibin .sub (.t 8) (.t 13)), o 1 (.mv (.t 14))]
abbrev slices_Grow_bool_bool_p4 : List AG := [o 7 (.mkIface t_string (.c (.str [99, 97, 110, 110, 111, 116, 32, 98, 101, 32, 110, 101, 103, 97, 116, 105, 118, 101]))), q (.panic (.t 7))]
abbrev slices_Grow_bool_bool_p5 : List AG := [o 5 (.mv (.t 1)), o 6 (.cmp .lss (.sc .int) (.t 5) (.c (.int .i64 0)))]
abbrev slices_Grow_bool_bool_p6 : List AG := [o 4 (.nilrow 1 t_bool)]
abbrev slices_Grow_bool_bool : AFun := ⟨(.seq (.reg slices_Grow_bool_bool_p6) (.seq (.seq (.reg slices_Grow_bool_bool_p5) (.cond (.t 6) (.reg slices_Grow_bool_bool_p4) .skip)) (.seq (.seq (.reg slices_Grow_bool_bool_p3) (.seq (.reg slices_Grow_bool_bool_p2) (.cond (.t 16) (.reg slices_Grow_bool_bool_p1) .skip))) (.seq (.reg slices_Grow_bool_bool_p0) .ret)))), 27, [.tmp 4]⟩
@[simp] theorem c_slices_Grow_bool_bool : cfun Try.prog n_slices_Grow_bool_bool = some slices_Grow_bool_bool := by kernel_rfl
@[simp] theorem e_slices_Grow_bool_bool : hasBody Try.prog n_slices_Grow_bool_bool = true := by kernel_rfl

/- aig_first: patchbay/aig.first -/
abbrev aig_first_p0 : List AG := [o 3 (.off 0 (.t 1)), o 4 (.load false 1 (.t 3)), o 5 (.ibin .add (.c (.int .i64 1)) (.t 4)), o 6 (.off 1 (.t 1)), o 7 (.load false 1 (.t 6)), o 8 (.len (.t 7)), o 9 (.ibin .add (.t 5) (.t 8)), o 2 (.mv (.t 9))]
abbrev aig_first_p1 : List AG := [o 1 (.box 5 (.t 0)), o 2 (.mv (.c (.int .i64 0)))]
abbrev aig_first : AFun := ⟨(.seq (.reg aig_first_p1) (.seq (.reg aig_first_p0) .ret)), 10, [.tmp 2]⟩
@[simp] theorem c_aig_first : cfun Try.prog n_aig_first = some aig_first := by kernel_rfl
@[simp] theorem e_aig_first : hasBody Try.prog n_aig_first = true := by kernel_rfl

/- aig_Check_1: patchbay/aig.Check$1 -/
abbrev aig_Check_1_p0 : List AG := [o 4 (.mv (.t 0)), o 5 (.cmp .lss (.sc .int) (.t 4) (.c (.int .i64 0))), o 6 (.mv (.t 5)), on 7 6 (.mv (.t 0)), on 8 6 (.load false 1 (.t 1)), on 9 6 (.cmp .geq (.sc .int) (.t 7) (.t 8)), o 10 (.pick (.t 6) (.c (.bool true)) (.t 9)), o 3 (.mv (.t 10))]
abbrev aig_Check_1_p1 : List AG := [o 3 (.mv (.c (.bool false)))]
abbrev aig_Check_1 : AFun := ⟨(.seq (.reg aig_Check_1_p1) (.seq (.reg aig_Check_1_p0) .ret)), 11, [.tmp 3]⟩
@[simp] theorem c_aig_Check_1 : cfun Try.prog n_aig_Check_1 = some aig_Check_1 := by kernel_rfl
@[simp] theorem e_aig_Check_1 : hasBody Try.prog n_aig_Check_1 = true := by kernel_rfl

/- aig_Check_2: patchbay/aig.Check$2 -/
abbrev aig_Check_2_p0 : List AG := [o 3 (.mv (.t 0)), o 4 (.cmp .lss (.sc .int) (.t 3) (.c (.int .i64 0))), o 5 (.mv (.t 4)), on 6 5 (.mv (.t 0)), on 7 5 (.cmp .gtr (.sc .int) (.t 6) (.c (.int .i64 2))), o 8 (.pick (.t 5) (.c (.bool true)) (.t 7)), o 2 (.mv (.t 8))]
abbrev aig_Check_2_p1 : List AG := [o 2 (.mv (.c (.bool false)))]
abbrev aig_Check_2 : AFun := ⟨(.seq (.reg aig_Check_2_p1) (.seq (.reg aig_Check_2_p0) .ret)), 9, [.tmp 2]⟩
@[simp] theorem c_aig_Check_2 : cfun Try.prog n_aig_Check_2 = some aig_Check_2 := by kernel_rfl
@[simp] theorem e_aig_Check_2 : hasBody Try.prog n_aig_Check_2 = true := by kernel_rfl

/- slices_IndexFunc_int_int: slices.IndexFunc[[]int,int] -/
abbrev slices_IndexFunc_int_int_p0 : List AG := [o 4 (.mv (.c (.int .i64 (-1))))]
abbrev slices_IndexFunc_int_int_m1 : List Bool := [I,I,O,O,O,O,O,I,I,O,O,O,O,O,O,O,O,O,O]
abbrev slices_IndexFunc_int_int_x1 : List Bool := [O,O,O,O,O,O,O,O,O,O,O,O,O,O,O,O,O,O,O]
abbrev slices_IndexFunc_int_int_p2 : List AG := [o 18 (.ibin .add (.t 8) (.c (.int .i64 1))), o 8 (.mv (.t 18))]
abbrev slices_IndexFunc_int_int_p3 : List AG := [o 17 (.mv (.t 5)), o 4 (.mv (.t 17))]
abbrev slices_IndexFunc_int_int_p4 : ACode := (.seq (.reg slices_IndexFunc_int_int_p3) .ret)
abbrev slices_IndexFunc_int_int_p5 : List AG := [o 11 (.mv (.t 1)), o 12 (.mv (.t 0)), o 13 (.mv (.t 5)), o 14 (.ixAddr 1 (.t 12) (.t 13)), o 15 (.load false 1 (.t 14)), o 16 (.call (.t 11) [(.t 15)])]
abbrev slices_IndexFunc_int_int_p6 : List AG := [o 10 (.mv (.t 8)), o 5 (.mv (.t 10))]
abbrev slices_IndexFunc_int_int_p7 : ACode := (.seq (.reg slices_IndexFunc_int_int_p6) (.seq (.reg slices_IndexFunc_int_int_p5) (.cond (.t 16) slices_IndexFunc_int_int_p4 .skip)))
abbrev slices_IndexFunc_int_int_p8 : List AG := [o 9 (.cmp .lss (.sc .int) (.t 8) (.t 7))]
abbrev slices_IndexFunc_int_int_b1 : ACode := (.seq (.reg slices_IndexFunc_int_int_p8) (.seq (.cond (.t 9) .skip (.exit 0)) (.seq (.block 1 [] slices_IndexFunc_int_int_p7) (.reg slices_IndexFunc_int_int_p2))))
abbrev slices_IndexFunc_int_int_p9 : List AG := [o 6 (.mv (.t 0)), o 7 (.len (.t 6)), o 8 (.mv (.c (.int .i64 0)))]
abbrev slices_IndexFunc_int_int_p10 : List AG := [o 4 (.mv (.c (.int .i64 0)))]
abbrev slices_IndexFunc_int_int : AFun := ⟨(.seq (.reg slices_IndexFunc_int_int_p10) (.seq (.seq (.reg slices_IndexFunc_int_int_p9) (.block 0 slices_IndexFunc_int_int_x1 (.loop slices_IndexFunc_int_int_m1 slices_IndexFunc_int_int_b1))) (.seq (.reg slices_IndexFunc_int_int_p0) .ret))), 19, [.tmp 4]⟩
abbrev slices_IndexFunc_int_int_k1 : List It := [.code (.seq (.reg slices_IndexFunc_int_int_p0) .ret)]
abbrev slices_IndexFunc_int_int_L1 (x0 x1 x7 x8 : AV) (h : List Ob) (e : Cx := cx) : Cfg := atC n_slices_IndexFunc_int_int (.code slices_IndexFunc_int_int_b1 :: .inLoop slices_IndexFunc_int_int_m1 slices_IndexFunc_int_int_b1 :: .inBlock 0 slices_IndexFunc_int_int_x1 :: slices_IndexFunc_int_int_k1) [x0,x1,U,U,U,U,U,x7,x8,U,U,U,U,U,U,U,U,U,U] h e
abbrev slices_IndexFunc_int_int_E1 (h : List Ob) (e : Cx := cx) : Cfg := atC n_slices_IndexFunc_int_int slices_IndexFunc_int_int_k1 [U,U,U,U,U,U,U,U,U,U,U,U,U,U,U,U,U,U,U] h e
@[simp] theorem c_slices_IndexFunc_int_int : cfun Try.prog n_slices_IndexFunc_int_int = some slices_IndexFunc_int_int := by kernel_rfl
@[simp] theorem e_slices_IndexFunc_int_int : hasBody Try.prog n_slices_IndexFunc_int_int = true := by kernel_rfl

/- r09_literal: patchbay/patchbayref09.literal -/
abbrev r09_literal_p0 : List AG := [o 5 (.mv (.t 0)), o 6 (.cmp .geq (.sc .int) (.t 5) (.c (.int .i64 0))), o 7 (.mv (.t 6)), oy 8 7 (.mv (.t 0)), oy 9 7 (.mv (.t 1)), oy 10 7 (.ibin .mul (.c (.int .i64 2)) (.t 9)), oy 11 7 (.cmp .lss (.sc .int) (.t 8) (.t 10)), o 12 (.pick (.t 7) (.t 11) (.c (.bool false))), o 4 (.mv (.t 12))]
abbrev r09_literal_p1 : List AG := [o 4 (.mv (.c (.bool false)))]
abbrev r09_literal : AFun := ⟨(.seq (.reg r09_literal_p1) (.seq (.reg r09_literal_p0) .ret)), 13, [.tmp 4]⟩
@[simp] theorem c_r09_literal : cfun Try.prog n_r09_literal = some r09_literal := by kernel_rfl
@[simp] theorem e_r09_literal : hasBody Try.prog n_r09_literal = true := by kernel_rfl

end Go.Proofs.Ytfpkjfmpamlakaa
