/- The functions, as the abstract machine has them. Printed by a program. -/
import Derived.Test.YtdmedcdloeljeaaAMd
import Derived.Test.YtdmedcdloeljeaaChecked
import Derived.KernelRfl
set_option linter.unusedSimpArgs false
set_option linter.unusedVariables false
namespace Go.Proofs.Ytdmedcdloeljeaa
open Go.AM Go.Proofs
abbrev n_gosem_cut : FuncId := 1
abbrev n_gosem_cut_init : FuncId := 2
abbrev n_w09_AigTells : FuncId := 3
abbrev n_w09_AigSteps : FuncId := 4
abbrev n_w09_AigMeans : FuncId := 5
abbrev n_w09_AigNormal : FuncId := 6
abbrev n_w09_AigLaws : FuncId := 7
abbrev n_w09_works : FuncId := 8
abbrev n_w09_Few : FuncId := 9
abbrev n_aig_Normal : FuncId := 10
abbrev n_r09_Normal : FuncId := 11
abbrev n_r09_Check : FuncId := 12
abbrev n_r09_Strict : FuncId := 13
abbrev n_r09_Same : FuncId := 14
abbrev n_aig_Check : FuncId := 15
abbrev n_aig_Strict : FuncId := 16
abbrev n_aig_Same : FuncId := 17
abbrev n_aig_Values : FuncId := 18
abbrev n_r09_Values : FuncId := 19
abbrev n_aig_Step : FuncId := 20
abbrev n_r09_Step : FuncId := 21
abbrev n_r08_Bools : FuncId := 22
abbrev n_aig_And : FuncId := 23
abbrev n_r09_Lit : FuncId := 24
abbrev n_aig_begin : FuncId := 25
abbrev n_aig_builder_and : FuncId := 26
abbrev n_aig_builder_came : FuncId := 27
abbrev n_aig_builder_end : FuncId := 28
abbrev n_aig_led : FuncId := 29
abbrev n_aig_first : FuncId := 30
abbrev n_r09_First : FuncId := 31
abbrev n_r09_and : FuncId := 32
abbrev n_r09_become : FuncId := 33
abbrev n_r09_closed : FuncId := 34
abbrev n_r09_becomes : FuncId := 35
abbrev n_r09_literal : FuncId := 36
abbrev n_r09_Led : FuncId := 37
abbrev n_r01_Ints : FuncId := 38
abbrev n_aig_Check_1 : FuncId := 39
abbrev n_aig_Check_2 : FuncId := 40
abbrev n_slices_ContainsFunc_int_int : FuncId := 41
abbrev n_slices_Contains_2_int_2_int : FuncId := 42
abbrev n_slices_Equal_int_int : FuncId := 43
abbrev n_slices_Equal_2_int_2_int : FuncId := 44
abbrev n_slices_Concat_bool_bool : FuncId := 45
abbrev n_aig_value : FuncId := 46
abbrev n_aig_Step_1 : FuncId := 47
abbrev n_aig_build : FuncId := 48
abbrev n_slices_Clone_int_int : FuncId := 49
abbrev n_aig_builder_all : FuncId := 50
abbrev n_aig_leading : FuncId := 51
abbrev n_slices_IndexFunc_int_int : FuncId := 52
abbrev n_slices_Index_2_int_2_int : FuncId := 53
abbrev n_slices_Grow_bool_bool : FuncId := 54
abbrev n_slices_Clone_2_int_2_int : FuncId := 55
abbrev n_aig_leading_1 : FuncId := 56
abbrev n_slices_Concat_int_int : FuncId := 57
abbrev n_slices_Backward_2_int_2_int : FuncId := 58
abbrev n_slices_Grow_int_int : FuncId := 59
abbrev n_slices_Backward_2_int_2_int_1 : FuncId := 60
abbrev t_int : TypeId := 3
abbrev t_bool : TypeId := 4
abbrev t_string : TypeId := 9
abbrev t_2_int_2 : TypeId := 45
/- w09_AigTells: patchbay/patchbaylaw09.AigTells -/
abbrev w09_AigTells_p0 : List AG := [o 47 (.mv (.t 5)), o 48 (.mv (.t 47)), oy 49 48 (.load true 5 (.t 2)), oy 50 48 (.call (.f n_aig_Check) [(.t 49)]), oy 51 48 (.mv (.t 11)), oy 52 48 (.cmp .eql (.sc .int) (.t 50) (.t 51)), o 53 (.pick (.t 48) (.t 52) (.c (.bool false))), o 54 (.mv (.t 53)), oy 55 54 (.load true 5 (.t 2)), oy 56 54 (.call (.f n_aig_Strict) [(.t 55)]), oy 57 54 (.mv (.t 12)), oy 58 54 (.cmp .eql (.sc .bool) (.t 56) (.t 57)), o 59 (.pick (.t 54) (.t 58) (.c (.bool false))), o 60 (.mv (.t 59)), oy 61 60 (.mv (.t 13)), o 62 (.pick (.t 60) (.t 61) (.c (.bool false))), o 63 (.mv (.t 62)), oy 64 63 (.mv (.t 8)), oy 65 63 (.mv (.t 10)), oy 66 63 (.cmp .eql (.sc .int) (.t 64) (.t 65)), o 67 (.pick (.t 63) (.t 66) (.c (.bool false))), o 68 (.mv (.t 67)), oy 69 68 (.load true 5 (.t 2)), oy 70 68 (.load true 5 (.t 3)), oy 71 68 (.call (.f n_aig_Same) [(.t 69), (.t 70)]), oy 72 68 (.mv (.t 14)), oy 73 68 (.cmp .eql (.sc .bool) (.t 71) (.t 72)), o 74 (.pick (.t 68) (.t 73) (.c (.bool false))), o 4 (.mv (.t 74))]
abbrev w09_AigTells_p1 : List AG := [o 44 (.load true 5 (.t 2)), o 45 (.load true 5 (.t 3)), o 46 (.call (.f n_r09_Same) [(.t 44), (.t 45)]), o 14 (.mv (.t 46))]
abbrev w09_AigTells_p2 : List AG := [o 41 (.load true 5 (.t 7)), o 42 (.load true 5 (.t 9)), o 43 (.call (.f n_r09_Same) [(.t 41), (.t 42)]), o 13 (.mv (.t 43))]
abbrev w09_AigTells_p3 : List AG := [o 39 (.load true 5 (.t 2)), o 40 (.call (.f n_r09_Strict) [(.t 39)]), o 12 (.mv (.t 40))]
abbrev w09_AigTells_p4 : List AG := [o 37 (.load true 5 (.t 2)), o 38 (.call (.f n_r09_Check) [(.t 37)]), o 11 (.mv (.t 38))]
abbrev w09_AigTells_p5 : List AG := [o 33 (.load true 5 (.t 2)), o 34 (.call (.f n_r09_Normal) [(.t 33)]), o 32 (.mv (.t 34)), o 35 (.extract (.t 32) 0), o 36 (.extract (.t 32) 1), o 9 (.alloc [(.int .i64 0), (.own 1 t_int []), (.own 1 t_int []), (.own 2 t_2_int_2 []), (.own 1 t_int [])]), q (.store 5 (.t 9) (.t 35)), o 10 (.mv (.t 36))]
abbrev w09_AigTells_p6 : List AG := [o 28 (.load true 5 (.t 2)), o 29 (.call (.f n_aig_Normal) [(.t 28)]), o 27 (.mv (.t 29)), o 30 (.extract (.t 27) 0), o 31 (.extract (.t 27) 1), o 7 (.alloc [(.int .i64 0), (.own 1 t_int []), (.own 1 t_int []), (.own 2 t_2_int_2 []), (.own 1 t_int [])]), q (.store 5 (.t 7) (.t 30)), o 8 (.mv (.t 31))]
abbrev w09_AigTells_p7 : List AG := [o 26 (.mv (.t 5)), o 4 (.mv (.t 26))]
abbrev w09_AigTells_p8 : ACode := (.seq (.reg w09_AigTells_p7) .ret)
abbrev w09_AigTells_p9 : List AG := [o 24 (.mv (.t 6)), o 25 (.not (.t 24))]
abbrev w09_AigTells_p10 : List AG := [o 18 (.load true 5 (.t 2)), o 19 (.call (.f n_w09_Few) [(.t 18)]), o 20 (.mv (.t 19)), oy 21 20 (.load true 5 (.t 3)), oy 22 20 (.call (.f n_w09_Few) [(.t 21)]), o 23 (.pick (.t 20) (.t 22) (.c (.bool false))), o 6 (.mv (.t 23))]
abbrev w09_AigTells_p11 : List AG := [o 4 (.mv (.c (.bool false)))]
abbrev w09_AigTells_p12 : ACode := (.seq (.reg w09_AigTells_p11) .ret)
abbrev w09_AigTells_p13 : List AG := [o 16 (.mv (.t 5)), o 17 (.not (.t 16))]
abbrev w09_AigTells_p14 : List AG := [o 15 (.call (.f n_w09_works) []), o 5 (.mv (.t 15))]
abbrev w09_AigTells_p15 : List AG := [o 2 (.box 5 (.t 0)), o 3 (.box 5 (.t 1)), o 4 (.mv (.c (.bool false)))]
abbrev w09_AigTells : AFun := ⟨(.seq (.reg w09_AigTells_p15) (.seq (.reg w09_AigTells_p14) (.seq (.seq (.reg w09_AigTells_p13) (.cond (.t 17) w09_AigTells_p12 .skip)) (.seq (.reg w09_AigTells_p10) (.seq (.seq (.reg w09_AigTells_p9) (.cond (.t 25) w09_AigTells_p8 .skip)) (.seq (.reg w09_AigTells_p6) (.seq (.reg w09_AigTells_p5) (.seq (.reg w09_AigTells_p4) (.seq (.reg w09_AigTells_p3) (.seq (.reg w09_AigTells_p2) (.seq (.reg w09_AigTells_p1) (.seq (.reg w09_AigTells_p0) .ret)))))))))))), 75, [.tmp 4]⟩
@[simp] theorem c_w09_AigTells : cfun Try.prog n_w09_AigTells = some w09_AigTells := by kernel_rfl
@[simp] theorem e_w09_AigTells : hasBody Try.prog n_w09_AigTells = true := by kernel_rfl

/- w09_AigSteps: patchbay/patchbaylaw09.AigSteps -/
abbrev w09_AigSteps_p0 : List AG := [o 67 (.mv (.t 7)), o 68 (.mv (.t 67)), oy 69 68 (.mv (.t 9)), oy 70 68 (.mv (.t 11)), oy 71 68 (.call (.f n_r08_Bools) [(.t 69), (.t 70)]), o 72 (.pick (.t 68) (.t 71) (.c (.bool false))), o 73 (.mv (.t 72)), oy 74 73 (.mv (.t 10)), oy 75 73 (.mv (.t 12)), oy 76 73 (.cmp .eql (.sc .int) (.t 74) (.t 75)), o 77 (.pick (.t 73) (.t 76) (.c (.bool false))), o 78 (.mv (.t 77)), oy 79 78 (.mv (.t 13)), oy 80 78 (.mv (.t 16)), oy 81 78 (.call (.f n_r08_Bools) [(.t 79), (.t 80)]), o 82 (.pick (.t 78) (.t 81) (.c (.bool false))), o 83 (.mv (.t 82)), oy 84 83 (.mv (.t 14)), oy 85 83 (.mv (.t 17)), oy 86 83 (.call (.f n_r08_Bools) [(.t 84), (.t 85)]), o 87 (.pick (.t 83) (.t 86) (.c (.bool false))), o 88 (.mv (.t 87)), oy 89 88 (.mv (.t 15)), oy 90 88 (.mv (.t 18)), oy 91 88 (.cmp .eql (.sc .int) (.t 89) (.t 90)), o 92 (.pick (.t 88) (.t 91) (.c (.bool false))), o 6 (.mv (.t 92))]
abbrev w09_AigSteps_p1 : List AG := [o 60 (.load true 5 (.t 3)), o 61 (.mv (.t 1)), o 62 (.mv (.t 2)), o 63 (.call (.f n_r09_Step) [(.t 60), (.t 61), (.t 62)]), o 59 (.mv (.t 63)), o 64 (.extract (.t 59) 0), o 65 (.extract (.t 59) 1), o 66 (.extract (.t 59) 2), o 16 (.mv (.t 64)), o 17 (.mv (.t 65)), o 18 (.mv (.t 66))]
abbrev w09_AigSteps_p2 : List AG := [o 52 (.load true 5 (.t 3)), o 53 (.mv (.t 1)), o 54 (.mv (.t 2)), o 55 (.call (.f n_aig_Step) [(.t 52), (.t 53), (.t 54)]), o 51 (.mv (.t 55)), o 56 (.extract (.t 51) 0), o 57 (.extract (.t 51) 1), o 58 (.extract (.t 51) 2), o 13 (.mv (.t 56)), o 14 (.mv (.t 57)), o 15 (.mv (.t 58))]
abbrev w09_AigSteps_p3 : List AG := [o 45 (.load true 5 (.t 3)), o 46 (.mv (.t 1)), o 47 (.mv (.t 2)), o 48 (.call (.f n_r09_Values) [(.t 45), (.t 46), (.t 47)]), o 44 (.mv (.t 48)), o 49 (.extract (.t 44) 0), o 50 (.extract (.t 44) 1), o 11 (.mv (.t 49)), o 12 (.mv (.t 50))]
abbrev w09_AigSteps_p4 : List AG := [o 38 (.load true 5 (.t 3)), o 39 (.mv (.t 1)), o 40 (.mv (.t 2)), o 41 (.call (.f n_aig_Values) [(.t 38), (.t 39), (.t 40)]), o 37 (.mv (.t 41)), o 42 (.extract (.t 37) 0), o 43 (.extract (.t 37) 1), o 9 (.mv (.t 42)), o 10 (.mv (.t 43))]
abbrev w09_AigSteps_p5 : List AG := [o 36 (.mv (.t 7)), o 6 (.mv (.t 36))]
abbrev w09_AigSteps_p6 : ACode := (.seq (.reg w09_AigSteps_p5) .ret)
abbrev w09_AigSteps_p7 : List AG := [o 24 (.mv (.t 8)), o 25 (.not (.t 24)), o 26 (.mv (.t 25)), on 27 26 (.mv (.t 1)), on 28 26 (.len (.t 27)), on 29 26 (.cmp .gtr (.sc .int) (.t 28) (.c (.int .i64 60))), o 30 (.pick (.t 26) (.c (.bool true)) (.t 29)), o 31 (.mv (.t 30)), on 32 31 (.mv (.t 2)), on 33 31 (.len (.t 32)), on 34 31 (.cmp .gtr (.sc .int) (.t 33) (.c (.int .i64 60))), o 35 (.pick (.t 31) (.c (.bool true)) (.t 34))]
abbrev w09_AigSteps_p8 : List AG := [o 22 (.load true 5 (.t 3)), o 23 (.call (.f n_w09_Few) [(.t 22)]), o 8 (.mv (.t 23))]
abbrev w09_AigSteps_p9 : List AG := [o 6 (.mv (.c (.bool false)))]
abbrev w09_AigSteps_p10 : ACode := (.seq (.reg w09_AigSteps_p9) .ret)
abbrev w09_AigSteps_p11 : List AG := [o 20 (.mv (.t 7)), o 21 (.not (.t 20))]
abbrev w09_AigSteps_p12 : List AG := [o 19 (.call (.f n_w09_works) []), o 7 (.mv (.t 19))]
abbrev w09_AigSteps_p13 : List AG := [o 3 (.box 5 (.t 0)), o 6 (.mv (.c (.bool false)))]
abbrev w09_AigSteps : AFun := ⟨(.seq (.reg w09_AigSteps_p13) (.seq (.reg w09_AigSteps_p12) (.seq (.seq (.reg w09_AigSteps_p11) (.cond (.t 21) w09_AigSteps_p10 .skip)) (.seq (.reg w09_AigSteps_p8) (.seq (.seq (.reg w09_AigSteps_p7) (.cond (.t 35) w09_AigSteps_p6 .skip)) (.seq (.reg w09_AigSteps_p4) (.seq (.reg w09_AigSteps_p3) (.seq (.reg w09_AigSteps_p2) (.seq (.reg w09_AigSteps_p1) (.seq (.reg w09_AigSteps_p0) .ret)))))))))), 93, [.tmp 6]⟩
@[simp] theorem c_w09_AigSteps : cfun Try.prog n_w09_AigSteps = some w09_AigSteps := by kernel_rfl
@[simp] theorem e_w09_AigSteps : hasBody Try.prog n_w09_AigSteps = true := by kernel_rfl

/- w09_AigMeans: patchbay/patchbaylaw09.AigMeans -/
abbrev w09_AigMeans_p0 : List AG := [o 156 (.mv (.t 11)), o 157 (.mv (.t 156)), oy 158 157 (.mv (.t 29)), oy 159 157 (.mv (.t 27)), oy 160 157 (.mv (.t 159)), oy 161 160 (.mv (.t 28)), oy 162 157 (.pick (.t 160) (.t 161) (.c (.bool false))), oy 163 157 (.cmp .eql (.sc .bool) (.t 158) (.t 162)), o 164 (.pick (.t 157) (.t 163) (.c (.bool false))), o 165 (.mv (.t 164)), oy 166 165 (.mv (.t 26)), oy 167 165 (.cmp .eql (.sc .int) (.t 166) (.c (.int .i64 0))), o 168 (.pick (.t 165) (.t 167) (.c (.bool false))), o 169 (.mv (.t 168)), oy 170 169 (.mv (.t 25)), oy 171 169 (.mv (.t 14)), oy 172 169 (.cmp .eql (.sc .int) (.t 170) (.t 171)), o 173 (.pick (.t 169) (.t 172) (.c (.bool false))), o 174 (.mv (.t 173)), oy 175 174 (.load true 5 (.t 24)), oy 176 174 (.load true 5 (.t 13)), oy 177 174 (.call (.f n_aig_Same) [(.t 175), (.t 176)]), o 178 (.pick (.t 174) (.t 177) (.c (.bool false))), o 10 (.mv (.t 178))]
abbrev w09_AigMeans_p1 : List AG := [o 153 (.mv (.t 21)), o 154 (.mv (.t 14)), o 155 (.call (.f n_r09_Lit) [(.t 153), (.t 154)]), o 29 (.mv (.t 155))]
abbrev w09_AigMeans_p2 : List AG := [o 150 (.mv (.t 19)), o 151 (.mv (.t 2)), o 152 (.call (.f n_r09_Lit) [(.t 150), (.t 151)]), o 28 (.mv (.t 152))]
abbrev w09_AigMeans_p3 : List AG := [o 147 (.mv (.t 19)), o 148 (.mv (.t 1)), o 149 (.call (.f n_r09_Lit) [(.t 147), (.t 148)]), o 27 (.mv (.t 149))]
abbrev w09_AigMeans_p4 : List AG := [o 140 (.load true 5 (.t 13)), o 141 (.mv (.t 1)), o 142 (.mv (.t 2)), o 143 (.call (.f n_aig_And) [(.t 140), (.t 141), (.t 142)]), o 139 (.mv (.t 143)), o 144 (.extract (.t 139) 0), o 145 (.extract (.t 139) 1), o 146 (.extract (.t 139) 2), o 24 (.alloc [(.int .i64 0), (.own 1 t_int []), (.own 1 t_int []), (.own 2 t_2_int_2 []), (.own 1 t_int [])]), q (.store 5 (.t 24) (.t 144)), o 25 (.mv (.t 145)), o 26 (.mv (.t 146))]
abbrev w09_AigMeans_m5 : List Bool := [O,I,I,O,O,O,O,O,O,O,O,I,O,I,I,O,O,O,O,I,O,I,O,I,O,O,O,O,O,O,O,O,O,O,O,O,O,O,O,O,O,O,O,O,O,O,O,O,O,O,O,O,O,O,O,O,O,O,O,O,O,O,O,O,O,O,O,O,O,O,O,O,O,O,O,O,O,O,O,O,O,O,O,O,O,O,O,O,O,O,O,O,O,O,O,O,O,O,O,O,O,O,O,O,O,O,O,O,O,O,O,O,O,O,O,O,O,O,O,O,O,O,O,O,O,O,O,O,O,O,O,O,O,O,O,O,O,O,O,O,O,O,O,O,O,O,O,O,O,O,O,O,O,O,O,O,O,O,O,O,O,O,O,O,O,O,O,O,O,O,O,O,O,O,O,O,O,O,O]
abbrev w09_AigMeans_x5 : List Bool := [O,I,I,O,O,O,O,O,O,O,O,I,O,I,I,O,O,O,O,I,O,I,O,O,O,O,O,O,O,O,O,O,O,O,O,O,O,O,O,O,O,O,O,O,O,O,O,O,O,O,O,O,O,O,O,O,O,O,O,O,O,O,O,O,O,O,O,O,O,O,O,O,O,O,O,O,O,O,O,O,O,O,O,O,O,O,O,O,O,O,O,O,O,O,O,O,O,O,O,O,O,O,O,O,O,O,O,O,O,O,O,O,O,O,O,O,O,O,O,O,O,O,O,O,O,O,O,O,O,O,O,O,O,O,O,O,O,O,O,O,O,O,O,O,O,O,O,O,O,O,O,O,O,O,O,O,O,O,O,O,O,O,O,O,O,O,O,O,O,O,O,O,O,O,O,O,O,O,O]
abbrev w09_AigMeans_p6 : List AG := [o 128 (.mv (.t 23)), o 129 (.ibin .add (.t 128) (.c (.int .i64 1))), o 23 (.mv (.t 129))]
abbrev w09_AigMeans_p7 : List AG := [o 10 (.mv (.c (.bool false)))]
abbrev w09_AigMeans_p8 : ACode := (.seq (.reg w09_AigMeans_p7) .ret)
abbrev w09_AigMeans_p9 : List AG := [o 130 (.mv (.t 19)), o 131 (.mv (.t 23)), o 132 (.ixAddr 1 (.t 130) (.t 131)), o 133 (.load false 1 (.t 132)), o 134 (.mv (.t 21)), o 135 (.mv (.t 23)), o 136 (.ixAddr 1 (.t 134) (.t 135)), o 137 (.load false 1 (.t 136)), o 138 (.cmp .neq (.sc .bool) (.t 133) (.t 137))]
abbrev w09_AigMeans_p10 : ACode := (.seq (.dreg [O,O,O,O,O,O,O,O,O] [10,10,10,10,10,10,10,10,10] w09_AigMeans_p9) (.cond (.t 138) w09_AigMeans_p8 .skip))
abbrev w09_AigMeans_p11 : List AG := [o 124 (.mv (.t 23)), o 125 (.mv (.t 19)), o 126 (.len (.t 125)), o 127 (.cmp .lss (.sc .int) (.t 124) (.t 126))]
abbrev w09_AigMeans_b5 : ACode := (.seq (.seq (.reg w09_AigMeans_p11) (.cond (.t 127) .skip (.exit 0))) (.seq (.block 1 [] w09_AigMeans_p10) (.reg w09_AigMeans_p6)))
abbrev w09_AigMeans_p12 : List AG := [o 23 (.mv (.c (.int .i64 0)))]
abbrev w09_AigMeans_p13 : List AG := [o 106 (.mv (.t 11)), o 107 (.mv (.t 106)), oy 108 107 (.mv (.t 15)), oy 109 107 (.cmp .neq (.sc .int) (.t 108) (.c (.int .i64 0))), oy 110 107 (.mv (.t 109)), oy 111 110 (.mv (.t 14)), oy 112 110 (.cmp .eql (.sc .int) (.t 111) (.c (.int .i64 0))), oy 113 107 (.pick (.t 110) (.t 112) (.c (.bool false))), oy 114 107 (.mv (.t 113)), on 115 114 (.mv (.t 15)), on 116 114 (.cmp .eql (.sc .int) (.t 115) (.c (.int .i64 0))), on 117 114 (.mv (.t 116)), oy 118 117 (.mv (.t 20)), oy 119 117 (.mv (.t 22)), oy 120 117 (.cmp .eql (.sc .int) (.t 118) (.t 119)), on 121 114 (.pick (.t 117) (.t 120) (.c (.bool false))), oy 122 107 (.pick (.t 114) (.c (.bool true)) (.t 121)), o 123 (.pick (.t 107) (.t 122) (.c (.bool false))), o 10 (.mv (.t 123))]
abbrev w09_AigMeans_p14 : ACode := (.seq (.reg w09_AigMeans_p13) .ret)
abbrev w09_AigMeans_p15 : List AG := [o 96 (.mv (.t 15)), o 97 (.cmp .neq (.sc .int) (.t 96) (.c (.int .i64 0))), o 98 (.mv (.t 97)), on 99 98 (.mv (.t 20)), on 100 98 (.cmp .neq (.sc .int) (.t 99) (.c (.int .i64 0))), o 101 (.pick (.t 98) (.c (.bool true)) (.t 100)), o 102 (.mv (.t 101)), on 103 102 (.mv (.t 22)), on 104 102 (.cmp .neq (.sc .int) (.t 103) (.c (.int .i64 0))), o 105 (.pick (.t 102) (.c (.bool true)) (.t 104))]
abbrev w09_AigMeans_p16 : List AG := [o 90 (.load true 5 (.t 13)), o 91 (.mv (.t 3)), o 92 (.mv (.t 4)), o 93 (.call (.f n_aig_Values) [(.t 90), (.t 91), (.t 92)]), o 89 (.mv (.t 93)), o 94 (.extract (.t 89) 0), o 95 (.extract (.t 89) 1), o 21 (.mv (.t 94)), o 22 (.mv (.t 95))]
abbrev w09_AigMeans_p17 : List AG := [o 83 (.load true 5 (.t 5)), o 84 (.mv (.t 3)), o 85 (.mv (.t 4)), o 86 (.call (.f n_aig_Values) [(.t 83), (.t 84), (.t 85)]), o 82 (.mv (.t 86)), o 87 (.extract (.t 82) 0), o 88 (.extract (.t 82) 1), o 19 (.mv (.t 87)), o 20 (.mv (.t 88))]
abbrev w09_AigMeans_p18 : List AG := [o 10 (.mv (.c (.bool false)))]
abbrev w09_AigMeans_p19 : ACode := (.seq (.reg w09_AigMeans_p18) .ret)
abbrev w09_AigMeans_p20 : List AG := [o 64 (.mv (.t 15)), o 65 (.mv (.t 18)), o 66 (.cmp .neq (.sc .int) (.t 64) (.t 65)), o 67 (.mv (.t 66)), on 68 67 (.mv (.t 15)), on 69 67 (.cmp .eql (.sc .int) (.t 68) (.c (.int .i64 0))), on 70 67 (.mv (.t 69)), oy 71 70 (.mv (.t 14)), oy 72 70 (.mv (.t 17)), oy 73 70 (.cmp .neq (.sc .int) (.t 71) (.t 72)), oy 74 70 (.mv (.t 73)), on 75 74 (.load true 5 (.t 13)), on 76 74 (.load true 5 (.t 16)), on 77 74 (.call (.f n_aig_Same) [(.t 75), (.t 76)]), on 78 74 (.not (.t 77)), oy 79 70 (.pick (.t 74) (.c (.bool true)) (.t 78)), on 80 67 (.pick (.t 70) (.t 79) (.c (.bool false))), o 81 (.pick (.t 67) (.c (.bool true)) (.t 80))]
abbrev w09_AigMeans_p21 : List AG := [o 57 (.load true 5 (.t 5)), o 58 (.mv (.t 2)), o 59 (.mv (.t 1)), o 60 (.call (.f n_aig_And) [(.t 57), (.t 58), (.t 59)]), o 56 (.mv (.t 60)), o 61 (.extract (.t 56) 0), o 62 (.extract (.t 56) 1), o 63 (.extract (.t 56) 2), o 16 (.alloc [(.int .i64 0), (.own 1 t_int []), (.own 1 t_int []), (.own 2 t_2_int_2 []), (.own 1 t_int [])]), q (.store 5 (.t 16) (.t 61)), o 17 (.mv (.t 62)), o 18 (.mv (.t 63))]
abbrev w09_AigMeans_p22 : List AG := [o 49 (.load true 5 (.t 5)), o 50 (.mv (.t 1)), o 51 (.mv (.t 2)), o 52 (.call (.f n_aig_And) [(.t 49), (.t 50), (.t 51)]), o 48 (.mv (.t 52)), o 53 (.extract (.t 48) 0), o 54 (.extract (.t 48) 1), o 55 (.extract (.t 48) 2), o 13 (.alloc [(.int .i64 0), (.own 1 t_int []), (.own 1 t_int []), (.own 2 t_2_int_2 []), (.own 1 t_int [])]), q (.store 5 (.t 13) (.t 53)), o 14 (.mv (.t 54)), o 15 (.mv (.t 55))]
abbrev w09_AigMeans_p23 : List AG := [o 47 (.mv (.t 11)), o 10 (.mv (.t 47))]
abbrev w09_AigMeans_p24 : ACode := (.seq (.reg w09_AigMeans_p23) .ret)
abbrev w09_AigMeans_p25 : List AG := [o 35 (.mv (.t 12)), o 36 (.not (.t 35)), o 37 (.mv (.t 36)), on 38 37 (.mv (.t 3)), on 39 37 (.len (.t 38)), on 40 37 (.cmp .gtr (.sc .int) (.t 39) (.c (.int .i64 60))), o 41 (.pick (.t 37) (.c (.bool true)) (.t 40)), o 42 (.mv (.t 41)), on 43 42 (.mv (.t 4)), on 44 42 (.len (.t 43)), on 45 42 (.cmp .gtr (.sc .int) (.t 44) (.c (.int .i64 60))), o 46 (.pick (.t 42) (.c (.bool true)) (.t 45))]
abbrev w09_AigMeans_p26 : List AG := [o 33 (.load true 5 (.t 5)), o 34 (.call (.f n_w09_Few) [(.t 33)]), o 12 (.mv (.t 34))]
abbrev w09_AigMeans_p27 : List AG := [o 10 (.mv (.c (.bool false)))]
abbrev w09_AigMeans_p28 : ACode := (.seq (.reg w09_AigMeans_p27) .ret)
abbrev w09_AigMeans_p29 : List AG := [o 31 (.mv (.t 11)), o 32 (.not (.t 31))]
abbrev w09_AigMeans_p30 : List AG := [o 30 (.call (.f n_w09_works) []), o 11 (.mv (.t 30))]
abbrev w09_AigMeans_p31 : List AG := [o 5 (.box 5 (.t 0)), o 10 (.mv (.c (.bool false)))]
abbrev w09_AigMeans : AFun := ⟨(.seq (.reg w09_AigMeans_p31) (.seq (.reg w09_AigMeans_p30) (.seq (.seq (.reg w09_AigMeans_p29) (.cond (.t 32) w09_AigMeans_p28 .skip)) (.seq (.reg w09_AigMeans_p26) (.seq (.seq (.reg w09_AigMeans_p25) (.cond (.t 46) w09_AigMeans_p24 .skip)) (.seq (.reg w09_AigMeans_p22) (.seq (.reg w09_AigMeans_p21) (.seq (.seq (.reg w09_AigMeans_p20) (.cond (.t 81) w09_AigMeans_p19 .skip)) (.seq (.reg w09_AigMeans_p17) (.seq (.reg w09_AigMeans_p16) (.seq (.seq (.reg w09_AigMeans_p15) (.cond (.t 105) w09_AigMeans_p14 .skip)) (.seq (.seq (.reg w09_AigMeans_p12) (.block 0 w09_AigMeans_x5 (.loop w09_AigMeans_m5 w09_AigMeans_b5))) (.seq (.reg w09_AigMeans_p4) (.seq (.reg w09_AigMeans_p3) (.seq (.reg w09_AigMeans_p2) (.seq (.reg w09_AigMeans_p1) (.seq (.reg w09_AigMeans_p0) .ret))))))))))))))))), 179, [.tmp 10]⟩
abbrev w09_AigMeans_k5 : List It := [.code (.seq (.reg w09_AigMeans_p4) (.seq (.reg w09_AigMeans_p3) (.seq (.reg w09_AigMeans_p2) (.seq (.reg w09_AigMeans_p1) (.seq (.reg w09_AigMeans_p0) .ret)))))]
abbrev w09_AigMeans_L5 (x1 x2 x11 x13 x14 x19 x21 x23 : AV) (h : List Ob) (e : Cx := cx) : Cfg := atC n_w09_AigMeans (.code w09_AigMeans_b5 :: .inLoop w09_AigMeans_m5 w09_AigMeans_b5 :: .inBlock 0 w09_AigMeans_x5 :: w09_AigMeans_k5) [U,x1,x2,U,U,U,U,U,U,U,U,x11,U,x13,x14,U,U,U,U,x19,U,x21,U,x23,U,U,U,U,U,U,U,U,U,U,U,U,U,U,U,U,U,U,U,U,U,U,U,U,U,U,U,U,U,U,U,U,U,U,U,U,U,U,U,U,U,U,U,U,U,U,U,U,U,U,U,U,U,U,U,U,U,U,U,U,U,U,U,U,U,U,U,U,U,U,U,U,U,U,U,U,U,U,U,U,U,U,U,U,U,U,U,U,U,U,U,U,U,U,U,U,U,U,U,U,U,U,U,U,U,U,U,U,U,U,U,U,U,U,U,U,U,U,U,U,U,U,U,U,U,U,U,U,U,U,U,U,U,U,U,U,U,U,U,U,U,U,U,U,U,U,U,U,U,U,U,U,U,U,U] h e
abbrev w09_AigMeans_E5 (x1 x2 x11 x13 x14 x19 x21 : AV) (h : List Ob) (e : Cx := cx) : Cfg := atC n_w09_AigMeans w09_AigMeans_k5 [U,x1,x2,U,U,U,U,U,U,U,U,x11,U,x13,x14,U,U,U,U,x19,U,x21,U,U,U,U,U,U,U,U,U,U,U,U,U,U,U,U,U,U,U,U,U,U,U,U,U,U,U,U,U,U,U,U,U,U,U,U,U,U,U,U,U,U,U,U,U,U,U,U,U,U,U,U,U,U,U,U,U,U,U,U,U,U,U,U,U,U,U,U,U,U,U,U,U,U,U,U,U,U,U,U,U,U,U,U,U,U,U,U,U,U,U,U,U,U,U,U,U,U,U,U,U,U,U,U,U,U,U,U,U,U,U,U,U,U,U,U,U,U,U,U,U,U,U,U,U,U,U,U,U,U,U,U,U,U,U,U,U,U,U,U,U,U,U,U,U,U,U,U,U,U,U,U,U,U,U,U,U] h e
@[simp] theorem c_w09_AigMeans : cfun Try.prog n_w09_AigMeans = some w09_AigMeans := by kernel_rfl
@[simp] theorem e_w09_AigMeans : hasBody Try.prog n_w09_AigMeans = true := by kernel_rfl

/- w09_AigNormal: patchbay/patchbaylaw09.AigNormal -/
abbrev w09_AigNormal_p0 : List AG := [o 67 (.mv (.t 7)), o 68 (.mv (.t 67)), oy 69 68 (.load true 5 (.t 9)), oy 70 68 (.call (.f n_aig_Strict) [(.t 69)]), o 71 (.pick (.t 68) (.t 70) (.c (.bool false))), o 72 (.mv (.t 71)), oy 73 72 (.mv (.t 12)), oy 74 72 (.cmp .eql (.sc .int) (.t 73) (.c (.int .i64 0))), o 75 (.pick (.t 72) (.t 74) (.c (.bool false))), o 76 (.mv (.t 75)), oy 77 76 (.load true 5 (.t 11)), oy 78 76 (.load true 5 (.t 9)), oy 79 76 (.call (.f n_aig_Same) [(.t 77), (.t 78)]), o 80 (.pick (.t 76) (.t 79) (.c (.bool false))), o 81 (.mv (.t 80)), oy 82 81 (.mv (.t 15)), oy 83 81 (.mv (.t 18)), oy 84 81 (.cmp .eql (.sc .int) (.t 82) (.t 83)), o 85 (.pick (.t 81) (.t 84) (.c (.bool false))), o 86 (.mv (.t 85)), oy 87 86 (.mv (.t 13)), oy 88 86 (.mv (.t 16)), oy 89 86 (.call (.f n_r08_Bools) [(.t 87), (.t 88)]), o 90 (.pick (.t 86) (.t 89) (.c (.bool false))), o 91 (.mv (.t 90)), oy 92 91 (.mv (.t 14)), oy 93 91 (.mv (.t 17)), oy 94 91 (.call (.f n_r08_Bools) [(.t 92), (.t 93)]), o 95 (.pick (.t 91) (.t 94) (.c (.bool false))), o 96 (.mv (.t 95)), oy 97 96 (.off 3 (.t 9)), oy 98 96 (.load false 1 (.t 97)), oy 99 96 (.len (.t 98)), oy 100 96 (.off 3 (.t 3)), oy 101 96 (.load false 1 (.t 100)), oy 102 96 (.len (.t 101)), oy 103 96 (.cmp .leq (.sc .int) (.t 99) (.t 102)), o 104 (.pick (.t 96) (.t 103) (.c (.bool false))), o 105 (.mv (.t 104)), oy 106 105 (.load true 5 (.t 3)), oy 107 105 (.call (.f n_aig_Strict) [(.t 106)]), oy 108 105 (.load true 5 (.t 9)), oy 109 105 (.load true 5 (.t 3)), oy 110 105 (.call (.f n_aig_Same) [(.t 108), (.t 109)]), oy 111 105 (.cmp .eql (.sc .bool) (.t 107) (.t 110)), o 112 (.pick (.t 105) (.t 111) (.c (.bool false))), o 6 (.mv (.t 112))]
abbrev w09_AigNormal_p1 : List AG := [o 60 (.load true 5 (.t 9)), o 61 (.mv (.t 1)), o 62 (.mv (.t 2)), o 63 (.call (.f n_aig_Step) [(.t 60), (.t 61), (.t 62)]), o 59 (.mv (.t 63)), o 64 (.extract (.t 59) 0), o 65 (.extract (.t 59) 1), o 66 (.extract (.t 59) 2), o 16 (.mv (.t 64)), o 17 (.mv (.t 65)), o 18 (.mv (.t 66))]
abbrev w09_AigNormal_p2 : List AG := [o 52 (.load true 5 (.t 3)), o 53 (.mv (.t 1)), o 54 (.mv (.t 2)), o 55 (.call (.f n_aig_Step) [(.t 52), (.t 53), (.t 54)]), o 51 (.mv (.t 55)), o 56 (.extract (.t 51) 0), o 57 (.extract (.t 51) 1), o 58 (.extract (.t 51) 2), o 13 (.mv (.t 56)), o 14 (.mv (.t 57)), o 15 (.mv (.t 58))]
abbrev w09_AigNormal_p3 : List AG := [o 47 (.load true 5 (.t 9)), o 48 (.call (.f n_aig_Normal) [(.t 47)]), o 46 (.mv (.t 48)), o 49 (.extract (.t 46) 0), o 50 (.extract (.t 46) 1), o 11 (.alloc [(.int .i64 0), (.own 1 t_int []), (.own 1 t_int []), (.own 2 t_2_int_2 []), (.own 1 t_int [])]), q (.store 5 (.t 11) (.t 49)), o 12 (.mv (.t 50))]
abbrev w09_AigNormal_p4 : List AG := [o 45 (.mv (.t 7)), o 6 (.mv (.t 45))]
abbrev w09_AigNormal_p5 : ACode := (.seq (.reg w09_AigNormal_p4) .ret)
abbrev w09_AigNormal_p6 : List AG := [o 29 (.mv (.t 8)), o 30 (.not (.t 29)), o 31 (.mv (.t 30)), on 32 31 (.mv (.t 1)), on 33 31 (.len (.t 32)), on 34 31 (.cmp .gtr (.sc .int) (.t 33) (.c (.int .i64 60))), o 35 (.pick (.t 31) (.c (.bool true)) (.t 34)), o 36 (.mv (.t 35)), on 37 36 (.mv (.t 2)), on 38 36 (.len (.t 37)), on 39 36 (.cmp .gtr (.sc .int) (.t 38) (.c (.int .i64 60))), o 40 (.pick (.t 36) (.c (.bool true)) (.t 39)), o 41 (.mv (.t 40)), on 42 41 (.mv (.t 10)), on 43 41 (.cmp .neq (.sc .int) (.t 42) (.c (.int .i64 0))), o 44 (.pick (.t 41) (.c (.bool true)) (.t 43))]
abbrev w09_AigNormal_p7 : List AG := [o 25 (.load true 5 (.t 3)), o 26 (.call (.f n_aig_Normal) [(.t 25)]), o 24 (.mv (.t 26)), o 27 (.extract (.t 24) 0), o 28 (.extract (.t 24) 1), o 9 (.alloc [(.int .i64 0), (.own 1 t_int []), (.own 1 t_int []), (.own 2 t_2_int_2 []), (.own 1 t_int [])]), q (.store 5 (.t 9) (.t 27)), o 10 (.mv (.t 28))]
abbrev w09_AigNormal_p8 : List AG := [o 22 (.load true 5 (.t 3)), o 23 (.call (.f n_w09_Few) [(.t 22)]), o 8 (.mv (.t 23))]
abbrev w09_AigNormal_p9 : List AG := [o 6 (.mv (.c (.bool false)))]
abbrev w09_AigNormal_p10 : ACode := (.seq (.reg w09_AigNormal_p9) .ret)
abbrev w09_AigNormal_p11 : List AG := [o 20 (.mv (.t 7)), o 21 (.not (.t 20))]
abbrev w09_AigNormal_p12 : List AG := [o 19 (.call (.f n_w09_works) []), o 7 (.mv (.t 19))]
abbrev w09_AigNormal_p13 : List AG := [o 3 (.box 5 (.t 0)), o 6 (.mv (.c (.bool false)))]
abbrev w09_AigNormal : AFun := ⟨(.seq (.reg w09_AigNormal_p13) (.seq (.reg w09_AigNormal_p12) (.seq (.seq (.reg w09_AigNormal_p11) (.cond (.t 21) w09_AigNormal_p10 .skip)) (.seq (.reg w09_AigNormal_p8) (.seq (.reg w09_AigNormal_p7) (.seq (.seq (.reg w09_AigNormal_p6) (.cond (.t 44) w09_AigNormal_p5 .skip)) (.seq (.reg w09_AigNormal_p3) (.seq (.reg w09_AigNormal_p2) (.seq (.reg w09_AigNormal_p1) (.seq (.dreg [O,O,O,O,O,O,O,O,O,O,O,O,O,O,O,O,O,O,O,O,O,O,O,O,O,O,O,O,O,O,O,O,O,O,O,O,O,O,O,O,O,I,I,O,O,O,O] [4,4,4,13,13,13,13,13,13,13,13,13,23,23,23,23,23,23,23,23,23,23,28,28,28,28,28,41,41,41,41,41,41,41,41,41,41,41,41,41,44,44,44,48,48,48,48] w09_AigNormal_p0) .ret)))))))))), 113, [.tmp 6]⟩
@[simp] theorem c_w09_AigNormal : cfun Try.prog n_w09_AigNormal = some w09_AigNormal := by kernel_rfl
@[simp] theorem e_w09_AigNormal : hasBody Try.prog n_w09_AigNormal = true := by kernel_rfl

/- w09_AigLaws: patchbay/patchbaylaw09.AigLaws -/
abbrev w09_AigLaws_p0 : List AG := [o 150 (.mv (.t 13)), o 151 (.mv (.t 150)), oy 152 151 (.mv (.t 32)), oy 153 151 (.mv (.t 33)), oy 154 151 (.cmp .eql (.sc .bool) (.t 152) (.t 153)), o 155 (.pick (.t 151) (.t 154) (.c (.bool false))), o 156 (.mv (.t 155)), oy 157 156 (.mv (.t 25)), oy 158 156 (.cmp .eql (.sc .int) (.t 157) (.c (.int .i64 0))), o 159 (.pick (.t 156) (.t 158) (.c (.bool false))), o 160 (.mv (.t 159)), oy 161 160 (.mv (.t 28)), oy 162 160 (.mv (.t 1)), oy 163 160 (.cmp .eql (.sc .int) (.t 161) (.t 162)), o 164 (.pick (.t 160) (.t 163) (.c (.bool false))), o 12 (.mv (.t 164))]
abbrev w09_AigLaws_p1 : List AG := [o 147 (.mv (.t 30)), o 148 (.mv (.t 22)), o 149 (.call (.f n_r09_Lit) [(.t 147), (.t 148)]), o 33 (.mv (.t 149))]
abbrev w09_AigLaws_p2 : List AG := [o 144 (.mv (.t 30)), o 145 (.mv (.t 18)), o 146 (.call (.f n_r09_Lit) [(.t 144), (.t 145)]), o 32 (.mv (.t 146))]
abbrev w09_AigLaws_p3 : List AG := [o 143 (.mv (.t 13)), o 12 (.mv (.t 143))]
abbrev w09_AigLaws_p4 : ACode := (.seq (.reg w09_AigLaws_p3) .ret)
abbrev w09_AigLaws_p5 : List AG := [o 117 (.mv (.t 17)), o 118 (.cmp .neq (.sc .int) (.t 117) (.c (.int .i64 0))), o 119 (.mv (.t 118)), on 120 119 (.mv (.t 19)), on 121 119 (.cmp .neq (.sc .int) (.t 120) (.c (.int .i64 0))), o 122 (.pick (.t 119) (.c (.bool true)) (.t 121)), o 123 (.mv (.t 122)), on 124 123 (.mv (.t 21)), on 125 123 (.cmp .neq (.sc .int) (.t 124) (.c (.int .i64 0))), o 126 (.pick (.t 123) (.c (.bool true)) (.t 125)), o 127 (.mv (.t 126)), on 128 127 (.mv (.t 23)), on 129 127 (.cmp .neq (.sc .int) (.t 128) (.c (.int .i64 0))), o 130 (.pick (.t 127) (.c (.bool true)) (.t 129)), o 131 (.mv (.t 130)), on 132 131 (.mv (.t 26)), on 133 131 (.cmp .neq (.sc .int) (.t 132) (.c (.int .i64 0))), o 134 (.pick (.t 131) (.c (.bool true)) (.t 133)), o 135 (.mv (.t 134)), on 136 135 (.mv (.t 29)), on 137 135 (.cmp .neq (.sc .int) (.t 136) (.c (.int .i64 0))), o 138 (.pick (.t 135) (.c (.bool true)) (.t 137)), o 139 (.mv (.t 138)), on 140 139 (.mv (.t 31)), on 141 139 (.cmp .neq (.sc .int) (.t 140) (.c (.int .i64 0))), o 142 (.pick (.t 139) (.c (.bool true)) (.t 141))]
abbrev w09_AigLaws_p6 : List AG := [o 111 (.load true 5 (.t 15)), o 112 (.mv (.t 4)), o 113 (.mv (.t 5)), o 114 (.call (.f n_aig_Values) [(.t 111), (.t 112), (.t 113)]), o 110 (.mv (.t 114)), o 115 (.extract (.t 110) 0), o 116 (.extract (.t 110) 1), o 30 (.mv (.t 115)), o 31 (.mv (.t 116))]
abbrev w09_AigLaws_p7 : List AG := [o 104 (.load true 5 (.t 6)), o 105 (.mv (.t 1)), o 106 (.call (.f n_aig_And) [(.t 104), (.c (.int .i64 1)), (.t 105)]), o 103 (.mv (.t 106)), o 107 (.extract (.t 103) 0), o 108 (.extract (.t 103) 1), o 109 (.extract (.t 103) 2), o 27 (.alloc [(.int .i64 0), (.own 1 t_int []), (.own 1 t_int []), (.own 2 t_2_int_2 []), (.own 1 t_int [])]), q (.store 5 (.t 27) (.t 107)), o 28 (.mv (.t 108)), o 29 (.mv (.t 109))]
abbrev w09_AigLaws_p8 : List AG := [o 97 (.load true 5 (.t 6)), o 98 (.mv (.t 1)), o 99 (.call (.f n_aig_And) [(.t 97), (.t 98), (.c (.int .i64 0))]), o 96 (.mv (.t 99)), o 100 (.extract (.t 96) 0), o 101 (.extract (.t 96) 1), o 102 (.extract (.t 96) 2), o 24 (.alloc [(.int .i64 0), (.own 1 t_int []), (.own 1 t_int []), (.own 2 t_2_int_2 []), (.own 1 t_int [])]), q (.store 5 (.t 24) (.t 100)), o 25 (.mv (.t 101)), o 26 (.mv (.t 102))]
abbrev w09_AigLaws_p9 : List AG := [o 89 (.load true 5 (.t 15)), o 90 (.mv (.t 1)), o 91 (.mv (.t 20)), o 92 (.call (.f n_aig_And) [(.t 89), (.t 90), (.t 91)]), o 88 (.mv (.t 92)), o 93 (.extract (.t 88) 0), o 94 (.extract (.t 88) 1), o 95 (.extract (.t 88) 2), q (.store 5 (.t 15) (.t 93)), o 22 (.mv (.t 94)), o 23 (.mv (.t 95))]
abbrev w09_AigLaws_p10 : List AG := [o 81 (.load true 5 (.t 15)), o 82 (.mv (.t 2)), o 83 (.mv (.t 3)), o 84 (.call (.f n_aig_And) [(.t 81), (.t 82), (.t 83)]), o 80 (.mv (.t 84)), o 85 (.extract (.t 80) 0), o 86 (.extract (.t 80) 1), o 87 (.extract (.t 80) 2), q (.store 5 (.t 15) (.t 85)), o 20 (.mv (.t 86)), o 21 (.mv (.t 87))]
abbrev w09_AigLaws_p11 : List AG := [o 73 (.load true 5 (.t 15)), o 74 (.mv (.t 16)), o 75 (.mv (.t 3)), o 76 (.call (.f n_aig_And) [(.t 73), (.t 74), (.t 75)]), o 72 (.mv (.t 76)), o 77 (.extract (.t 72) 0), o 78 (.extract (.t 72) 1), o 79 (.extract (.t 72) 2), q (.store 5 (.t 15) (.t 77)), o 18 (.mv (.t 78)), o 19 (.mv (.t 79))]
abbrev w09_AigLaws_p12 : List AG := [o 65 (.load true 5 (.t 6)), o 66 (.mv (.t 1)), o 67 (.mv (.t 2)), o 68 (.call (.f n_aig_And) [(.t 65), (.t 66), (.t 67)]), o 64 (.mv (.t 68)), o 69 (.extract (.t 64) 0), o 70 (.extract (.t 64) 1), o 71 (.extract (.t 64) 2), o 15 (.alloc [(.int .i64 0), (.own 1 t_int []), (.own 1 t_int []), (.own 2 t_2_int_2 []), (.own 1 t_int [])]), q (.store 5 (.t 15) (.t 69)), o 16 (.mv (.t 70)), o 17 (.mv (.t 71))]
abbrev w09_AigLaws_p13 : List AG := [o 63 (.mv (.t 13)), o 12 (.mv (.t 63))]
abbrev w09_AigLaws_p14 : ACode := (.seq (.reg w09_AigLaws_p13) .ret)
abbrev w09_AigLaws_p15 : List AG := [o 39 (.mv (.t 14)), o 40 (.not (.t 39)), o 41 (.mv (.t 40)), on 42 41 (.mv (.t 4)), on 43 41 (.len (.t 42)), on 44 41 (.cmp .gtr (.sc .int) (.t 43) (.c (.int .i64 60))), o 45 (.pick (.t 41) (.c (.bool true)) (.t 44)), o 46 (.mv (.t 45)), on 47 46 (.mv (.t 5)), on 48 46 (.len (.t 47)), on 49 46 (.cmp .gtr (.sc .int) (.t 48) (.c (.int .i64 60))), o 50 (.pick (.t 46) (.c (.bool true)) (.t 49)), o 51 (.mv (.t 50)), on 52 51 (.mv (.t 1)), on 53 51 (.cmp .lss (.sc .int) (.t 52) (.c (.int .i64 0))), o 54 (.pick (.t 51) (.c (.bool true)) (.t 53)), o 55 (.mv (.t 54)), on 56 55 (.mv (.t 2)), on 57 55 (.cmp .lss (.sc .int) (.t 56) (.c (.int .i64 0))), o 58 (.pick (.t 55) (.c (.bool true)) (.t 57)), o 59 (.mv (.t 58)), on 60 59 (.mv (.t 3)), on 61 59 (.cmp .lss (.sc .int) (.t 60) (.c (.int .i64 0))), o 62 (.pick (.t 59) (.c (.bool true)) (.t 61))]
abbrev w09_AigLaws_p16 : List AG := [o 37 (.load true 5 (.t 6)), o 38 (.call (.f n_w09_Few) [(.t 37)]), o 14 (.mv (.t 38))]
abbrev w09_AigLaws_p17 : List AG := [o 12 (.mv (.c (.bool false)))]
abbrev w09_AigLaws_p18 : ACode := (.seq (.reg w09_AigLaws_p17) .ret)
abbrev w09_AigLaws_p19 : List AG := [o 35 (.mv (.t 13)), o 36 (.not (.t 35))]
abbrev w09_AigLaws_p20 : List AG := [o 34 (.call (.f n_w09_works) []), o 13 (.mv (.t 34))]
abbrev w09_AigLaws_p21 : List AG := [o 6 (.box 5 (.t 0)), o 12 (.mv (.c (.bool false)))]
abbrev w09_AigLaws : AFun := ⟨(.seq (.reg w09_AigLaws_p21) (.seq (.reg w09_AigLaws_p20) (.seq (.seq (.reg w09_AigLaws_p19) (.cond (.t 36) w09_AigLaws_p18 .skip)) (.seq (.reg w09_AigLaws_p16) (.seq (.seq (.reg w09_AigLaws_p15) (.cond (.t 62) w09_AigLaws_p14 .skip)) (.seq (.reg w09_AigLaws_p12) (.seq (.reg w09_AigLaws_p11) (.seq (.reg w09_AigLaws_p10) (.seq (.reg w09_AigLaws_p9) (.seq (.reg w09_AigLaws_p8) (.seq (.reg w09_AigLaws_p7) (.seq (.reg w09_AigLaws_p6) (.seq (.seq (.reg w09_AigLaws_p5) (.cond (.t 142) w09_AigLaws_p4 .skip)) (.seq (.reg w09_AigLaws_p2) (.seq (.reg w09_AigLaws_p1) (.seq (.reg w09_AigLaws_p0) .ret)))))))))))))))), 165, [.tmp 12]⟩
@[simp] theorem c_w09_AigLaws : cfun Try.prog n_w09_AigLaws = some w09_AigLaws := by kernel_rfl
@[simp] theorem e_w09_AigLaws : hasBody Try.prog n_w09_AigLaws = true := by kernel_rfl

/- w09_works: patchbay/patchbaylaw09.works -/
abbrev w09_works_p0 : List AG := [o 70 (.mv (.t 3)), o 71 (.cmp .eql (.sc .int) (.t 70) (.c (.int .i64 0))), o 72 (.mv (.t 71)), oy 73 72 (.mv (.t 4)), oy 74 72 (.cmp .eql (.sc .int) (.t 73) (.c (.int .i64 0))), o 75 (.pick (.t 72) (.t 74) (.c (.bool false))), o 76 (.mv (.t 75)), oy 77 76 (.load true 5 (.t 1)), oy 78 76 (.load true 5 (.t 2)), oy 79 76 (.call (.f n_aig_Same) [(.t 77), (.t 78)]), o 80 (.pick (.t 76) (.t 79) (.c (.bool false))), o 81 (.mv (.t 80)), oy 82 81 (.mv (.t 6)), oy 83 81 (.cmp .eql (.sc .int) (.t 82) (.c (.int .i64 8))), o 84 (.pick (.t 81) (.t 83) (.c (.bool false))), o 85 (.mv (.t 84)), oy 86 85 (.mv (.t 7)), oy 87 85 (.cmp .eql (.sc .int) (.t 86) (.c (.int .i64 0))), o 88 (.pick (.t 85) (.t 87) (.c (.bool false))), o 89 (.mv (.t 88)), oy 90 89 (.load true 5 (.t 1)), oy 91 89 (.load true 5 (.t 5)), oy 92 89 (.call (.f n_aig_Same) [(.t 90), (.t 91)]), o 93 (.pick (.t 89) (.t 92) (.c (.bool false))), o 94 (.mv (.t 93)), oy 95 94 (.mv (.t 9)), oy 96 94 (.cmp .eql (.sc .int) (.t 95) (.c (.int .i64 10))), o 97 (.pick (.t 94) (.t 96) (.c (.bool false))), o 98 (.mv (.t 97)), oy 99 98 (.mv (.t 10)), oy 100 98 (.cmp .eql (.sc .int) (.t 99) (.c (.int .i64 0))), o 101 (.pick (.t 98) (.t 100) (.c (.bool false))), o 102 (.mv (.t 101)), oy 103 102 (.off 3 (.t 8)), oy 104 102 (.load false 1 (.t 103)), oy 105 102 (.len (.t 104)), oy 106 102 (.cmp .eql (.sc .int) (.t 105) (.c (.int .i64 2))), o 107 (.pick (.t 102) (.t 106) (.c (.bool false))), o 108 (.mv (.t 107)), oy 109 108 (.mv (.t 11)), oy 110 108 (.lit 1 [(.bool false), (.bool false)] [(0, (.c (.bool false))), (1, (.c (.bool false)))]), oy 111 108 (.call (.f n_r08_Bools) [(.t 109), (.t 110)]), o 112 (.pick (.t 108) (.t 111) (.c (.bool false))), o 113 (.mv (.t 112)), oy 114 113 (.mv (.t 12)), oy 115 113 (.lit 1 [(.bool false)] [(0, (.c (.bool true)))]), oy 116 113 (.call (.f n_r08_Bools) [(.t 114), (.t 115)]), o 117 (.pick (.t 113) (.t 116) (.c (.bool false))), o 118 (.mv (.t 117)), oy 119 118 (.mv (.t 13)), oy 120 118 (.cmp .eql (.sc .int) (.t 119) (.c (.int .i64 0))), o 121 (.pick (.t 118) (.t 120) (.c (.bool false))), o 122 (.mv (.t 121)), oy 123 122 (.mv (.t 16)), oy 124 122 (.cmp .eql (.sc .int) (.t 123) (.c (.int .i64 0))), o 125 (.pick (.t 122) (.t 124) (.c (.bool false))), o 126 (.mv (.t 125)), oy 127 126 (.load true 5 (.t 15)), oy 128 126 (.load true 5 (.t 1)), oy 129 126 (.call (.f n_aig_Same) [(.t 127), (.t 128)]), o 130 (.pick (.t 126) (.t 129) (.c (.bool false))), o 131 (.mv (.t 130)), oy 132 131 (.load true 5 (.t 1)), oy 133 131 (.call (.f n_aig_Strict) [(.t 132)]), o 134 (.pick (.t 131) (.t 133) (.c (.bool false))), o 135 (.mv (.t 134)), oy 136 135 (.load true 5 (.t 14)), oy 137 135 (.call (.f n_aig_Strict) [(.t 136)]), oy 138 135 (.not (.t 137)), o 139 (.pick (.t 135) (.t 138) (.c (.bool false))), o 140 (.mv (.t 139)), oy 141 140 (.lit 1 [(.int .i64 0)] [(0, (.c (.int .i64 2)))]), oy 142 140 (.build [(.int .i64 0), (.list true 0 []), (.list true 0 []), (.list true 0 []), (.list true 0 [])] [(4, 1, (.t 141))]), oy 143 140 (.call (.f n_aig_Check) [(.t 142)]), oy 144 140 (.cmp .eql (.sc .int) (.t 143) (.c (.int .i64 1))), o 145 (.pick (.t 140) (.t 144) (.c (.bool false))), o 146 (.mv (.t 145)), oy 147 146 (.mv (.t 17)), oy 148 146 (.lit 1 [(.bool false), (.bool false), (.bool false), (.bool false), (.bool false)] [(0, (.c (.bool false))), (1, (.c (.bool true))), (2, (.c (.bool false))), (3, (.c (.bool true))), (4, (.c (.bool false)))]), oy 149 146 (.call (.f n_r08_Bools) [(.t 147), (.t 148)]), o 150 (.pick (.t 146) (.t 149) (.c (.bool false))), o 151 (.mv (.t 150)), oy 152 151 (.mv (.t 18)), oy 153 151 (.cmp .eql (.sc .int) (.t 152) (.c (.int .i64 0))), o 154 (.pick (.t 151) (.t 153) (.c (.bool false))), o 0 (.mv (.t 154))]
abbrev w09_works_p1 : List AG := [o 64 (.load true 5 (.t 1)), o 65 (.lit 1 [(.bool false)] [(0, (.c (.bool true)))]), o 66 (.lit 1 [(.bool false), (.bool false)] [(0, (.c (.bool true))), (1, (.c (.bool false)))]), o 67 (.call (.f n_aig_Values) [(.t 64), (.t 65), (.t 66)]), o 63 (.mv (.t 67)), o 68 (.extract (.t 63) 0), o 69 (.extract (.t 63) 1), o 17 (.mv (.t 68)), o 18 (.mv (.t 69))]
abbrev w09_works_p2 : List AG := [o 59 (.load true 5 (.t 14)), o 60 (.call (.f n_aig_Normal) [(.t 59)]), o 58 (.mv (.t 60)), o 61 (.extract (.t 58) 0), o 62 (.extract (.t 58) 1), o 15 (.alloc [(.int .i64 0), (.own 1 t_int []), (.own 1 t_int []), (.own 2 t_2_int_2 []), (.own 1 t_int [])]), q (.store 5 (.t 15) (.t 61)), o 16 (.mv (.t 62))]
abbrev w09_works_p3 : List AG := [o 56 (.lit 1 [(.int .i64 0)] [(0, (.c (.int .i64 10)))]), o 57 (.off 1 (.t 14)), q (.store 1 (.t 57) (.t 56))]
abbrev w09_works_p4 : List AG := [o 52 (.build [(.int .i64 0), (.int .i64 0)] [(0, 1, (.c (.int .i64 4))), (1, 1, (.c (.int .i64 2)))]), o 53 (.build [(.int .i64 0), (.int .i64 0)] [(0, 1, (.c (.int .i64 2))), (1, 1, (.c (.int .i64 4)))]), o 54 (.lit 2 [(.agg [(.int .i64 0), (.int .i64 0)]), (.agg [(.int .i64 0), (.int .i64 0)])] [(0, (.t 52)), (1, (.t 53))]), o 55 (.off 3 (.t 14)), q (.store 1 (.t 55) (.t 54))]
abbrev w09_works_p5 : List AG := [o 51 (.load true 5 (.t 1)), o 14 (.alloc [(.int .i64 0), (.own 1 t_int []), (.own 1 t_int []), (.own 2 t_2_int_2 []), (.own 1 t_int [])]), q (.store 5 (.t 14) (.t 51))]
abbrev w09_works_p6 : List AG := [o 44 (.load true 5 (.t 1)), o 45 (.lit 1 [(.bool false)] [(0, (.c (.bool false)))]), o 46 (.lit 1 [(.bool false), (.bool false)] [(0, (.c (.bool true))), (1, (.c (.bool true)))]), o 47 (.call (.f n_aig_Step) [(.t 44), (.t 45), (.t 46)]), o 43 (.mv (.t 47)), o 48 (.extract (.t 43) 0), o 49 (.extract (.t 43) 1), o 50 (.extract (.t 43) 2), o 11 (.mv (.t 48)), o 12 (.mv (.t 49)), o 13 (.mv (.t 50))]
abbrev w09_works_p7 : List AG := [o 38 (.load true 5 (.t 1)), o 39 (.call (.f n_aig_And) [(.t 38), (.c (.int .i64 2)), (.c (.int .i64 6))]), o 37 (.mv (.t 39)), o 40 (.extract (.t 37) 0), o 41 (.extract (.t 37) 1), o 42 (.extract (.t 37) 2), o 8 (.alloc [(.int .i64 0), (.own 1 t_int []), (.own 1 t_int []), (.own 2 t_2_int_2 []), (.own 1 t_int [])]), q (.store 5 (.t 8) (.t 40)), o 9 (.mv (.t 41)), o 10 (.mv (.t 42))]
abbrev w09_works_p8 : List AG := [o 32 (.load true 5 (.t 1)), o 33 (.call (.f n_aig_And) [(.t 32), (.c (.int .i64 2)), (.c (.int .i64 4))]), o 31 (.mv (.t 33)), o 34 (.extract (.t 31) 0), o 35 (.extract (.t 31) 1), o 36 (.extract (.t 31) 2), o 5 (.alloc [(.int .i64 0), (.own 1 t_int []), (.own 1 t_int []), (.own 2 t_2_int_2 []), (.own 1 t_int [])]), q (.store 5 (.t 5) (.t 34)), o 6 (.mv (.t 35)), o 7 (.mv (.t 36))]
abbrev w09_works_p9 : List AG := [o 26 (.load true 5 (.t 1)), o 27 (.call (.f n_aig_And) [(.t 26), (.c (.int .i64 2)), (.c (.int .i64 3))]), o 25 (.mv (.t 27)), o 28 (.extract (.t 25) 0), o 29 (.extract (.t 25) 1), o 30 (.extract (.t 25) 2), o 2 (.alloc [(.int .i64 0), (.own 1 t_int []), (.own 1 t_int []), (.own 2 t_2_int_2 []), (.own 1 t_int [])]), q (.store 5 (.t 2) (.t 28)), o 3 (.mv (.t 29)), o 4 (.mv (.t 30))]
abbrev w09_works_p10 : List AG := [o 19 (.lit 1 [(.int .i64 0)] [(0, (.c (.int .i64 8)))]), o 20 (.lit 1 [(.int .i64 0)] [(0, (.c (.int .i64 2)))]), o 21 (.build [(.int .i64 0), (.int .i64 0)] [(0, 1, (.c (.int .i64 4))), (1, 1, (.c (.int .i64 2)))]), o 22 (.lit 2 [(.agg [(.int .i64 0), (.int .i64 0)])] [(0, (.t 21))]), o 23 (.lit 1 [(.int .i64 0), (.int .i64 0)] [(0, (.c (.int .i64 9))), (1, (.c (.int .i64 0)))]), o 24 (.build [(.int .i64 0), (.list true 0 []), (.list true 0 []), (.list true 0 []), (.list true 0 [])] [(0, 1, (.c (.int .i64 2))), (1, 1, (.t 19)), (2, 1, (.t 20)), (3, 1, (.t 22)), (4, 1, (.t 23))]), o 1 (.alloc [(.int .i64 0), (.own 1 t_int []), (.own 1 t_int []), (.own 2 t_2_int_2 []), (.own 1 t_int [])]), q (.store 5 (.t 1) (.t 24))]
abbrev w09_works_p11 : List AG := [o 0 (.mv (.c (.bool false)))]
abbrev w09_works : AFun := ⟨(.seq (.reg w09_works_p11) (.seq (.reg w09_works_p10) (.seq (.reg w09_works_p9) (.seq (.reg w09_works_p8) (.seq (.reg w09_works_p7) (.seq (.reg w09_works_p6) (.seq (.reg w09_works_p5) (.seq (.reg w09_works_p4) (.seq (.reg w09_works_p3) (.seq (.reg w09_works_p2) (.seq (.reg w09_works_p1) (.seq (.reg w09_works_p0) .ret)))))))))))), 155, [.tmp 0]⟩
@[simp] theorem c_w09_works : cfun Try.prog n_w09_works = some w09_works := by kernel_rfl
@[simp] theorem e_w09_works : hasBody Try.prog n_w09_works = true := by kernel_rfl

/- w09_Few: patchbay/patchbaylaw09.Few -/
abbrev w09_Few_p0 : List AG := [o 3 (.off 0 (.t 1)), o 4 (.load false 1 (.t 3)), o 5 (.cmp .leq (.sc .int) (.t 4) (.c (.int .i64 100))), o 6 (.mv (.t 5)), on 7 6 (.off 0 (.t 1)), on 8 6 (.load false 1 (.t 7)), on 9 6 (.cmp .gtr (.sc .int) (.t 8) (.c (.int .i64 4000))), o 10 (.pick (.t 6) (.c (.bool true)) (.t 9)), o 11 (.mv (.t 10)), oy 12 11 (.off 1 (.t 1)), oy 13 11 (.load false 1 (.t 12)), oy 14 11 (.len (.t 13)), oy 15 11 (.cmp .leq (.sc .int) (.t 14) (.c (.int .i64 40))), o 16 (.pick (.t 11) (.t 15) (.c (.bool false))), o 17 (.mv (.t 16)), oy 18 17 (.off 2 (.t 1)), oy 19 17 (.load false 1 (.t 18)), oy 20 17 (.len (.t 19)), oy 21 17 (.cmp .leq (.sc .int) (.t 20) (.c (.int .i64 40))), o 22 (.pick (.t 17) (.t 21) (.c (.bool false))), o 23 (.mv (.t 22)), oy 24 23 (.off 3 (.t 1)), oy 25 23 (.load false 1 (.t 24)), oy 26 23 (.len (.t 25)), oy 27 23 (.cmp .leq (.sc .int) (.t 26) (.c (.int .i64 60))), o 28 (.pick (.t 23) (.t 27) (.c (.bool false))), o 29 (.mv (.t 28)), oy 30 29 (.off 4 (.t 1)), oy 31 29 (.load false 1 (.t 30)), oy 32 29 (.len (.t 31)), oy 33 29 (.cmp .leq (.sc .int) (.t 32) (.c (.int .i64 60))), o 34 (.pick (.t 29) (.t 33) (.c (.bool false))), o 2 (.mv (.t 34))]
abbrev w09_Few_p1 : List AG := [o 1 (.box 5 (.t 0)), o 2 (.mv (.c (.bool false)))]
abbrev w09_Few : AFun := ⟨(.seq (.reg w09_Few_p1) (.seq (.reg w09_Few_p0) .ret)), 35, [.tmp 2]⟩
@[simp] theorem c_w09_Few : cfun Try.prog n_w09_Few = some w09_Few := by kernel_rfl
@[simp] theorem e_w09_Few : hasBody Try.prog n_w09_Few = true := by kernel_rfl

/- aig_Normal: patchbay/aig.Normal -/
abbrev aig_Normal_p0 : List AG := [o 92 (.mv (.t 10)), o 93 (.load true 5 (.t 8)), o 94 (.call (.f n_aig_builder_end) [(.t 92), (.t 93)]), q (.store 5 (.t 2) (.t 94)), o 3 (.mv (.c (.int .i64 0)))]
abbrev aig_Normal_m1 : List Bool := [O,O,I,O,O,O,O,O,I,I,I,O,O,O,O,O,O,O,O,O,O,O,O,O,O,O,O,O,O,O,O,O,O,O,O,O,O,O,O,O,O,O,O,O,O,O,O,O,O,O,O,O,O,O,O,O,O,I,I,I,O,O,O,O,O,O,O,O,O,O,O,O,O,O,O,O,O,O,O,O,O,O,O,O,O,O,O,O,O,O,O,O,O,O,O]
abbrev aig_Normal_x1 : List Bool := [O,O,I,O,O,O,O,O,I,O,I,O,O,O,O,O,O,O,O,O,O,O,O,O,O,O,O,O,O,O,O,O,O,O,O,O,O,O,O,O,O,O,O,O,O,O,O,O,O,O,O,O,O,O,O,O,O,O,O,O,O,O,O,O,O,O,O,O,O,O,O,O,O,O,O,O,O,O,O,O,O,O,O,O,O,O,O,O,O,O,O,O,O,O,O]
abbrev aig_Normal_p2 : List AG := [o 91 (.ibin .add (.t 59) (.c (.int .i64 1))), o 59 (.mv (.t 91))]
abbrev aig_Normal_p3 : List AG := [o 81 (.mv (.t 10)), o 82 (.mv (.t 10)), o 83 (.nilck (.t 82)), o 84 (.off 6 (.t 83)), o 85 (.load false 1 (.t 84)), o 86 (.mv (.t 13)), o 87 (.lit 1 [(.int .i64 0)] [(0, (.t 86))]), o 88 (.append 1 t_int 8 (.t 85) (.t 87)), o 89 (.nilck (.t 81)), o 90 (.off 6 (.t 89)), q (.store 1 (.t 90) (.t 88))]
abbrev aig_Normal_p4 : List AG := [o 71 (.mv (.t 10)), o 72 (.mv (.t 10)), o 73 (.arrAddr 2 1 (.t 12) (.c (.int .i64 0))), o 74 (.load false 1 (.t 73)), o 75 (.call (.f n_aig_builder_came) [(.t 72), (.t 74)]), o 76 (.mv (.t 10)), o 77 (.arrAddr 2 1 (.t 12) (.c (.int .i64 1))), o 78 (.load false 1 (.t 77)), o 79 (.call (.f n_aig_builder_came) [(.t 76), (.t 78)]), o 80 (.call (.f n_aig_builder_and) [(.t 71), (.t 75), (.t 79)]), o 13 (.mv (.t 80))]
abbrev aig_Normal_p5 : List AG := [o 64 (.mv (.t 9)), o 65 (.load true 5 (.t 8)), o 66 (.call (.f n_aig_first) [(.t 65)]), o 67 (.mv (.t 11)), o 68 (.ibin .add (.t 66) (.t 67)), o 69 (.ixAddr 1 (.t 64) (.t 68)), o 70 (.load false 1 (.t 69))]
abbrev aig_Normal_p6 : List AG := [o 13 (.mv (.c (.int .i64 0)))]
abbrev aig_Normal_p7 : List AG := [o 61 (.mv (.t 59)), o 62 (.ixAddr 2 (.t 57) (.t 59)), o 63 (.load true 2 (.t 62)), o 12 (.alloc [(.int .i64 0), (.int .i64 0)]), o 11 (.mv (.t 61)), q (.store 2 (.t 12) (.t 63))]
abbrev aig_Normal_p8 : ACode := (.seq (.reg aig_Normal_p7) (.seq (.reg aig_Normal_p6) (.seq (.seq (.reg aig_Normal_p5) (.cond (.t 70) (.dreg [O,O,O,O,O,O,O,I,O,O,O] [10,5,5,5,9,9,9,9,10,12,12] aig_Normal_p4) .skip)) (.reg aig_Normal_p3))))
abbrev aig_Normal_p9 : List AG := [o 60 (.cmp .lss (.sc .int) (.t 59) (.t 58))]
abbrev aig_Normal_b1 : ACode := (.seq (.reg aig_Normal_p9) (.seq (.cond (.t 60) .skip (.exit 2)) (.seq (.block 3 [] aig_Normal_p8) (.reg aig_Normal_p2))))
abbrev aig_Normal_p10 : List AG := [o 56 (.off 3 (.t 8)), o 57 (.load false 1 (.t 56)), o 58 (.len (.t 57)), o 59 (.mv (.c (.int .i64 0)))]
abbrev aig_Normal_p11 : List AG := [o 54 (.load true 5 (.t 8)), o 55 (.call (.f n_aig_begin) [(.t 54)]), o 10 (.mv (.t 55))]
abbrev aig_Normal_p12 : List AG := [o 52 (.load true 5 (.t 8)), o 53 (.call (.f n_aig_led) [(.t 52)]), o 9 (.mv (.t 53))]
abbrev aig_Normal_p13 : List AG := [o 49 (.mv (.t 5)), o 50 (.load true 5 (.t 1)), o 51 (.call (.f n_aig_builder_end) [(.t 49), (.t 50)]), o 8 (.alloc [(.int .i64 0), (.own 1 t_int []), (.own 1 t_int []), (.own 2 t_2_int_2 []), (.own 1 t_int [])]), q (.store 5 (.t 8) (.t 51))]
abbrev aig_Normal_m14 : List Bool := [O,I,I,O,O,I,O,O,O,O,O,O,O,O,O,O,O,O,O,O,O,O,O,I,I,I,O,O,O,O,O,O,O,O,O,O,O,O,O,O,O,O,O,O,O,O,O,O,O,O,O,O,O,O,O,O,O,O,O,O,O,O,O,O,O,O,O,O,O,O,O,O,O,O,O,O,O,O,O,O,O,O,O,O,O,O,O,O,O,O,O,O,O,O,O]
abbrev aig_Normal_x14 : List Bool := [O,I,I,O,O,I,O,O,O,O,O,O,O,O,O,O,O,O,O,O,O,O,O,O,O,O,O,O,O,O,O,O,O,O,O,O,O,O,O,O,O,O,O,O,O,O,O,O,O,O,O,O,O,O,O,O,O,O,O,O,O,O,O,O,O,O,O,O,O,O,O,O,O,O,O,O,O,O,O,O,O,O,O,O,O,O,O,O,O,O,O,O,O,O,O]
abbrev aig_Normal_p15 : List AG := [o 48 (.ibin .add (.t 25) (.c (.int .i64 1))), o 25 (.mv (.t 48))]
abbrev aig_Normal_p16 : List AG := [o 29 (.mv (.t 5)), o 30 (.mv (.t 5)), o 31 (.nilck (.t 30)), o 32 (.off 6 (.t 31)), o 33 (.load false 1 (.t 32)), o 34 (.mv (.t 5)), o 35 (.mv (.t 5)), o 36 (.arrAddr 2 1 (.t 7) (.c (.int .i64 0))), o 37 (.load false 1 (.t 36)), o 38 (.call (.f n_aig_builder_came) [(.t 35), (.t 37)]), o 39 (.mv (.t 5)), o 40 (.arrAddr 2 1 (.t 7) (.c (.int .i64 1))), o 41 (.load false 1 (.t 40)), o 42 (.call (.f n_aig_builder_came) [(.t 39), (.t 41)]), o 43 (.call (.f n_aig_builder_and) [(.t 34), (.t 38), (.t 42)]), o 44 (.lit 1 [(.int .i64 0)] [(0, (.t 43))]), o 45 (.append 1 t_int 8 (.t 33) (.t 44)), o 46 (.nilck (.t 29)), o 47 (.off 6 (.t 46)), q (.store 1 (.t 47) (.t 45))]
abbrev aig_Normal_p17 : List AG := [o 27 (.ixAddr 2 (.t 23) (.t 25)), o 28 (.load true 2 (.t 27)), o 7 (.alloc [(.int .i64 0), (.int .i64 0)]), q (.store 2 (.t 7) (.t 28))]
abbrev aig_Normal_p18 : ACode := (.seq (.reg aig_Normal_p17) (.dreg [O,O,O,O,I,O,O,O,O,O,O,O,I,O,O,O,O,O,O,O] [20,17,17,17,17,15,10,10,10,14,14,14,14,15,16,17,20,20,20,21] aig_Normal_p16))
abbrev aig_Normal_p19 : List AG := [o 26 (.cmp .lss (.sc .int) (.t 25) (.t 24))]
abbrev aig_Normal_b14 : ACode := (.seq (.reg aig_Normal_p19) (.seq (.cond (.t 26) .skip (.exit 0)) (.seq (.block 1 [] aig_Normal_p18) (.reg aig_Normal_p15))))
abbrev aig_Normal_p20 : List AG := [o 22 (.off 3 (.t 1)), o 23 (.load false 1 (.t 22)), o 24 (.len (.t 23)), o 25 (.mv (.c (.int .i64 0)))]
abbrev aig_Normal_p21 : List AG := [o 20 (.load true 5 (.t 1)), o 21 (.call (.f n_aig_begin) [(.t 20)]), o 5 (.mv (.t 21))]
abbrev aig_Normal_p22 : List AG := [o 18 (.build [(.int .i64 0), (.list true 0 []), (.list true 0 []), (.list true 0 []), (.list true 0 [])] []), o 19 (.mv (.t 4)), q (.store 5 (.t 2) (.t 18)), o 3 (.mv (.t 19))]
abbrev aig_Normal_p23 : ACode := (.seq (.reg aig_Normal_p22) .ret)
abbrev aig_Normal_p24 : List AG := [o 16 (.mv (.t 4)), o 17 (.cmp .neq (.sc .int) (.t 16) (.c (.int .i64 0)))]
abbrev aig_Normal_p25 : List AG := [o 14 (.load true 5 (.t 1)), o 15 (.call (.f n_aig_Check) [(.t 14)]), o 4 (.mv (.t 15))]
abbrev aig_Normal_p26 : List AG := [o 1 (.box 5 (.t 0)), o 2 (.alloc [(.int .i64 0), (.own 1 t_int []), (.own 1 t_int []), (.own 2 t_2_int_2 []), (.own 1 t_int [])]), o 3 (.mv (.c (.int .i64 0)))]
abbrev aig_Normal : AFun := ⟨(.seq (.reg aig_Normal_p26) (.seq (.seq (.reg aig_Normal_p25) (.seq (.reg aig_Normal_p24) (.cond (.t 17) aig_Normal_p23 .skip))) (.seq (.reg aig_Normal_p21) (.seq (.seq (.reg aig_Normal_p20) (.block 0 aig_Normal_x14 (.loop aig_Normal_m14 aig_Normal_b14))) (.seq (.reg aig_Normal_p13) (.seq (.reg aig_Normal_p12) (.seq (.reg aig_Normal_p11) (.seq (.seq (.reg aig_Normal_p10) (.block 2 aig_Normal_x1 (.loop aig_Normal_m1 aig_Normal_b1))) (.seq (.reg aig_Normal_p0) .ret))))))))), 95, [.cell 2 true 5, .tmp 3]⟩
abbrev aig_Normal_k1 : List It := [.code (.seq (.reg aig_Normal_p0) .ret)]
abbrev aig_Normal_L1 (x2 x8 x9 x10 x57 x58 x59 : AV) (h : List Ob) (e : Cx := cx) : Cfg := atC n_aig_Normal (.code aig_Normal_b1 :: .inLoop aig_Normal_m1 aig_Normal_b1 :: .inBlock 2 aig_Normal_x1 :: aig_Normal_k1) [U,U,x2,U,U,U,U,U,x8,x9,x10,U,U,U,U,U,U,U,U,U,U,U,U,U,U,U,U,U,U,U,U,U,U,U,U,U,U,U,U,U,U,U,U,U,U,U,U,U,U,U,U,U,U,U,U,U,U,x57,x58,x59,U,U,U,U,U,U,U,U,U,U,U,U,U,U,U,U,U,U,U,U,U,U,U,U,U,U,U,U,U,U,U,U,U,U,U] h e
abbrev aig_Normal_E1 (x2 x8 x10 : AV) (h : List Ob) (e : Cx := cx) : Cfg := atC n_aig_Normal aig_Normal_k1 [U,U,x2,U,U,U,U,U,x8,U,x10,U,U,U,U,U,U,U,U,U,U,U,U,U,U,U,U,U,U,U,U,U,U,U,U,U,U,U,U,U,U,U,U,U,U,U,U,U,U,U,U,U,U,U,U,U,U,U,U,U,U,U,U,U,U,U,U,U,U,U,U,U,U,U,U,U,U,U,U,U,U,U,U,U,U,U,U,U,U,U,U,U,U,U,U] h e
abbrev aig_Normal_k14 : List It := [.code (.seq (.reg aig_Normal_p13) (.seq (.reg aig_Normal_p12) (.seq (.reg aig_Normal_p11) (.seq (.seq (.reg aig_Normal_p10) (.block 2 aig_Normal_x1 (.loop aig_Normal_m1 aig_Normal_b1))) (.seq (.reg aig_Normal_p0) .ret)))))]
abbrev aig_Normal_L14 (x1 x2 x5 x23 x24 x25 : AV) (h : List Ob) (e : Cx := cx) : Cfg := atC n_aig_Normal (.code aig_Normal_b14 :: .inLoop aig_Normal_m14 aig_Normal_b14 :: .inBlock 0 aig_Normal_x14 :: aig_Normal_k14) [U,x1,x2,U,U,x5,U,U,U,U,U,U,U,U,U,U,U,U,U,U,U,U,U,x23,x24,x25,U,U,U,U,U,U,U,U,U,U,U,U,U,U,U,U,U,U,U,U,U,U,U,U,U,U,U,U,U,U,U,U,U,U,U,U,U,U,U,U,U,U,U,U,U,U,U,U,U,U,U,U,U,U,U,U,U,U,U,U,U,U,U,U,U,U,U,U,U] h e
abbrev aig_Normal_E14 (x1 x2 x5 : AV) (h : List Ob) (e : Cx := cx) : Cfg := atC n_aig_Normal aig_Normal_k14 [U,x1,x2,U,U,x5,U,U,U,U,U,U,U,U,U,U,U,U,U,U,U,U,U,U,U,U,U,U,U,U,U,U,U,U,U,U,U,U,U,U,U,U,U,U,U,U,U,U,U,U,U,U,U,U,U,U,U,U,U,U,U,U,U,U,U,U,U,U,U,U,U,U,U,U,U,U,U,U,U,U,U,U,U,U,U,U,U,U,U,U,U,U,U,U,U] h e
@[simp] theorem c_aig_Normal : cfun Try.prog n_aig_Normal = some aig_Normal := by kernel_rfl
@[simp] theorem e_aig_Normal : hasBody Try.prog n_aig_Normal = true := by kernel_rfl

/- r09_Normal: patchbay/patchbayref09.Normal -/
abbrev r09_Normal_p0 : List AG := [o 61 (.off 0 (.t 1)), o 62 (.load false 1 (.t 61)), o 63 (.off 2 (.t 1)), o 64 (.load false 1 (.t 63)), o 65 (.mv (.t 6)), o 66 (.mv (.t 5)), o 67 (.off 1 (.t 1)), o 68 (.load false 1 (.t 67)), o 69 (.call (.f n_r09_becomes) [(.t 66), (.t 68)]), o 70 (.mv (.t 5)), o 71 (.off 4 (.t 1)), o 72 (.load false 1 (.t 71)), o 73 (.call (.f n_r09_becomes) [(.t 70), (.t 72)]), o 74 (.build [(.int .i64 0), (.list true 0 []), (.list true 0 []), (.list true 0 []), (.list true 0 [])] [(0, 1, (.t 62)), (2, 1, (.t 64)), (3, 1, (.t 65)), (1, 1, (.t 69)), (4, 1, (.t 73))]), o 75 (.call (.f n_r09_closed) [(.t 74)]), q (.store 5 (.t 2) (.t 75)), o 3 (.mv (.c (.int .i64 0)))]
abbrev r09_Normal_m1 : List Bool := [O,I,I,O,O,I,I,O,I,O,O,O,O,O,O,O,O,O,O,O,O,O,O,O,O,O,O,O,O,O,O,O,O,O,O,O,O,O,O,O,O,O,O,O,O,O,O,O,O,O,O,O,O,O,O,O,O,O,O,O,O,O,O,O,O,O,O,O,O,O,O,O,O,O,O,O]
abbrev r09_Normal_x1 : List Bool := [O,I,I,O,O,I,I,O,O,O,O,O,O,O,O,O,O,O,O,O,O,O,O,O,O,O,O,O,O,O,O,O,O,O,O,O,O,O,O,O,O,O,O,O,O,O,O,O,O,O,O,O,O,O,O,O,O,O,O,O,O,O,O,O,O,O,O,O,O,O,O,O,O,O,O,O]
abbrev r09_Normal_p2 : List AG := [o 32 (.mv (.t 8)), o 33 (.ibin .add (.t 32) (.c (.int .i64 1))), o 8 (.mv (.t 33))]
abbrev r09_Normal_p3 : List AG := [o 56 (.mv (.t 5)), o 57 (.off 1 (.t 9)), o 58 (.load false 1 (.t 57)), o 59 (.lit 1 [(.int .i64 0)] [(0, (.t 58))]), o 60 (.append 1 t_int 8 (.t 56) (.t 59)), o 5 (.mv (.t 60))]
abbrev r09_Normal_p4 : List AG := [o 54 (.off 0 (.t 9)), o 55 (.load false 1 (.t 54)), o 6 (.mv (.t 55))]
abbrev r09_Normal_p5 : List AG := [o 34 (.mv (.t 6)), o 35 (.load true 5 (.t 1)), o 36 (.call (.f n_r09_First) [(.t 35)]), o 37 (.mv (.t 5)), o 38 (.off 3 (.t 1)), o 39 (.load false 1 (.t 38)), o 40 (.mv (.t 8)), o 41 (.ixAddr 2 (.t 39) (.t 40)), o 42 (.arrAddr 2 1 (.t 41) (.c (.int .i64 0))), o 43 (.load false 1 (.t 42)), o 44 (.call (.f n_r09_become) [(.t 37), (.t 43)]), o 45 (.mv (.t 5)), o 46 (.off 3 (.t 1)), o 47 (.load false 1 (.t 46)), o 48 (.mv (.t 8)), o 49 (.ixAddr 2 (.t 47) (.t 48)), o 50 (.arrAddr 2 1 (.t 49) (.c (.int .i64 1))), o 51 (.load false 1 (.t 50)), o 52 (.call (.f n_r09_become) [(.t 45), (.t 51)]), o 53 (.call (.f n_r09_and) [(.t 34), (.t 36), (.t 44), (.t 52)]), o 9 (.alloc [(.own 2 t_2_int_2 []), (.int .i64 0)]), q (.store 2 (.t 9) (.t 53))]
abbrev r09_Normal_p6 : ACode := (.seq (.dreg [O,I,I,O,O,I,O,O,O,I,I,O,O,I,O,O,O,I,I,I,O,O] [22,22,22,22,22,22,22,22,22,22,22,22,22,22,22,22,22,22,22,22,22,23] r09_Normal_p5) (.seq (.reg r09_Normal_p4) (.reg r09_Normal_p3)))
abbrev r09_Normal_p7 : List AG := [o 27 (.mv (.t 8)), o 28 (.off 3 (.t 1)), o 29 (.load false 1 (.t 28)), o 30 (.len (.t 29)), o 31 (.cmp .lss (.sc .int) (.t 27) (.t 30))]
abbrev r09_Normal_b1 : ACode := (.seq (.seq (.reg r09_Normal_p7) (.cond (.t 31) .skip (.exit 2))) (.seq (.block 3 [] r09_Normal_p6) (.reg r09_Normal_p2)))
abbrev r09_Normal_p8 : List AG := [o 8 (.mv (.c (.int .i64 0)))]
abbrev r09_Normal_m9 : List Bool := [O,I,I,O,O,I,I,I,O,O,O,O,O,O,O,O,O,O,O,O,O,O,O,O,O,O,O,O,O,O,O,O,O,O,O,O,O,O,O,O,O,O,O,O,O,O,O,O,O,O,O,O,O,O,O,O,O,O,O,O,O,O,O,O,O,O,O,O,O,O,O,O,O,O,O,O]
abbrev r09_Normal_x9 : List Bool := [O,I,I,O,O,I,I,O,O,O,O,O,O,O,O,O,O,O,O,O,O,O,O,O,O,O,O,O,O,O,O,O,O,O,O,O,O,O,O,O,O,O,O,O,O,O,O,O,O,O,O,O,O,O,O,O,O,O,O,O,O,O,O,O,O,O,O,O,O,O,O,O,O,O,O,O]
abbrev r09_Normal_p10 : List AG := [o 20 (.mv (.t 7)), o 21 (.ibin .add (.t 20) (.c (.int .i64 1))), o 7 (.mv (.t 21))]
abbrev r09_Normal_p11 : List AG := [o 22 (.mv (.t 5)), o 23 (.mv (.t 7)), o 24 (.ibin .mul (.c (.int .i64 2)) (.t 23)), o 25 (.lit 1 [(.int .i64 0)] [(0, (.t 24))]), o 26 (.append 1 t_int 8 (.t 22) (.t 25)), o 5 (.mv (.t 26))]
abbrev r09_Normal_p12 : List AG := [o 16 (.mv (.t 7)), o 17 (.load true 5 (.t 1)), o 18 (.call (.f n_r09_First) [(.t 17)]), o 19 (.cmp .lss (.sc .int) (.t 16) (.t 18))]
abbrev r09_Normal_b9 : ACode := (.seq (.seq (.reg r09_Normal_p12) (.cond (.t 19) .skip (.exit 0))) (.seq (.block 1 [] (.reg r09_Normal_p11)) (.reg r09_Normal_p10)))
abbrev r09_Normal_p13 : List AG := [o 7 (.mv (.c (.int .i64 0)))]
abbrev r09_Normal_p14 : List AG := [o 6 (.nilrow 2 t_2_int_2)]
abbrev r09_Normal_p15 : List AG := [o 5 (.nilrow 1 t_int)]
abbrev r09_Normal_p16 : List AG := [o 14 (.build [(.int .i64 0), (.list true 0 []), (.list true 0 []), (.list true 0 []), (.list true 0 [])] []), o 15 (.mv (.t 4)), q (.store 5 (.t 2) (.t 14)), o 3 (.mv (.t 15))]
abbrev r09_Normal_p17 : ACode := (.seq (.reg r09_Normal_p16) .ret)
abbrev r09_Normal_p18 : List AG := [o 12 (.mv (.t 4)), o 13 (.cmp .neq (.sc .int) (.t 12) (.c (.int .i64 0)))]
abbrev r09_Normal_p19 : List AG := [o 10 (.load true 5 (.t 1)), o 11 (.call (.f n_r09_Check) [(.t 10)]), o 4 (.mv (.t 11))]
abbrev r09_Normal_p20 : List AG := [o 1 (.box 5 (.t 0)), o 2 (.alloc [(.int .i64 0), (.own 1 t_int []), (.own 1 t_int []), (.own 2 t_2_int_2 []), (.own 1 t_int [])]), o 3 (.mv (.c (.int .i64 0)))]
abbrev r09_Normal : AFun := ⟨(.seq (.reg r09_Normal_p20) (.seq (.reg r09_Normal_p19) (.seq (.seq (.reg r09_Normal_p18) (.cond (.t 13) r09_Normal_p17 .skip)) (.seq (.reg r09_Normal_p15) (.seq (.reg r09_Normal_p14) (.seq (.seq (.reg r09_Normal_p13) (.block 0 r09_Normal_x9 (.loop r09_Normal_m9 r09_Normal_b9))) (.seq (.seq (.reg r09_Normal_p8) (.block 2 r09_Normal_x1 (.loop r09_Normal_m1 r09_Normal_b1))) (.seq (.dreg [O,I,O,I,O,O,O,O,O,O,O,I,O,O,O,O,O] [15,15,15,15,15,9,9,9,13,13,13,13,15,15,16,18,18] r09_Normal_p0) .ret)))))))), 76, [.cell 2 true 5, .tmp 3]⟩
abbrev r09_Normal_k1 : List It := [.code (.seq (.dreg [O,I,O,I,O,O,O,O,O,O,O,I,O,O,O,O,O] [15,15,15,15,15,9,9,9,13,13,13,13,15,15,16,18,18] r09_Normal_p0) .ret)]
abbrev r09_Normal_L1 (x1 x2 x5 x6 x8 : AV) (h : List Ob) (e : Cx := cx) : Cfg := atC n_r09_Normal (.code r09_Normal_b1 :: .inLoop r09_Normal_m1 r09_Normal_b1 :: .inBlock 2 r09_Normal_x1 :: r09_Normal_k1) [U,x1,x2,U,U,x5,x6,U,x8,U,U,U,U,U,U,U,U,U,U,U,U,U,U,U,U,U,U,U,U,U,U,U,U,U,U,U,U,U,U,U,U,U,U,U,U,U,U,U,U,U,U,U,U,U,U,U,U,U,U,U,U,U,U,U,U,U,U,U,U,U,U,U,U,U,U,U] h e
abbrev r09_Normal_E1 (x1 x2 x5 x6 : AV) (h : List Ob) (e : Cx := cx) : Cfg := atC n_r09_Normal r09_Normal_k1 [U,x1,x2,U,U,x5,x6,U,U,U,U,U,U,U,U,U,U,U,U,U,U,U,U,U,U,U,U,U,U,U,U,U,U,U,U,U,U,U,U,U,U,U,U,U,U,U,U,U,U,U,U,U,U,U,U,U,U,U,U,U,U,U,U,U,U,U,U,U,U,U,U,U,U,U,U,U] h e
abbrev r09_Normal_k9 : List It := [.code (.seq (.seq (.reg r09_Normal_p8) (.block 2 r09_Normal_x1 (.loop r09_Normal_m1 r09_Normal_b1))) (.seq (.dreg [O,I,O,I,O,O,O,O,O,O,O,I,O,O,O,O,O] [15,15,15,15,15,9,9,9,13,13,13,13,15,15,16,18,18] r09_Normal_p0) .ret))]
abbrev r09_Normal_L9 (x1 x2 x5 x6 x7 : AV) (h : List Ob) (e : Cx := cx) : Cfg := atC n_r09_Normal (.code r09_Normal_b9 :: .inLoop r09_Normal_m9 r09_Normal_b9 :: .inBlock 0 r09_Normal_x9 :: r09_Normal_k9) [U,x1,x2,U,U,x5,x6,x7,U,U,U,U,U,U,U,U,U,U,U,U,U,U,U,U,U,U,U,U,U,U,U,U,U,U,U,U,U,U,U,U,U,U,U,U,U,U,U,U,U,U,U,U,U,U,U,U,U,U,U,U,U,U,U,U,U,U,U,U,U,U,U,U,U,U,U,U] h e
abbrev r09_Normal_E9 (x1 x2 x5 x6 : AV) (h : List Ob) (e : Cx := cx) : Cfg := atC n_r09_Normal r09_Normal_k9 [U,x1,x2,U,U,x5,x6,U,U,U,U,U,U,U,U,U,U,U,U,U,U,U,U,U,U,U,U,U,U,U,U,U,U,U,U,U,U,U,U,U,U,U,U,U,U,U,U,U,U,U,U,U,U,U,U,U,U,U,U,U,U,U,U,U,U,U,U,U,U,U,U,U,U,U,U,U] h e
@[simp] theorem c_r09_Normal : cfun Try.prog n_r09_Normal = some r09_Normal := by kernel_rfl
@[simp] theorem e_r09_Normal : hasBody Try.prog n_r09_Normal = true := by kernel_rfl

/- r09_Check: patchbay/patchbayref09.Check -/
abbrev r09_Check_p0 : List AG := [o 2 (.mv (.c (.int .i64 0)))]
abbrev r09_Check_m1 : List Bool := [O,I,O,I,O,O,O,I,O,O,O,O,O,O,O,O,O,O,O,O,O,O,O,O,O,O,O,O,O,O,O,O,O,O,O,O,O,O,O,O,O,O,O,O,O,O,O,O,O,O,O,O,O,O,O,O,O,O,O,O,O,O,O,O,O,O,O,O,O,O,O,O,O,O,O,O,O,O,O,O,O,O,O,O,O,O,O,O,O,O,O,O,O,O,O,O,O,O,O,O,O,O,O,O,O,O,O,O,O,O,O,O,O,O,O,O,O,O,O,O,O,O,O,O,O]
abbrev r09_Check_x1 : List Bool := [O,O,O,O,O,O,O,O,O,O,O,O,O,O,O,O,O,O,O,O,O,O,O,O,O,O,O,O,O,O,O,O,O,O,O,O,O,O,O,O,O,O,O,O,O,O,O,O,O,O,O,O,O,O,O,O,O,O,O,O,O,O,O,O,O,O,O,O,O,O,O,O,O,O,O,O,O,O,O,O,O,O,O,O,O,O,O,O,O,O,O,O,O,O,O,O,O,O,O,O,O,O,O,O,O,O,O,O,O,O,O,O,O,O,O,O,O,O,O,O,O,O,O,O,O]
abbrev r09_Check_p2 : List AG := [o 115 (.mv (.t 7)), o 116 (.ibin .add (.t 115) (.c (.int .i64 1))), o 7 (.mv (.t 116))]
abbrev r09_Check_p3 : List AG := [o 2 (.mv (.c (.int .i64 1)))]
abbrev r09_Check_p4 : ACode := (.seq (.reg r09_Check_p3) .ret)
abbrev r09_Check_p5 : List AG := [o 117 (.off 4 (.t 1)), o 118 (.load false 1 (.t 117)), o 119 (.mv (.t 7)), o 120 (.ixAddr 1 (.t 118) (.t 119)), o 121 (.load false 1 (.t 120)), o 122 (.mv (.t 3)), o 123 (.call (.f n_r09_literal) [(.t 121), (.t 122)]), o 124 (.not (.t 123))]
abbrev r09_Check_p6 : ACode := (.seq (.reg r09_Check_p5) (.cond (.t 124) r09_Check_p4 .skip))
abbrev r09_Check_p7 : List AG := [o 110 (.mv (.t 7)), o 111 (.off 4 (.t 1)), o 112 (.load false 1 (.t 111)), o 113 (.len (.t 112)), o 114 (.cmp .lss (.sc .int) (.t 110) (.t 113))]
abbrev r09_Check_b1 : ACode := (.seq (.seq (.reg r09_Check_p7) (.cond (.t 114) .skip (.exit 4))) (.seq (.block 5 [] r09_Check_p6) (.reg r09_Check_p2)))
abbrev r09_Check_p8 : List AG := [o 7 (.mv (.c (.int .i64 0)))]
abbrev r09_Check_m9 : List Bool := [O,I,O,I,O,I,O,O,O,O,O,O,O,O,O,O,O,O,O,O,O,O,O,O,O,O,O,O,O,O,O,O,O,O,O,O,O,O,O,O,O,O,O,O,O,O,O,O,O,O,O,O,O,O,O,O,O,O,O,O,O,O,O,O,O,O,O,O,O,O,O,O,O,O,O,O,O,O,O,O,O,O,O,O,O,O,O,O,O,O,O,O,O,O,O,O,O,O,O,O,O,O,O,O,O,O,O,O,O,O,O,O,O,O,O,O,O,O,O,O,O,O,O,O,O]
abbrev r09_Check_x9 : List Bool := [O,I,O,I,O,O,O,O,O,O,O,O,O,O,O,O,O,O,O,O,O,O,O,O,O,O,O,O,O,O,O,O,O,O,O,O,O,O,O,O,O,O,O,O,O,O,O,O,O,O,O,O,O,O,O,O,O,O,O,O,O,O,O,O,O,O,O,O,O,O,O,O,O,O,O,O,O,O,O,O,O,O,O,O,O,O,O,O,O,O,O,O,O,O,O,O,O,O,O,O,O,O,O,O,O,O,O,O,O,O,O,O,O,O,O,O,O,O,O,O,O,O,O,O,O]
abbrev r09_Check_p10 : List AG := [o 84 (.mv (.t 5)), o 85 (.ibin .add (.t 84) (.c (.int .i64 1))), o 5 (.mv (.t 85))]
abbrev r09_Check_p11 : List AG := [o 2 (.mv (.c (.int .i64 1)))]
abbrev r09_Check_p12 : ACode := (.seq (.reg r09_Check_p11) .ret)
abbrev r09_Check_p13 : List AG := [o 90 (.off 3 (.t 1)), o 91 (.load false 1 (.t 90)), o 92 (.mv (.t 5)), o 93 (.ixAddr 2 (.t 91) (.t 92)), o 94 (.arrAddr 2 1 (.t 93) (.c (.int .i64 0))), o 95 (.load false 1 (.t 94)), o 96 (.mv (.t 6)), o 97 (.call (.f n_r09_literal) [(.t 95), (.t 96)]), o 98 (.not (.t 97)), o 99 (.mv (.t 98)), on 100 99 (.off 3 (.t 1)), on 101 99 (.load false 1 (.t 100)), on 102 99 (.mv (.t 5)), on 103 99 (.ixAddr 2 (.t 101) (.t 102)), on 104 99 (.arrAddr 2 1 (.t 103) (.c (.int .i64 1))), on 105 99 (.load false 1 (.t 104)), on 106 99 (.mv (.t 6)), on 107 99 (.call (.f n_r09_literal) [(.t 105), (.t 106)]), on 108 99 (.not (.t 107)), o 109 (.pick (.t 99) (.c (.bool true)) (.t 108))]
abbrev r09_Check_p14 : List AG := [o 86 (.load true 5 (.t 1)), o 87 (.call (.f n_r09_First) [(.t 86)]), o 88 (.mv (.t 5)), o 89 (.ibin .add (.t 87) (.t 88)), o 6 (.mv (.t 89))]
abbrev r09_Check_p15 : ACode := (.seq (.reg r09_Check_p14) (.seq (.reg r09_Check_p13) (.cond (.t 109) r09_Check_p12 .skip)))
abbrev r09_Check_p16 : List AG := [o 79 (.mv (.t 5)), o 80 (.off 3 (.t 1)), o 81 (.load false 1 (.t 80)), o 82 (.len (.t 81)), o 83 (.cmp .lss (.sc .int) (.t 79) (.t 82))]
abbrev r09_Check_b9 : ACode := (.seq (.seq (.reg r09_Check_p16) (.cond (.t 83) .skip (.exit 2))) (.seq (.block 3 [] r09_Check_p15) (.reg r09_Check_p10)))
abbrev r09_Check_p17 : List AG := [o 5 (.mv (.c (.int .i64 0)))]
abbrev r09_Check_m18 : List Bool := [O,I,O,I,I,O,O,O,O,O,O,O,O,O,O,O,O,O,O,O,O,O,O,O,O,O,O,O,O,O,O,O,O,O,O,O,O,O,O,O,O,O,O,O,O,O,O,O,O,O,O,O,O,O,O,O,O,O,O,O,O,O,O,O,O,O,O,O,O,O,O,O,O,O,O,O,O,O,O,O,O,O,O,O,O,O,O,O,O,O,O,O,O,O,O,O,O,O,O,O,O,O,O,O,O,O,O,O,O,O,O,O,O,O,O,O,O,O,O,O,O,O,O,O,O]
abbrev r09_Check_x18 : List Bool := [O,I,O,I,O,O,O,O,O,O,O,O,O,O,O,O,O,O,O,O,O,O,O,O,O,O,O,O,O,O,O,O,O,O,O,O,O,O,O,O,O,O,O,O,O,O,O,O,O,O,O,O,O,O,O,O,O,O,O,O,O,O,O,O,O,O,O,O,O,O,O,O,O,O,O,O,O,O,O,O,O,O,O,O,O,O,O,O,O,O,O,O,O,O,O,O,O,O,O,O,O,O,O,O,O,O,O,O,O,O,O,O,O,O,O,O,O,O,O,O,O,O,O,O,O]
abbrev r09_Check_p19 : List AG := [o 53 (.mv (.t 4)), o 54 (.ibin .add (.t 53) (.c (.int .i64 1))), o 4 (.mv (.t 54))]
abbrev r09_Check_p20 : List AG := [o 2 (.mv (.c (.int .i64 1)))]
abbrev r09_Check_p21 : ACode := (.seq (.reg r09_Check_p20) .ret)
abbrev r09_Check_p22 : List AG := [o 55 (.off 2 (.t 1)), o 56 (.load false 1 (.t 55)), o 57 (.mv (.t 4)), o 58 (.ixAddr 1 (.t 56) (.t 57)), o 59 (.load false 1 (.t 58)), o 60 (.cmp .lss (.sc .int) (.t 59) (.c (.int .i64 0))), o 61 (.mv (.t 60)), on 62 61 (.off 2 (.t 1)), on 63 61 (.load false 1 (.t 62)), on 64 61 (.mv (.t 4)), on 65 61 (.ixAddr 1 (.t 63) (.t 64)), on 66 61 (.load false 1 (.t 65)), on 67 61 (.cmp .gtr (.sc .int) (.t 66) (.c (.int .i64 2))), o 68 (.pick (.t 61) (.c (.bool true)) (.t 67)), o 69 (.mv (.t 68)), on 70 69 (.off 1 (.t 1)), on 71 69 (.load false 1 (.t 70)), on 72 69 (.mv (.t 4)), on 73 69 (.ixAddr 1 (.t 71) (.t 72)), on 74 69 (.load false 1 (.t 73)), on 75 69 (.mv (.t 3)), on 76 69 (.call (.f n_r09_literal) [(.t 74), (.t 75)]), on 77 69 (.not (.t 76)), o 78 (.pick (.t 69) (.c (.bool true)) (.t 77))]
abbrev r09_Check_p23 : ACode := (.seq (.reg r09_Check_p22) (.cond (.t 78) r09_Check_p21 .skip))
abbrev r09_Check_p24 : List AG := [o 48 (.mv (.t 4)), o 49 (.off 1 (.t 1)), o 50 (.load false 1 (.t 49)), o 51 (.len (.t 50)), o 52 (.cmp .lss (.sc .int) (.t 48) (.t 51))]
abbrev r09_Check_b18 : ACode := (.seq (.seq (.reg r09_Check_p24) (.cond (.t 52) .skip (.exit 0))) (.seq (.block 1 [] r09_Check_p23) (.reg r09_Check_p19)))
abbrev r09_Check_p25 : List AG := [o 4 (.mv (.c (.int .i64 0)))]
abbrev r09_Check_p26 : List AG := [o 42 (.load true 5 (.t 1)), o 43 (.call (.f n_r09_First) [(.t 42)]), o 44 (.off 3 (.t 1)), o 45 (.load false 1 (.t 44)), o 46 (.len (.t 45)), o 47 (.ibin .add (.t 43) (.t 46)), o 3 (.mv (.t 47))]
abbrev r09_Check_p27 : List AG := [o 2 (.mv (.c (.int .i64 1)))]
abbrev r09_Check_p28 : ACode := (.seq (.reg r09_Check_p27) .ret)
abbrev r09_Check_p29 : List AG := [o 35 (.off 2 (.t 1)), o 36 (.load false 1 (.t 35)), o 37 (.len (.t 36)), o 38 (.off 1 (.t 1)), o 39 (.load false 1 (.t 38)), o 40 (.len (.t 39)), o 41 (.cmp .neq (.sc .int) (.t 37) (.t 40))]
abbrev r09_Check_p30 : List AG := [o 2 (.mv (.c (.int .i64 8)))]
abbrev r09_Check_p31 : ACode := (.seq (.reg r09_Check_p30) .ret)
abbrev r09_Check_p32 : List AG := [o 8 (.off 0 (.t 1)), o 9 (.load false 1 (.t 8)), o 10 (.cmp .lss (.sc .int) (.t 9) (.c (.int .i64 0))), o 11 (.mv (.t 10)), on 12 11 (.off 0 (.t 1)), on 13 11 (.load false 1 (.t 12)), on 14 11 (.cmp .gtr (.sc .int) (.t 13) (.c (.int .i64 4000))), o 15 (.pick (.t 11) (.c (.bool true)) (.t 14)), o 16 (.mv (.t 15)), on 17 16 (.off 0 (.t 1)), on 18 16 (.load false 1 (.t 17)), on 19 16 (.off 1 (.t 1)), on 20 16 (.load false 1 (.t 19)), on 21 16 (.len (.t 20)), on 22 16 (.ibin .add (.t 18) (.t 21)), on 23 16 (.off 3 (.t 1)), on 24 16 (.load false 1 (.t 23)), on 25 16 (.len (.t 24)), on 26 16 (.ibin .add (.t 22) (.t 25)), on 27 16 (.cmp .gtr (.sc .int) (.t 26) (.c (.int .i64 4000))), o 28 (.pick (.t 16) (.c (.bool true)) (.t 27)), o 29 (.mv (.t 28)), on 30 29 (.off 4 (.t 1)), on 31 29 (.load false 1 (.t 30)), on 32 29 (.len (.t 31)), on 33 29 (.cmp .gtr (.sc .int) (.t 32) (.c (.int .i64 4000))), o 34 (.pick (.t 29) (.c (.bool true)) (.t 33))]
abbrev r09_Check_p33 : List AG := [o 1 (.box 5 (.t 0)), o 2 (.mv (.c (.int .i64 0)))]
abbrev r09_Check : AFun := ⟨(.seq (.reg r09_Check_p33) (.seq (.seq (.reg r09_Check_p32) (.cond (.t 34) r09_Check_p31 .skip)) (.seq (.seq (.reg r09_Check_p29) (.cond (.t 41) r09_Check_p28 .skip)) (.seq (.dreg [O,O,O,I,O,O,O] [2,8,8,8,8,8,8] r09_Check_p26) (.seq (.seq (.reg r09_Check_p25) (.block 0 r09_Check_x18 (.loop r09_Check_m18 r09_Check_b18))) (.seq (.seq (.reg r09_Check_p17) (.block 2 r09_Check_x9 (.loop r09_Check_m9 r09_Check_b9))) (.seq (.seq (.reg r09_Check_p8) (.block 4 r09_Check_x1 (.loop r09_Check_m1 r09_Check_b1))) (.seq (.reg r09_Check_p0) .ret)))))))), 125, [.tmp 2]⟩
abbrev r09_Check_k1 : List It := [.code (.seq (.reg r09_Check_p0) .ret)]
abbrev r09_Check_L1 (x1 x3 x7 : AV) (h : List Ob) (e : Cx := cx) : Cfg := atC n_r09_Check (.code r09_Check_b1 :: .inLoop r09_Check_m1 r09_Check_b1 :: .inBlock 4 r09_Check_x1 :: r09_Check_k1) [U,x1,U,x3,U,U,U,x7,U,U,U,U,U,U,U,U,U,U,U,U,U,U,U,U,U,U,U,U,U,U,U,U,U,U,U,U,U,U,U,U,U,U,U,U,U,U,U,U,U,U,U,U,U,U,U,U,U,U,U,U,U,U,U,U,U,U,U,U,U,U,U,U,U,U,U,U,U,U,U,U,U,U,U,U,U,U,U,U,U,U,U,U,U,U,U,U,U,U,U,U,U,U,U,U,U,U,U,U,U,U,U,U,U,U,U,U,U,U,U,U,U,U,U,U,U] h e
abbrev r09_Check_E1 (h : List Ob) (e : Cx := cx) : Cfg := atC n_r09_Check r09_Check_k1 [U,U,U,U,U,U,U,U,U,U,U,U,U,U,U,U,U,U,U,U,U,U,U,U,U,U,U,U,U,U,U,U,U,U,U,U,U,U,U,U,U,U,U,U,U,U,U,U,U,U,U,U,U,U,U,U,U,U,U,U,U,U,U,U,U,U,U,U,U,U,U,U,U,U,U,U,U,U,U,U,U,U,U,U,U,U,U,U,U,U,U,U,U,U,U,U,U,U,U,U,U,U,U,U,U,U,U,U,U,U,U,U,U,U,U,U,U,U,U,U,U,U,U,U,U] h e
abbrev r09_Check_k9 : List It := [.code (.seq (.seq (.reg r09_Check_p8) (.block 4 r09_Check_x1 (.loop r09_Check_m1 r09_Check_b1))) (.seq (.reg r09_Check_p0) .ret))]
abbrev r09_Check_L9 (x1 x3 x5 : AV) (h : List Ob) (e : Cx := cx) : Cfg := atC n_r09_Check (.code r09_Check_b9 :: .inLoop r09_Check_m9 r09_Check_b9 :: .inBlock 2 r09_Check_x9 :: r09_Check_k9) [U,x1,U,x3,U,x5,U,U,U,U,U,U,U,U,U,U,U,U,U,U,U,U,U,U,U,U,U,U,U,U,U,U,U,U,U,U,U,U,U,U,U,U,U,U,U,U,U,U,U,U,U,U,U,U,U,U,U,U,U,U,U,U,U,U,U,U,U,U,U,U,U,U,U,U,U,U,U,U,U,U,U,U,U,U,U,U,U,U,U,U,U,U,U,U,U,U,U,U,U,U,U,U,U,U,U,U,U,U,U,U,U,U,U,U,U,U,U,U,U,U,U,U,U,U,U] h e
abbrev r09_Check_E9 (x1 x3 : AV) (h : List Ob) (e : Cx := cx) : Cfg := atC n_r09_Check r09_Check_k9 [U,x1,U,x3,U,U,U,U,U,U,U,U,U,U,U,U,U,U,U,U,U,U,U,U,U,U,U,U,U,U,U,U,U,U,U,U,U,U,U,U,U,U,U,U,U,U,U,U,U,U,U,U,U,U,U,U,U,U,U,U,U,U,U,U,U,U,U,U,U,U,U,U,U,U,U,U,U,U,U,U,U,U,U,U,U,U,U,U,U,U,U,U,U,U,U,U,U,U,U,U,U,U,U,U,U,U,U,U,U,U,U,U,U,U,U,U,U,U,U,U,U,U,U,U,U] h e
abbrev r09_Check_k18 : List It := [.code (.seq (.seq (.reg r09_Check_p17) (.block 2 r09_Check_x9 (.loop r09_Check_m9 r09_Check_b9))) (.seq (.seq (.reg r09_Check_p8) (.block 4 r09_Check_x1 (.loop r09_Check_m1 r09_Check_b1))) (.seq (.reg r09_Check_p0) .ret)))]
abbrev r09_Check_L18 (x1 x3 x4 : AV) (h : List Ob) (e : Cx := cx) : Cfg := atC n_r09_Check (.code r09_Check_b18 :: .inLoop r09_Check_m18 r09_Check_b18 :: .inBlock 0 r09_Check_x18 :: r09_Check_k18) [U,x1,U,x3,x4,U,U,U,U,U,U,U,U,U,U,U,U,U,U,U,U,U,U,U,U,U,U,U,U,U,U,U,U,U,U,U,U,U,U,U,U,U,U,U,U,U,U,U,U,U,U,U,U,U,U,U,U,U,U,U,U,U,U,U,U,U,U,U,U,U,U,U,U,U,U,U,U,U,U,U,U,U,U,U,U,U,U,U,U,U,U,U,U,U,U,U,U,U,U,U,U,U,U,U,U,U,U,U,U,U,U,U,U,U,U,U,U,U,U,U,U,U,U,U,U] h e
abbrev r09_Check_E18 (x1 x3 : AV) (h : List Ob) (e : Cx := cx) : Cfg := atC n_r09_Check r09_Check_k18 [U,x1,U,x3,U,U,U,U,U,U,U,U,U,U,U,U,U,U,U,U,U,U,U,U,U,U,U,U,U,U,U,U,U,U,U,U,U,U,U,U,U,U,U,U,U,U,U,U,U,U,U,U,U,U,U,U,U,U,U,U,U,U,U,U,U,U,U,U,U,U,U,U,U,U,U,U,U,U,U,U,U,U,U,U,U,U,U,U,U,U,U,U,U,U,U,U,U,U,U,U,U,U,U,U,U,U,U,U,U,U,U,U,U,U,U,U,U,U,U,U,U,U,U,U,U] h e
@[simp] theorem c_r09_Check : cfun Try.prog n_r09_Check = some r09_Check := by kernel_rfl
@[simp] theorem e_r09_Check : hasBody Try.prog n_r09_Check = true := by kernel_rfl

/- r09_Strict: patchbay/patchbayref09.Strict -/
abbrev r09_Strict_p0 : List AG := [o 2 (.mv (.c (.bool true)))]
abbrev r09_Strict_m1 : List Bool := [O,I,O,I,I,O,O,O,O,O,O,O,O,O,O,O,O,O,O,O,O,O,O,O,O,O,O,O,O,O,O,O,O,O,O,O,O,O,O,O,O,O,O,O,O,O,O,O,O,O,O,O,O,O,O,O,O,O,O,O,O,O,O,O,O,O,O,O,O,O,O,O]
abbrev r09_Strict_x1 : List Bool := [O,O,O,O,O,O,O,O,O,O,O,O,O,O,O,O,O,O,O,O,O,O,O,O,O,O,O,O,O,O,O,O,O,O,O,O,O,O,O,O,O,O,O,O,O,O,O,O,O,O,O,O,O,O,O,O,O,O,O,O,O,O,O,O,O,O,O,O,O,O,O,O]
abbrev r09_Strict_p2 : List AG := [o 18 (.mv (.t 4)), o 19 (.ibin .add (.t 18) (.c (.int .i64 1))), o 4 (.mv (.t 19))]
abbrev r09_Strict_m3 : List Bool := [O,I,O,I,I,O,O,I,O,O,O,O,O,O,O,O,O,O,O,O,O,O,O,O,O,O,O,O,O,O,O,O,O,O,O,O,O,O,O,O,O,O,O,O,O,O,O,O,O,O,O,O,O,O,O,O,O,O,O,O,O,O,O,O,O,O,O,O,O,O,O,O]
abbrev r09_Strict_x3 : List Bool := [O,I,O,I,I,O,O,O,O,O,O,O,O,O,O,O,O,O,O,O,O,O,O,O,O,O,O,O,O,O,O,O,O,O,O,O,O,O,O,O,O,O,O,O,O,O,O,O,O,O,O,O,O,O,O,O,O,O,O,O,O,O,O,O,O,O,O,O,O,O,O,O]
abbrev r09_Strict_p4 : List AG := [o 59 (.mv (.t 7)), o 60 (.ibin .add (.t 59) (.c (.int .i64 1))), o 7 (.mv (.t 60))]
abbrev r09_Strict_p5 : List AG := [o 2 (.mv (.c (.bool false)))]
abbrev r09_Strict_p6 : ACode := (.seq (.reg r09_Strict_p5) .ret)
abbrev r09_Strict_p7 : List AG := [o 61 (.off 3 (.t 1)), o 62 (.load false 1 (.t 61)), o 63 (.mv (.t 7)), o 64 (.ixAddr 2 (.t 62) (.t 63)), o 65 (.load true 2 (.t 64)), o 66 (.off 3 (.t 1)), o 67 (.load false 1 (.t 66)), o 68 (.mv (.t 4)), o 69 (.ixAddr 2 (.t 67) (.t 68)), o 70 (.load true 2 (.t 69)), o 71 (.cmp .eql (.strct [.int, .int]) (.t 65) (.t 70))]
abbrev r09_Strict_p8 : ACode := (.seq (.dreg [O,O,O,O,O,O,O,O,O,O,O] [12,12,12,12,12,12,12,12,12,12,12] r09_Strict_p7) (.cond (.t 71) r09_Strict_p6 .skip))
abbrev r09_Strict_p9 : List AG := [o 56 (.mv (.t 7)), o 57 (.mv (.t 4)), o 58 (.cmp .lss (.sc .int) (.t 56) (.t 57))]
abbrev r09_Strict_b3 : ACode := (.seq (.seq (.reg r09_Strict_p9) (.cond (.t 58) .skip (.exit 2))) (.seq (.block 3 [] r09_Strict_p8) (.reg r09_Strict_p4)))
abbrev r09_Strict_p10 : List AG := [o 7 (.mv (.c (.int .i64 0)))]
abbrev r09_Strict_p11 : List AG := [o 2 (.mv (.c (.bool false)))]
abbrev r09_Strict_p12 : ACode := (.seq (.reg r09_Strict_p11) .ret)
abbrev r09_Strict_p13 : List AG := [o 32 (.mv (.t 5)), o 33 (.mv (.t 6)), o 34 (.cmp .leq (.sc .int) (.t 32) (.t 33)), o 35 (.mv (.t 34)), on 36 35 (.mv (.t 6)), on 37 35 (.cmp .leq (.sc .int) (.t 36) (.c (.int .i64 1))), o 38 (.pick (.t 35) (.c (.bool true)) (.t 37)), o 39 (.mv (.t 38)), on 40 39 (.mv (.t 5)), on 41 39 (.ibin .quo (.t 40) (.c (.int .i64 2))), on 42 39 (.mv (.t 6)), on 43 39 (.ibin .quo (.t 42) (.c (.int .i64 2))), on 44 39 (.cmp .eql (.sc .int) (.t 41) (.t 43)), o 45 (.pick (.t 39) (.c (.bool true)) (.t 44)), o 46 (.mv (.t 45)), on 47 46 (.mv (.t 3)), on 48 46 (.load true 5 (.t 1)), on 49 46 (.call (.f n_r09_First) [(.t 48)]), on 50 46 (.mv (.t 4)), on 51 46 (.ibin .add (.t 49) (.t 50)), on 52 46 (.ixAddr 1 (.t 47) (.t 51)), on 53 46 (.load false 1 (.t 52)), on 54 46 (.not (.t 53)), o 55 (.pick (.t 46) (.c (.bool true)) (.t 54))]
abbrev r09_Strict_p14 : List AG := [o 26 (.off 3 (.t 1)), o 27 (.load false 1 (.t 26)), o 28 (.mv (.t 4)), o 29 (.ixAddr 2 (.t 27) (.t 28)), o 30 (.arrAddr 2 1 (.t 29) (.c (.int .i64 1))), o 31 (.load false 1 (.t 30)), o 6 (.mv (.t 31))]
abbrev r09_Strict_p15 : List AG := [o 20 (.off 3 (.t 1)), o 21 (.load false 1 (.t 20)), o 22 (.mv (.t 4)), o 23 (.ixAddr 2 (.t 21) (.t 22)), o 24 (.arrAddr 2 1 (.t 23) (.c (.int .i64 0))), o 25 (.load false 1 (.t 24)), o 5 (.mv (.t 25))]
abbrev r09_Strict_p16 : ACode := (.seq (.reg r09_Strict_p15) (.seq (.reg r09_Strict_p14) (.seq (.seq (.reg r09_Strict_p13) (.cond (.t 55) r09_Strict_p12 .skip)) (.seq (.reg r09_Strict_p10) (.block 2 r09_Strict_x3 (.loop r09_Strict_m3 r09_Strict_b3))))))
abbrev r09_Strict_p17 : List AG := [o 13 (.mv (.t 4)), o 14 (.off 3 (.t 1)), o 15 (.load false 1 (.t 14)), o 16 (.len (.t 15)), o 17 (.cmp .lss (.sc .int) (.t 13) (.t 16))]
abbrev r09_Strict_b1 : ACode := (.seq (.seq (.reg r09_Strict_p17) (.cond (.t 17) .skip (.exit 0))) (.seq (.block 1 [] r09_Strict_p16) (.reg r09_Strict_p2)))
abbrev r09_Strict_p18 : List AG := [o 4 (.mv (.c (.int .i64 0)))]
abbrev r09_Strict_p19 : List AG := [o 11 (.load true 5 (.t 1)), o 12 (.call (.f n_r09_Led) [(.t 11)]), o 3 (.mv (.t 12))]
abbrev r09_Strict_p20 : List AG := [o 2 (.mv (.c (.bool false)))]
abbrev r09_Strict_p21 : ACode := (.seq (.reg r09_Strict_p20) .ret)
abbrev r09_Strict_p22 : List AG := [o 8 (.load true 5 (.t 1)), o 9 (.call (.f n_r09_Check) [(.t 8)]), o 10 (.cmp .neq (.sc .int) (.t 9) (.c (.int .i64 0)))]
abbrev r09_Strict_p23 : List AG := [o 1 (.box 5 (.t 0)), o 2 (.mv (.c (.bool false)))]
abbrev r09_Strict : AFun := ⟨(.seq (.reg r09_Strict_p23) (.seq (.seq (.reg r09_Strict_p22) (.cond (.t 10) r09_Strict_p21 .skip)) (.seq (.reg r09_Strict_p19) (.seq (.seq (.reg r09_Strict_p18) (.block 0 r09_Strict_x1 (.loop r09_Strict_m1 r09_Strict_b1))) (.seq (.reg r09_Strict_p0) .ret))))), 72, [.tmp 2]⟩
abbrev r09_Strict_k3 : List It := [.inBlock 1 [], .code (.reg r09_Strict_p2), .inLoop r09_Strict_m1 r09_Strict_b1, .inBlock 0 r09_Strict_x1, .code (.seq (.reg r09_Strict_p0) .ret)]
abbrev r09_Strict_L3 (x1 x3 x4 x7 : AV) (h : List Ob) (e : Cx := cx) : Cfg := atC n_r09_Strict (.code r09_Strict_b3 :: .inLoop r09_Strict_m3 r09_Strict_b3 :: .inBlock 2 r09_Strict_x3 :: r09_Strict_k3) [U,x1,U,x3,x4,U,U,x7,U,U,U,U,U,U,U,U,U,U,U,U,U,U,U,U,U,U,U,U,U,U,U,U,U,U,U,U,U,U,U,U,U,U,U,U,U,U,U,U,U,U,U,U,U,U,U,U,U,U,U,U,U,U,U,U,U,U,U,U,U,U,U,U] h e
abbrev r09_Strict_E3 (x1 x3 x4 : AV) (h : List Ob) (e : Cx := cx) : Cfg := atC n_r09_Strict r09_Strict_k3 [U,x1,U,x3,x4,U,U,U,U,U,U,U,U,U,U,U,U,U,U,U,U,U,U,U,U,U,U,U,U,U,U,U,U,U,U,U,U,U,U,U,U,U,U,U,U,U,U,U,U,U,U,U,U,U,U,U,U,U,U,U,U,U,U,U,U,U,U,U,U,U,U,U] h e
abbrev r09_Strict_k1 : List It := [.code (.seq (.reg r09_Strict_p0) .ret)]
abbrev r09_Strict_L1 (x1 x3 x4 : AV) (h : List Ob) (e : Cx := cx) : Cfg := atC n_r09_Strict (.code r09_Strict_b1 :: .inLoop r09_Strict_m1 r09_Strict_b1 :: .inBlock 0 r09_Strict_x1 :: r09_Strict_k1) [U,x1,U,x3,x4,U,U,U,U,U,U,U,U,U,U,U,U,U,U,U,U,U,U,U,U,U,U,U,U,U,U,U,U,U,U,U,U,U,U,U,U,U,U,U,U,U,U,U,U,U,U,U,U,U,U,U,U,U,U,U,U,U,U,U,U,U,U,U,U,U,U,U] h e
abbrev r09_Strict_E1 (h : List Ob) (e : Cx := cx) : Cfg := atC n_r09_Strict r09_Strict_k1 [U,U,U,U,U,U,U,U,U,U,U,U,U,U,U,U,U,U,U,U,U,U,U,U,U,U,U,U,U,U,U,U,U,U,U,U,U,U,U,U,U,U,U,U,U,U,U,U,U,U,U,U,U,U,U,U,U,U,U,U,U,U,U,U,U,U,U,U,U,U,U,U] h e
@[simp] theorem c_r09_Strict : cfun Try.prog n_r09_Strict = some r09_Strict := by kernel_rfl
@[simp] theorem e_r09_Strict : hasBody Try.prog n_r09_Strict = true := by kernel_rfl

/- r09_Same: patchbay/patchbayref09.Same -/
abbrev r09_Same_p0 : List AG := [o 4 (.mv (.c (.bool true)))]
abbrev r09_Same_m1 : List Bool := [O,O,I,I,O,I,O,O,O,O,O,O,O,O,O,O,O,O,O,O,O,O,O,O,O,O,O,O,O,O,O,O,O,O,O,O,O,O,O,O,O,O,O,O,O,O,O,O,O,O,O,O,O,O,O,O,O,O,O,O,O,O]
abbrev r09_Same_x1 : List Bool := [O,O,O,O,O,O,O,O,O,O,O,O,O,O,O,O,O,O,O,O,O,O,O,O,O,O,O,O,O,O,O,O,O,O,O,O,O,O,O,O,O,O,O,O,O,O,O,O,O,O,O,O,O,O,O,O,O,O,O,O,O,O]
abbrev r09_Same_p2 : List AG := [o 49 (.mv (.t 5)), o 50 (.ibin .add (.t 49) (.c (.int .i64 1))), o 5 (.mv (.t 50))]
abbrev r09_Same_p3 : List AG := [o 4 (.mv (.c (.bool false)))]
abbrev r09_Same_p4 : ACode := (.seq (.reg r09_Same_p3) .ret)
abbrev r09_Same_p5 : List AG := [o 51 (.off 3 (.t 2)), o 52 (.load false 1 (.t 51)), o 53 (.mv (.t 5)), o 54 (.ixAddr 2 (.t 52) (.t 53)), o 55 (.load true 2 (.t 54)), o 56 (.off 3 (.t 3)), o 57 (.load false 1 (.t 56)), o 58 (.mv (.t 5)), o 59 (.ixAddr 2 (.t 57) (.t 58)), o 60 (.load true 2 (.t 59)), o 61 (.cmp .neq (.strct [.int, .int]) (.t 55) (.t 60))]
abbrev r09_Same_p6 : ACode := (.seq (.dreg [O,O,O,O,O,O,O,O,O,O,O] [12,12,12,12,12,12,12,12,12,12,12] r09_Same_p5) (.cond (.t 61) r09_Same_p4 .skip))
abbrev r09_Same_p7 : List AG := [o 44 (.mv (.t 5)), o 45 (.off 3 (.t 2)), o 46 (.load false 1 (.t 45)), o 47 (.len (.t 46)), o 48 (.cmp .lss (.sc .int) (.t 44) (.t 47))]
abbrev r09_Same_b1 : ACode := (.seq (.seq (.reg r09_Same_p7) (.cond (.t 48) .skip (.exit 0))) (.seq (.block 1 [] r09_Same_p6) (.reg r09_Same_p2)))
abbrev r09_Same_p8 : List AG := [o 5 (.mv (.c (.int .i64 0)))]
abbrev r09_Same_p9 : List AG := [o 4 (.mv (.c (.bool false)))]
abbrev r09_Same_p10 : ACode := (.seq (.reg r09_Same_p9) .ret)
abbrev r09_Same_p11 : List AG := [o 6 (.off 0 (.t 2)), o 7 (.load false 1 (.t 6)), o 8 (.off 0 (.t 3)), o 9 (.load false 1 (.t 8)), o 10 (.cmp .neq (.sc .int) (.t 7) (.t 9)), o 11 (.mv (.t 10)), on 12 11 (.off 1 (.t 2)), on 13 11 (.load false 1 (.t 12)), on 14 11 (.off 1 (.t 3)), on 15 11 (.load false 1 (.t 14)), on 16 11 (.call (.f n_r01_Ints) [(.t 13), (.t 15)]), on 17 11 (.not (.t 16)), o 18 (.pick (.t 11) (.c (.bool true)) (.t 17)), o 19 (.mv (.t 18)), on 20 19 (.off 2 (.t 2)), on 21 19 (.load false 1 (.t 20)), on 22 19 (.off 2 (.t 3)), on 23 19 (.load false 1 (.t 22)), on 24 19 (.call (.f n_r01_Ints) [(.t 21), (.t 23)]), on 25 19 (.not (.t 24)), o 26 (.pick (.t 19) (.c (.bool true)) (.t 25)), o 27 (.mv (.t 26)), on 28 27 (.off 4 (.t 2)), on 29 27 (.load false 1 (.t 28)), on 30 27 (.off 4 (.t 3)), on 31 27 (.load false 1 (.t 30)), on 32 27 (.call (.f n_r01_Ints) [(.t 29), (.t 31)]), on 33 27 (.not (.t 32)), o 34 (.pick (.t 27) (.c (.bool true)) (.t 33)), o 35 (.mv (.t 34)), on 36 35 (.off 3 (.t 2)), on 37 35 (.load false 1 (.t 36)), on 38 35 (.len (.t 37)), on 39 35 (.off 3 (.t 3)), on 40 35 (.load false 1 (.t 39)), on 41 35 (.len (.t 40)), on 42 35 (.cmp .neq (.sc .int) (.t 38) (.t 41)), o 43 (.pick (.t 35) (.c (.bool true)) (.t 42))]
abbrev r09_Same_p12 : List AG := [o 2 (.box 5 (.t 0)), o 3 (.box 5 (.t 1)), o 4 (.mv (.c (.bool false)))]
abbrev r09_Same : AFun := ⟨(.seq (.reg r09_Same_p12) (.seq (.seq (.reg r09_Same_p11) (.cond (.t 43) r09_Same_p10 .skip)) (.seq (.seq (.reg r09_Same_p8) (.block 0 r09_Same_x1 (.loop r09_Same_m1 r09_Same_b1))) (.seq (.reg r09_Same_p0) .ret)))), 62, [.tmp 4]⟩
abbrev r09_Same_k1 : List It := [.code (.seq (.reg r09_Same_p0) .ret)]
abbrev r09_Same_L1 (x2 x3 x5 : AV) (h : List Ob) (e : Cx := cx) : Cfg := atC n_r09_Same (.code r09_Same_b1 :: .inLoop r09_Same_m1 r09_Same_b1 :: .inBlock 0 r09_Same_x1 :: r09_Same_k1) [U,U,x2,x3,U,x5,U,U,U,U,U,U,U,U,U,U,U,U,U,U,U,U,U,U,U,U,U,U,U,U,U,U,U,U,U,U,U,U,U,U,U,U,U,U,U,U,U,U,U,U,U,U,U,U,U,U,U,U,U,U,U,U] h e
abbrev r09_Same_E1 (h : List Ob) (e : Cx := cx) : Cfg := atC n_r09_Same r09_Same_k1 [U,U,U,U,U,U,U,U,U,U,U,U,U,U,U,U,U,U,U,U,U,U,U,U,U,U,U,U,U,U,U,U,U,U,U,U,U,U,U,U,U,U,U,U,U,U,U,U,U,U,U,U,U,U,U,U,U,U,U,U,U,U] h e
@[simp] theorem c_r09_Same : cfun Try.prog n_r09_Same = some r09_Same := by kernel_rfl
@[simp] theorem e_r09_Same : hasBody Try.prog n_r09_Same = true := by kernel_rfl

/- aig_Check: patchbay/aig.Check -/
abbrev aig_Check_p0 : List AG := [o 2 (.mv (.c (.int .i64 0)))]
abbrev aig_Check_m1 : List Bool := [O,I,O,O,O,O,O,O,O,O,O,O,O,O,O,O,O,O,O,O,O,O,O,O,O,O,O,O,O,O,O,O,O,O,O,O,O,O,O,O,O,O,O,O,O,O,O,O,O,O,O,O,O,O,O,O,O,O,O,O,O,O,O,O,O,O,O,O,O,O,I,I,I,O,O,O,O,O,O,O,O,O,O,O,O,O,O,O,O,O,O,O,O,O,O,O,O,O,O,O,O,O,O]
abbrev aig_Check_x1 : List Bool := [O,O,O,O,O,O,O,O,O,O,O,O,O,O,O,O,O,O,O,O,O,O,O,O,O,O,O,O,O,O,O,O,O,O,O,O,O,O,O,O,O,O,O,O,O,O,O,O,O,O,O,O,O,O,O,O,O,O,O,O,O,O,O,O,O,O,O,O,O,O,O,O,O,O,O,O,O,O,O,O,O,O,O,O,O,O,O,O,O,O,O,O,O,O,O,O,O,O,O,O,O,O,O]
abbrev aig_Check_p2 : List AG := [o 102 (.ibin .add (.t 72) (.c (.int .i64 1))), o 72 (.mv (.t 102))]
abbrev aig_Check_p3 : List AG := [o 2 (.mv (.c (.int .i64 1)))]
abbrev aig_Check_p4 : ACode := (.seq (.reg aig_Check_p3) .ret)
abbrev aig_Check_p5 : List AG := [o 82 (.arrAddr 2 1 (.t 7) (.c (.int .i64 0))), o 83 (.load false 1 (.t 82)), o 84 (.cmp .lss (.sc .int) (.t 83) (.c (.int .i64 0))), o 85 (.mv (.t 84)), on 86 85 (.arrAddr 2 1 (.t 7) (.c (.int .i64 1))), on 87 85 (.load false 1 (.t 86)), on 88 85 (.cmp .lss (.sc .int) (.t 87) (.c (.int .i64 0))), o 89 (.pick (.t 85) (.c (.bool true)) (.t 88)), o 90 (.mv (.t 89)), on 91 90 (.arrAddr 2 1 (.t 7) (.c (.int .i64 0))), on 92 90 (.load false 1 (.t 91)), on 93 90 (.mv (.t 8)), on 94 90 (.cmp .geq (.sc .int) (.t 92) (.t 93)), o 95 (.pick (.t 90) (.c (.bool true)) (.t 94)), o 96 (.mv (.t 95)), on 97 96 (.arrAddr 2 1 (.t 7) (.c (.int .i64 1))), on 98 96 (.load false 1 (.t 97)), on 99 96 (.mv (.t 8)), on 100 96 (.cmp .geq (.sc .int) (.t 98) (.t 99)), o 101 (.pick (.t 96) (.c (.bool true)) (.t 100))]
abbrev aig_Check_p6 : List AG := [o 77 (.load true 5 (.t 1)), o 78 (.call (.f n_aig_first) [(.t 77)]), o 79 (.mv (.t 6)), o 80 (.ibin .add (.t 78) (.t 79)), o 81 (.ibin .mul (.c (.int .i64 2)) (.t 80)), o 8 (.mv (.t 81))]
abbrev aig_Check_p7 : List AG := [o 74 (.mv (.t 72)), o 75 (.ixAddr 2 (.t 70) (.t 72)), o 76 (.load true 2 (.t 75)), o 7 (.alloc [(.int .i64 0), (.int .i64 0)]), o 6 (.mv (.t 74)), q (.store 2 (.t 7) (.t 76))]
abbrev aig_Check_p8 : ACode := (.seq (.reg aig_Check_p7) (.seq (.reg aig_Check_p6) (.seq (.reg aig_Check_p5) (.cond (.t 101) aig_Check_p4 .skip))))
abbrev aig_Check_p9 : List AG := [o 73 (.cmp .lss (.sc .int) (.t 72) (.t 71))]
abbrev aig_Check_b1 : ACode := (.seq (.reg aig_Check_p9) (.seq (.cond (.t 73) .skip (.exit 0)) (.seq (.block 1 [] aig_Check_p8) (.reg aig_Check_p2))))
abbrev aig_Check_p10 : List AG := [o 69 (.off 3 (.t 1)), o 70 (.load false 1 (.t 69)), o 71 (.len (.t 70)), o 72 (.mv (.c (.int .i64 0)))]
abbrev aig_Check_p11 : List AG := [o 2 (.mv (.c (.int .i64 1)))]
abbrev aig_Check_p12 : ACode := (.seq (.reg aig_Check_p11) .ret)
abbrev aig_Check_p13 : List AG := [o 44 (.off 2 (.t 1)), o 45 (.load false 1 (.t 44)), o 46 (.len (.t 45)), o 47 (.off 1 (.t 1)), o 48 (.load false 1 (.t 47)), o 49 (.len (.t 48)), o 50 (.cmp .neq (.sc .int) (.t 46) (.t 49)), o 51 (.mv (.t 50)), on 52 51 (.off 2 (.t 1)), on 53 51 (.load false 1 (.t 52)), on 54 51 (.mv (.t 5)), on 55 51 (.call (.f n_slices_ContainsFunc_int_int) [(.t 53), (.t 54)]), o 56 (.pick (.t 51) (.c (.bool true)) (.t 55)), o 57 (.mv (.t 56)), on 58 57 (.off 1 (.t 1)), on 59 57 (.load false 1 (.t 58)), on 60 57 (.mv (.t 4)), on 61 57 (.call (.f n_slices_ContainsFunc_int_int) [(.t 59), (.t 60)]), o 62 (.pick (.t 57) (.c (.bool true)) (.t 61)), o 63 (.mv (.t 62)), on 64 63 (.off 4 (.t 1)), on 65 63 (.load false 1 (.t 64)), on 66 63 (.mv (.t 4)), on 67 63 (.call (.f n_slices_ContainsFunc_int_int) [(.t 65), (.t 66)]), o 68 (.pick (.t 63) (.c (.bool true)) (.t 67))]
abbrev aig_Check_p14 : List AG := [o 5 (.mv (.f n_aig_Check_2))]
abbrev aig_Check_p15 : List AG := [o 43 (.mkFunc (.func n_aig_Check_1) [] [(.t 3)]), o 4 (.mv (.t 43))]
abbrev aig_Check_p16 : List AG := [o 36 (.load true 5 (.t 1)), o 37 (.call (.f n_aig_first) [(.t 36)]), o 38 (.off 3 (.t 1)), o 39 (.load false 1 (.t 38)), o 40 (.len (.t 39)), o 41 (.ibin .add (.t 37) (.t 40)), o 42 (.ibin .mul (.c (.int .i64 2)) (.t 41)), o 3 (.alloc [(.int .i64 0)]), q (.store 1 (.t 3) (.t 42))]
abbrev aig_Check_p17 : List AG := [o 2 (.mv (.c (.int .i64 8)))]
abbrev aig_Check_p18 : ACode := (.seq (.reg aig_Check_p17) .ret)
abbrev aig_Check_p19 : List AG := [o 9 (.off 0 (.t 1)), o 10 (.load false 1 (.t 9)), o 11 (.cmp .lss (.sc .int) (.t 10) (.c (.int .i64 0))), o 12 (.mv (.t 11)), on 13 12 (.off 0 (.t 1)), on 14 12 (.load false 1 (.t 13)), on 15 12 (.cmp .gtr (.sc .int) (.t 14) (.c (.int .i64 4000))), o 16 (.pick (.t 12) (.c (.bool true)) (.t 15)), o 17 (.mv (.t 16)), on 18 17 (.off 0 (.t 1)), on 19 17 (.load false 1 (.t 18)), on 20 17 (.off 1 (.t 1)), on 21 17 (.load false 1 (.t 20)), on 22 17 (.len (.t 21)), on 23 17 (.ibin .add (.t 19) (.t 22)), on 24 17 (.off 3 (.t 1)), on 25 17 (.load false 1 (.t 24)), on 26 17 (.len (.t 25)), on 27 17 (.ibin .add (.t 23) (.t 26)), on 28 17 (.cmp .gtr (.sc .int) (.t 27) (.c (.int .i64 4000))), o 29 (.pick (.t 17) (.c (.bool true)) (.t 28)), o 30 (.mv (.t 29)), on 31 30 (.off 4 (.t 1)), on 32 30 (.load false 1 (.t 31)), on 33 30 (.len (.t 32)), on 34 30 (.cmp .gtr (.sc .int) (.t 33) (.c (.int .i64 4000))), o 35 (.pick (.t 30) (.c (.bool true)) (.t 34))]
abbrev aig_Check_p20 : List AG := [o 1 (.box 5 (.t 0)), o 2 (.mv (.c (.int .i64 0)))]
abbrev aig_Check : AFun := ⟨(.seq (.reg aig_Check_p20) (.seq (.seq (.reg aig_Check_p19) (.cond (.t 35) aig_Check_p18 .skip)) (.seq (.dreg [I,I,O,I,O,O,O,O,O] [9,9,9,9,9,9,9,9,10] aig_Check_p16) (.seq (.reg aig_Check_p15) (.seq (.reg aig_Check_p14) (.seq (.seq (.reg aig_Check_p13) (.cond (.t 68) aig_Check_p12 .skip)) (.seq (.seq (.reg aig_Check_p10) (.block 0 aig_Check_x1 (.loop aig_Check_m1 aig_Check_b1))) (.seq (.reg aig_Check_p0) .ret)))))))), 103, [.tmp 2]⟩
abbrev aig_Check_k1 : List It := [.code (.seq (.reg aig_Check_p0) .ret)]
abbrev aig_Check_L1 (x1 x70 x71 x72 : AV) (h : List Ob) (e : Cx := cx) : Cfg := atC n_aig_Check (.code aig_Check_b1 :: .inLoop aig_Check_m1 aig_Check_b1 :: .inBlock 0 aig_Check_x1 :: aig_Check_k1) [U,x1,U,U,U,U,U,U,U,U,U,U,U,U,U,U,U,U,U,U,U,U,U,U,U,U,U,U,U,U,U,U,U,U,U,U,U,U,U,U,U,U,U,U,U,U,U,U,U,U,U,U,U,U,U,U,U,U,U,U,U,U,U,U,U,U,U,U,U,U,x70,x71,x72,U,U,U,U,U,U,U,U,U,U,U,U,U,U,U,U,U,U,U,U,U,U,U,U,U,U,U,U,U,U] h e
abbrev aig_Check_E1 (h : List Ob) (e : Cx := cx) : Cfg := atC n_aig_Check aig_Check_k1 [U,U,U,U,U,U,U,U,U,U,U,U,U,U,U,U,U,U,U,U,U,U,U,U,U,U,U,U,U,U,U,U,U,U,U,U,U,U,U,U,U,U,U,U,U,U,U,U,U,U,U,U,U,U,U,U,U,U,U,U,U,U,U,U,U,U,U,U,U,U,U,U,U,U,U,U,U,U,U,U,U,U,U,U,U,U,U,U,U,U,U,U,U,U,U,U,U,U,U,U,U,U,U] h e
@[simp] theorem c_aig_Check : cfun Try.prog n_aig_Check = some aig_Check := by kernel_rfl
@[simp] theorem e_aig_Check : hasBody Try.prog n_aig_Check = true := by kernel_rfl

/- aig_Strict: patchbay/aig.Strict -/
abbrev aig_Strict_p0 : List AG := [o 2 (.mv (.c (.bool true)))]
abbrev aig_Strict_m1 : List Bool := [O,I,O,I,O,O,O,O,O,O,O,O,I,I,I,O,O,O,O,O,O,O,O,O,O,O,O,O,O,O,O,O,O,O,O,O,O,O,O,O,O,O,O,O,O,O,O,O,O,O,O,O,O,O,O,O,O]
abbrev aig_Strict_x1 : List Bool := [O,O,O,O,O,O,O,O,O,O,O,O,O,O,O,O,O,O,O,O,O,O,O,O,O,O,O,O,O,O,O,O,O,O,O,O,O,O,O,O,O,O,O,O,O,O,O,O,O,O,O,O,O,O,O,O,O]
abbrev aig_Strict_p2 : List AG := [o 56 (.ibin .add (.t 14) (.c (.int .i64 1))), o 14 (.mv (.t 56))]
abbrev aig_Strict_p3 : List AG := [o 2 (.mv (.c (.bool false)))]
abbrev aig_Strict_p4 : ACode := (.seq (.reg aig_Strict_p3) .ret)
abbrev aig_Strict_p5 : List AG := [o 19 (.arrAddr 2 1 (.t 5) (.c (.int .i64 0))), o 20 (.load false 1 (.t 19)), o 21 (.arrAddr 2 1 (.t 5) (.c (.int .i64 1))), o 22 (.load false 1 (.t 21)), o 23 (.cmp .leq (.sc .int) (.t 20) (.t 22)), o 24 (.mv (.t 23)), on 25 24 (.arrAddr 2 1 (.t 5) (.c (.int .i64 1))), on 26 24 (.load false 1 (.t 25)), on 27 24 (.cmp .leq (.sc .int) (.t 26) (.c (.int .i64 1))), o 28 (.pick (.t 24) (.c (.bool true)) (.t 27)), o 29 (.mv (.t 28)), on 30 29 (.arrAddr 2 1 (.t 5) (.c (.int .i64 0))), on 31 29 (.load false 1 (.t 30)), on 32 29 (.ibin .shr (.t 31) (.c (.int .u64 1))), on 33 29 (.arrAddr 2 1 (.t 5) (.c (.int .i64 1))), on 34 29 (.load false 1 (.t 33)), on 35 29 (.ibin .shr (.t 34) (.c (.int .u64 1))), on 36 29 (.cmp .eql (.sc .int) (.t 32) (.t 35)), o 37 (.pick (.t 29) (.c (.bool true)) (.t 36)), o 38 (.mv (.t 37)), on 39 38 (.mv (.t 3)), on 40 38 (.load true 5 (.t 1)), on 41 38 (.call (.f n_aig_first) [(.t 40)]), on 42 38 (.mv (.t 4)), on 43 38 (.ibin .add (.t 41) (.t 42)), on 44 38 (.ixAddr 1 (.t 39) (.t 43)), on 45 38 (.load false 1 (.t 44)), on 46 38 (.not (.t 45)), o 47 (.pick (.t 38) (.c (.bool true)) (.t 46)), o 48 (.mv (.t 47)), on 49 48 (.off 3 (.t 1)), on 50 48 (.load false 1 (.t 49)), on 51 48 (.mv (.t 4)), on 52 48 (.slice 2 (.t 50) none (some (.t 51))), on 53 48 (.load true 2 (.t 5)), on 54 48 (.call (.f n_slices_Contains_2_int_2_int) [(.t 52), (.t 53)]), o 55 (.pick (.t 48) (.c (.bool true)) (.t 54))]
abbrev aig_Strict_p6 : List AG := [o 16 (.mv (.t 14)), o 17 (.ixAddr 2 (.t 12) (.t 14)), o 18 (.load true 2 (.t 17)), o 5 (.alloc [(.int .i64 0), (.int .i64 0)]), o 4 (.mv (.t 16)), q (.store 2 (.t 5) (.t 18))]
abbrev aig_Strict_p7 : ACode := (.seq (.reg aig_Strict_p6) (.seq (.dreg [O,O,O,O,O,O,O,O,O,O,O,O,O,O,O,O,O,O,O,O,O,O,O,O,O,O,O,O,O,O,O,O,O,O,O,O,O] [23,23,23,23,23,23,23,23,23,23,23,23,23,23,23,23,23,23,23,23,36,23,36,36,36,36,36,36,36,36,36,36,36,36,36,38,38] aig_Strict_p5) (.cond (.t 55) aig_Strict_p4 .skip)))
abbrev aig_Strict_p8 : List AG := [o 15 (.cmp .lss (.sc .int) (.t 14) (.t 13))]
abbrev aig_Strict_b1 : ACode := (.seq (.reg aig_Strict_p8) (.seq (.cond (.t 15) .skip (.exit 0)) (.seq (.block 1 [] aig_Strict_p7) (.reg aig_Strict_p2))))
abbrev aig_Strict_p9 : List AG := [o 11 (.off 3 (.t 1)), o 12 (.load false 1 (.t 11)), o 13 (.len (.t 12)), o 14 (.mv (.c (.int .i64 0)))]
abbrev aig_Strict_p10 : List AG := [o 9 (.load true 5 (.t 1)), o 10 (.call (.f n_aig_led) [(.t 9)]), o 3 (.mv (.t 10))]
abbrev aig_Strict_p11 : List AG := [o 2 (.mv (.c (.bool false)))]
abbrev aig_Strict_p12 : ACode := (.seq (.reg aig_Strict_p11) .ret)
abbrev aig_Strict_p13 : List AG := [o 6 (.load true 5 (.t 1)), o 7 (.call (.f n_aig_Check) [(.t 6)]), o 8 (.cmp .neq (.sc .int) (.t 7) (.c (.int .i64 0)))]
abbrev aig_Strict_p14 : List AG := [o 1 (.box 5 (.t 0)), o 2 (.mv (.c (.bool false)))]
abbrev aig_Strict : AFun := ⟨(.seq (.reg aig_Strict_p14) (.seq (.seq (.reg aig_Strict_p13) (.cond (.t 8) aig_Strict_p12 .skip)) (.seq (.reg aig_Strict_p10) (.seq (.seq (.reg aig_Strict_p9) (.block 0 aig_Strict_x1 (.loop aig_Strict_m1 aig_Strict_b1))) (.seq (.reg aig_Strict_p0) .ret))))), 57, [.tmp 2]⟩
abbrev aig_Strict_k1 : List It := [.code (.seq (.reg aig_Strict_p0) .ret)]
abbrev aig_Strict_L1 (x1 x3 x12 x13 x14 : AV) (h : List Ob) (e : Cx := cx) : Cfg := atC n_aig_Strict (.code aig_Strict_b1 :: .inLoop aig_Strict_m1 aig_Strict_b1 :: .inBlock 0 aig_Strict_x1 :: aig_Strict_k1) [U,x1,U,x3,U,U,U,U,U,U,U,U,x12,x13,x14,U,U,U,U,U,U,U,U,U,U,U,U,U,U,U,U,U,U,U,U,U,U,U,U,U,U,U,U,U,U,U,U,U,U,U,U,U,U,U,U,U,U] h e
abbrev aig_Strict_E1 (h : List Ob) (e : Cx := cx) : Cfg := atC n_aig_Strict aig_Strict_k1 [U,U,U,U,U,U,U,U,U,U,U,U,U,U,U,U,U,U,U,U,U,U,U,U,U,U,U,U,U,U,U,U,U,U,U,U,U,U,U,U,U,U,U,U,U,U,U,U,U,U,U,U,U,U,U,U,U] h e
@[simp] theorem c_aig_Strict : cfun Try.prog n_aig_Strict = some aig_Strict := by kernel_rfl
@[simp] theorem e_aig_Strict : hasBody Try.prog n_aig_Strict = true := by kernel_rfl

/- aig_Same: patchbay/aig.Same -/
abbrev aig_Same_p0 : List AG := [o 5 (.off 0 (.t 2)), o 6 (.load false 1 (.t 5)), o 7 (.off 0 (.t 3)), o 8 (.load false 1 (.t 7)), o 9 (.cmp .eql (.sc .int) (.t 6) (.t 8)), o 10 (.mv (.t 9)), oy 11 10 (.off 1 (.t 2)), oy 12 10 (.load false 1 (.t 11)), oy 13 10 (.off 1 (.t 3)), oy 14 10 (.load false 1 (.t 13)), oy 15 10 (.call (.f n_slices_Equal_int_int) [(.t 12), (.t 14)]), o 16 (.pick (.t 10) (.t 15) (.c (.bool false))), o 17 (.mv (.t 16)), oy 18 17 (.off 2 (.t 2)), oy 19 17 (.load false 1 (.t 18)), oy 20 17 (.off 2 (.t 3)), oy 21 17 (.load false 1 (.t 20)), oy 22 17 (.call (.f n_slices_Equal_int_int) [(.t 19), (.t 21)]), o 23 (.pick (.t 17) (.t 22) (.c (.bool false))), o 24 (.mv (.t 23)), oy 25 24 (.off 3 (.t 2)), oy 26 24 (.load false 1 (.t 25)), oy 27 24 (.off 3 (.t 3)), oy 28 24 (.load false 1 (.t 27)), oy 29 24 (.call (.f n_slices_Equal_2_int_2_int) [(.t 26), (.t 28)]), o 30 (.pick (.t 24) (.t 29) (.c (.bool false))), o 31 (.mv (.t 30)), oy 32 31 (.off 4 (.t 2)), oy 33 31 (.load false 1 (.t 32)), oy 34 31 (.off 4 (.t 3)), oy 35 31 (.load false 1 (.t 34)), oy 36 31 (.call (.f n_slices_Equal_int_int) [(.t 33), (.t 35)]), o 37 (.pick (.t 31) (.t 36) (.c (.bool false))), o 4 (.mv (.t 37))]
abbrev aig_Same_p1 : List AG := [o 2 (.box 5 (.t 0)), o 3 (.box 5 (.t 1)), o 4 (.mv (.c (.bool false)))]
abbrev aig_Same : AFun := ⟨(.seq (.reg aig_Same_p1) (.seq (.reg aig_Same_p0) .ret)), 38, [.tmp 4]⟩
@[simp] theorem c_aig_Same : cfun Try.prog n_aig_Same = some aig_Same := by kernel_rfl
@[simp] theorem e_aig_Same : hasBody Try.prog n_aig_Same = true := by kernel_rfl

/- aig_Values: patchbay/aig.Values -/
abbrev aig_Values_p0 : List AG := [o 56 (.mv (.t 9)), o 6 (.mv (.t 56)), o 7 (.mv (.c (.int .i64 0)))]
abbrev aig_Values_m1 : List Bool := [O,O,O,O,O,O,O,O,O,I,O,O,O,O,O,O,O,O,O,O,O,O,O,O,O,O,O,O,O,O,O,O,O,O,O,O,I,I,I,O,O,O,O,O,O,O,O,O,O,O,O,O,O,O,O,O,O]
abbrev aig_Values_x1 : List Bool := [O,O,O,O,O,O,O,O,O,I,O,O,O,O,O,O,O,O,O,O,O,O,O,O,O,O,O,O,O,O,O,O,O,O,O,O,O,O,O,O,O,O,O,O,O,O,O,O,O,O,O,O,O,O,O,O,O]
abbrev aig_Values_p2 : List AG := [o 55 (.ibin .add (.t 38) (.c (.int .i64 1))), o 38 (.mv (.t 55))]
abbrev aig_Values_p3 : List AG := [o 42 (.mv (.t 9)), o 43 (.mv (.t 9)), o 44 (.arrAddr 2 1 (.t 11) (.c (.int .i64 0))), o 45 (.load false 1 (.t 44)), o 46 (.call (.f n_aig_value) [(.t 43), (.t 45)]), o 47 (.mv (.t 46)), oy 48 47 (.mv (.t 9)), oy 49 47 (.arrAddr 2 1 (.t 11) (.c (.int .i64 1))), oy 50 47 (.load false 1 (.t 49)), oy 51 47 (.call (.f n_aig_value) [(.t 48), (.t 50)]), o 52 (.pick (.t 47) (.t 51) (.c (.bool false))), o 53 (.lit 1 [(.bool false)] [(0, (.t 52))]), o 54 (.append 1 t_bool 1 (.t 42) (.t 53)), o 9 (.mv (.t 54))]
abbrev aig_Values_p4 : List AG := [o 40 (.ixAddr 2 (.t 36) (.t 38)), o 41 (.load true 2 (.t 40)), o 11 (.alloc [(.int .i64 0), (.int .i64 0)]), q (.store 2 (.t 11) (.t 41))]
abbrev aig_Values_p5 : ACode := (.seq (.reg aig_Values_p4) (.reg aig_Values_p3))
abbrev aig_Values_p6 : List AG := [o 39 (.cmp .lss (.sc .int) (.t 38) (.t 37))]
abbrev aig_Values_b1 : ACode := (.seq (.reg aig_Values_p6) (.seq (.cond (.t 39) .skip (.exit 0)) (.seq (.block 1 [] aig_Values_p5) (.reg aig_Values_p2))))
abbrev aig_Values_p7 : List AG := [o 35 (.off 3 (.t 3)), o 36 (.load false 1 (.t 35)), o 37 (.len (.t 36)), o 38 (.mv (.c (.int .i64 0)))]
abbrev aig_Values_p8 : List AG := [o 30 (.lit 1 [(.bool false)] [(0, (.c (.bool false)))]), o 31 (.mv (.t 2)), o 32 (.mv (.t 1)), o 33 (.lit 1 [(.list true 0 []), (.list true 0 []), (.list true 0 [])] [(0, (.t 30)), (1, (.t 31)), (2, (.t 32))]), o 34 (.call (.f n_slices_Concat_bool_bool) [(.t 33)]), o 9 (.mv (.t 34))]
abbrev aig_Values_p9 : List AG := [o 6 (.nilrow 1 t_bool), o 7 (.mv (.c (.int .i64 11)))]
abbrev aig_Values_p10 : ACode := (.seq (.reg aig_Values_p9) .ret)
abbrev aig_Values_p11 : List AG := [o 17 (.mv (.t 1)), o 18 (.len (.t 17)), o 19 (.off 1 (.t 3)), o 20 (.load false 1 (.t 19)), o 21 (.len (.t 20)), o 22 (.cmp .neq (.sc .int) (.t 18) (.t 21)), o 23 (.mv (.t 22)), on 24 23 (.mv (.t 2)), on 25 23 (.len (.t 24)), on 26 23 (.off 0 (.t 3)), on 27 23 (.load false 1 (.t 26)), on 28 23 (.cmp .neq (.sc .int) (.t 25) (.t 27)), o 29 (.pick (.t 23) (.c (.bool true)) (.t 28))]
abbrev aig_Values_p12 : List AG := [o 16 (.mv (.t 8)), o 6 (.nilrow 1 t_bool), o 7 (.mv (.t 16))]
abbrev aig_Values_p13 : ACode := (.seq (.reg aig_Values_p12) .ret)
abbrev aig_Values_p14 : List AG := [o 14 (.mv (.t 8)), o 15 (.cmp .neq (.sc .int) (.t 14) (.c (.int .i64 0)))]
abbrev aig_Values_p15 : List AG := [o 12 (.load true 5 (.t 3)), o 13 (.call (.f n_aig_Check) [(.t 12)]), o 8 (.mv (.t 13))]
abbrev aig_Values_p16 : List AG := [o 3 (.box 5 (.t 0)), o 6 (.nilrow 1 t_bool), o 7 (.mv (.c (.int .i64 0)))]
abbrev aig_Values : AFun := ⟨(.seq (.reg aig_Values_p16) (.seq (.seq (.reg aig_Values_p15) (.seq (.reg aig_Values_p14) (.cond (.t 15) aig_Values_p13 .skip))) (.seq (.seq (.reg aig_Values_p11) (.cond (.t 29) aig_Values_p10 .skip)) (.seq (.reg aig_Values_p8) (.seq (.seq (.reg aig_Values_p7) (.block 0 aig_Values_x1 (.loop aig_Values_m1 aig_Values_b1))) (.seq (.reg aig_Values_p0) .ret)))))), 57, [.tmp 6, .tmp 7]⟩
abbrev aig_Values_k1 : List It := [.code (.seq (.reg aig_Values_p0) .ret)]
abbrev aig_Values_L1 (x9 x36 x37 x38 : AV) (h : List Ob) (e : Cx := cx) : Cfg := atC n_aig_Values (.code aig_Values_b1 :: .inLoop aig_Values_m1 aig_Values_b1 :: .inBlock 0 aig_Values_x1 :: aig_Values_k1) [U,U,U,U,U,U,U,U,U,x9,U,U,U,U,U,U,U,U,U,U,U,U,U,U,U,U,U,U,U,U,U,U,U,U,U,U,x36,x37,x38,U,U,U,U,U,U,U,U,U,U,U,U,U,U,U,U,U,U] h e
abbrev aig_Values_E1 (x9 : AV) (h : List Ob) (e : Cx := cx) : Cfg := atC n_aig_Values aig_Values_k1 [U,U,U,U,U,U,U,U,U,x9,U,U,U,U,U,U,U,U,U,U,U,U,U,U,U,U,U,U,U,U,U,U,U,U,U,U,U,U,U,U,U,U,U,U,U,U,U,U,U,U,U,U,U,U,U,U,U] h e
@[simp] theorem c_aig_Values : cfun Try.prog n_aig_Values = some aig_Values := by kernel_rfl
@[simp] theorem e_aig_Values : hasBody Try.prog n_aig_Values = true := by kernel_rfl

/- r09_Values: patchbay/patchbayref09.Values -/
abbrev r09_Values_p0 : List AG := [o 64 (.mv (.t 9)), o 6 (.mv (.t 64)), o 7 (.mv (.c (.int .i64 0)))]
abbrev r09_Values_m1 : List Bool := [O,O,O,I,O,O,O,O,O,I,I,O,O,O,O,O,O,O,O,O,O,O,O,O,O,O,O,O,O,O,O,O,O,O,O,O,O,O,O,O,O,O,O,O,O,O,O,O,O,O,O,O,O,O,O,O,O,O,O,O,O,O,O,O,O]
abbrev r09_Values_x1 : List Bool := [O,O,O,O,O,O,O,O,O,I,O,O,O,O,O,O,O,O,O,O,O,O,O,O,O,O,O,O,O,O,O,O,O,O,O,O,O,O,O,O,O,O,O,O,O,O,O,O,O,O,O,O,O,O,O,O,O,O,O,O,O,O,O,O,O]
abbrev r09_Values_p2 : List AG := [o 41 (.mv (.t 10)), o 42 (.ibin .add (.t 41) (.c (.int .i64 1))), o 10 (.mv (.t 42))]
abbrev r09_Values_p3 : List AG := [o 43 (.mv (.t 9)), o 44 (.mv (.t 9)), o 45 (.off 3 (.t 3)), o 46 (.load false 1 (.t 45)), o 47 (.mv (.t 10)), o 48 (.ixAddr 2 (.t 46) (.t 47)), o 49 (.arrAddr 2 1 (.t 48) (.c (.int .i64 0))), o 50 (.load false 1 (.t 49)), o 51 (.call (.f n_r09_Lit) [(.t 44), (.t 50)]), o 52 (.mv (.t 51)), oy 53 52 (.mv (.t 9)), oy 54 52 (.off 3 (.t 3)), oy 55 52 (.load false 1 (.t 54)), oy 56 52 (.mv (.t 10)), oy 57 52 (.ixAddr 2 (.t 55) (.t 56)), oy 58 52 (.arrAddr 2 1 (.t 57) (.c (.int .i64 1))), oy 59 52 (.load false 1 (.t 58)), oy 60 52 (.call (.f n_r09_Lit) [(.t 53), (.t 59)]), o 61 (.pick (.t 52) (.t 60) (.c (.bool false))), o 62 (.lit 1 [(.bool false)] [(0, (.t 61))]), o 63 (.append 1 t_bool 1 (.t 43) (.t 62)), o 9 (.mv (.t 63))]
abbrev r09_Values_p4 : List AG := [o 36 (.mv (.t 10)), o 37 (.off 3 (.t 3)), o 38 (.load false 1 (.t 37)), o 39 (.len (.t 38)), o 40 (.cmp .lss (.sc .int) (.t 36) (.t 39))]
abbrev r09_Values_b1 : ACode := (.seq (.seq (.reg r09_Values_p4) (.cond (.t 40) .skip (.exit 0))) (.seq (.block 1 [] (.reg r09_Values_p3)) (.reg r09_Values_p2)))
abbrev r09_Values_p5 : List AG := [o 10 (.mv (.c (.int .i64 0)))]
abbrev r09_Values_p6 : List AG := [o 33 (.mv (.t 9)), o 34 (.mv (.t 1)), o 35 (.append 1 t_bool 1 (.t 33) (.t 34)), o 9 (.mv (.t 35))]
abbrev r09_Values_p7 : List AG := [o 30 (.mv (.t 9)), o 31 (.mv (.t 2)), o 32 (.append 1 t_bool 1 (.t 30) (.t 31)), o 9 (.mv (.t 32))]
abbrev r09_Values_p8 : List AG := [o 29 (.lit 1 [(.bool false)] [(0, (.c (.bool false)))]), o 9 (.mv (.t 29))]
abbrev r09_Values_p9 : List AG := [o 6 (.nilrow 1 t_bool), o 7 (.mv (.c (.int .i64 11)))]
abbrev r09_Values_p10 : ACode := (.seq (.reg r09_Values_p9) .ret)
abbrev r09_Values_p11 : List AG := [o 16 (.mv (.t 1)), o 17 (.len (.t 16)), o 18 (.off 1 (.t 3)), o 19 (.load false 1 (.t 18)), o 20 (.len (.t 19)), o 21 (.cmp .neq (.sc .int) (.t 17) (.t 20)), o 22 (.mv (.t 21)), on 23 22 (.mv (.t 2)), on 24 22 (.len (.t 23)), on 25 22 (.off 0 (.t 3)), on 26 22 (.load false 1 (.t 25)), on 27 22 (.cmp .neq (.sc .int) (.t 24) (.t 26)), o 28 (.pick (.t 22) (.c (.bool true)) (.t 27))]
abbrev r09_Values_p12 : List AG := [o 15 (.mv (.t 8)), o 6 (.nilrow 1 t_bool), o 7 (.mv (.t 15))]
abbrev r09_Values_p13 : ACode := (.seq (.reg r09_Values_p12) .ret)
abbrev r09_Values_p14 : List AG := [o 13 (.mv (.t 8)), o 14 (.cmp .neq (.sc .int) (.t 13) (.c (.int .i64 0)))]
abbrev r09_Values_p15 : List AG := [o 11 (.load true 5 (.t 3)), o 12 (.call (.f n_r09_Check) [(.t 11)]), o 8 (.mv (.t 12))]
abbrev r09_Values_p16 : List AG := [o 3 (.box 5 (.t 0)), o 6 (.nilrow 1 t_bool), o 7 (.mv (.c (.int .i64 0)))]
abbrev r09_Values : AFun := ⟨(.seq (.reg r09_Values_p16) (.seq (.reg r09_Values_p15) (.seq (.seq (.reg r09_Values_p14) (.cond (.t 14) r09_Values_p13 .skip)) (.seq (.seq (.reg r09_Values_p11) (.cond (.t 28) r09_Values_p10 .skip)) (.seq (.reg r09_Values_p8) (.seq (.reg r09_Values_p7) (.seq (.reg r09_Values_p6) (.seq (.seq (.reg r09_Values_p5) (.block 0 r09_Values_x1 (.loop r09_Values_m1 r09_Values_b1))) (.seq (.reg r09_Values_p0) .ret))))))))), 65, [.tmp 6, .tmp 7]⟩
abbrev r09_Values_k1 : List It := [.code (.seq (.reg r09_Values_p0) .ret)]
abbrev r09_Values_L1 (x3 x9 x10 : AV) (h : List Ob) (e : Cx := cx) : Cfg := atC n_r09_Values (.code r09_Values_b1 :: .inLoop r09_Values_m1 r09_Values_b1 :: .inBlock 0 r09_Values_x1 :: r09_Values_k1) [U,U,U,x3,U,U,U,U,U,x9,x10,U,U,U,U,U,U,U,U,U,U,U,U,U,U,U,U,U,U,U,U,U,U,U,U,U,U,U,U,U,U,U,U,U,U,U,U,U,U,U,U,U,U,U,U,U,U,U,U,U,U,U,U,U,U] h e
abbrev r09_Values_E1 (x9 : AV) (h : List Ob) (e : Cx := cx) : Cfg := atC n_r09_Values r09_Values_k1 [U,U,U,U,U,U,U,U,U,x9,U,U,U,U,U,U,U,U,U,U,U,U,U,U,U,U,U,U,U,U,U,U,U,U,U,U,U,U,U,U,U,U,U,U,U,U,U,U,U,U,U,U,U,U,U,U,U,U,U,U,U,U,U,U,U] h e
@[simp] theorem c_r09_Values : cfun Try.prog n_r09_Values = some r09_Values := by kernel_rfl
@[simp] theorem e_r09_Values : hasBody Try.prog n_r09_Values = true := by kernel_rfl

/- aig_Step: patchbay/aig.Step -/
abbrev aig_Step_p0 : List AG := [o 23 (.mv (.t 11)), o 24 (.off 4 (.t 3)), o 25 (.load false 1 (.t 24)), o 26 (.call (.t 23) [(.t 25)]), o 27 (.mv (.t 11)), o 28 (.off 1 (.t 3)), o 29 (.load false 1 (.t 28)), o 30 (.call (.t 27) [(.t 29)]), o 6 (.mv (.t 26)), o 7 (.mv (.t 30)), o 8 (.mv (.c (.int .i64 0)))]
abbrev aig_Step_p1 : List AG := [o 22 (.mkFunc (.func n_aig_Step_1) [] [(.t 9)]), o 11 (.mv (.t 22))]
abbrev aig_Step_p2 : List AG := [o 21 (.mv (.t 10)), o 6 (.nilrow 1 t_bool), o 7 (.nilrow 1 t_bool), o 8 (.mv (.t 21))]
abbrev aig_Step_p3 : ACode := (.seq (.reg aig_Step_p2) .ret)
abbrev aig_Step_p4 : List AG := [o 19 (.mv (.t 10)), o 20 (.cmp .neq (.sc .int) (.t 19) (.c (.int .i64 0)))]
abbrev aig_Step_p5 : List AG := [o 13 (.load true 5 (.t 3)), o 14 (.mv (.t 1)), o 15 (.mv (.t 2)), o 16 (.call (.f n_aig_Values) [(.t 13), (.t 14), (.t 15)]), o 12 (.mv (.t 16)), o 17 (.extract (.t 12) 0), o 18 (.extract (.t 12) 1), o 9 (.alloc [(.own 1 t_bool [])]), q (.store 1 (.t 9) (.t 17)), o 10 (.mv (.t 18))]
abbrev aig_Step_p6 : List AG := [o 3 (.box 5 (.t 0)), o 6 (.nilrow 1 t_bool), o 7 (.nilrow 1 t_bool), o 8 (.mv (.c (.int .i64 0)))]
abbrev aig_Step : AFun := ⟨(.seq (.reg aig_Step_p6) (.seq (.reg aig_Step_p5) (.seq (.seq (.reg aig_Step_p4) (.cond (.t 20) aig_Step_p3 .skip)) (.seq (.reg aig_Step_p1) (.seq (.dreg [O,O,O,O,O,O,I,O,O,O,O] [4,4,4,8,8,8,8,12,12,12,12] aig_Step_p0) .ret))))), 31, [.tmp 6, .tmp 7, .tmp 8]⟩
@[simp] theorem c_aig_Step : cfun Try.prog n_aig_Step = some aig_Step := by kernel_rfl
@[simp] theorem e_aig_Step : hasBody Try.prog n_aig_Step = true := by kernel_rfl

/- r09_Step: patchbay/patchbayref09.Step -/
abbrev r09_Step_p0 : List AG := [o 59 (.mv (.t 11)), o 60 (.mv (.t 12)), o 6 (.mv (.t 59)), o 7 (.mv (.t 60)), o 8 (.mv (.c (.int .i64 0)))]
abbrev r09_Step_m1 : List Bool := [O,O,O,I,O,O,O,O,O,I,O,I,I,O,I,O,O,O,O,O,O,O,O,O,O,O,O,O,O,O,O,O,O,O,O,O,O,O,O,O,O,O,O,O,O,O,O,O,O,O,O,O,O,O,O,O,O,O,O,O,O]
abbrev r09_Step_x1 : List Bool := [O,O,O,O,O,O,O,O,O,O,O,I,I,O,O,O,O,O,O,O,O,O,O,O,O,O,O,O,O,O,O,O,O,O,O,O,O,O,O,O,O,O,O,O,O,O,O,O,O,O,O,O,O,O,O,O,O,O,O,O,O]
abbrev r09_Step_p2 : List AG := [o 47 (.mv (.t 14)), o 48 (.ibin .add (.t 47) (.c (.int .i64 1))), o 14 (.mv (.t 48))]
abbrev r09_Step_p3 : List AG := [o 49 (.mv (.t 12)), o 50 (.mv (.t 9)), o 51 (.off 1 (.t 3)), o 52 (.load false 1 (.t 51)), o 53 (.mv (.t 14)), o 54 (.ixAddr 1 (.t 52) (.t 53)), o 55 (.load false 1 (.t 54)), o 56 (.call (.f n_r09_Lit) [(.t 50), (.t 55)]), o 57 (.lit 1 [(.bool false)] [(0, (.t 56))]), o 58 (.append 1 t_bool 1 (.t 49) (.t 57)), o 12 (.mv (.t 58))]
abbrev r09_Step_p4 : List AG := [o 42 (.mv (.t 14)), o 43 (.off 1 (.t 3)), o 44 (.load false 1 (.t 43)), o 45 (.len (.t 44)), o 46 (.cmp .lss (.sc .int) (.t 42) (.t 45))]
abbrev r09_Step_b1 : ACode := (.seq (.seq (.reg r09_Step_p4) (.cond (.t 46) .skip (.exit 2))) (.seq (.block 3 [] (.reg r09_Step_p3)) (.reg r09_Step_p2)))
abbrev r09_Step_p5 : List AG := [o 14 (.mv (.c (.int .i64 0)))]
abbrev r09_Step_m6 : List Bool := [O,O,O,I,O,O,O,O,O,I,O,I,I,I,O,O,O,O,O,O,O,O,O,O,O,O,O,O,O,O,O,O,O,O,O,O,O,O,O,O,O,O,O,O,O,O,O,O,O,O,O,O,O,O,O,O,O,O,O,O,O]
abbrev r09_Step_x6 : List Bool := [O,O,O,I,O,O,O,O,O,I,O,I,I,O,O,O,O,O,O,O,O,O,O,O,O,O,O,O,O,O,O,O,O,O,O,O,O,O,O,O,O,O,O,O,O,O,O,O,O,O,O,O,O,O,O,O,O,O,O,O,O]
abbrev r09_Step_p7 : List AG := [o 30 (.mv (.t 13)), o 31 (.ibin .add (.t 30) (.c (.int .i64 1))), o 13 (.mv (.t 31))]
abbrev r09_Step_p8 : List AG := [o 32 (.mv (.t 11)), o 33 (.mv (.t 9)), o 34 (.off 4 (.t 3)), o 35 (.load false 1 (.t 34)), o 36 (.mv (.t 13)), o 37 (.ixAddr 1 (.t 35) (.t 36)), o 38 (.load false 1 (.t 37)), o 39 (.call (.f n_r09_Lit) [(.t 33), (.t 38)]), o 40 (.lit 1 [(.bool false)] [(0, (.t 39))]), o 41 (.append 1 t_bool 1 (.t 32) (.t 40)), o 11 (.mv (.t 41))]
abbrev r09_Step_p9 : List AG := [o 25 (.mv (.t 13)), o 26 (.off 4 (.t 3)), o 27 (.load false 1 (.t 26)), o 28 (.len (.t 27)), o 29 (.cmp .lss (.sc .int) (.t 25) (.t 28))]
abbrev r09_Step_b6 : ACode := (.seq (.seq (.reg r09_Step_p9) (.cond (.t 29) .skip (.exit 0))) (.seq (.block 1 [] (.reg r09_Step_p8)) (.reg r09_Step_p7)))
abbrev r09_Step_p10 : List AG := [o 13 (.mv (.c (.int .i64 0)))]
abbrev r09_Step_p11 : List AG := [o 12 (.nilrow 1 t_bool)]
abbrev r09_Step_p12 : List AG := [o 11 (.nilrow 1 t_bool)]
abbrev r09_Step_p13 : List AG := [o 24 (.mv (.t 10)), o 6 (.nilrow 1 t_bool), o 7 (.nilrow 1 t_bool), o 8 (.mv (.t 24))]
abbrev r09_Step_p14 : ACode := (.seq (.reg r09_Step_p13) .ret)
abbrev r09_Step_p15 : List AG := [o 22 (.mv (.t 10)), o 23 (.cmp .neq (.sc .int) (.t 22) (.c (.int .i64 0)))]
abbrev r09_Step_p16 : List AG := [o 16 (.load true 5 (.t 3)), o 17 (.mv (.t 1)), o 18 (.mv (.t 2)), o 19 (.call (.f n_r09_Values) [(.t 16), (.t 17), (.t 18)]), o 15 (.mv (.t 19)), o 20 (.extract (.t 15) 0), o 21 (.extract (.t 15) 1), o 9 (.mv (.t 20)), o 10 (.mv (.t 21))]
abbrev r09_Step_p17 : List AG := [o 3 (.box 5 (.t 0)), o 6 (.nilrow 1 t_bool), o 7 (.nilrow 1 t_bool), o 8 (.mv (.c (.int .i64 0)))]
abbrev r09_Step : AFun := ⟨(.seq (.reg r09_Step_p17) (.seq (.reg r09_Step_p16) (.seq (.seq (.reg r09_Step_p15) (.cond (.t 23) r09_Step_p14 .skip)) (.seq (.reg r09_Step_p12) (.seq (.reg r09_Step_p11) (.seq (.seq (.reg r09_Step_p10) (.block 0 r09_Step_x6 (.loop r09_Step_m6 r09_Step_b6))) (.seq (.seq (.reg r09_Step_p5) (.block 2 r09_Step_x1 (.loop r09_Step_m1 r09_Step_b1))) (.seq (.reg r09_Step_p0) .ret)))))))), 61, [.tmp 6, .tmp 7, .tmp 8]⟩
abbrev r09_Step_k1 : List It := [.code (.seq (.reg r09_Step_p0) .ret)]
abbrev r09_Step_L1 (x3 x9 x11 x12 x14 : AV) (h : List Ob) (e : Cx := cx) : Cfg := atC n_r09_Step (.code r09_Step_b1 :: .inLoop r09_Step_m1 r09_Step_b1 :: .inBlock 2 r09_Step_x1 :: r09_Step_k1) [U,U,U,x3,U,U,U,U,U,x9,U,x11,x12,U,x14,U,U,U,U,U,U,U,U,U,U,U,U,U,U,U,U,U,U,U,U,U,U,U,U,U,U,U,U,U,U,U,U,U,U,U,U,U,U,U,U,U,U,U,U,U,U] h e
abbrev r09_Step_E1 (x11 x12 : AV) (h : List Ob) (e : Cx := cx) : Cfg := atC n_r09_Step r09_Step_k1 [U,U,U,U,U,U,U,U,U,U,U,x11,x12,U,U,U,U,U,U,U,U,U,U,U,U,U,U,U,U,U,U,U,U,U,U,U,U,U,U,U,U,U,U,U,U,U,U,U,U,U,U,U,U,U,U,U,U,U,U,U,U] h e
abbrev r09_Step_k6 : List It := [.code (.seq (.seq (.reg r09_Step_p5) (.block 2 r09_Step_x1 (.loop r09_Step_m1 r09_Step_b1))) (.seq (.reg r09_Step_p0) .ret))]
abbrev r09_Step_L6 (x3 x9 x11 x12 x13 : AV) (h : List Ob) (e : Cx := cx) : Cfg := atC n_r09_Step (.code r09_Step_b6 :: .inLoop r09_Step_m6 r09_Step_b6 :: .inBlock 0 r09_Step_x6 :: r09_Step_k6) [U,U,U,x3,U,U,U,U,U,x9,U,x11,x12,x13,U,U,U,U,U,U,U,U,U,U,U,U,U,U,U,U,U,U,U,U,U,U,U,U,U,U,U,U,U,U,U,U,U,U,U,U,U,U,U,U,U,U,U,U,U,U,U] h e
abbrev r09_Step_E6 (x3 x9 x11 x12 : AV) (h : List Ob) (e : Cx := cx) : Cfg := atC n_r09_Step r09_Step_k6 [U,U,U,x3,U,U,U,U,U,x9,U,x11,x12,U,U,U,U,U,U,U,U,U,U,U,U,U,U,U,U,U,U,U,U,U,U,U,U,U,U,U,U,U,U,U,U,U,U,U,U,U,U,U,U,U,U,U,U,U,U,U,U] h e
@[simp] theorem c_r09_Step : cfun Try.prog n_r09_Step = some r09_Step := by kernel_rfl
@[simp] theorem e_r09_Step : hasBody Try.prog n_r09_Step = true := by kernel_rfl

/- r08_Bools: patchbay/patchbayref08.Bools -/
abbrev r08_Bools_p0 : List AG := [o 4 (.mv (.c (.bool true)))]
abbrev r08_Bools_m1 : List Bool := [I,I,O,O,O,I,O,O,O,O,O,O,O,O,O,O,O,O,O,O,O,O,O,O,O,O]
abbrev r08_Bools_x1 : List Bool := [O,O,O,O,O,O,O,O,O,O,O,O,O,O,O,O,O,O,O,O,O,O,O,O,O,O]
abbrev r08_Bools_p2 : List AG := [o 15 (.mv (.t 5)), o 16 (.ibin .add (.t 15) (.c (.int .i64 1))), o 5 (.mv (.t 16))]
abbrev r08_Bools_p3 : List AG := [o 4 (.mv (.c (.bool false)))]
abbrev r08_Bools_p4 : ACode := (.seq (.reg r08_Bools_p3) .ret)
abbrev r08_Bools_p5 : List AG := [o 17 (.mv (.t 0)), o 18 (.mv (.t 5)), o 19 (.ixAddr 1 (.t 17) (.t 18)), o 20 (.load false 1 (.t 19)), o 21 (.mv (.t 1)), o 22 (.mv (.t 5)), o 23 (.ixAddr 1 (.t 21) (.t 22)), o 24 (.load false 1 (.t 23)), o 25 (.cmp .neq (.sc .bool) (.t 20) (.t 24))]
abbrev r08_Bools_p6 : ACode := (.seq (.dreg [O,O,O,O,O,O,O,O,O] [10,10,10,10,10,10,10,10,10] r08_Bools_p5) (.cond (.t 25) r08_Bools_p4 .skip))
abbrev r08_Bools_p7 : List AG := [o 11 (.mv (.t 5)), o 12 (.mv (.t 0)), o 13 (.len (.t 12)), o 14 (.cmp .lss (.sc .int) (.t 11) (.t 13))]
abbrev r08_Bools_b1 : ACode := (.seq (.seq (.reg r08_Bools_p7) (.cond (.t 14) .skip (.exit 0))) (.seq (.block 1 [] r08_Bools_p6) (.reg r08_Bools_p2)))
abbrev r08_Bools_p8 : List AG := [o 5 (.mv (.c (.int .i64 0)))]
abbrev r08_Bools_p9 : List AG := [o 4 (.mv (.c (.bool false)))]
abbrev r08_Bools_p10 : ACode := (.seq (.reg r08_Bools_p9) .ret)
abbrev r08_Bools_p11 : List AG := [o 6 (.mv (.t 0)), o 7 (.len (.t 6)), o 8 (.mv (.t 1)), o 9 (.len (.t 8)), o 10 (.cmp .neq (.sc .int) (.t 7) (.t 9))]
abbrev r08_Bools_p12 : List AG := [o 4 (.mv (.c (.bool false)))]
abbrev r08_Bools : AFun := ⟨(.seq (.reg r08_Bools_p12) (.seq (.seq (.reg r08_Bools_p11) (.cond (.t 10) r08_Bools_p10 .skip)) (.seq (.seq (.reg r08_Bools_p8) (.block 0 r08_Bools_x1 (.loop r08_Bools_m1 r08_Bools_b1))) (.seq (.reg r08_Bools_p0) .ret)))), 26, [.tmp 4]⟩
abbrev r08_Bools_k1 : List It := [.code (.seq (.reg r08_Bools_p0) .ret)]
abbrev r08_Bools_L1 (x0 x1 x5 : AV) (h : List Ob) (e : Cx := cx) : Cfg := atC n_r08_Bools (.code r08_Bools_b1 :: .inLoop r08_Bools_m1 r08_Bools_b1 :: .inBlock 0 r08_Bools_x1 :: r08_Bools_k1) [x0,x1,U,U,U,x5,U,U,U,U,U,U,U,U,U,U,U,U,U,U,U,U,U,U,U,U] h e
abbrev r08_Bools_E1 (h : List Ob) (e : Cx := cx) : Cfg := atC n_r08_Bools r08_Bools_k1 [U,U,U,U,U,U,U,U,U,U,U,U,U,U,U,U,U,U,U,U,U,U,U,U,U,U] h e
@[simp] theorem c_r08_Bools : cfun Try.prog n_r08_Bools = some r08_Bools := by kernel_rfl
@[simp] theorem e_r08_Bools : hasBody Try.prog n_r08_Bools = true := by kernel_rfl

/- aig_And: patchbay/aig.And -/
abbrev aig_And_p0 : List AG := [o 58 (.mv (.t 11)), o 59 (.nilck (.t 58)), o 60 (.off 0 (.t 59)), o 61 (.load true 5 (.t 60)), o 62 (.mv (.t 12)), q (.store 5 (.t 6) (.t 61)), o 7 (.mv (.t 62)), o 8 (.mv (.c (.int .i64 0)))]
abbrev aig_And_p1 : List AG := [o 57 (.build [(.int .i64 0), (.list true 0 []), (.list true 0 []), (.list true 0 []), (.list true 0 [])] []), q (.store 5 (.t 6) (.t 57)), o 7 (.mv (.c (.int .i64 0))), o 8 (.mv (.c (.int .i64 8)))]
abbrev aig_And_p2 : ACode := (.seq (.reg aig_And_p1) .ret)
abbrev aig_And_p3 : List AG := [o 51 (.mv (.t 11)), o 52 (.nilck (.t 51)), o 53 (.off 0 (.t 52)), o 54 (.load true 5 (.t 53)), o 55 (.call (.f n_aig_Check) [(.t 54)]), o 56 (.cmp .eql (.sc .int) (.t 55) (.c (.int .i64 8)))]
abbrev aig_And_p4 : List AG := [o 47 (.mv (.t 11)), o 48 (.mv (.t 1)), o 49 (.mv (.t 2)), o 50 (.call (.f n_aig_builder_and) [(.t 47), (.t 48), (.t 49)]), o 12 (.mv (.t 50))]
abbrev aig_And_p5 : List AG := [o 45 (.load true 5 (.t 3)), o 46 (.call (.f n_aig_build) [(.t 45)]), o 11 (.mv (.t 46))]
abbrev aig_And_p6 : List AG := [o 25 (.build [(.int .i64 0), (.list true 0 []), (.list true 0 []), (.list true 0 []), (.list true 0 [])] []), o 26 (.mv (.t 9)), q (.store 5 (.t 6) (.t 25)), o 7 (.mv (.c (.int .i64 0))), o 8 (.mv (.t 26))]
abbrev aig_And_p7 : List AG := [o 44 (.build [(.int .i64 0), (.list true 0 []), (.list true 0 []), (.list true 0 []), (.list true 0 [])] []), q (.store 5 (.t 6) (.t 44)), o 7 (.mv (.c (.int .i64 0))), o 8 (.mv (.c (.int .i64 1)))]
abbrev aig_And_p8 : ACode := (.seq (.reg aig_And_p7) .ret)
abbrev aig_And_p9 : List AG := [o 28 (.mv (.t 1)), o 29 (.cmp .lss (.sc .int) (.t 28) (.c (.int .i64 0))), o 30 (.mv (.t 29)), on 31 30 (.mv (.t 2)), on 32 30 (.cmp .lss (.sc .int) (.t 31) (.c (.int .i64 0))), o 33 (.pick (.t 30) (.c (.bool true)) (.t 32)), o 34 (.mv (.t 33)), on 35 34 (.mv (.t 1)), on 36 34 (.mv (.t 10)), on 37 34 (.cmp .geq (.sc .int) (.t 35) (.t 36)), o 38 (.pick (.t 34) (.c (.bool true)) (.t 37)), o 39 (.mv (.t 38)), on 40 39 (.mv (.t 2)), on 41 39 (.mv (.t 10)), on 42 39 (.cmp .geq (.sc .int) (.t 40) (.t 41)), o 43 (.pick (.t 39) (.c (.bool true)) (.t 42)), o 27 (.mv (.t 43))]
abbrev aig_And_p10 : ACode := (.seq (.reg aig_And_p6) .ret)
abbrev aig_And_p11 : ACode := (.seq (.reg aig_And_p9) (.cond (.t 27) aig_And_p8 .skip))
abbrev aig_And_p12 : List AG := [o 23 (.mv (.t 9)), o 24 (.cmp .neq (.sc .int) (.t 23) (.c (.int .i64 0))), o 22 (.mv (.t 24))]
abbrev aig_And_p13 : ACode := (.seq (.reg aig_And_p12) (.cond (.t 22) aig_And_p10 aig_And_p11))
abbrev aig_And_p14 : List AG := [o 15 (.load true 5 (.t 3)), o 16 (.call (.f n_aig_first) [(.t 15)]), o 17 (.off 3 (.t 3)), o 18 (.load false 1 (.t 17)), o 19 (.len (.t 18)), o 20 (.ibin .add (.t 16) (.t 19)), o 21 (.ibin .mul (.c (.int .i64 2)) (.t 20)), o 10 (.mv (.t 21))]
abbrev aig_And_p15 : List AG := [o 13 (.load true 5 (.t 3)), o 14 (.call (.f n_aig_Check) [(.t 13)]), o 9 (.mv (.t 14))]
abbrev aig_And_p16 : List AG := [o 3 (.box 5 (.t 0)), o 6 (.alloc [(.int .i64 0), (.own 1 t_int []), (.own 1 t_int []), (.own 2 t_2_int_2 []), (.own 1 t_int [])]), o 7 (.mv (.c (.int .i64 0))), o 8 (.mv (.c (.int .i64 0)))]
abbrev aig_And : AFun := ⟨(.seq (.reg aig_And_p16) (.seq (.reg aig_And_p15) (.seq (.dreg [O,O,O,I,O,O,O,O] [2,9,9,9,9,9,9,9] aig_And_p14) (.seq (.block 0 [] aig_And_p13) (.seq (.reg aig_And_p5) (.seq (.reg aig_And_p4) (.seq (.seq (.reg aig_And_p3) (.cond (.t 56) aig_And_p2 .skip)) (.seq (.reg aig_And_p0) .ret)))))))), 63, [.cell 6 true 5, .tmp 7, .tmp 8]⟩
@[simp] theorem c_aig_And : cfun Try.prog n_aig_And = some aig_And := by kernel_rfl
@[simp] theorem e_aig_And : hasBody Try.prog n_aig_And = true := by kernel_rfl

/- r09_Lit: patchbay/patchbayref09.Lit -/
abbrev r09_Lit_p0 : List AG := [o 5 (.mv (.t 0)), o 6 (.mv (.t 1)), o 7 (.ibin .quo (.t 6) (.c (.int .i64 2))), o 8 (.ixAddr 1 (.t 5) (.t 7)), o 9 (.load false 1 (.t 8)), o 10 (.mv (.t 1)), o 11 (.ibin .rem (.t 10) (.c (.int .i64 2))), o 12 (.cmp .eql (.sc .int) (.t 11) (.c (.int .i64 1))), o 13 (.cmp .neq (.sc .bool) (.t 9) (.t 12)), o 4 (.mv (.t 13))]
abbrev r09_Lit_p1 : List AG := [o 4 (.mv (.c (.bool false)))]
abbrev r09_Lit : AFun := ⟨(.seq (.reg r09_Lit_p1) (.seq (.reg r09_Lit_p0) .ret)), 14, [.tmp 4]⟩
@[simp] theorem c_r09_Lit : cfun Try.prog n_r09_Lit = some r09_Lit := by kernel_rfl
@[simp] theorem e_r09_Lit : hasBody Try.prog n_r09_Lit = true := by kernel_rfl

/- aig_begin: patchbay/aig.begin -/
abbrev aig_begin_p0 : List AG := [o 31 (.mv (.t 3)), o 2 (.mv (.t 31))]
abbrev aig_begin_m1 : List Bool := [O,O,O,I,O,O,O,O,O,O,O,O,O,O,O,I,I,O,O,O,O,O,O,O,O,O,O,O,O,O,O,O]
abbrev aig_begin_x1 : List Bool := [O,O,O,I,O,O,O,O,O,O,O,O,O,O,O,O,O,O,O,O,O,O,O,O,O,O,O,O,O,O,O,O]
abbrev aig_begin_p2 : List AG := [o 30 (.ibin .add (.t 16) (.c (.int .i64 1))), o 16 (.mv (.t 30))]
abbrev aig_begin_p3 : List AG := [o 19 (.mv (.t 3)), o 20 (.mv (.t 3)), o 21 (.nilck (.t 20)), o 22 (.off 6 (.t 21)), o 23 (.load false 1 (.t 22)), o 24 (.mv (.t 4)), o 25 (.ibin .mul (.c (.int .i64 2)) (.t 24)), o 26 (.lit 1 [(.int .i64 0)] [(0, (.t 25))]), o 27 (.append 1 t_int 8 (.t 23) (.t 26)), o 28 (.nilck (.t 19)), o 29 (.off 6 (.t 28)), q (.store 1 (.t 29) (.t 27))]
abbrev aig_begin_p4 : List AG := [o 18 (.mv (.t 16)), o 4 (.mv (.t 18))]
abbrev aig_begin_p5 : ACode := (.seq (.reg aig_begin_p4) (.reg aig_begin_p3))
abbrev aig_begin_p6 : List AG := [o 17 (.cmp .lss (.sc .int) (.t 16) (.t 15))]
abbrev aig_begin_b1 : ACode := (.seq (.reg aig_begin_p6) (.seq (.cond (.t 17) .skip (.exit 0)) (.seq (.block 1 [] aig_begin_p5) (.reg aig_begin_p2))))
abbrev aig_begin_p7 : List AG := [o 14 (.load true 5 (.t 1)), o 15 (.call (.f n_aig_first) [(.t 14)]), o 16 (.mv (.c (.int .i64 0)))]
abbrev aig_begin_p8 : List AG := [o 5 (.off 0 (.t 1)), o 6 (.load false 1 (.t 5)), o 7 (.off 1 (.t 1)), o 8 (.load false 1 (.t 7)), o 9 (.off 2 (.t 1)), o 10 (.load false 1 (.t 9)), o 11 (.call (.f n_slices_Clone_int_int) [(.t 10)]), o 12 (.build [(.int .i64 0), (.list true 0 []), (.list true 0 []), (.list true 0 []), (.list true 0 [])] [(0, 1, (.t 6)), (1, 1, (.t 8)), (2, 1, (.t 11))]), o 13 (.call (.f n_aig_build) [(.t 12)]), o 3 (.mv (.t 13))]
abbrev aig_begin_p9 : List AG := [o 1 (.box 5 (.t 0)), o 2 (.mv (.c .nilp))]
abbrev aig_begin : AFun := ⟨(.seq (.reg aig_begin_p9) (.seq (.dreg [O,I,O,I,O,O,O,O,O,O] [9,9,9,9,7,7,9,9,11,11] aig_begin_p8) (.seq (.seq (.reg aig_begin_p7) (.block 0 aig_begin_x1 (.loop aig_begin_m1 aig_begin_b1))) (.seq (.reg aig_begin_p0) .ret)))), 32, [.tmp 2]⟩
abbrev aig_begin_k1 : List It := [.code (.seq (.reg aig_begin_p0) .ret)]
abbrev aig_begin_L1 (x3 x15 x16 : AV) (h : List Ob) (e : Cx := cx) : Cfg := atC n_aig_begin (.code aig_begin_b1 :: .inLoop aig_begin_m1 aig_begin_b1 :: .inBlock 0 aig_begin_x1 :: aig_begin_k1) [U,U,U,x3,U,U,U,U,U,U,U,U,U,U,U,x15,x16,U,U,U,U,U,U,U,U,U,U,U,U,U,U,U] h e
abbrev aig_begin_E1 (x3 : AV) (h : List Ob) (e : Cx := cx) : Cfg := atC n_aig_begin aig_begin_k1 [U,U,U,x3,U,U,U,U,U,U,U,U,U,U,U,U,U,U,U,U,U,U,U,U,U,U,U,U,U,U,U,U] h e
@[simp] theorem c_aig_begin : cfun Try.prog n_aig_begin = some aig_begin := by kernel_rfl
@[simp] theorem e_aig_begin : hasBody Try.prog n_aig_begin = true := by kernel_rfl

/- aig_builder_and: (*patchbay/aig.builder).and -/
abbrev aig_builder_and_p0 : List AG := [o 76 (.mv (.t 10)), o 6 (.mv (.t 76))]
abbrev aig_builder_and_p1 : List AG := [o 70 (.mv (.t 0)), o 71 (.nilck (.t 70)), o 72 (.off 5 (.t 71)), o 73 (.load false 1 (.t 72)), o 74 (.load true 2 (.t 7)), o 75 (.mv (.t 10)), q (.upd (.strct [.int, .int]) (.t 73) (.t 74) (.t 75))]
abbrev aig_builder_and_p2 : List AG := [o 58 (.mv (.t 0)), o 59 (.mv (.t 0)), o 60 (.nilck (.t 59)), o 61 (.off 0 (.t 60)), o 62 (.off 3 (.t 61)), o 63 (.load false 1 (.t 62)), o 64 (.load true 2 (.t 7)), o 65 (.lit 2 [(.agg [(.int .i64 0), (.int .i64 0)])] [(0, (.t 64))]), o 66 (.append 2 t_2_int_2 16 (.t 63) (.t 65)), o 67 (.nilck (.t 58)), o 68 (.off 0 (.t 67)), o 69 (.off 3 (.t 68)), q (.store 1 (.t 69) (.t 66))]
abbrev aig_builder_and_p3 : List AG := [o 45 (.mv (.t 0)), o 46 (.nilck (.t 45)), o 47 (.off 0 (.t 46)), o 48 (.load true 5 (.t 47)), o 49 (.call (.f n_aig_first) [(.t 48)]), o 50 (.mv (.t 0)), o 51 (.nilck (.t 50)), o 52 (.off 0 (.t 51)), o 53 (.off 3 (.t 52)), o 54 (.load false 1 (.t 53)), o 55 (.len (.t 54)), o 56 (.ibin .add (.t 49) (.t 55)), o 57 (.ibin .mul (.c (.int .i64 2)) (.t 56)), o 10 (.mv (.t 57))]
abbrev aig_builder_and_p4 : List AG := [o 44 (.mv (.t 8)), o 6 (.mv (.t 44))]
abbrev aig_builder_and_p5 : ACode := (.seq (.reg aig_builder_and_p4) .ret)
abbrev aig_builder_and_p6 : List AG := [o 43 (.mv (.t 9))]
abbrev aig_builder_and_p7 : List AG := [o 35 (.mv (.t 0)), o 36 (.nilck (.t 35)), o 37 (.off 5 (.t 36)), o 38 (.load false 1 (.t 37)), o 39 (.load true 2 (.t 7)), o 40 (.lookup (.strct [.int, .int]) (.int .i64 0) (.t 38) (.t 39) true), o 34 (.mv (.t 40)), o 41 (.extract (.t 34) 0), o 42 (.extract (.t 34) 1), o 8 (.mv (.t 41)), o 9 (.mv (.t 42))]
abbrev aig_builder_and_p8 : List AG := [o 31 (.mv (.t 1)), o 32 (.mv (.t 2)), o 33 (.build [(.int .i64 0), (.int .i64 0)] [(0, 1, (.t 31)), (1, 1, (.t 32))]), o 7 (.alloc [(.int .i64 0), (.int .i64 0)]), q (.store 2 (.t 7) (.t 33))]
abbrev aig_builder_and_p9 : List AG := [o 6 (.mv (.c (.int .i64 0)))]
abbrev aig_builder_and_p10 : List AG := [o 30 (.mv (.t 1)), o 6 (.mv (.t 30))]
abbrev aig_builder_and_p11 : ACode := (.seq (.reg aig_builder_and_p10) .ret)
abbrev aig_builder_and_p12 : List AG := [o 27 (.mv (.t 1)), o 28 (.mv (.t 2)), o 29 (.cmp .eql (.sc .int) (.t 27) (.t 28)), o 24 (.mv (.t 29))]
abbrev aig_builder_and_p13 : List AG := [o 25 (.mv (.t 2)), o 26 (.cmp .eql (.sc .int) (.t 25) (.c (.int .i64 1))), o 24 (.mv (.t 26))]
abbrev aig_builder_and_p14 : ACode := (.seq (.reg aig_builder_and_p9) .ret)
abbrev aig_builder_and_p15 : ACode := (.seq (.seq (.reg aig_builder_and_p13) (.cond (.t 24) .skip (.reg aig_builder_and_p12))) (.cond (.t 24) aig_builder_and_p11 .skip))
abbrev aig_builder_and_p16 : List AG := [o 20 (.mv (.t 1)), o 21 (.ibin .xor (.t 20) (.c (.int .i64 1))), o 22 (.mv (.t 2)), o 23 (.cmp .eql (.sc .int) (.t 21) (.t 22)), o 17 (.mv (.t 23))]
abbrev aig_builder_and_p17 : List AG := [o 18 (.mv (.t 2)), o 19 (.cmp .eql (.sc .int) (.t 18) (.c (.int .i64 0))), o 17 (.mv (.t 19))]
abbrev aig_builder_and_p18 : ACode := (.seq (.seq (.reg aig_builder_and_p17) (.cond (.t 17) .skip (.reg aig_builder_and_p16))) (.cond (.t 17) aig_builder_and_p14 aig_builder_and_p15))
abbrev aig_builder_and_p19 : List AG := [o 11 (.mv (.t 1)), o 12 (.mv (.t 2)), o 13 (.max [(.t 11), (.t 12)]), o 14 (.mv (.t 1)), o 15 (.mv (.t 2)), o 16 (.min [(.t 14), (.t 15)]), o 1 (.mv (.t 13)), o 2 (.mv (.t 16))]
abbrev aig_builder_and_p20 : List AG := [o 6 (.mv (.c (.int .i64 0)))]
abbrev aig_builder_and : AFun := ⟨(.seq (.reg aig_builder_and_p20) (.seq (.reg aig_builder_and_p19) (.seq (.block 0 [] aig_builder_and_p18) (.seq (.reg aig_builder_and_p8) (.seq (.seq (.dreg [O,O,O,O,O,O,O,O,O,O,O] [12,12,12,12,12,12,12,12,12,12,12] aig_builder_and_p7) (.seq (.reg aig_builder_and_p6) (.cond (.t 43) aig_builder_and_p5 .skip))) (.seq (.dreg [O,O,O,O,O,O,O,O,O,I,O,O,O,O] [5,5,5,5,15,15,15,15,15,15,15,15,15,15] aig_builder_and_p3) (.seq (.dreg [O,O,O,O,O,I,O,O,O,O,O,O,O] [13,9,9,9,9,9,8,9,13,13,13,13,14] aig_builder_and_p2) (.seq (.dreg [O,O,O,O,O,O,O] [7,7,7,7,7,7,8] aig_builder_and_p1) (.seq (.reg aig_builder_and_p0) .ret))))))))), 77, [.tmp 6]⟩
@[simp] theorem c_aig_builder_and : cfun Try.prog n_aig_builder_and = some aig_builder_and := by kernel_rfl
@[simp] theorem e_aig_builder_and : hasBody Try.prog n_aig_builder_and = true := by kernel_rfl

/- aig_builder_came: (*patchbay/aig.builder).came -/
abbrev aig_builder_came_p0 : List AG := [o 5 (.mv (.t 0)), o 6 (.nilck (.t 5)), o 7 (.off 6 (.t 6)), o 8 (.load false 1 (.t 7)), o 9 (.mv (.t 1)), o 10 (.ibin .shr (.t 9) (.c (.int .u64 1))), o 11 (.ixAddr 1 (.t 8) (.t 10)), o 12 (.load false 1 (.t 11)), o 13 (.mv (.t 1)), o 14 (.ibin .and (.t 13) (.c (.int .i64 1))), o 15 (.ibin .xor (.t 12) (.t 14)), o 4 (.mv (.t 15))]
abbrev aig_builder_came_p1 : List AG := [o 4 (.mv (.c (.int .i64 0)))]
abbrev aig_builder_came : AFun := ⟨(.seq (.reg aig_builder_came_p1) (.seq (.reg aig_builder_came_p0) .ret)), 16, [.tmp 4]⟩
@[simp] theorem c_aig_builder_came : cfun Try.prog n_aig_builder_came = some aig_builder_came := by kernel_rfl
@[simp] theorem e_aig_builder_came : hasBody Try.prog n_aig_builder_came = true := by kernel_rfl

/- aig_builder_end: (*patchbay/aig.builder).end -/
abbrev aig_builder_end_p0 : List AG := [o 21 (.mv (.t 0)), o 22 (.nilck (.t 21)), o 23 (.off 0 (.t 22)), o 24 (.load true 5 (.t 23)), q (.store 5 (.t 4) (.t 24))]
abbrev aig_builder_end_p1 : List AG := [o 5 (.mv (.t 0)), o 6 (.mv (.t 0)), o 7 (.mv (.t 0)), o 8 (.off 1 (.t 3)), o 9 (.load false 1 (.t 8)), o 10 (.call (.f n_aig_builder_all) [(.t 7), (.t 9)]), o 11 (.mv (.t 0)), o 12 (.off 4 (.t 3)), o 13 (.load false 1 (.t 12)), o 14 (.call (.f n_aig_builder_all) [(.t 11), (.t 13)]), o 15 (.nilck (.t 5)), o 16 (.off 0 (.t 15)), o 17 (.off 1 (.t 16)), q (.store 1 (.t 17) (.t 10)), o 18 (.nilck (.t 6)), o 19 (.off 0 (.t 18)), o 20 (.off 4 (.t 19)), q (.store 1 (.t 20) (.t 14))]
abbrev aig_builder_end_p2 : List AG := [o 3 (.box 5 (.t 1)), o 4 (.alloc [(.int .i64 0), (.own 1 t_int []), (.own 1 t_int []), (.own 2 t_2_int_2 []), (.own 1 t_int [])])]
abbrev aig_builder_end : AFun := ⟨(.seq (.reg aig_builder_end_p2) (.seq (.dreg [O,O,O,O,O,O,O,O,I,O,O,O,O,O,O,O,O,O] [14,18,6,6,6,10,10,10,10,14,14,14,14,18,18,18,18,19] aig_builder_end_p1) (.seq (.reg aig_builder_end_p0) .ret))), 25, [.cell 4 true 5]⟩
@[simp] theorem c_aig_builder_end : cfun Try.prog n_aig_builder_end = some aig_builder_end := by kernel_rfl
@[simp] theorem e_aig_builder_end : hasBody Try.prog n_aig_builder_end = true := by kernel_rfl

/- aig_led: patchbay/aig.led OPEN -/
abbrev aig_led_p0 : List AG := [o 20 (.load false 1 (.t 3)), o 2 (.mv (.t 20))]
abbrev aig_led_p1 : List AG := [o 4 (.mv (.t 15))]
abbrev aig_led_p2 : List AG := [o 16 (.load false 1 (.t 3)), o 17 (.mv (.t 4)), o 18 (.ibin .shr (.t 17) (.c (.int .u64 1))), o 19 (.ixAddr 1 (.t 16) (.t 18)), q (.store 1 (.t 19) (.c (.bool true)))]
abbrev aig_led_p3 : ACode := (.block 1 [] (.reg aig_led_p2))
abbrev aig_led_p4 : ACode := (.rangeFunc (.t 14) [15] [O,O,I,I,O,O,O,O,O,O,O,O,O,O,O,O,O,O,O,O,O] (.reg aig_led_p1) aig_led_p3)
abbrev aig_led_p5 : List AG := [o 12 (.load true 5 (.t 1)), o 13 (.load false 1 (.t 3)), o 14 (.call (.f n_aig_leading) [(.t 12), (.t 13)])]
abbrev aig_led_p6 : List AG := [o 5 (.load true 5 (.t 1)), o 6 (.call (.f n_aig_first) [(.t 5)]), o 7 (.off 3 (.t 1)), o 8 (.load false 1 (.t 7)), o 9 (.len (.t 8)), o 10 (.ibin .add (.t 6) (.t 9)), o 11 (.mkSlice 1 t_bool 1 (.bool false) (.t 10) (.t 10)), o 3 (.alloc [(.own 1 t_bool [])]), q (.store 1 (.t 3) (.t 11))]
abbrev aig_led_p7 : List AG := [o 1 (.box 5 (.t 0)), o 2 (.nilrow 1 t_bool)]
abbrev aig_led : AFun := ⟨(.seq (.reg aig_led_p7) (.seq (.oreg [[], [0], [], [2], [3], [1,4], [5,5], [], [7,6,1,0,1,2,3,4,5,6,7]] aig_led_p6) (.seq (.seq (.reg aig_led_p5) (.block 0 [] aig_led_p4)) (.seq (.reg aig_led_p0) .ret)))), 21, [.tmp 2]⟩
@[simp] theorem c_aig_led : cfun Try.prog n_aig_led = some aig_led := by kernel_rfl
@[simp] theorem e_aig_led : hasBody Try.prog n_aig_led = true := by kernel_rfl

/- aig_first: patchbay/aig.first -/
abbrev aig_first_p0 : List AG := [o 3 (.off 0 (.t 1)), o 4 (.load false 1 (.t 3)), o 5 (.ibin .add (.c (.int .i64 1)) (.t 4)), o 6 (.off 1 (.t 1)), o 7 (.load false 1 (.t 6)), o 8 (.len (.t 7)), o 9 (.ibin .add (.t 5) (.t 8)), o 2 (.mv (.t 9))]
abbrev aig_first_p1 : List AG := [o 1 (.box 5 (.t 0)), o 2 (.mv (.c (.int .i64 0)))]
abbrev aig_first : AFun := ⟨(.seq (.reg aig_first_p1) (.seq (.reg aig_first_p0) .ret)), 10, [.tmp 2]⟩
@[simp] theorem c_aig_first : cfun Try.prog n_aig_first = some aig_first := by kernel_rfl
@[simp] theorem e_aig_first : hasBody Try.prog n_aig_first = true := by kernel_rfl

/- r09_First: patchbay/patchbayref09.First -/
abbrev r09_First_p0 : List AG := [o 3 (.off 0 (.t 1)), o 4 (.load false 1 (.t 3)), o 5 (.ibin .add (.c (.int .i64 1)) (.t 4)), o 6 (.off 1 (.t 1)), o 7 (.load false 1 (.t 6)), o 8 (.len (.t 7)), o 9 (.ibin .add (.t 5) (.t 8)), o 2 (.mv (.t 9))]
abbrev r09_First_p1 : List AG := [o 1 (.box 5 (.t 0)), o 2 (.mv (.c (.int .i64 0)))]
abbrev r09_First : AFun := ⟨(.seq (.reg r09_First_p1) (.seq (.reg r09_First_p0) .ret)), 10, [.tmp 2]⟩
@[simp] theorem c_r09_First : cfun Try.prog n_r09_First = some r09_First := by kernel_rfl
@[simp] theorem e_r09_First : hasBody Try.prog n_r09_First = true := by kernel_rfl

/- r09_and: patchbay/patchbayref09.and -/
abbrev r09_and_p0 : List AG := [o 68 (.mv (.t 10)), o 69 (.mv (.t 2)), o 70 (.mv (.t 3)), o 71 (.build [(.int .i64 0), (.int .i64 0)] [(0, 1, (.t 69)), (1, 1, (.t 70))]), o 72 (.lit 2 [(.agg [(.int .i64 0), (.int .i64 0)])] [(0, (.t 71))]), o 73 (.append 2 t_2_int_2 16 (.t 68) (.t 72)), o 74 (.mv (.t 1)), o 75 (.mv (.t 0)), o 76 (.len (.t 75)), o 77 (.ibin .add (.t 74) (.t 76)), o 78 (.ibin .mul (.c (.int .i64 2)) (.t 77)), o 79 (.build [(.list true 0 []), (.int .i64 0)] [(0, 1, (.t 73)), (1, 1, (.t 78))]), q (.store 2 (.t 8) (.t 79))]
abbrev r09_and_p1 : List AG := [o 65 (.mv (.t 10)), o 66 (.mv (.t 0)), o 67 (.append 2 t_2_int_2 16 (.t 65) (.t 66)), o 10 (.mv (.t 67))]
abbrev r09_and_p2 : List AG := [o 10 (.nilrow 2 t_2_int_2)]
abbrev r09_and_m3 : List Bool := [I,I,I,I,O,O,O,O,I,I,O,O,O,O,O,O,O,O,O,O,O,O,O,O,O,O,O,O,O,O,O,O,O,O,O,O,O,O,O,O,O,O,O,O,O,O,O,O,O,O,O,O,O,O,O,O,O,O,O,O,O,O,O,O,O,O,O,O,O,O,O,O,O,O,O,O,O,O,O,O]
abbrev r09_and_x3 : List Bool := [I,I,I,I,O,O,O,O,I,O,O,O,O,O,O,O,O,O,O,O,O,O,O,O,O,O,O,O,O,O,O,O,O,O,O,O,O,O,O,O,O,O,O,O,O,O,O,O,O,O,O,O,O,O,O,O,O,O,O,O,O,O,O,O,O,O,O,O,O,O,O,O,O,O,O,O,O,O,O,O]
abbrev r09_and_p4 : List AG := [o 49 (.mv (.t 9)), o 50 (.ibin .add (.t 49) (.c (.int .i64 1))), o 9 (.mv (.t 50))]
abbrev r09_and_p5 : List AG := [o 59 (.mv (.t 0)), o 60 (.mv (.t 1)), o 61 (.mv (.t 9)), o 62 (.ibin .add (.t 60) (.t 61)), o 63 (.ibin .mul (.c (.int .i64 2)) (.t 62)), o 64 (.build [(.list true 0 []), (.int .i64 0)] [(0, 1, (.t 59)), (1, 1, (.t 63))]), q (.store 2 (.t 8) (.t 64))]
abbrev r09_and_p6 : ACode := (.seq (.reg r09_and_p5) .ret)
abbrev r09_and_p7 : List AG := [o 51 (.mv (.t 0)), o 52 (.mv (.t 9)), o 53 (.ixAddr 2 (.t 51) (.t 52)), o 54 (.load true 2 (.t 53)), o 55 (.mv (.t 2)), o 56 (.mv (.t 3)), o 57 (.build [(.int .i64 0), (.int .i64 0)] [(0, 1, (.t 55)), (1, 1, (.t 56))]), o 58 (.cmp .eql (.strct [.int, .int]) (.t 54) (.t 57))]
abbrev r09_and_p8 : ACode := (.seq (.reg r09_and_p7) (.cond (.t 58) r09_and_p6 .skip))
abbrev r09_and_p9 : List AG := [o 45 (.mv (.t 9)), o 46 (.mv (.t 0)), o 47 (.len (.t 46)), o 48 (.cmp .lss (.sc .int) (.t 45) (.t 47))]
abbrev r09_and_b3 : ACode := (.seq (.seq (.reg r09_and_p9) (.cond (.t 48) .skip (.exit 0))) (.seq (.block 1 [] r09_and_p8) (.reg r09_and_p4)))
abbrev r09_and_p10 : List AG := [o 9 (.mv (.c (.int .i64 0)))]
abbrev r09_and_p11 : List AG := [o 42 (.mv (.t 0)), o 43 (.mv (.t 2)), o 44 (.build [(.list true 0 []), (.int .i64 0)] [(0, 1, (.t 42)), (1, 1, (.t 43))]), q (.store 2 (.t 8) (.t 44))]
abbrev r09_and_p12 : ACode := (.seq (.reg r09_and_p11) .ret)
abbrev r09_and_p13 : List AG := [o 35 (.mv (.t 3)), o 36 (.cmp .eql (.sc .int) (.t 35) (.c (.int .i64 1))), o 37 (.mv (.t 36)), on 38 37 (.mv (.t 2)), on 39 37 (.mv (.t 3)), on 40 37 (.cmp .eql (.sc .int) (.t 38) (.t 39)), o 41 (.pick (.t 37) (.c (.bool true)) (.t 40))]
abbrev r09_and_p14 : List AG := [o 33 (.mv (.t 0)), o 34 (.build [(.list true 0 []), (.int .i64 0)] [(0, 1, (.t 33))]), q (.store 2 (.t 8) (.t 34))]
abbrev r09_and_p15 : ACode := (.seq (.reg r09_and_p14) .ret)
abbrev r09_and_p16 : List AG := [o 19 (.mv (.t 3)), o 20 (.cmp .eql (.sc .int) (.t 19) (.c (.int .i64 0))), o 21 (.mv (.t 20)), on 22 21 (.mv (.t 2)), on 23 21 (.mv (.t 3)), on 24 21 (.cmp .neq (.sc .int) (.t 22) (.t 23)), on 25 21 (.mv (.t 24)), oy 26 25 (.mv (.t 2)), oy 27 25 (.ibin .quo (.t 26) (.c (.int .i64 2))), oy 28 25 (.mv (.t 3)), oy 29 25 (.ibin .quo (.t 28) (.c (.int .i64 2))), oy 30 25 (.cmp .eql (.sc .int) (.t 27) (.t 29)), on 31 21 (.pick (.t 25) (.t 30) (.c (.bool false))), o 32 (.pick (.t 21) (.c (.bool true)) (.t 31))]
abbrev r09_and_p17 : List AG := [o 14 (.mv (.t 0)), o 15 (.mv (.t 1)), o 16 (.mv (.t 3)), o 17 (.mv (.t 2)), o 18 (.call (.f n_r09_and) [(.t 14), (.t 15), (.t 16), (.t 17)]), q (.store 2 (.t 8) (.t 18))]
abbrev r09_and_p18 : ACode := (.seq (.reg r09_and_p17) .ret)
abbrev r09_and_p19 : List AG := [o 11 (.mv (.t 2)), o 12 (.mv (.t 3)), o 13 (.cmp .lss (.sc .int) (.t 11) (.t 12))]
abbrev r09_and_p20 : List AG := [o 8 (.alloc [(.own 2 t_2_int_2 []), (.int .i64 0)])]
abbrev r09_and : AFun := ⟨(.seq (.reg r09_and_p20) (.seq (.seq (.reg r09_and_p19) (.cond (.t 13) r09_and_p18 .skip)) (.seq (.seq (.reg r09_and_p16) (.cond (.t 32) r09_and_p15 .skip)) (.seq (.seq (.reg r09_and_p13) (.cond (.t 41) r09_and_p12 .skip)) (.seq (.seq (.reg r09_and_p10) (.block 0 r09_and_x3 (.loop r09_and_m3 r09_and_b3))) (.seq (.reg r09_and_p2) (.seq (.reg r09_and_p1) (.seq (.reg r09_and_p0) .ret)))))))), 80, [.cell 8 true 2]⟩
abbrev r09_and_k3 : List It := [.code (.seq (.reg r09_and_p2) (.seq (.reg r09_and_p1) (.seq (.reg r09_and_p0) .ret)))]
abbrev r09_and_L3 (x0 x1 x2 x3 x8 x9 : AV) (h : List Ob) (e : Cx := cx) : Cfg := atC n_r09_and (.code r09_and_b3 :: .inLoop r09_and_m3 r09_and_b3 :: .inBlock 0 r09_and_x3 :: r09_and_k3) [x0,x1,x2,x3,U,U,U,U,x8,x9,U,U,U,U,U,U,U,U,U,U,U,U,U,U,U,U,U,U,U,U,U,U,U,U,U,U,U,U,U,U,U,U,U,U,U,U,U,U,U,U,U,U,U,U,U,U,U,U,U,U,U,U,U,U,U,U,U,U,U,U,U,U,U,U,U,U,U,U,U,U] h e
abbrev r09_and_E3 (x0 x1 x2 x3 x8 : AV) (h : List Ob) (e : Cx := cx) : Cfg := atC n_r09_and r09_and_k3 [x0,x1,x2,x3,U,U,U,U,x8,U,U,U,U,U,U,U,U,U,U,U,U,U,U,U,U,U,U,U,U,U,U,U,U,U,U,U,U,U,U,U,U,U,U,U,U,U,U,U,U,U,U,U,U,U,U,U,U,U,U,U,U,U,U,U,U,U,U,U,U,U,U,U,U,U,U,U,U,U,U,U] h e
@[simp] theorem c_r09_and : cfun Try.prog n_r09_and = some r09_and := by kernel_rfl
@[simp] theorem e_r09_and : hasBody Try.prog n_r09_and = true := by kernel_rfl

/- r09_become: patchbay/patchbayref09.become -/
abbrev r09_become_p0 : List AG := [o 14 (.mv (.t 0)), o 15 (.mv (.t 1)), o 16 (.ibin .quo (.t 15) (.c (.int .i64 2))), o 17 (.ixAddr 1 (.t 14) (.t 16)), o 18 (.load false 1 (.t 17)), o 4 (.mv (.t 18))]
abbrev r09_become_p1 : List AG := [o 8 (.mv (.t 0)), o 9 (.mv (.t 1)), o 10 (.ibin .quo (.t 9) (.c (.int .i64 2))), o 11 (.ixAddr 1 (.t 8) (.t 10)), o 12 (.load false 1 (.t 11)), o 13 (.ibin .xor (.t 12) (.c (.int .i64 1))), o 4 (.mv (.t 13))]
abbrev r09_become_p2 : ACode := (.seq (.reg r09_become_p1) .ret)
abbrev r09_become_p3 : List AG := [o 5 (.mv (.t 1)), o 6 (.ibin .rem (.t 5) (.c (.int .i64 2))), o 7 (.cmp .eql (.sc .int) (.t 6) (.c (.int .i64 1)))]
abbrev r09_become_p4 : List AG := [o 4 (.mv (.c (.int .i64 0)))]
abbrev r09_become : AFun := ⟨(.seq (.reg r09_become_p4) (.seq (.seq (.reg r09_become_p3) (.cond (.t 7) r09_become_p2 .skip)) (.seq (.reg r09_become_p0) .ret))), 19, [.tmp 4]⟩
@[simp] theorem c_r09_become : cfun Try.prog n_r09_become = some r09_become := by kernel_rfl
@[simp] theorem e_r09_become : hasBody Try.prog n_r09_become = true := by kernel_rfl

/- r09_closed: patchbay/patchbayref09.closed -/
abbrev r09_closed_p0 : List AG := [o 82 (.load true 5 (.t 5)), q (.store 5 (.t 2) (.t 82))]
abbrev r09_closed_p1 : List AG := [o 77 (.mv (.t 4)), o 78 (.off 4 (.t 1)), o 79 (.load false 1 (.t 78)), o 80 (.call (.f n_r09_becomes) [(.t 77), (.t 79)]), o 81 (.off 4 (.t 5)), q (.store 1 (.t 81) (.t 80))]
abbrev r09_closed_p2 : List AG := [o 72 (.mv (.t 4)), o 73 (.off 1 (.t 1)), o 74 (.load false 1 (.t 73)), o 75 (.call (.f n_r09_becomes) [(.t 72), (.t 74)]), o 76 (.off 1 (.t 5)), q (.store 1 (.t 76) (.t 75))]
abbrev r09_closed_m3 : List Bool := [O,I,I,I,I,I,O,I,O,O,O,O,O,O,O,O,O,O,O,O,O,O,O,O,O,O,O,O,O,O,O,O,O,O,O,O,O,O,O,O,O,O,O,O,O,O,O,O,O,O,O,O,O,O,O,O,O,O,O,O,O,O,O,O,O,O,O,O,O,O,O,O,O,O,O,O,O,O,O,O,O,O,O]
abbrev r09_closed_x3 : List Bool := [O,I,I,O,I,I,O,O,O,O,O,O,O,O,O,O,O,O,O,O,O,O,O,O,O,O,O,O,O,O,O,O,O,O,O,O,O,O,O,O,O,O,O,O,O,O,O,O,O,O,O,O,O,O,O,O,O,O,O,O,O,O,O,O,O,O,O,O,O,O,O,O,O,O,O,O,O,O,O,O,O,O,O]
abbrev r09_closed_p4 : List AG := [o 31 (.mv (.t 7)), o 32 (.ibin .add (.t 31) (.c (.int .i64 1))), o 7 (.mv (.t 32))]
abbrev r09_closed_p5 : List AG := [o 50 (.off 3 (.t 5)), o 51 (.load false 1 (.t 50)), o 52 (.mv (.t 4)), o 53 (.off 3 (.t 1)), o 54 (.load false 1 (.t 53)), o 55 (.mv (.t 7)), o 56 (.ixAddr 2 (.t 54) (.t 55)), o 57 (.arrAddr 2 1 (.t 56) (.c (.int .i64 0))), o 58 (.load false 1 (.t 57)), o 59 (.call (.f n_r09_become) [(.t 52), (.t 58)]), o 60 (.mv (.t 4)), o 61 (.off 3 (.t 1)), o 62 (.load false 1 (.t 61)), o 63 (.mv (.t 7)), o 64 (.ixAddr 2 (.t 62) (.t 63)), o 65 (.arrAddr 2 1 (.t 64) (.c (.int .i64 1))), o 66 (.load false 1 (.t 65)), o 67 (.call (.f n_r09_become) [(.t 60), (.t 66)]), o 68 (.build [(.int .i64 0), (.int .i64 0)] [(0, 1, (.t 59)), (1, 1, (.t 67))]), o 69 (.lit 2 [(.agg [(.int .i64 0), (.int .i64 0)])] [(0, (.t 68))]), o 70 (.append 2 t_2_int_2 16 (.t 51) (.t 69)), o 71 (.off 3 (.t 5)), q (.store 1 (.t 71) (.t 70))]
abbrev r09_closed_p6 : List AG := [o 43 (.mv (.t 3)), o 44 (.load true 5 (.t 1)), o 45 (.call (.f n_r09_First) [(.t 44)]), o 46 (.mv (.t 7)), o 47 (.ibin .add (.t 45) (.t 46)), o 48 (.ixAddr 1 (.t 43) (.t 47)), o 49 (.load false 1 (.t 48))]
abbrev r09_closed_p7 : List AG := [o 33 (.mv (.t 4)), o 34 (.load true 5 (.t 1)), o 35 (.call (.f n_r09_First) [(.t 34)]), o 36 (.off 3 (.t 5)), o 37 (.load false 1 (.t 36)), o 38 (.len (.t 37)), o 39 (.ibin .add (.t 35) (.t 38)), o 40 (.ibin .mul (.c (.int .i64 2)) (.t 39)), o 41 (.lit 1 [(.int .i64 0)] [(0, (.t 40))]), o 42 (.append 1 t_int 8 (.t 33) (.t 41)), o 4 (.mv (.t 42))]
abbrev r09_closed_p8 : ACode := (.seq (.dreg [O,O,O,O,I,O,O,O,O,O,O] [10,3,9,9,9,9,9,9,10,12,12] r09_closed_p7) (.seq (.reg r09_closed_p6) (.cond (.t 49) (.dreg [O,I,O,O,O,O,O,O,O,O,O,O,I,O,O,O,I,O,O,O,O,O,O] [21,21,10,10,10,10,10,10,10,18,18,18,18,18,18,18,18,20,20,21,23,23,24] r09_closed_p5) .skip)))
abbrev r09_closed_p9 : List AG := [o 26 (.mv (.t 7)), o 27 (.off 3 (.t 1)), o 28 (.load false 1 (.t 27)), o 29 (.len (.t 28)), o 30 (.cmp .lss (.sc .int) (.t 26) (.t 29))]
abbrev r09_closed_b3 : ACode := (.seq (.seq (.reg r09_closed_p9) (.cond (.t 30) .skip (.exit 2))) (.seq (.block 3 [] r09_closed_p8) (.reg r09_closed_p4)))
abbrev r09_closed_p10 : List AG := [o 7 (.mv (.c (.int .i64 0)))]
abbrev r09_closed_m11 : List Bool := [O,I,I,I,I,I,I,O,O,O,O,O,O,O,O,O,O,O,O,O,O,O,O,O,O,O,O,O,O,O,O,O,O,O,O,O,O,O,O,O,O,O,O,O,O,O,O,O,O,O,O,O,O,O,O,O,O,O,O,O,O,O,O,O,O,O,O,O,O,O,O,O,O,O,O,O,O,O,O,O,O,O,O]
abbrev r09_closed_x11 : List Bool := [O,I,I,I,I,I,O,O,O,O,O,O,O,O,O,O,O,O,O,O,O,O,O,O,O,O,O,O,O,O,O,O,O,O,O,O,O,O,O,O,O,O,O,O,O,O,O,O,O,O,O,O,O,O,O,O,O,O,O,O,O,O,O,O,O,O,O,O,O,O,O,O,O,O,O,O,O,O,O,O,O,O,O]
abbrev r09_closed_p12 : List AG := [o 19 (.mv (.t 6)), o 20 (.ibin .add (.t 19) (.c (.int .i64 1))), o 6 (.mv (.t 20))]
abbrev r09_closed_p13 : List AG := [o 21 (.mv (.t 4)), o 22 (.mv (.t 6)), o 23 (.ibin .mul (.c (.int .i64 2)) (.t 22)), o 24 (.lit 1 [(.int .i64 0)] [(0, (.t 23))]), o 25 (.append 1 t_int 8 (.t 21) (.t 24)), o 4 (.mv (.t 25))]
abbrev r09_closed_p14 : List AG := [o 15 (.mv (.t 6)), o 16 (.load true 5 (.t 1)), o 17 (.call (.f n_r09_First) [(.t 16)]), o 18 (.cmp .lss (.sc .int) (.t 15) (.t 17))]
abbrev r09_closed_b11 : ACode := (.seq (.seq (.reg r09_closed_p14) (.cond (.t 18) .skip (.exit 0))) (.seq (.block 1 [] (.reg r09_closed_p13)) (.reg r09_closed_p12)))
abbrev r09_closed_p15 : List AG := [o 6 (.mv (.c (.int .i64 0)))]
abbrev r09_closed_p16 : List AG := [o 10 (.off 0 (.t 1)), o 11 (.load false 1 (.t 10)), o 12 (.off 2 (.t 1)), o 13 (.load false 1 (.t 12)), o 14 (.build [(.int .i64 0), (.list true 0 []), (.list true 0 []), (.list true 0 []), (.list true 0 [])] [(0, 1, (.t 11)), (2, 1, (.t 13))]), o 5 (.alloc [(.int .i64 0), (.own 1 t_int []), (.own 1 t_int []), (.own 2 t_2_int_2 []), (.own 1 t_int [])]), q (.store 5 (.t 5) (.t 14))]
abbrev r09_closed_p17 : List AG := [o 4 (.nilrow 1 t_int)]
abbrev r09_closed_p18 : List AG := [o 8 (.load true 5 (.t 1)), o 9 (.call (.f n_r09_Led) [(.t 8)]), o 3 (.mv (.t 9))]
abbrev r09_closed_p19 : List AG := [o 1 (.box 5 (.t 0)), o 2 (.alloc [(.int .i64 0), (.own 1 t_int []), (.own 1 t_int []), (.own 2 t_2_int_2 []), (.own 1 t_int [])])]
abbrev r09_closed : AFun := ⟨(.seq (.reg r09_closed_p19) (.seq (.reg r09_closed_p18) (.seq (.reg r09_closed_p17) (.seq (.reg r09_closed_p16) (.seq (.seq (.reg r09_closed_p15) (.block 0 r09_closed_x11 (.loop r09_closed_m11 r09_closed_b11))) (.seq (.seq (.reg r09_closed_p10) (.block 2 r09_closed_x3 (.loop r09_closed_m3 r09_closed_b3))) (.seq (.reg r09_closed_p2) (.seq (.reg r09_closed_p1) (.seq (.reg r09_closed_p0) .ret))))))))), 83, [.cell 2 true 5]⟩
abbrev r09_closed_k3 : List It := [.code (.seq (.reg r09_closed_p2) (.seq (.reg r09_closed_p1) (.seq (.reg r09_closed_p0) .ret)))]
abbrev r09_closed_L3 (x1 x2 x3 x4 x5 x7 : AV) (h : List Ob) (e : Cx := cx) : Cfg := atC n_r09_closed (.code r09_closed_b3 :: .inLoop r09_closed_m3 r09_closed_b3 :: .inBlock 2 r09_closed_x3 :: r09_closed_k3) [U,x1,x2,x3,x4,x5,U,x7,U,U,U,U,U,U,U,U,U,U,U,U,U,U,U,U,U,U,U,U,U,U,U,U,U,U,U,U,U,U,U,U,U,U,U,U,U,U,U,U,U,U,U,U,U,U,U,U,U,U,U,U,U,U,U,U,U,U,U,U,U,U,U,U,U,U,U,U,U,U,U,U,U,U,U] h e
abbrev r09_closed_E3 (x1 x2 x4 x5 : AV) (h : List Ob) (e : Cx := cx) : Cfg := atC n_r09_closed r09_closed_k3 [U,x1,x2,U,x4,x5,U,U,U,U,U,U,U,U,U,U,U,U,U,U,U,U,U,U,U,U,U,U,U,U,U,U,U,U,U,U,U,U,U,U,U,U,U,U,U,U,U,U,U,U,U,U,U,U,U,U,U,U,U,U,U,U,U,U,U,U,U,U,U,U,U,U,U,U,U,U,U,U,U,U,U,U,U] h e
abbrev r09_closed_k11 : List It := [.code (.seq (.seq (.reg r09_closed_p10) (.block 2 r09_closed_x3 (.loop r09_closed_m3 r09_closed_b3))) (.seq (.reg r09_closed_p2) (.seq (.reg r09_closed_p1) (.seq (.reg r09_closed_p0) .ret))))]
abbrev r09_closed_L11 (x1 x2 x3 x4 x5 x6 : AV) (h : List Ob) (e : Cx := cx) : Cfg := atC n_r09_closed (.code r09_closed_b11 :: .inLoop r09_closed_m11 r09_closed_b11 :: .inBlock 0 r09_closed_x11 :: r09_closed_k11) [U,x1,x2,x3,x4,x5,x6,U,U,U,U,U,U,U,U,U,U,U,U,U,U,U,U,U,U,U,U,U,U,U,U,U,U,U,U,U,U,U,U,U,U,U,U,U,U,U,U,U,U,U,U,U,U,U,U,U,U,U,U,U,U,U,U,U,U,U,U,U,U,U,U,U,U,U,U,U,U,U,U,U,U,U,U] h e
abbrev r09_closed_E11 (x1 x2 x3 x4 x5 : AV) (h : List Ob) (e : Cx := cx) : Cfg := atC n_r09_closed r09_closed_k11 [U,x1,x2,x3,x4,x5,U,U,U,U,U,U,U,U,U,U,U,U,U,U,U,U,U,U,U,U,U,U,U,U,U,U,U,U,U,U,U,U,U,U,U,U,U,U,U,U,U,U,U,U,U,U,U,U,U,U,U,U,U,U,U,U,U,U,U,U,U,U,U,U,U,U,U,U,U,U,U,U,U,U,U,U,U] h e
@[simp] theorem c_r09_closed : cfun Try.prog n_r09_closed = some r09_closed := by kernel_rfl
@[simp] theorem e_r09_closed : hasBody Try.prog n_r09_closed = true := by kernel_rfl

/- r09_becomes: patchbay/patchbayref09.becomes -/
abbrev r09_becomes_p0 : List AG := [o 22 (.mv (.t 5)), o 4 (.mv (.t 22))]
abbrev r09_becomes_m1 : List Bool := [I,I,O,O,O,I,I,O,O,O,O,O,O,O,O,O,O,O,O,O,O,O,O]
abbrev r09_becomes_x1 : List Bool := [O,O,O,O,O,I,O,O,O,O,O,O,O,O,O,O,O,O,O,O,O,O,O]
abbrev r09_becomes_p2 : List AG := [o 11 (.mv (.t 6)), o 12 (.ibin .add (.t 11) (.c (.int .i64 1))), o 6 (.mv (.t 12))]
abbrev r09_becomes_p3 : List AG := [o 13 (.mv (.t 5)), o 14 (.mv (.t 0)), o 15 (.mv (.t 1)), o 16 (.mv (.t 6)), o 17 (.ixAddr 1 (.t 15) (.t 16)), o 18 (.load false 1 (.t 17)), o 19 (.call (.f n_r09_become) [(.t 14), (.t 18)]), o 20 (.lit 1 [(.int .i64 0)] [(0, (.t 19))]), o 21 (.append 1 t_int 8 (.t 13) (.t 20)), o 5 (.mv (.t 21))]
abbrev r09_becomes_p4 : List AG := [o 7 (.mv (.t 6)), o 8 (.mv (.t 1)), o 9 (.len (.t 8)), o 10 (.cmp .lss (.sc .int) (.t 7) (.t 9))]
abbrev r09_becomes_b1 : ACode := (.seq (.seq (.reg r09_becomes_p4) (.cond (.t 10) .skip (.exit 0))) (.seq (.block 1 [] (.reg r09_becomes_p3)) (.reg r09_becomes_p2)))
abbrev r09_becomes_p5 : List AG := [o 6 (.mv (.c (.int .i64 0)))]
abbrev r09_becomes_p6 : List AG := [o 5 (.nilrow 1 t_int)]
abbrev r09_becomes_p7 : List AG := [o 4 (.nilrow 1 t_int)]
abbrev r09_becomes : AFun := ⟨(.seq (.reg r09_becomes_p7) (.seq (.reg r09_becomes_p6) (.seq (.seq (.reg r09_becomes_p5) (.block 0 r09_becomes_x1 (.loop r09_becomes_m1 r09_becomes_b1))) (.seq (.reg r09_becomes_p0) .ret)))), 23, [.tmp 4]⟩
abbrev r09_becomes_k1 : List It := [.code (.seq (.reg r09_becomes_p0) .ret)]
abbrev r09_becomes_L1 (x0 x1 x5 x6 : AV) (h : List Ob) (e : Cx := cx) : Cfg := atC n_r09_becomes (.code r09_becomes_b1 :: .inLoop r09_becomes_m1 r09_becomes_b1 :: .inBlock 0 r09_becomes_x1 :: r09_becomes_k1) [x0,x1,U,U,U,x5,x6,U,U,U,U,U,U,U,U,U,U,U,U,U,U,U,U] h e
abbrev r09_becomes_E1 (x5 : AV) (h : List Ob) (e : Cx := cx) : Cfg := atC n_r09_becomes r09_becomes_k1 [U,U,U,U,U,x5,U,U,U,U,U,U,U,U,U,U,U,U,U,U,U,U,U] h e
@[simp] theorem c_r09_becomes : cfun Try.prog n_r09_becomes = some r09_becomes := by kernel_rfl
@[simp] theorem e_r09_becomes : hasBody Try.prog n_r09_becomes = true := by kernel_rfl

/- r09_literal: patchbay/patchbayref09.literal -/
abbrev r09_literal_p0 : List AG := [o 5 (.mv (.t 0)), o 6 (.cmp .geq (.sc .int) (.t 5) (.c (.int .i64 0))), o 7 (.mv (.t 6)), oy 8 7 (.mv (.t 0)), oy 9 7 (.mv (.t 1)), oy 10 7 (.ibin .mul (.c (.int .i64 2)) (.t 9)), oy 11 7 (.cmp .lss (.sc .int) (.t 8) (.t 10)), o 12 (.pick (.t 7) (.t 11) (.c (.bool false))), o 4 (.mv (.t 12))]
abbrev r09_literal_p1 : List AG := [o 4 (.mv (.c (.bool false)))]
abbrev r09_literal : AFun := ⟨(.seq (.reg r09_literal_p1) (.seq (.reg r09_literal_p0) .ret)), 13, [.tmp 4]⟩
@[simp] theorem c_r09_literal : cfun Try.prog n_r09_literal = some r09_literal := by kernel_rfl
@[simp] theorem e_r09_literal : hasBody Try.prog n_r09_literal = true := by kernel_rfl

/- r09_Led: patchbay/patchbayref09.Led -/
abbrev r09_Led_p0 : List AG := [o 77 (.mv (.t 3)), o 2 (.mv (.t 77))]
abbrev r09_Led_m1 : List Bool := [O,I,O,I,O,O,I,O,O,O,O,O,O,O,O,O,O,O,O,O,O,O,O,O,O,O,O,O,O,O,O,O,O,O,O,O,O,O,O,O,O,O,O,O,O,O,O,O,O,O,O,O,O,O,O,O,O,O,O,O,O,O,O,O,O,O,O,O,O,O,O,O,O,O,O,O,O,O]
abbrev r09_Led_x1 : List Bool := [O,O,O,I,O,O,O,O,O,O,O,O,O,O,O,O,O,O,O,O,O,O,O,O,O,O,O,O,O,O,O,O,O,O,O,O,O,O,O,O,O,O,O,O,O,O,O,O,O,O,O,O,O,O,O,O,O,O,O,O,O,O,O,O,O,O,O,O,O,O,O,O,O,O,O,O,O,O]
abbrev r09_Led_p2 : List AG := [o 50 (.mv (.t 6)), o 51 (.ibin .sub (.t 50) (.c (.int .i64 1))), o 6 (.mv (.t 51))]
abbrev r09_Led_p3 : List AG := [o 68 (.mv (.t 3)), o 69 (.off 3 (.t 1)), o 70 (.load false 1 (.t 69)), o 71 (.mv (.t 6)), o 72 (.ixAddr 2 (.t 70) (.t 71)), o 73 (.arrAddr 2 1 (.t 72) (.c (.int .i64 1))), o 74 (.load false 1 (.t 73)), o 75 (.ibin .quo (.t 74) (.c (.int .i64 2))), o 76 (.ixAddr 1 (.t 68) (.t 75)), q (.store 1 (.t 76) (.c (.bool true)))]
abbrev r09_Led_p4 : List AG := [o 59 (.mv (.t 3)), o 60 (.off 3 (.t 1)), o 61 (.load false 1 (.t 60)), o 62 (.mv (.t 6)), o 63 (.ixAddr 2 (.t 61) (.t 62)), o 64 (.arrAddr 2 1 (.t 63) (.c (.int .i64 0))), o 65 (.load false 1 (.t 64)), o 66 (.ibin .quo (.t 65) (.c (.int .i64 2))), o 67 (.ixAddr 1 (.t 59) (.t 66)), q (.store 1 (.t 67) (.c (.bool true)))]
abbrev r09_Led_p5 : ACode := (.seq (.reg r09_Led_p4) (.reg r09_Led_p3))
abbrev r09_Led_p6 : List AG := [o 52 (.mv (.t 3)), o 53 (.load true 5 (.t 1)), o 54 (.call (.f n_r09_First) [(.t 53)]), o 55 (.mv (.t 6)), o 56 (.ibin .add (.t 54) (.t 55)), o 57 (.ixAddr 1 (.t 52) (.t 56)), o 58 (.load false 1 (.t 57))]
abbrev r09_Led_p7 : ACode := (.seq (.reg r09_Led_p6) (.cond (.t 58) r09_Led_p5 .skip))
abbrev r09_Led_p8 : List AG := [o 48 (.mv (.t 6)), o 49 (.cmp .geq (.sc .int) (.t 48) (.c (.int .i64 0)))]
abbrev r09_Led_b1 : ACode := (.seq (.seq (.reg r09_Led_p8) (.cond (.t 49) .skip (.exit 4))) (.seq (.block 5 [] r09_Led_p7) (.reg r09_Led_p2)))
abbrev r09_Led_p9 : List AG := [o 44 (.off 3 (.t 1)), o 45 (.load false 1 (.t 44)), o 46 (.len (.t 45)), o 47 (.ibin .sub (.t 46) (.c (.int .i64 1))), o 6 (.mv (.t 47))]
abbrev r09_Led_m10 : List Bool := [O,I,O,I,O,I,O,O,O,O,O,O,O,O,O,O,O,O,O,O,O,O,O,O,O,O,O,O,O,O,O,O,O,O,O,O,O,O,O,O,O,O,O,O,O,O,O,O,O,O,O,O,O,O,O,O,O,O,O,O,O,O,O,O,O,O,O,O,O,O,O,O,O,O,O,O,O,O]
abbrev r09_Led_x10 : List Bool := [O,I,O,I,O,O,O,O,O,O,O,O,O,O,O,O,O,O,O,O,O,O,O,O,O,O,O,O,O,O,O,O,O,O,O,O,O,O,O,O,O,O,O,O,O,O,O,O,O,O,O,O,O,O,O,O,O,O,O,O,O,O,O,O,O,O,O,O,O,O,O,O,O,O,O,O,O,O]
abbrev r09_Led_p11 : List AG := [o 34 (.mv (.t 5)), o 35 (.ibin .add (.t 34) (.c (.int .i64 1))), o 5 (.mv (.t 35))]
abbrev r09_Led_p12 : List AG := [o 36 (.mv (.t 3)), o 37 (.off 4 (.t 1)), o 38 (.load false 1 (.t 37)), o 39 (.mv (.t 5)), o 40 (.ixAddr 1 (.t 38) (.t 39)), o 41 (.load false 1 (.t 40)), o 42 (.ibin .quo (.t 41) (.c (.int .i64 2))), o 43 (.ixAddr 1 (.t 36) (.t 42)), q (.store 1 (.t 43) (.c (.bool true)))]
abbrev r09_Led_p13 : List AG := [o 29 (.mv (.t 5)), o 30 (.off 4 (.t 1)), o 31 (.load false 1 (.t 30)), o 32 (.len (.t 31)), o 33 (.cmp .lss (.sc .int) (.t 29) (.t 32))]
abbrev r09_Led_b10 : ACode := (.seq (.seq (.reg r09_Led_p13) (.cond (.t 33) .skip (.exit 2))) (.seq (.block 3 [] (.reg r09_Led_p12)) (.reg r09_Led_p11)))
abbrev r09_Led_p14 : List AG := [o 5 (.mv (.c (.int .i64 0)))]
abbrev r09_Led_m15 : List Bool := [O,I,O,I,I,O,O,O,O,O,O,O,O,O,O,O,O,O,O,O,O,O,O,O,O,O,O,O,O,O,O,O,O,O,O,O,O,O,O,O,O,O,O,O,O,O,O,O,O,O,O,O,O,O,O,O,O,O,O,O,O,O,O,O,O,O,O,O,O,O,O,O,O,O,O,O,O,O]
abbrev r09_Led_x15 : List Bool := [O,I,O,I,O,O,O,O,O,O,O,O,O,O,O,O,O,O,O,O,O,O,O,O,O,O,O,O,O,O,O,O,O,O,O,O,O,O,O,O,O,O,O,O,O,O,O,O,O,O,O,O,O,O,O,O,O,O,O,O,O,O,O,O,O,O,O,O,O,O,O,O,O,O,O,O,O,O]
abbrev r09_Led_p16 : List AG := [o 19 (.mv (.t 4)), o 20 (.ibin .add (.t 19) (.c (.int .i64 1))), o 4 (.mv (.t 20))]
abbrev r09_Led_p17 : List AG := [o 21 (.mv (.t 3)), o 22 (.off 1 (.t 1)), o 23 (.load false 1 (.t 22)), o 24 (.mv (.t 4)), o 25 (.ixAddr 1 (.t 23) (.t 24)), o 26 (.load false 1 (.t 25)), o 27 (.ibin .quo (.t 26) (.c (.int .i64 2))), o 28 (.ixAddr 1 (.t 21) (.t 27)), q (.store 1 (.t 28) (.c (.bool true)))]
abbrev r09_Led_p18 : List AG := [o 14 (.mv (.t 4)), o 15 (.off 1 (.t 1)), o 16 (.load false 1 (.t 15)), o 17 (.len (.t 16)), o 18 (.cmp .lss (.sc .int) (.t 14) (.t 17))]
abbrev r09_Led_b15 : ACode := (.seq (.seq (.reg r09_Led_p18) (.cond (.t 18) .skip (.exit 0))) (.seq (.block 1 [] (.reg r09_Led_p17)) (.reg r09_Led_p16)))
abbrev r09_Led_p19 : List AG := [o 4 (.mv (.c (.int .i64 0)))]
abbrev r09_Led_p20 : List AG := [o 7 (.load true 5 (.t 1)), o 8 (.call (.f n_r09_First) [(.t 7)]), o 9 (.off 3 (.t 1)), o 10 (.load false 1 (.t 9)), o 11 (.len (.t 10)), o 12 (.ibin .add (.t 8) (.t 11)), o 13 (.mkSlice 1 t_bool 1 (.bool false) (.t 12) (.t 12)), o 3 (.mv (.t 13))]
abbrev r09_Led_p21 : List AG := [o 1 (.box 5 (.t 0)), o 2 (.nilrow 1 t_bool)]
abbrev r09_Led : AFun := ⟨(.seq (.reg r09_Led_p21) (.seq (.dreg [O,O,O,I,O,O,O,O] [2,7,7,7,7,7,9,9] r09_Led_p20) (.seq (.seq (.reg r09_Led_p19) (.block 0 r09_Led_x15 (.loop r09_Led_m15 r09_Led_b15))) (.seq (.seq (.reg r09_Led_p14) (.block 2 r09_Led_x10 (.loop r09_Led_m10 r09_Led_b10))) (.seq (.seq (.reg r09_Led_p9) (.block 4 r09_Led_x1 (.loop r09_Led_m1 r09_Led_b1))) (.seq (.reg r09_Led_p0) .ret)))))), 78, [.tmp 2]⟩
abbrev r09_Led_k1 : List It := [.code (.seq (.reg r09_Led_p0) .ret)]
abbrev r09_Led_L1 (x1 x3 x6 : AV) (h : List Ob) (e : Cx := cx) : Cfg := atC n_r09_Led (.code r09_Led_b1 :: .inLoop r09_Led_m1 r09_Led_b1 :: .inBlock 4 r09_Led_x1 :: r09_Led_k1) [U,x1,U,x3,U,U,x6,U,U,U,U,U,U,U,U,U,U,U,U,U,U,U,U,U,U,U,U,U,U,U,U,U,U,U,U,U,U,U,U,U,U,U,U,U,U,U,U,U,U,U,U,U,U,U,U,U,U,U,U,U,U,U,U,U,U,U,U,U,U,U,U,U,U,U,U,U,U,U] h e
abbrev r09_Led_E1 (x3 : AV) (h : List Ob) (e : Cx := cx) : Cfg := atC n_r09_Led r09_Led_k1 [U,U,U,x3,U,U,U,U,U,U,U,U,U,U,U,U,U,U,U,U,U,U,U,U,U,U,U,U,U,U,U,U,U,U,U,U,U,U,U,U,U,U,U,U,U,U,U,U,U,U,U,U,U,U,U,U,U,U,U,U,U,U,U,U,U,U,U,U,U,U,U,U,U,U,U,U,U,U] h e
abbrev r09_Led_k10 : List It := [.code (.seq (.seq (.reg r09_Led_p9) (.block 4 r09_Led_x1 (.loop r09_Led_m1 r09_Led_b1))) (.seq (.reg r09_Led_p0) .ret))]
abbrev r09_Led_L10 (x1 x3 x5 : AV) (h : List Ob) (e : Cx := cx) : Cfg := atC n_r09_Led (.code r09_Led_b10 :: .inLoop r09_Led_m10 r09_Led_b10 :: .inBlock 2 r09_Led_x10 :: r09_Led_k10) [U,x1,U,x3,U,x5,U,U,U,U,U,U,U,U,U,U,U,U,U,U,U,U,U,U,U,U,U,U,U,U,U,U,U,U,U,U,U,U,U,U,U,U,U,U,U,U,U,U,U,U,U,U,U,U,U,U,U,U,U,U,U,U,U,U,U,U,U,U,U,U,U,U,U,U,U,U,U,U] h e
abbrev r09_Led_E10 (x1 x3 : AV) (h : List Ob) (e : Cx := cx) : Cfg := atC n_r09_Led r09_Led_k10 [U,x1,U,x3,U,U,U,U,U,U,U,U,U,U,U,U,U,U,U,U,U,U,U,U,U,U,U,U,U,U,U,U,U,U,U,U,U,U,U,U,U,U,U,U,U,U,U,U,U,U,U,U,U,U,U,U,U,U,U,U,U,U,U,U,U,U,U,U,U,U,U,U,U,U,U,U,U,U] h e
abbrev r09_Led_k15 : List It := [.code (.seq (.seq (.reg r09_Led_p14) (.block 2 r09_Led_x10 (.loop r09_Led_m10 r09_Led_b10))) (.seq (.seq (.reg r09_Led_p9) (.block 4 r09_Led_x1 (.loop r09_Led_m1 r09_Led_b1))) (.seq (.reg r09_Led_p0) .ret)))]
abbrev r09_Led_L15 (x1 x3 x4 : AV) (h : List Ob) (e : Cx := cx) : Cfg := atC n_r09_Led (.code r09_Led_b15 :: .inLoop r09_Led_m15 r09_Led_b15 :: .inBlock 0 r09_Led_x15 :: r09_Led_k15) [U,x1,U,x3,x4,U,U,U,U,U,U,U,U,U,U,U,U,U,U,U,U,U,U,U,U,U,U,U,U,U,U,U,U,U,U,U,U,U,U,U,U,U,U,U,U,U,U,U,U,U,U,U,U,U,U,U,U,U,U,U,U,U,U,U,U,U,U,U,U,U,U,U,U,U,U,U,U,U] h e
abbrev r09_Led_E15 (x1 x3 : AV) (h : List Ob) (e : Cx := cx) : Cfg := atC n_r09_Led r09_Led_k15 [U,x1,U,x3,U,U,U,U,U,U,U,U,U,U,U,U,U,U,U,U,U,U,U,U,U,U,U,U,U,U,U,U,U,U,U,U,U,U,U,U,U,U,U,U,U,U,U,U,U,U,U,U,U,U,U,U,U,U,U,U,U,U,U,U,U,U,U,U,U,U,U,U,U,U,U,U,U,U] h e
@[simp] theorem c_r09_Led : cfun Try.prog n_r09_Led = some r09_Led := by kernel_rfl
@[simp] theorem e_r09_Led : hasBody Try.prog n_r09_Led = true := by kernel_rfl

/- r01_Ints: patchbay/patchbayref01.Ints -/
abbrev r01_Ints_p0 : List AG := [o 4 (.mv (.c (.bool true)))]
abbrev r01_Ints_m1 : List Bool := [I,I,O,O,O,I,O,O,O,O,O,O,O,O,O,O,O,O,O,O,O,O,O,O,O,O]
abbrev r01_Ints_x1 : List Bool := [O,O,O,O,O,O,O,O,O,O,O,O,O,O,O,O,O,O,O,O,O,O,O,O,O,O]
abbrev r01_Ints_p2 : List AG := [o 15 (.mv (.t 5)), o 16 (.ibin .add (.t 15) (.c (.int .i64 1))), o 5 (.mv (.t 16))]
abbrev r01_Ints_p3 : List AG := [o 4 (.mv (.c (.bool false)))]
abbrev r01_Ints_p4 : ACode := (.seq (.reg r01_Ints_p3) .ret)
abbrev r01_Ints_p5 : List AG := [o 17 (.mv (.t 0)), o 18 (.mv (.t 5)), o 19 (.ixAddr 1 (.t 17) (.t 18)), o 20 (.load false 1 (.t 19)), o 21 (.mv (.t 1)), o 22 (.mv (.t 5)), o 23 (.ixAddr 1 (.t 21) (.t 22)), o 24 (.load false 1 (.t 23)), o 25 (.cmp .neq (.sc .int) (.t 20) (.t 24))]
abbrev r01_Ints_p6 : ACode := (.seq (.dreg [O,O,O,O,O,O,O,O,O] [10,10,10,10,10,10,10,10,10] r01_Ints_p5) (.cond (.t 25) r01_Ints_p4 .skip))
abbrev r01_Ints_p7 : List AG := [o 11 (.mv (.t 5)), o 12 (.mv (.t 0)), o 13 (.len (.t 12)), o 14 (.cmp .lss (.sc .int) (.t 11) (.t 13))]
abbrev r01_Ints_b1 : ACode := (.seq (.seq (.reg r01_Ints_p7) (.cond (.t 14) .skip (.exit 0))) (.seq (.block 1 [] r01_Ints_p6) (.reg r01_Ints_p2)))
abbrev r01_Ints_p8 : List AG := [o 5 (.mv (.c (.int .i64 0)))]
abbrev r01_Ints_p9 : List AG := [o 4 (.mv (.c (.bool false)))]
abbrev r01_Ints_p10 : ACode := (.seq (.reg r01_Ints_p9) .ret)
abbrev r01_Ints_p11 : List AG := [o 6 (.mv (.t 0)), o 7 (.len (.t 6)), o 8 (.mv (.t 1)), o 9 (.len (.t 8)), o 10 (.cmp .neq (.sc .int) (.t 7) (.t 9))]
abbrev r01_Ints_p12 : List AG := [o 4 (.mv (.c (.bool false)))]
abbrev r01_Ints : AFun := ⟨(.seq (.reg r01_Ints_p12) (.seq (.seq (.reg r01_Ints_p11) (.cond (.t 10) r01_Ints_p10 .skip)) (.seq (.seq (.reg r01_Ints_p8) (.block 0 r01_Ints_x1 (.loop r01_Ints_m1 r01_Ints_b1))) (.seq (.reg r01_Ints_p0) .ret)))), 26, [.tmp 4]⟩
abbrev r01_Ints_k1 : List It := [.code (.seq (.reg r01_Ints_p0) .ret)]
abbrev r01_Ints_L1 (x0 x1 x5 : AV) (h : List Ob) (e : Cx := cx) : Cfg := atC n_r01_Ints (.code r01_Ints_b1 :: .inLoop r01_Ints_m1 r01_Ints_b1 :: .inBlock 0 r01_Ints_x1 :: r01_Ints_k1) [x0,x1,U,U,U,x5,U,U,U,U,U,U,U,U,U,U,U,U,U,U,U,U,U,U,U,U] h e
abbrev r01_Ints_E1 (h : List Ob) (e : Cx := cx) : Cfg := atC n_r01_Ints r01_Ints_k1 [U,U,U,U,U,U,U,U,U,U,U,U,U,U,U,U,U,U,U,U,U,U,U,U,U,U] h e
@[simp] theorem c_r01_Ints : cfun Try.prog n_r01_Ints = some r01_Ints := by kernel_rfl
@[simp] theorem e_r01_Ints : hasBody Try.prog n_r01_Ints = true := by kernel_rfl

/- aig_Check_1: patchbay/aig.Check$1 -/
abbrev aig_Check_1_p0 : List AG := [o 4 (.mv (.t 0)), o 5 (.cmp .lss (.sc .int) (.t 4) (.c (.int .i64 0))), o 6 (.mv (.t 5)), on 7 6 (.mv (.t 0)), on 8 6 (.load false 1 (.t 1)), on 9 6 (.cmp .geq (.sc .int) (.t 7) (.t 8)), o 10 (.pick (.t 6) (.c (.bool true)) (.t 9)), o 3 (.mv (.t 10))]
abbrev aig_Check_1_p1 : List AG := [o 3 (.mv (.c (.bool false)))]
abbrev aig_Check_1 : AFun := ⟨(.seq (.reg aig_Check_1_p1) (.seq (.reg aig_Check_1_p0) .ret)), 11, [.tmp 3]⟩
@[simp] theorem c_aig_Check_1 : cfun Try.prog n_aig_Check_1 = some aig_Check_1 := by kernel_rfl
@[simp] theorem e_aig_Check_1 : hasBody Try.prog n_aig_Check_1 = true := by kernel_rfl

/- aig_Check_2: patchbay/aig.Check$2 -/
abbrev aig_Check_2_p0 : List AG := [o 3 (.mv (.t 0)), o 4 (.cmp .lss (.sc .int) (.t 3) (.c (.int .i64 0))), o 5 (.mv (.t 4)), on 6 5 (.mv (.t 0)), on 7 5 (.cmp .gtr (.sc .int) (.t 6) (.c (.int .i64 2))), o 8 (.pick (.t 5) (.c (.bool true)) (.t 7)), o 2 (.mv (.t 8))]
abbrev aig_Check_2_p1 : List AG := [o 2 (.mv (.c (.bool false)))]
abbrev aig_Check_2 : AFun := ⟨(.seq (.reg aig_Check_2_p1) (.seq (.reg aig_Check_2_p0) .ret)), 9, [.tmp 2]⟩
@[simp] theorem c_aig_Check_2 : cfun Try.prog n_aig_Check_2 = some aig_Check_2 := by kernel_rfl
@[simp] theorem e_aig_Check_2 : hasBody Try.prog n_aig_Check_2 = true := by kernel_rfl

/- slices_ContainsFunc_int_int: slices.ContainsFunc[[]int,int] -/
abbrev slices_ContainsFunc_int_int_p0 : List AG := [o 5 (.mv (.t 0)), o 6 (.mv (.t 1)), o 7 (.call (.f n_slices_IndexFunc_int_int) [(.t 5), (.t 6)]), o 8 (.cmp .geq (.sc .int) (.t 7) (.c (.int .i64 0))), o 4 (.mv (.t 8))]
abbrev slices_ContainsFunc_int_int_p1 : List AG := [o 4 (.mv (.c (.bool false)))]
abbrev slices_ContainsFunc_int_int : AFun := ⟨(.seq (.reg slices_ContainsFunc_int_int_p1) (.seq (.reg slices_ContainsFunc_int_int_p0) .ret)), 9, [.tmp 4]⟩
@[simp] theorem c_slices_ContainsFunc_int_int : cfun Try.prog n_slices_ContainsFunc_int_int = some slices_ContainsFunc_int_int := by kernel_rfl
@[simp] theorem e_slices_ContainsFunc_int_int : hasBody Try.prog n_slices_ContainsFunc_int_int = true := by kernel_rfl

/- slices_Contains_2_int_2_int: slices.Contains[[][2]int,[2]int] -/
abbrev slices_Contains_2_int_2_int_p0 : List AG := [o 5 (.mv (.t 0)), o 6 (.load true 2 (.t 3)), o 7 (.call (.f n_slices_Index_2_int_2_int) [(.t 5), (.t 6)]), o 8 (.cmp .geq (.sc .int) (.t 7) (.c (.int .i64 0))), o 4 (.mv (.t 8))]
abbrev slices_Contains_2_int_2_int_p1 : List AG := [o 3 (.box 2 (.t 1)), o 4 (.mv (.c (.bool false)))]
abbrev slices_Contains_2_int_2_int : AFun := ⟨(.seq (.reg slices_Contains_2_int_2_int_p1) (.seq (.reg slices_Contains_2_int_2_int_p0) .ret)), 9, [.tmp 4]⟩
@[simp] theorem c_slices_Contains_2_int_2_int : cfun Try.prog n_slices_Contains_2_int_2_int = some slices_Contains_2_int_2_int := by kernel_rfl
@[simp] theorem e_slices_Contains_2_int_2_int : hasBody Try.prog n_slices_Contains_2_int_2_int = true := by kernel_rfl

/- slices_Equal_int_int: slices.Equal[[]int,int] -/
abbrev slices_Equal_int_int_p0 : List AG := [o 4 (.mv (.c (.bool true)))]
abbrev slices_Equal_int_int_m1 : List Bool := [I,I,O,O,O,O,O,O,O,O,O,O,I,I,O,O,O,O,O,O,O,O,O,O,O,O]
abbrev slices_Equal_int_int_x1 : List Bool := [O,O,O,O,O,O,O,O,O,O,O,O,O,O,O,O,O,O,O,O,O,O,O,O,O,O]
abbrev slices_Equal_int_int_p2 : List AG := [o 25 (.ibin .add (.t 13) (.c (.int .i64 1))), o 13 (.mv (.t 25))]
abbrev slices_Equal_int_int_p3 : List AG := [o 4 (.mv (.c (.bool false)))]
abbrev slices_Equal_int_int_p4 : ACode := (.seq (.reg slices_Equal_int_int_p3) .ret)
abbrev slices_Equal_int_int_p5 : List AG := [o 16 (.mv (.t 0)), o 17 (.mv (.t 5)), o 18 (.ixAddr 1 (.t 16) (.t 17)), o 19 (.load false 1 (.t 18)), o 20 (.mv (.t 1)), o 21 (.mv (.t 5)), o 22 (.ixAddr 1 (.t 20) (.t 21)), o 23 (.load false 1 (.t 22)), o 24 (.cmp .neq (.sc .int) (.t 19) (.t 23))]
abbrev slices_Equal_int_int_p6 : List AG := [o 15 (.mv (.t 13)), o 5 (.mv (.t 15))]
abbrev slices_Equal_int_int_p7 : ACode := (.seq (.reg slices_Equal_int_int_p6) (.seq (.dreg [O,O,O,O,O,O,O,O,O] [10,10,10,10,10,10,10,10,10] slices_Equal_int_int_p5) (.cond (.t 24) slices_Equal_int_int_p4 .skip)))
abbrev slices_Equal_int_int_p8 : List AG := [o 14 (.cmp .lss (.sc .int) (.t 13) (.t 12))]
abbrev slices_Equal_int_int_b1 : ACode := (.seq (.reg slices_Equal_int_int_p8) (.seq (.cond (.t 14) .skip (.exit 0)) (.seq (.block 1 [] slices_Equal_int_int_p7) (.reg slices_Equal_int_int_p2))))
abbrev slices_Equal_int_int_p9 : List AG := [o 11 (.mv (.t 0)), o 12 (.len (.t 11)), o 13 (.mv (.c (.int .i64 0)))]
abbrev slices_Equal_int_int_p10 : List AG := [o 4 (.mv (.c (.bool false)))]
abbrev slices_Equal_int_int_p11 : ACode := (.seq (.reg slices_Equal_int_int_p10) .ret)
abbrev slices_Equal_int_int_p12 : List AG := [o 6 (.mv (.t 0)), o 7 (.len (.t 6)), o 8 (.mv (.t 1)), o 9 (.len (.t 8)), o 10 (.cmp .neq (.sc .int) (.t 7) (.t 9))]
abbrev slices_Equal_int_int_p13 : List AG := [o 4 (.mv (.c (.bool false)))]
abbrev slices_Equal_int_int : AFun := ⟨(.seq (.reg slices_Equal_int_int_p13) (.seq (.seq (.reg slices_Equal_int_int_p12) (.cond (.t 10) slices_Equal_int_int_p11 .skip)) (.seq (.seq (.reg slices_Equal_int_int_p9) (.block 0 slices_Equal_int_int_x1 (.loop slices_Equal_int_int_m1 slices_Equal_int_int_b1))) (.seq (.reg slices_Equal_int_int_p0) .ret)))), 26, [.tmp 4]⟩
abbrev slices_Equal_int_int_k1 : List It := [.code (.seq (.reg slices_Equal_int_int_p0) .ret)]
abbrev slices_Equal_int_int_L1 (x0 x1 x12 x13 : AV) (h : List Ob) (e : Cx := cx) : Cfg := atC n_slices_Equal_int_int (.code slices_Equal_int_int_b1 :: .inLoop slices_Equal_int_int_m1 slices_Equal_int_int_b1 :: .inBlock 0 slices_Equal_int_int_x1 :: slices_Equal_int_int_k1) [x0,x1,U,U,U,U,U,U,U,U,U,U,x12,x13,U,U,U,U,U,U,U,U,U,U,U,U] h e
abbrev slices_Equal_int_int_E1 (h : List Ob) (e : Cx := cx) : Cfg := atC n_slices_Equal_int_int slices_Equal_int_int_k1 [U,U,U,U,U,U,U,U,U,U,U,U,U,U,U,U,U,U,U,U,U,U,U,U,U,U] h e
@[simp] theorem c_slices_Equal_int_int : cfun Try.prog n_slices_Equal_int_int = some slices_Equal_int_int := by kernel_rfl
@[simp] theorem e_slices_Equal_int_int : hasBody Try.prog n_slices_Equal_int_int = true := by kernel_rfl

/- slices_Equal_2_int_2_int: slices.Equal[[][2]int,[2]int] -/
abbrev slices_Equal_2_int_2_int_p0 : List AG := [o 4 (.mv (.c (.bool true)))]
abbrev slices_Equal_2_int_2_int_m1 : List Bool := [I,I,O,O,O,O,O,O,O,O,O,O,I,I,O,O,O,O,O,O,O,O,O,O,O,O]
abbrev slices_Equal_2_int_2_int_x1 : List Bool := [O,O,O,O,O,O,O,O,O,O,O,O,O,O,O,O,O,O,O,O,O,O,O,O,O,O]
abbrev slices_Equal_2_int_2_int_p2 : List AG := [o 25 (.ibin .add (.t 13) (.c (.int .i64 1))), o 13 (.mv (.t 25))]
abbrev slices_Equal_2_int_2_int_p3 : List AG := [o 4 (.mv (.c (.bool false)))]
abbrev slices_Equal_2_int_2_int_p4 : ACode := (.seq (.reg slices_Equal_2_int_2_int_p3) .ret)
abbrev slices_Equal_2_int_2_int_p5 : List AG := [o 16 (.mv (.t 0)), o 17 (.mv (.t 5)), o 18 (.ixAddr 2 (.t 16) (.t 17)), o 19 (.load true 2 (.t 18)), o 20 (.mv (.t 1)), o 21 (.mv (.t 5)), o 22 (.ixAddr 2 (.t 20) (.t 21)), o 23 (.load true 2 (.t 22)), o 24 (.cmp .neq (.strct [.int, .int]) (.t 19) (.t 23))]
abbrev slices_Equal_2_int_2_int_p6 : List AG := [o 15 (.mv (.t 13)), o 5 (.mv (.t 15))]
abbrev slices_Equal_2_int_2_int_p7 : ACode := (.seq (.reg slices_Equal_2_int_2_int_p6) (.seq (.dreg [O,O,O,O,O,O,O,O,O] [10,10,10,10,10,10,10,10,10] slices_Equal_2_int_2_int_p5) (.cond (.t 24) slices_Equal_2_int_2_int_p4 .skip)))
abbrev slices_Equal_2_int_2_int_p8 : List AG := [o 14 (.cmp .lss (.sc .int) (.t 13) (.t 12))]
abbrev slices_Equal_2_int_2_int_b1 : ACode := (.seq (.reg slices_Equal_2_int_2_int_p8) (.seq (.cond (.t 14) .skip (.exit 0)) (.seq (.block 1 [] slices_Equal_2_int_2_int_p7) (.reg slices_Equal_2_int_2_int_p2))))
abbrev slices_Equal_2_int_2_int_p9 : List AG := [o 11 (.mv (.t 0)), o 12 (.len (.t 11)), o 13 (.mv (.c (.int .i64 0)))]
abbrev slices_Equal_2_int_2_int_p10 : List AG := [o 4 (.mv (.c (.bool false)))]
abbrev slices_Equal_2_int_2_int_p11 : ACode := (.seq (.reg slices_Equal_2_int_2_int_p10) .ret)
abbrev slices_Equal_2_int_2_int_p12 : List AG := [o 6 (.mv (.t 0)), o 7 (.len (.t 6)), o 8 (.mv (.t 1)), o 9 (.len (.t 8)), o 10 (.cmp .neq (.sc .int) (.t 7) (.t 9))]
abbrev slices_Equal_2_int_2_int_p13 : List AG := [o 4 (.mv (.c (.bool false)))]
abbrev slices_Equal_2_int_2_int : AFun := ⟨(.seq (.reg slices_Equal_2_int_2_int_p13) (.seq (.seq (.reg slices_Equal_2_int_2_int_p12) (.cond (.t 10) slices_Equal_2_int_2_int_p11 .skip)) (.seq (.seq (.reg slices_Equal_2_int_2_int_p9) (.block 0 slices_Equal_2_int_2_int_x1 (.loop slices_Equal_2_int_2_int_m1 slices_Equal_2_int_2_int_b1))) (.seq (.reg slices_Equal_2_int_2_int_p0) .ret)))), 26, [.tmp 4]⟩
abbrev slices_Equal_2_int_2_int_k1 : List It := [.code (.seq (.reg slices_Equal_2_int_2_int_p0) .ret)]
abbrev slices_Equal_2_int_2_int_L1 (x0 x1 x12 x13 : AV) (h : List Ob) (e : Cx := cx) : Cfg := atC n_slices_Equal_2_int_2_int (.code slices_Equal_2_int_2_int_b1 :: .inLoop slices_Equal_2_int_2_int_m1 slices_Equal_2_int_2_int_b1 :: .inBlock 0 slices_Equal_2_int_2_int_x1 :: slices_Equal_2_int_2_int_k1) [x0,x1,U,U,U,U,U,U,U,U,U,U,x12,x13,U,U,U,U,U,U,U,U,U,U,U,U] h e
abbrev slices_Equal_2_int_2_int_E1 (h : List Ob) (e : Cx := cx) : Cfg := atC n_slices_Equal_2_int_2_int slices_Equal_2_int_2_int_k1 [U,U,U,U,U,U,U,U,U,U,U,U,U,U,U,U,U,U,U,U,U,U,U,U,U,U] h e
@[simp] theorem c_slices_Equal_2_int_2_int : cfun Try.prog n_slices_Equal_2_int_2_int = some slices_Equal_2_int_2_int := by kernel_rfl
@[simp] theorem e_slices_Equal_2_int_2_int : hasBody Try.prog n_slices_Equal_2_int_2_int = true := by kernel_rfl

/- slices_Concat_bool_bool: slices.Concat[[]bool,bool] -/
abbrev slices_Concat_bool_bool_p0 : List AG := [o 35 (.mv (.t 6)), o 2 (.mv (.t 35))]
abbrev slices_Concat_bool_bool_m1 : List Bool := [O,O,O,O,O,O,I,O,O,O,O,O,O,O,O,O,O,O,O,O,O,O,O,O,O,I,I,I,O,O,O,O,O,O,O,O]
abbrev slices_Concat_bool_bool_x1 : List Bool := [O,O,O,O,O,O,I,O,O,O,O,O,O,O,O,O,O,O,O,O,O,O,O,O,O,O,O,O,O,O,O,O,O,O,O,O]
abbrev slices_Concat_bool_bool_p2 : List AG := [o 34 (.ibin .add (.t 27) (.c (.int .i64 1))), o 27 (.mv (.t 34))]
abbrev slices_Concat_bool_bool_p3 : List AG := [o 31 (.mv (.t 6)), o 32 (.mv (.t 8)), o 33 (.append 1 t_bool 1 (.t 31) (.t 32)), o 6 (.mv (.t 33))]
abbrev slices_Concat_bool_bool_p4 : List AG := [o 29 (.ixAddr 1 (.t 25) (.t 27)), o 30 (.load false 1 (.t 29)), o 8 (.mv (.t 30))]
abbrev slices_Concat_bool_bool_p5 : ACode := (.seq (.reg slices_Concat_bool_bool_p4) (.reg slices_Concat_bool_bool_p3))
abbrev slices_Concat_bool_bool_p6 : List AG := [o 28 (.cmp .lss (.sc .int) (.t 27) (.t 26))]
abbrev slices_Concat_bool_bool_b1 : ACode := (.seq (.reg slices_Concat_bool_bool_p6) (.seq (.cond (.t 28) .skip (.exit 2)) (.seq (.block 3 [] slices_Concat_bool_bool_p5) (.reg slices_Concat_bool_bool_p2))))
abbrev slices_Concat_bool_bool_p7 : List AG := [o 25 (.mv (.t 0)), o 26 (.len (.t 25)), o 27 (.mv (.c (.int .i64 0)))]
abbrev slices_Concat_bool_bool_p8 : List AG := [o 23 (.mv (.t 3)), o 24 (.call (.f n_slices_Grow_bool_bool) [(.c (.list true 0 [])), (.t 23)]), o 6 (.mv (.t 24))]
abbrev slices_Concat_bool_bool_m9 : List Bool := [I,O,O,I,O,O,O,O,O,I,I,I,O,O,O,O,O,O,O,O,O,O,O,O,O,O,O,O,O,O,O,O,O,O,O,O]
abbrev slices_Concat_bool_bool_x9 : List Bool := [I,O,O,I,O,O,O,O,O,O,O,O,O,O,O,O,O,O,O,O,O,O,O,O,O,O,O,O,O,O,O,O,O,O,O,O]
abbrev slices_Concat_bool_bool_p10 : List AG := [o 22 (.ibin .add (.t 11) (.c (.int .i64 1))), o 11 (.mv (.t 22))]
abbrev slices_Concat_bool_bool_p11 : List AG := [o 21 (.mkIface t_string (.c (.str [108, 101, 110, 32, 111, 117, 116, 32, 111, 102, 32, 114, 97, 110, 103, 101]))), q (.panic (.t 21))]
abbrev slices_Concat_bool_bool_p12 : List AG := [o 19 (.mv (.t 3)), o 20 (.cmp .lss (.sc .int) (.t 19) (.c (.int .i64 0)))]
abbrev slices_Concat_bool_bool_p13 : List AG := [o 15 (.mv (.t 3)), o 16 (.mv (.t 5)), o 17 (.len (.t 16)), o 18 (.ibin .add (.t 15) (.t 17)), o 3 (.mv (.t 18))]
abbrev slices_Concat_bool_bool_p14 : List AG := [o 13 (.ixAddr 1 (.t 9) (.t 11)), o 14 (.load false 1 (.t 13)), o 5 (.mv (.t 14))]
abbrev slices_Concat_bool_bool_p15 : ACode := (.seq (.reg slices_Concat_bool_bool_p14) (.seq (.reg slices_Concat_bool_bool_p13) (.seq (.reg slices_Concat_bool_bool_p12) (.cond (.t 20) (.reg slices_Concat_bool_bool_p11) .skip))))
abbrev slices_Concat_bool_bool_p16 : List AG := [o 12 (.cmp .lss (.sc .int) (.t 11) (.t 10))]
abbrev slices_Concat_bool_bool_b9 : ACode := (.seq (.reg slices_Concat_bool_bool_p16) (.seq (.cond (.t 12) .skip (.exit 0)) (.seq (.block 1 [] slices_Concat_bool_bool_p15) (.reg slices_Concat_bool_bool_p10))))
abbrev slices_Concat_bool_bool_p17 : List AG := [o 9 (.mv (.t 0)), o 10 (.len (.t 9)), o 11 (.mv (.c (.int .i64 0)))]
abbrev slices_Concat_bool_bool_p18 : List AG := [o 3 (.mv (.c (.int .i64 0)))]
abbrev slices_Concat_bool_bool_p19 : List AG := [o 2 (.nilrow 1 t_bool)]
abbrev slices_Concat_bool_bool : AFun := ⟨(.seq (.reg slices_Concat_bool_bool_p19) (.seq (.reg slices_Concat_bool_bool_p18) (.seq (.seq (.reg slices_Concat_bool_bool_p17) (.block 0 slices_Concat_bool_bool_x9 (.loop slices_Concat_bool_bool_m9 slices_Concat_bool_bool_b9))) (.seq (.reg slices_Concat_bool_bool_p8) (.seq (.seq (.reg slices_Concat_bool_bool_p7) (.block 2 slices_Concat_bool_bool_x1 (.loop slices_Concat_bool_bool_m1 slices_Concat_bool_bool_b1))) (.seq (.reg slices_Concat_bool_bool_p0) .ret)))))), 36, [.tmp 2]⟩
abbrev slices_Concat_bool_bool_k1 : List It := [.code (.seq (.reg slices_Concat_bool_bool_p0) .ret)]
abbrev slices_Concat_bool_bool_L1 (x6 x25 x26 x27 : AV) (h : List Ob) (e : Cx := cx) : Cfg := atC n_slices_Concat_bool_bool (.code slices_Concat_bool_bool_b1 :: .inLoop slices_Concat_bool_bool_m1 slices_Concat_bool_bool_b1 :: .inBlock 2 slices_Concat_bool_bool_x1 :: slices_Concat_bool_bool_k1) [U,U,U,U,U,U,x6,U,U,U,U,U,U,U,U,U,U,U,U,U,U,U,U,U,U,x25,x26,x27,U,U,U,U,U,U,U,U] h e
abbrev slices_Concat_bool_bool_E1 (x6 : AV) (h : List Ob) (e : Cx := cx) : Cfg := atC n_slices_Concat_bool_bool slices_Concat_bool_bool_k1 [U,U,U,U,U,U,x6,U,U,U,U,U,U,U,U,U,U,U,U,U,U,U,U,U,U,U,U,U,U,U,U,U,U,U,U,U] h e
abbrev slices_Concat_bool_bool_k9 : List It := [.code (.seq (.reg slices_Concat_bool_bool_p8) (.seq (.seq (.reg slices_Concat_bool_bool_p7) (.block 2 slices_Concat_bool_bool_x1 (.loop slices_Concat_bool_bool_m1 slices_Concat_bool_bool_b1))) (.seq (.reg slices_Concat_bool_bool_p0) .ret)))]
abbrev slices_Concat_bool_bool_L9 (x0 x3 x9 x10 x11 : AV) (h : List Ob) (e : Cx := cx) : Cfg := atC n_slices_Concat_bool_bool (.code slices_Concat_bool_bool_b9 :: .inLoop slices_Concat_bool_bool_m9 slices_Concat_bool_bool_b9 :: .inBlock 0 slices_Concat_bool_bool_x9 :: slices_Concat_bool_bool_k9) [x0,U,U,x3,U,U,U,U,U,x9,x10,x11,U,U,U,U,U,U,U,U,U,U,U,U,U,U,U,U,U,U,U,U,U,U,U,U] h e
abbrev slices_Concat_bool_bool_E9 (x0 x3 : AV) (h : List Ob) (e : Cx := cx) : Cfg := atC n_slices_Concat_bool_bool slices_Concat_bool_bool_k9 [x0,U,U,x3,U,U,U,U,U,U,U,U,U,U,U,U,U,U,U,U,U,U,U,U,U,U,U,U,U,U,U,U,U,U,U,U] h e
@[simp] theorem c_slices_Concat_bool_bool : cfun Try.prog n_slices_Concat_bool_bool = some slices_Concat_bool_bool := by kernel_rfl
@[simp] theorem e_slices_Concat_bool_bool : hasBody Try.prog n_slices_Concat_bool_bool = true := by kernel_rfl

/- aig_value: patchbay/aig.value -/
abbrev aig_value_p0 : List AG := [o 5 (.mv (.t 0)), o 6 (.mv (.t 1)), o 7 (.ibin .shr (.t 6) (.c (.int .u64 1))), o 8 (.ixAddr 1 (.t 5) (.t 7)), o 9 (.load false 1 (.t 8)), o 10 (.mv (.t 1)), o 11 (.ibin .and (.t 10) (.c (.int .i64 1))), o 12 (.cmp .eql (.sc .int) (.t 11) (.c (.int .i64 1))), o 13 (.cmp .neq (.sc .bool) (.t 9) (.t 12)), o 4 (.mv (.t 13))]
abbrev aig_value_p1 : List AG := [o 4 (.mv (.c (.bool false)))]
abbrev aig_value : AFun := ⟨(.seq (.reg aig_value_p1) (.seq (.reg aig_value_p0) .ret)), 14, [.tmp 4]⟩
@[simp] theorem c_aig_value : cfun Try.prog n_aig_value = some aig_value := by kernel_rfl
@[simp] theorem e_aig_value : hasBody Try.prog n_aig_value = true := by kernel_rfl

/- aig_Step_1: patchbay/aig.Step$1 -/
abbrev aig_Step_1_p0 : List AG := [o 20 (.mv (.t 4)), o 3 (.mv (.t 20))]
abbrev aig_Step_1_m1 : List Bool := [O,I,O,O,I,O,O,I,I,I,O,O,O,O,O,O,O,O,O,O,O]
abbrev aig_Step_1_x1 : List Bool := [O,O,O,O,I,O,O,O,O,O,O,O,O,O,O,O,O,O,O,O,O]
abbrev aig_Step_1_p2 : List AG := [o 19 (.ibin .add (.t 9) (.c (.int .i64 1))), o 9 (.mv (.t 19))]
abbrev aig_Step_1_p3 : List AG := [o 13 (.mv (.t 4)), o 14 (.load false 1 (.t 1)), o 15 (.mv (.t 6)), o 16 (.call (.f n_aig_value) [(.t 14), (.t 15)]), o 17 (.lit 1 [(.bool false)] [(0, (.t 16))]), o 18 (.append 1 t_bool 1 (.t 13) (.t 17)), o 4 (.mv (.t 18))]
abbrev aig_Step_1_p4 : List AG := [o 11 (.ixAddr 1 (.t 7) (.t 9)), o 12 (.load false 1 (.t 11)), o 6 (.mv (.t 12))]
abbrev aig_Step_1_p5 : ACode := (.seq (.reg aig_Step_1_p4) (.reg aig_Step_1_p3))
abbrev aig_Step_1_p6 : List AG := [o 10 (.cmp .lss (.sc .int) (.t 9) (.t 8))]
abbrev aig_Step_1_b1 : ACode := (.seq (.reg aig_Step_1_p6) (.seq (.cond (.t 10) .skip (.exit 0)) (.seq (.block 1 [] aig_Step_1_p5) (.reg aig_Step_1_p2))))
abbrev aig_Step_1_p7 : List AG := [o 7 (.mv (.t 0)), o 8 (.len (.t 7)), o 9 (.mv (.c (.int .i64 0)))]
abbrev aig_Step_1_p8 : List AG := [o 4 (.nilrow 1 t_bool)]
abbrev aig_Step_1_p9 : List AG := [o 3 (.nilrow 1 t_bool)]
abbrev aig_Step_1 : AFun := ⟨(.seq (.reg aig_Step_1_p9) (.seq (.reg aig_Step_1_p8) (.seq (.seq (.reg aig_Step_1_p7) (.block 0 aig_Step_1_x1 (.loop aig_Step_1_m1 aig_Step_1_b1))) (.seq (.reg aig_Step_1_p0) .ret)))), 21, [.tmp 3]⟩
abbrev aig_Step_1_k1 : List It := [.code (.seq (.reg aig_Step_1_p0) .ret)]
abbrev aig_Step_1_L1 (x1 x4 x7 x8 x9 : AV) (h : List Ob) (e : Cx := cx) : Cfg := atC n_aig_Step_1 (.code aig_Step_1_b1 :: .inLoop aig_Step_1_m1 aig_Step_1_b1 :: .inBlock 0 aig_Step_1_x1 :: aig_Step_1_k1) [U,x1,U,U,x4,U,U,x7,x8,x9,U,U,U,U,U,U,U,U,U,U,U] h e
abbrev aig_Step_1_E1 (x4 : AV) (h : List Ob) (e : Cx := cx) : Cfg := atC n_aig_Step_1 aig_Step_1_k1 [U,U,U,U,x4,U,U,U,U,U,U,U,U,U,U,U,U,U,U,U,U] h e
@[simp] theorem c_aig_Step_1 : cfun Try.prog n_aig_Step_1 = some aig_Step_1 := by kernel_rfl
@[simp] theorem e_aig_Step_1 : hasBody Try.prog n_aig_Step_1 = true := by kernel_rfl

/- aig_build: patchbay/aig.build -/
abbrev aig_build_p0 : List AG := [o 49 (.mv (.t 3)), o 2 (.mv (.t 49))]
abbrev aig_build_m1 : List Bool := [O,I,O,I,O,O,O,O,O,O,O,O,O,O,O,O,O,O,O,O,I,I,I,O,O,O,O,O,O,O,O,O,O,O,O,O,O,O,O,O,O,O,O,O,O,O,O,O,O,O]
abbrev aig_build_x1 : List Bool := [O,O,O,I,O,O,O,O,O,O,O,O,O,O,O,O,O,O,O,O,O,O,O,O,O,O,O,O,O,O,O,O,O,O,O,O,O,O,O,O,O,O,O,O,O,O,O,O,O,O]
abbrev aig_build_p2 : List AG := [o 48 (.ibin .add (.t 22) (.c (.int .i64 1))), o 22 (.mv (.t 48))]
abbrev aig_build_p3 : List AG := [o 38 (.mv (.t 3)), o 39 (.nilck (.t 38)), o 40 (.off 5 (.t 39)), o 41 (.load false 1 (.t 40)), o 42 (.load true 2 (.t 5)), o 43 (.load true 5 (.t 1)), o 44 (.call (.f n_aig_first) [(.t 43)]), o 45 (.mv (.t 4)), o 46 (.ibin .add (.t 44) (.t 45)), o 47 (.ibin .mul (.c (.int .i64 2)) (.t 46)), q (.upd (.strct [.int, .int]) (.t 41) (.t 42) (.t 47))]
abbrev aig_build_p4 : List AG := [o 36 (.mv (.t 7)), o 37 (.not (.t 36))]
abbrev aig_build_p5 : List AG := [o 28 (.mv (.t 3)), o 29 (.nilck (.t 28)), o 30 (.off 5 (.t 29)), o 31 (.load false 1 (.t 30)), o 32 (.load true 2 (.t 5)), o 33 (.lookup (.strct [.int, .int]) (.int .i64 0) (.t 31) (.t 32) true), o 27 (.mv (.t 33)), o 34 (.extract (.t 27) 0), o 35 (.extract (.t 27) 1), o 6 (.mv (.t 34)), o 7 (.mv (.t 35))]
abbrev aig_build_p6 : List AG := [o 24 (.mv (.t 22)), o 25 (.ixAddr 2 (.t 20) (.t 22)), o 26 (.load true 2 (.t 25)), o 5 (.alloc [(.int .i64 0), (.int .i64 0)]), o 4 (.mv (.t 24)), q (.store 2 (.t 5) (.t 26))]
abbrev aig_build_p7 : ACode := (.seq (.reg aig_build_p6) (.seq (.dreg [O,O,O,O,O,O,O,O,O,O,O] [12,12,12,12,12,12,12,12,12,12,12] aig_build_p5) (.seq (.reg aig_build_p4) (.cond (.t 37) (.dreg [O,O,O,I,I,O,O,O,O,O,O] [11,11,11,11,11,7,11,11,11,11,12] aig_build_p3) .skip))))
abbrev aig_build_p8 : List AG := [o 23 (.cmp .lss (.sc .int) (.t 22) (.t 21))]
abbrev aig_build_b1 : ACode := (.seq (.reg aig_build_p8) (.seq (.cond (.t 23) .skip (.exit 0)) (.seq (.block 1 [] aig_build_p7) (.reg aig_build_p2))))
abbrev aig_build_p9 : List AG := [o 19 (.off 3 (.t 1)), o 20 (.load false 1 (.t 19)), o 21 (.len (.t 20)), o 22 (.mv (.c (.int .i64 0)))]
abbrev aig_build_p10 : List AG := [o 12 (.mv (.t 3)), o 13 (.off 3 (.t 1)), o 14 (.load false 1 (.t 13)), o 15 (.call (.f n_slices_Clone_2_int_2_int) [(.t 14)]), o 16 (.nilck (.t 12)), o 17 (.off 0 (.t 16)), o 18 (.off 3 (.t 17)), q (.store 1 (.t 18) (.t 15))]
abbrev aig_build_p11 : List AG := [o 8 (.load true 5 (.t 1)), o 9 (.mkMap), o 10 (.build [(.int .i64 0), (.list true 0 []), (.list true 0 []), (.list true 0 []), (.list true 0 []), .nilm, (.list true 0 [])] [(0, 5, (.t 8)), (5, 1, (.t 9))]), o 11 (.box 7 (.t 10)), o 3 (.mv (.t 11))]
abbrev aig_build_p12 : List AG := [o 1 (.box 5 (.t 0)), o 2 (.mv (.c .nilp))]
abbrev aig_build : AFun := ⟨(.seq (.reg aig_build_p12) (.seq (.reg aig_build_p11) (.seq (.reg aig_build_p10) (.seq (.seq (.reg aig_build_p9) (.block 0 aig_build_x1 (.loop aig_build_m1 aig_build_b1))) (.seq (.reg aig_build_p0) .ret))))), 50, [.tmp 2]⟩
abbrev aig_build_k1 : List It := [.code (.seq (.reg aig_build_p0) .ret)]
abbrev aig_build_L1 (x1 x3 x20 x21 x22 : AV) (h : List Ob) (e : Cx := cx) : Cfg := atC n_aig_build (.code aig_build_b1 :: .inLoop aig_build_m1 aig_build_b1 :: .inBlock 0 aig_build_x1 :: aig_build_k1) [U,x1,U,x3,U,U,U,U,U,U,U,U,U,U,U,U,U,U,U,U,x20,x21,x22,U,U,U,U,U,U,U,U,U,U,U,U,U,U,U,U,U,U,U,U,U,U,U,U,U,U,U] h e
abbrev aig_build_E1 (x3 : AV) (h : List Ob) (e : Cx := cx) : Cfg := atC n_aig_build aig_build_k1 [U,U,U,x3,U,U,U,U,U,U,U,U,U,U,U,U,U,U,U,U,U,U,U,U,U,U,U,U,U,U,U,U,U,U,U,U,U,U,U,U,U,U,U,U,U,U,U,U,U,U] h e
@[simp] theorem c_aig_build : cfun Try.prog n_aig_build = some aig_build := by kernel_rfl
@[simp] theorem e_aig_build : hasBody Try.prog n_aig_build = true := by kernel_rfl

/- slices_Clone_int_int: slices.Clone[[]int,int] -/
abbrev slices_Clone_int_int_p0 : List AG := [o 5 (.lit 1 [] []), o 6 (.mv (.t 0)), o 7 (.append 1 t_int 8 (.t 5) (.t 6)), o 2 (.mv (.t 7))]
abbrev slices_Clone_int_int_p1 : List AG := [o 2 (.nilrow 1 t_int)]
abbrev slices_Clone_int_int_p2 : ACode := (.seq (.reg slices_Clone_int_int_p1) .ret)
abbrev slices_Clone_int_int_p3 : List AG := [o 3 (.mv (.t 0)), o 4 (.isnil false (.t 3))]
abbrev slices_Clone_int_int_p4 : List AG := [o 2 (.nilrow 1 t_int)]
abbrev slices_Clone_int_int : AFun := ⟨(.seq (.reg slices_Clone_int_int_p4) (.seq (.seq (.reg slices_Clone_int_int_p3) (.cond (.t 4) slices_Clone_int_int_p2 .skip)) (.seq (.reg slices_Clone_int_int_p0) .ret))), 8, [.tmp 2]⟩
@[simp] theorem c_slices_Clone_int_int : cfun Try.prog n_slices_Clone_int_int = some slices_Clone_int_int := by kernel_rfl
@[simp] theorem e_slices_Clone_int_int : hasBody Try.prog n_slices_Clone_int_int = true := by kernel_rfl

/- aig_builder_all: (*patchbay/aig.builder).all -/
abbrev aig_builder_all_p0 : List AG := [o 24 (.mv (.t 5)), o 4 (.mv (.t 24))]
abbrev aig_builder_all_m1 : List Bool := [O,O,O,O,O,I,I,O,O,O,O,I,I,I,O,O,O,O,O,O,O,O,O,O,O]
abbrev aig_builder_all_x1 : List Bool := [O,O,O,O,O,I,O,O,O,O,O,O,O,O,O,O,O,O,O,O,O,O,O,O,O]
abbrev aig_builder_all_p2 : List AG := [o 23 (.ibin .add (.t 13) (.c (.int .i64 1))), o 13 (.mv (.t 23))]
abbrev aig_builder_all_p3 : List AG := [o 17 (.mv (.t 5)), o 18 (.mv (.t 6)), o 19 (.mv (.t 8)), o 20 (.call (.t 18) [(.t 19)]), o 21 (.lit 1 [(.int .i64 0)] [(0, (.t 20))]), o 22 (.append 1 t_int 8 (.t 17) (.t 21)), o 5 (.mv (.t 22))]
abbrev aig_builder_all_p4 : List AG := [o 15 (.ixAddr 1 (.t 11) (.t 13)), o 16 (.load false 1 (.t 15)), o 8 (.mv (.t 16))]
abbrev aig_builder_all_p5 : ACode := (.seq (.reg aig_builder_all_p4) (.reg aig_builder_all_p3))
abbrev aig_builder_all_p6 : List AG := [o 14 (.cmp .lss (.sc .int) (.t 13) (.t 12))]
abbrev aig_builder_all_b1 : ACode := (.seq (.reg aig_builder_all_p6) (.seq (.cond (.t 14) .skip (.exit 0)) (.seq (.block 1 [] aig_builder_all_p5) (.reg aig_builder_all_p2))))
abbrev aig_builder_all_p7 : List AG := [o 11 (.mv (.t 1)), o 12 (.len (.t 11)), o 13 (.mv (.c (.int .i64 0)))]
abbrev aig_builder_all_p8 : List AG := [o 9 (.mv (.t 0)), o 10 (.mkFunc (.func n_aig_builder_came) [(.t 9)] []), o 6 (.mv (.t 10))]
abbrev aig_builder_all_p9 : List AG := [o 5 (.nilrow 1 t_int)]
abbrev aig_builder_all_p10 : List AG := [o 4 (.nilrow 1 t_int)]
abbrev aig_builder_all : AFun := ⟨(.seq (.reg aig_builder_all_p10) (.seq (.reg aig_builder_all_p9) (.seq (.reg aig_builder_all_p8) (.seq (.seq (.reg aig_builder_all_p7) (.block 0 aig_builder_all_x1 (.loop aig_builder_all_m1 aig_builder_all_b1))) (.seq (.reg aig_builder_all_p0) .ret))))), 25, [.tmp 4]⟩
abbrev aig_builder_all_k1 : List It := [.code (.seq (.reg aig_builder_all_p0) .ret)]
abbrev aig_builder_all_L1 (x5 x6 x11 x12 x13 : AV) (h : List Ob) (e : Cx := cx) : Cfg := atC n_aig_builder_all (.code aig_builder_all_b1 :: .inLoop aig_builder_all_m1 aig_builder_all_b1 :: .inBlock 0 aig_builder_all_x1 :: aig_builder_all_k1) [U,U,U,U,U,x5,x6,U,U,U,U,x11,x12,x13,U,U,U,U,U,U,U,U,U,U,U] h e
abbrev aig_builder_all_E1 (x5 : AV) (h : List Ob) (e : Cx := cx) : Cfg := atC n_aig_builder_all aig_builder_all_k1 [U,U,U,U,U,x5,U,U,U,U,U,U,U,U,U,U,U,U,U,U,U,U,U,U,U] h e
@[simp] theorem c_aig_builder_all : cfun Try.prog n_aig_builder_all = some aig_builder_all := by kernel_rfl
@[simp] theorem e_aig_builder_all : hasBody Try.prog n_aig_builder_all = true := by kernel_rfl

/- aig_leading: patchbay/aig.leading -/
abbrev aig_leading_p0 : List AG := [o 5 (.mkFunc (.func n_aig_leading_1) [] [(.t 2), (.t 3)]), o 4 (.mv (.t 5))]
abbrev aig_leading_p1 : List AG := [o 2 (.box 5 (.t 0)), o 3 (.box 1 (.t 1)), o 4 (.mv (.c .nilf))]
abbrev aig_leading : AFun := ⟨(.seq (.reg aig_leading_p1) (.seq (.reg aig_leading_p0) .ret)), 6, [.tmp 4]⟩
@[simp] theorem c_aig_leading : cfun Try.prog n_aig_leading = some aig_leading := by kernel_rfl
@[simp] theorem e_aig_leading : hasBody Try.prog n_aig_leading = true := by kernel_rfl

/- slices_IndexFunc_int_int: slices.IndexFunc[[]int,int] -/
abbrev slices_IndexFunc_int_int_p0 : List AG := [o 4 (.mv (.c (.int .i64 (-1))))]
abbrev slices_IndexFunc_int_int_m1 : List Bool := [I,I,O,O,O,O,O,I,I,O,O,O,O,O,O,O,O,O,O]
abbrev slices_IndexFunc_int_int_x1 : List Bool := [O,O,O,O,O,O,O,O,O,O,O,O,O,O,O,O,O,O,O]
abbrev slices_IndexFunc_int_int_p2 : List AG := [o 18 (.ibin .add (.t 8) (.c (.int .i64 1))), o 8 (.mv (.t 18))]
abbrev slices_IndexFunc_int_int_p3 : List AG := [o 17 (.mv (.t 5)), o 4 (.mv (.t 17))]
abbrev slices_IndexFunc_int_int_p4 : ACode := (.seq (.reg slices_IndexFunc_int_int_p3) .ret)
abbrev slices_IndexFunc_int_int_p5 : List AG := [o 11 (.mv (.t 1)), o 12 (.mv (.t 0)), o 13 (.mv (.t 5)), o 14 (.ixAddr 1 (.t 12) (.t 13)), o 15 (.load false 1 (.t 14)), o 16 (.call (.t 11) [(.t 15)])]
abbrev slices_IndexFunc_int_int_p6 : List AG := [o 10 (.mv (.t 8)), o 5 (.mv (.t 10))]
abbrev slices_IndexFunc_int_int_p7 : ACode := (.seq (.reg slices_IndexFunc_int_int_p6) (.seq (.reg slices_IndexFunc_int_int_p5) (.cond (.t 16) slices_IndexFunc_int_int_p4 .skip)))
abbrev slices_IndexFunc_int_int_p8 : List AG := [o 9 (.cmp .lss (.sc .int) (.t 8) (.t 7))]
abbrev slices_IndexFunc_int_int_b1 : ACode := (.seq (.reg slices_IndexFunc_int_int_p8) (.seq (.cond (.t 9) .skip (.exit 0)) (.seq (.block 1 [] slices_IndexFunc_int_int_p7) (.reg slices_IndexFunc_int_int_p2))))
abbrev slices_IndexFunc_int_int_p9 : List AG := [o 6 (.mv (.t 0)), o 7 (.len (.t 6)), o 8 (.mv (.c (.int .i64 0)))]
abbrev slices_IndexFunc_int_int_p10 : List AG := [o 4 (.mv (.c (.int .i64 0)))]
abbrev slices_IndexFunc_int_int : AFun := ⟨(.seq (.reg slices_IndexFunc_int_int_p10) (.seq (.seq (.reg slices_IndexFunc_int_int_p9) (.block 0 slices_IndexFunc_int_int_x1 (.loop slices_IndexFunc_int_int_m1 slices_IndexFunc_int_int_b1))) (.seq (.reg slices_IndexFunc_int_int_p0) .ret))), 19, [.tmp 4]⟩
abbrev slices_IndexFunc_int_int_k1 : List It := [.code (.seq (.reg slices_IndexFunc_int_int_p0) .ret)]
abbrev slices_IndexFunc_int_int_L1 (x0 x1 x7 x8 : AV) (h : List Ob) (e : Cx := cx) : Cfg := atC n_slices_IndexFunc_int_int (.code slices_IndexFunc_int_int_b1 :: .inLoop slices_IndexFunc_int_int_m1 slices_IndexFunc_int_int_b1 :: .inBlock 0 slices_IndexFunc_int_int_x1 :: slices_IndexFunc_int_int_k1) [x0,x1,U,U,U,U,U,x7,x8,U,U,U,U,U,U,U,U,U,U] h e
abbrev slices_IndexFunc_int_int_E1 (h : List Ob) (e : Cx := cx) : Cfg := atC n_slices_IndexFunc_int_int slices_IndexFunc_int_int_k1 [U,U,U,U,U,U,U,U,U,U,U,U,U,U,U,U,U,U,U] h e
@[simp] theorem c_slices_IndexFunc_int_int : cfun Try.prog n_slices_IndexFunc_int_int = some slices_IndexFunc_int_int := by kernel_rfl
@[simp] theorem e_slices_IndexFunc_int_int : hasBody Try.prog n_slices_IndexFunc_int_int = true := by kernel_rfl

/- slices_Index_2_int_2_int: slices.Index[[][2]int,[2]int] -/
abbrev slices_Index_2_int_2_int_p0 : List AG := [o 4 (.mv (.c (.int .i64 (-1))))]
abbrev slices_Index_2_int_2_int_m1 : List Bool := [I,O,O,I,O,O,O,I,I,O,O,O,O,O,O,O,O,O,O]
abbrev slices_Index_2_int_2_int_x1 : List Bool := [O,O,O,O,O,O,O,O,O,O,O,O,O,O,O,O,O,O,O]
abbrev slices_Index_2_int_2_int_p2 : List AG := [o 18 (.ibin .add (.t 8) (.c (.int .i64 1))), o 8 (.mv (.t 18))]
abbrev slices_Index_2_int_2_int_p3 : List AG := [o 17 (.mv (.t 5)), o 4 (.mv (.t 17))]
abbrev slices_Index_2_int_2_int_p4 : ACode := (.seq (.reg slices_Index_2_int_2_int_p3) .ret)
abbrev slices_Index_2_int_2_int_p5 : List AG := [o 11 (.load true 2 (.t 3)), o 12 (.mv (.t 0)), o 13 (.mv (.t 5)), o 14 (.ixAddr 2 (.t 12) (.t 13)), o 15 (.load true 2 (.t 14)), o 16 (.cmp .eql (.strct [.int, .int]) (.t 11) (.t 15))]
abbrev slices_Index_2_int_2_int_p6 : List AG := [o 10 (.mv (.t 8)), o 5 (.mv (.t 10))]
abbrev slices_Index_2_int_2_int_p7 : ACode := (.seq (.reg slices_Index_2_int_2_int_p6) (.seq (.dreg [O,O,O,O,O,O] [7,7,7,7,7,7] slices_Index_2_int_2_int_p5) (.cond (.t 16) slices_Index_2_int_2_int_p4 .skip)))
abbrev slices_Index_2_int_2_int_p8 : List AG := [o 9 (.cmp .lss (.sc .int) (.t 8) (.t 7))]
abbrev slices_Index_2_int_2_int_b1 : ACode := (.seq (.reg slices_Index_2_int_2_int_p8) (.seq (.cond (.t 9) .skip (.exit 0)) (.seq (.block 1 [] slices_Index_2_int_2_int_p7) (.reg slices_Index_2_int_2_int_p2))))
abbrev slices_Index_2_int_2_int_p9 : List AG := [o 6 (.mv (.t 0)), o 7 (.len (.t 6)), o 8 (.mv (.c (.int .i64 0)))]
abbrev slices_Index_2_int_2_int_p10 : List AG := [o 3 (.box 2 (.t 1)), o 4 (.mv (.c (.int .i64 0)))]
abbrev slices_Index_2_int_2_int : AFun := ⟨(.seq (.reg slices_Index_2_int_2_int_p10) (.seq (.seq (.reg slices_Index_2_int_2_int_p9) (.block 0 slices_Index_2_int_2_int_x1 (.loop slices_Index_2_int_2_int_m1 slices_Index_2_int_2_int_b1))) (.seq (.reg slices_Index_2_int_2_int_p0) .ret))), 19, [.tmp 4]⟩
abbrev slices_Index_2_int_2_int_k1 : List It := [.code (.seq (.reg slices_Index_2_int_2_int_p0) .ret)]
abbrev slices_Index_2_int_2_int_L1 (x0 x3 x7 x8 : AV) (h : List Ob) (e : Cx := cx) : Cfg := atC n_slices_Index_2_int_2_int (.code slices_Index_2_int_2_int_b1 :: .inLoop slices_Index_2_int_2_int_m1 slices_Index_2_int_2_int_b1 :: .inBlock 0 slices_Index_2_int_2_int_x1 :: slices_Index_2_int_2_int_k1) [x0,U,U,x3,U,U,U,x7,x8,U,U,U,U,U,U,U,U,U,U] h e
abbrev slices_Index_2_int_2_int_E1 (h : List Ob) (e : Cx := cx) : Cfg := atC n_slices_Index_2_int_2_int slices_Index_2_int_2_int_k1 [U,U,U,U,U,U,U,U,U,U,U,U,U,U,U,U,U,U,U] h e
@[simp] theorem c_slices_Index_2_int_2_int : cfun Try.prog n_slices_Index_2_int_2_int = some slices_Index_2_int_2_int := by kernel_rfl
@[simp] theorem e_slices_Index_2_int_2_int : hasBody Try.prog n_slices_Index_2_int_2_int = true := by kernel_rfl

/- slices_Grow_bool_bool: slices.Grow[[]bool,bool] -/
abbrev slices_Grow_bool_bool_p0 : List AG := [o 26 (.mv (.t 0)), o 4 (.mv (.t 26))]
abbrev slices_Grow_bool_bool_p1 : List AG := [o 17 (.mv (.t 0)), o 18 (.mv (.t 0)), o 19 (.cap (.t 18)), o 20 (.slice 1 (.t 17) none (some (.t 19))), o 21 (.mv (.t 1)), o 22 (.appendZ 1 t_bool 1 (.bool false) (.t 20) (.t 21)), o 23 (.mv (.t 0)), o 24 (.len (.t 23)), o 25 (.slice 1 (.t 22) none (some (.t 24))), o 0 (.mv (.t 25))]
abbrev slices_Grow_bool_bool_p2 : List AG := [o 15 (.mv (.t 1)), o 16 (.cmp .gtr (.sc .int) (.t 15) (.c (.int .i64 0)))]
abbrev slices_Grow_bool_bool_p3 : List AG := [o 8 (.mv (.t 1)), o 9 (.mv (.t 0)), o 10 (.cap (.t 9)), o 11 (.mv (.t 0)), o 12 (.len (.t 11)), o 13 (.ibin .sub (.t 10) (.t 12)), o 14 (.ibin .sub (.t 8) (.t 13)), o 1 (.mv (.t 14))]
abbrev slices_Grow_bool_bool_p4 : List AG := [o 7 (.mkIface t_string (.c (.str [99, 97, 110, 110, 111, 116, 32, 98, 101, 32, 110, 101, 103, 97, 116, 105, 118, 101]))), q (.panic (.t 7))]
abbrev slices_Grow_bool_bool_p5 : List AG := [o 5 (.mv (.t 1)), o 6 (.cmp .lss (.sc .int) (.t 5) (.c (.int .i64 0)))]
abbrev slices_Grow_bool_bool_p6 : List AG := [o 4 (.nilrow 1 t_bool)]
abbrev slices_Grow_bool_bool : AFun := ⟨(.seq (.reg slices_Grow_bool_bool_p6) (.seq (.seq (.reg slices_Grow_bool_bool_p5) (.cond (.t 6) (.reg slices_Grow_bool_bool_p4) .skip)) (.seq (.seq (.reg slices_Grow_bool_bool_p3) (.seq (.reg slices_Grow_bool_bool_p2) (.cond (.t 16) (.reg slices_Grow_bool_bool_p1) .skip))) (.seq (.reg slices_Grow_bool_bool_p0) .ret)))), 27, [.tmp 4]⟩
@[simp] theorem c_slices_Grow_bool_bool : cfun Try.prog n_slices_Grow_bool_bool = some slices_Grow_bool_bool := by kernel_rfl
@[simp] theorem e_slices_Grow_bool_bool : hasBody Try.prog n_slices_Grow_bool_bool = true := by kernel_rfl

/- slices_Clone_2_int_2_int: slices.Clone[[][2]int,[2]int] -/
abbrev slices_Clone_2_int_2_int_p0 : List AG := [o 5 (.lit 2 [] []), o 6 (.mv (.t 0)), o 7 (.append 2 t_2_int_2 16 (.t 5) (.t 6)), o 2 (.mv (.t 7))]
abbrev slices_Clone_2_int_2_int_p1 : List AG := [o 2 (.nilrow 2 t_2_int_2)]
abbrev slices_Clone_2_int_2_int_p2 : ACode := (.seq (.reg slices_Clone_2_int_2_int_p1) .ret)
abbrev slices_Clone_2_int_2_int_p3 : List AG := [o 3 (.mv (.t 0)), o 4 (.isnil false (.t 3))]
abbrev slices_Clone_2_int_2_int_p4 : List AG := [o 2 (.nilrow 2 t_2_int_2)]
abbrev slices_Clone_2_int_2_int : AFun := ⟨(.seq (.reg slices_Clone_2_int_2_int_p4) (.seq (.seq (.reg slices_Clone_2_int_2_int_p3) (.cond (.t 4) slices_Clone_2_int_2_int_p2 .skip)) (.seq (.reg slices_Clone_2_int_2_int_p0) .ret))), 8, [.tmp 2]⟩
@[simp] theorem c_slices_Clone_2_int_2_int : cfun Try.prog n_slices_Clone_2_int_2_int = some slices_Clone_2_int_2_int := by kernel_rfl
@[simp] theorem e_slices_Clone_2_int_2_int : hasBody Try.prog n_slices_Clone_2_int_2_int = true := by kernel_rfl

/- aig_leading_1: patchbay/aig.leading$1 -/
abbrev aig_leading_1_p0 : List AG := [o 7 (.alloc [(.int .i64 0), (.int .i64 0)]), q (.store 2 (.t 7) (.t 28))]
abbrev aig_leading_1_p1 : List AG := [o 6 (.mv (.t 27))]
abbrev aig_leading_1_p2 : List AG := [o 29 (.load false 1 (.t 2)), o 30 (.load true 5 (.t 1)), o 31 (.call (.f n_aig_first) [(.t 30)]), o 32 (.mv (.t 6)), o 33 (.ibin .add (.t 31) (.t 32)), o 34 (.ixAddr 1 (.t 29) (.t 33)), o 35 (.load false 1 (.t 34)), o 36 (.mv (.t 35)), oy 37 36 (.load false 1 (.t 3)), oy 38 36 (.arrAddr 2 1 (.t 7) (.c (.int .i64 0))), oy 39 36 (.load false 1 (.t 38)), oy 40 36 (.call (.t 37) [(.t 39)]), oy 41 36 (.not (.t 40)), oy 42 36 (.mv (.t 41)), on 43 42 (.load false 1 (.t 3)), on 44 42 (.arrAddr 2 1 (.t 7) (.c (.int .i64 1))), on 45 42 (.load false 1 (.t 44)), on 46 42 (.call (.t 43) [(.t 45)]), on 47 42 (.not (.t 46)), oy 48 36 (.pick (.t 42) (.c (.bool true)) (.t 47)), o 49 (.pick (.t 36) (.t 48) (.c (.bool false)))]
abbrev aig_leading_1_p3 : ACode := (.seq (.dreg [I,O,O,O,O,O,O,O,O,O,O,O,O,O,O,O,O,O,O,O,O] [12,3,12,12,12,12,12,12,12,12,12,18,18,18,18,18,18,22,22,22,22] aig_leading_1_p2) (.cond (.t 49) .ret .skip))
abbrev aig_leading_1_p4 : ACode := (.seq (.reg aig_leading_1_p1) (.reg aig_leading_1_p0))
abbrev aig_leading_1_p5 : ACode := (.block 3 [] aig_leading_1_p3)
abbrev aig_leading_1_p6 : ACode := (.rangeFunc (.t 26) [27, 28] [O,I,I,I,O,O,O,O,O,O,O,O,O,O,O,O,O,O,O,O,O,O,O,O,O,O,O,O,O,O,O,O,O,O,O,O,O,O,O,O,O,O,O,O,O,O,O,O,O,O] aig_leading_1_p4 aig_leading_1_p5)
abbrev aig_leading_1_p7 : List AG := [o 24 (.off 3 (.t 1)), o 25 (.load false 1 (.t 24)), o 26 (.call (.f n_slices_Backward_2_int_2_int) [(.t 25)])]
abbrev aig_leading_1_m8 : List Bool := [O,I,I,I,O,O,O,O,O,O,O,O,O,I,I,I,O,O,O,O,O,O,O,O,O,O,O,O,O,O,O,O,O,O,O,O,O,O,O,O,O,O,O,O,O,O,O,O,O,O]
abbrev aig_leading_1_x8 : List Bool := [O,I,I,I,O,O,O,O,O,O,O,O,O,O,O,O,O,O,O,O,O,O,O,O,O,O,O,O,O,O,O,O,O,O,O,O,O,O,O,O,O,O,O,O,O,O,O,O,O,O]
abbrev aig_leading_1_p9 : List AG := [o 23 (.ibin .add (.t 15) (.c (.int .i64 1))), o 15 (.mv (.t 23))]
abbrev aig_leading_1_p10 : List AG := [o 19 (.load false 1 (.t 3)), o 20 (.mv (.t 5)), o 21 (.call (.t 19) [(.t 20)]), o 22 (.not (.t 21))]
abbrev aig_leading_1_p11 : List AG := [o 17 (.ixAddr 1 (.t 13) (.t 15)), o 18 (.load false 1 (.t 17)), o 5 (.mv (.t 18))]
abbrev aig_leading_1_p12 : ACode := (.seq (.reg aig_leading_1_p11) (.seq (.reg aig_leading_1_p10) (.cond (.t 22) .ret .skip)))
abbrev aig_leading_1_p13 : List AG := [o 16 (.cmp .lss (.sc .int) (.t 15) (.t 14))]
abbrev aig_leading_1_b8 : ACode := (.seq (.reg aig_leading_1_p13) (.seq (.cond (.t 16) .skip (.exit 0)) (.seq (.block 1 [] aig_leading_1_p12) (.reg aig_leading_1_p9))))
abbrev aig_leading_1_p14 : List AG := [o 8 (.off 1 (.t 1)), o 9 (.load false 1 (.t 8)), o 10 (.off 4 (.t 1)), o 11 (.load false 1 (.t 10)), o 12 (.lit 1 [(.list true 0 []), (.list true 0 [])] [(0, (.t 9)), (1, (.t 11))]), o 13 (.call (.f n_slices_Concat_int_int) [(.t 12)]), o 14 (.len (.t 13)), o 15 (.mv (.c (.int .i64 0)))]
abbrev aig_leading_1_p15 : List AG := [o 3 (.box 1 (.t 0))]
abbrev aig_leading_1 : AFun := ⟨(.seq (.reg aig_leading_1_p15) (.seq (.seq (.reg aig_leading_1_p14) (.block 0 aig_leading_1_x8 (.loop aig_leading_1_m8 aig_leading_1_b8))) (.seq (.reg aig_leading_1_p7) (.block 2 [] aig_leading_1_p6)))), 50, []⟩
abbrev aig_leading_1_k8 : List It := [.code (.seq (.reg aig_leading_1_p7) (.block 2 [] aig_leading_1_p6))]
abbrev aig_leading_1_L8 (x1 x2 x3 x13 x14 x15 : AV) (h : List Ob) (e : Cx := cx) : Cfg := atC n_aig_leading_1 (.code aig_leading_1_b8 :: .inLoop aig_leading_1_m8 aig_leading_1_b8 :: .inBlock 0 aig_leading_1_x8 :: aig_leading_1_k8) [U,x1,x2,x3,U,U,U,U,U,U,U,U,U,x13,x14,x15,U,U,U,U,U,U,U,U,U,U,U,U,U,U,U,U,U,U,U,U,U,U,U,U,U,U,U,U,U,U,U,U,U,U] h e
abbrev aig_leading_1_E8 (x1 x2 x3 : AV) (h : List Ob) (e : Cx := cx) : Cfg := atC n_aig_leading_1 aig_leading_1_k8 [U,x1,x2,x3,U,U,U,U,U,U,U,U,U,U,U,U,U,U,U,U,U,U,U,U,U,U,U,U,U,U,U,U,U,U,U,U,U,U,U,U,U,U,U,U,U,U,U,U,U,U] h e
@[simp] theorem c_aig_leading_1 : cfun Try.prog n_aig_leading_1 = some aig_leading_1 := by kernel_rfl
@[simp] theorem e_aig_leading_1 : hasBody Try.prog n_aig_leading_1 = true := by kernel_rfl

/- slices_Concat_int_int: slices.Concat[[]int,int] -/
abbrev slices_Concat_int_int_p0 : List AG := [o 35 (.mv (.t 6)), o 2 (.mv (.t 35))]
abbrev slices_Concat_int_int_m1 : List Bool := [O,O,O,O,O,O,I,O,O,O,O,O,O,O,O,O,O,O,O,O,O,O,O,O,O,I,I,I,O,O,O,O,O,O,O,O]
abbrev slices_Concat_int_int_x1 : List Bool := [O,O,O,O,O,O,I,O,O,O,O,O,O,O,O,O,O,O,O,O,O,O,O,O,O,O,O,O,O,O,O,O,O,O,O,O]
abbrev slices_Concat_int_int_p2 : List AG := [o 34 (.ibin .add (.t 27) (.c (.int .i64 1))), o 27 (.mv (.t 34))]
abbrev slices_Concat_int_int_p3 : List AG := [o 31 (.mv (.t 6)), o 32 (.mv (.t 8)), o 33 (.append 1 t_int 8 (.t 31) (.t 32)), o 6 (.mv (.t 33))]
abbrev slices_Concat_int_int_p4 : List AG := [o 29 (.ixAddr 1 (.t 25) (.t 27)), o 30 (.load false 1 (.t 29)), o 8 (.mv (.t 30))]
abbrev slices_Concat_int_int_p5 : ACode := (.seq (.reg slices_Concat_int_int_p4) (.reg slices_Concat_int_int_p3))
abbrev slices_Concat_int_int_p6 : List AG := [o 28 (.cmp .lss (.sc .int) (.t 27) (.t 26))]
abbrev slices_Concat_int_int_b1 : ACode := (.seq (.reg slices_Concat_int_int_p6) (.seq (.cond (.t 28) .skip (.exit 2)) (.seq (.block 3 [] slices_Concat_int_int_p5) (.reg slices_Concat_int_int_p2))))
abbrev slices_Concat_int_int_p7 : List AG := [o 25 (.mv (.t 0)), o 26 (.len (.t 25)), o 27 (.mv (.c (.int .i64 0)))]
abbrev slices_Concat_int_int_p8 : List AG := [o 23 (.mv (.t 3)), o 24 (.call (.f n_slices_Grow_int_int) [(.c (.list true 0 [])), (.t 23)]), o 6 (.mv (.t 24))]
abbrev slices_Concat_int_int_m9 : List Bool := [I,O,O,I,O,O,O,O,O,I,I,I,O,O,O,O,O,O,O,O,O,O,O,O,O,O,O,O,O,O,O,O,O,O,O,O]
abbrev slices_Concat_int_int_x9 : List Bool := [I,O,O,I,O,O,O,O,O,O,O,O,O,O,O,O,O,O,O,O,O,O,O,O,O,O,O,O,O,O,O,O,O,O,O,O]
abbrev slices_Concat_int_int_p10 : List AG := [o 22 (.ibin .add (.t 11) (.c (.int .i64 1))), o 11 (.mv (.t 22))]
abbrev slices_Concat_int_int_p11 : List AG := [o 21 (.mkIface t_string (.c (.str [108, 101, 110, 32, 111, 117, 116, 32, 111, 102, 32, 114, 97, 110, 103, 101]))), q (.panic (.t 21))]
abbrev slices_Concat_int_int_p12 : List AG := [o 19 (.mv (.t 3)), o 20 (.cmp .lss (.sc .int) (.t 19) (.c (.int .i64 0)))]
abbrev slices_Concat_int_int_p13 : List AG := [o 15 (.mv (.t 3)), o 16 (.mv (.t 5)), o 17 (.len (.t 16)), o 18 (.ibin .add (.t 15) (.t 17)), o 3 (.mv (.t 18))]
abbrev slices_Concat_int_int_p14 : List AG := [o 13 (.ixAddr 1 (.t 9) (.t 11)), o 14 (.load false 1 (.t 13)), o 5 (.mv (.t 14))]
abbrev slices_Concat_int_int_p15 : ACode := (.seq (.reg slices_Concat_int_int_p14) (.seq (.reg slices_Concat_int_int_p13) (.seq (.reg slices_Concat_int_int_p12) (.cond (.t 20) (.reg slices_Concat_int_int_p11) .skip))))
abbrev slices_Concat_int_int_p16 : List AG := [o 12 (.cmp .lss (.sc .int) (.t 11) (.t 10))]
abbrev slices_Concat_int_int_b9 : ACode := (.seq (.reg slices_Concat_int_int_p16) (.seq (.cond (.t 12) .skip (.exit 0)) (.seq (.block 1 [] slices_Concat_int_int_p15) (.reg slices_Concat_int_int_p10))))
abbrev slices_Concat_int_int_p17 : List AG := [o 9 (.mv (.t 0)), o 10 (.len (.t 9)), o 11 (.mv (.c (.int .i64 0)))]
abbrev slices_Concat_int_int_p18 : List AG := [o 3 (.mv (.c (.int .i64 0)))]
abbrev slices_Concat_int_int_p19 : List AG := [o 2 (.nilrow 1 t_int)]
abbrev slices_Concat_int_int : AFun := ⟨(.seq (.reg slices_Concat_int_int_p19) (.seq (.reg slices_Concat_int_int_p18) (.seq (.seq (.reg slices_Concat_int_int_p17) (.block 0 slices_Concat_int_int_x9 (.loop slices_Concat_int_int_m9 slices_Concat_int_int_b9))) (.seq (.reg slices_Concat_int_int_p8) (.seq (.seq (.reg slices_Concat_int_int_p7) (.block 2 slices_Concat_int_int_x1 (.loop slices_Concat_int_int_m1 slices_Concat_int_int_b1))) (.seq (.reg slices_Concat_int_int_p0) .ret)))))), 36, [.tmp 2]⟩
abbrev slices_Concat_int_int_k1 : List It := [.code (.seq (.reg slices_Concat_int_int_p0) .ret)]
abbrev slices_Concat_int_int_L1 (x6 x25 x26 x27 : AV) (h : List Ob) (e : Cx := cx) : Cfg := atC n_slices_Concat_int_int (.code slices_Concat_int_int_b1 :: .inLoop slices_Concat_int_int_m1 slices_Concat_int_int_b1 :: .inBlock 2 slices_Concat_int_int_x1 :: slices_Concat_int_int_k1) [U,U,U,U,U,U,x6,U,U,U,U,U,U,U,U,U,U,U,U,U,U,U,U,U,U,x25,x26,x27,U,U,U,U,U,U,U,U] h e
abbrev slices_Concat_int_int_E1 (x6 : AV) (h : List Ob) (e : Cx := cx) : Cfg := atC n_slices_Concat_int_int slices_Concat_int_int_k1 [U,U,U,U,U,U,x6,U,U,U,U,U,U,U,U,U,U,U,U,U,U,U,U,U,U,U,U,U,U,U,U,U,U,U,U,U] h e
abbrev slices_Concat_int_int_k9 : List It := [.code (.seq (.reg slices_Concat_int_int_p8) (.seq (.seq (.reg slices_Concat_int_int_p7) (.block 2 slices_Concat_int_int_x1 (.loop slices_Concat_int_int_m1 slices_Concat_int_int_b1))) (.seq (.reg slices_Concat_int_int_p0) .ret)))]
abbrev slices_Concat_int_int_L9 (x0 x3 x9 x10 x11 : AV) (h : List Ob) (e : Cx := cx) : Cfg := atC n_slices_Concat_int_int (.code slices_Concat_int_int_b9 :: .inLoop slices_Concat_int_int_m9 slices_Concat_int_int_b9 :: .inBlock 0 slices_Concat_int_int_x9 :: slices_Concat_int_int_k9) [x0,U,U,x3,U,U,U,U,U,x9,x10,x11,U,U,U,U,U,U,U,U,U,U,U,U,U,U,U,U,U,U,U,U,U,U,U,U] h e
abbrev slices_Concat_int_int_E9 (x0 x3 : AV) (h : List Ob) (e : Cx := cx) : Cfg := atC n_slices_Concat_int_int slices_Concat_int_int_k9 [x0,U,U,x3,U,U,U,U,U,U,U,U,U,U,U,U,U,U,U,U,U,U,U,U,U,U,U,U,U,U,U,U,U,U,U,U] h e
@[simp] theorem c_slices_Concat_int_int : cfun Try.prog n_slices_Concat_int_int = some slices_Concat_int_int := by kernel_rfl
@[simp] theorem e_slices_Concat_int_int : hasBody Try.prog n_slices_Concat_int_int = true := by kernel_rfl

/- slices_Backward_2_int_2_int: slices.Backward[[][2]int,[2]int] -/
abbrev slices_Backward_2_int_2_int_p0 : List AG := [o 3 (.mkFunc (.func n_slices_Backward_2_int_2_int_1) [] [(.t 1)]), o 2 (.mv (.t 3))]
abbrev slices_Backward_2_int_2_int_p1 : List AG := [o 1 (.box 1 (.t 0)), o 2 (.mv (.c .nilf))]
abbrev slices_Backward_2_int_2_int : AFun := ⟨(.seq (.reg slices_Backward_2_int_2_int_p1) (.seq (.reg slices_Backward_2_int_2_int_p0) .ret)), 4, [.tmp 2]⟩
@[simp] theorem c_slices_Backward_2_int_2_int : cfun Try.prog n_slices_Backward_2_int_2_int = some slices_Backward_2_int_2_int := by kernel_rfl
@[simp] theorem e_slices_Backward_2_int_2_int : hasBody Try.prog n_slices_Backward_2_int_2_int = true := by kernel_rfl

/- slices_Grow_int_int: slices.Grow[[]int,int] -/
abbrev slices_Grow_int_int_p0 : List AG := [o 26 (.mv (.t 0)), o 4 (.mv (.t 26))]
abbrev slices_Grow_int_int_p1 : List AG := [o 17 (.mv (.t 0)), o 18 (.mv (.t 0)), o 19 (.cap (.t 18)), o 20 (.slice 1 (.t 17) none (some (.t 19))), o 21 (.mv (.t 1)), o 22 (.appendZ 1 t_int 8 (.int .i64 0) (.t 20) (.t 21)), o 23 (.mv (.t 0)), o 24 (.len (.t 23)), o 25 (.slice 1 (.t 22) none (some (.t 24))), o 0 (.mv (.t 25))]
abbrev slices_Grow_int_int_p2 : List AG := [o 15 (.mv (.t 1)), o 16 (.cmp .gtr (.sc .int) (.t 15) (.c (.int .i64 0)))]
abbrev slices_Grow_int_int_p3 : List AG := [o 8 (.mv (.t 1)), o 9 (.mv (.t 0)), o 10 (.cap (.t 9)), o 11 (.mv (.t 0)), o 12 (.len (.t 11)), o 13 (.ibin .sub (.t 10) (.t 12)), o 14 (.ibin .sub (.t 8) (.t 13)), o 1 (.mv (.t 14))]
abbrev slices_Grow_int_int_p4 : List AG := [o 7 (.mkIface t_string (.c (.str [99, 97, 110, 110, 111, 116, 32, 98, 101, 32, 110, 101, 103, 97, 116, 105, 118, 101]))), q (.panic (.t 7))]
abbrev slices_Grow_int_int_p5 : List AG := [o 5 (.mv (.t 1)), o 6 (.cmp .lss (.sc .int) (.t 5) (.c (.int .i64 0)))]
abbrev slices_Grow_int_int_p6 : List AG := [o 4 (.nilrow 1 t_int)]
abbrev slices_Grow_int_int : AFun := ⟨(.seq (.reg slices_Grow_int_int_p6) (.seq (.seq (.reg slices_Grow_int_int_p5) (.cond (.t 6) (.reg slices_Grow_int_int_p4) .skip)) (.seq (.seq (.reg slices_Grow_int_int_p3) (.seq (.reg slices_Grow_int_int_p2) (.cond (.t 16) (.reg slices_Grow_int_int_p1) .skip))) (.seq (.reg slices_Grow_int_int_p0) .ret)))), 27, [.tmp 4]⟩
@[simp] theorem c_slices_Grow_int_int : cfun Try.prog n_slices_Grow_int_int = some slices_Grow_int_int := by kernel_rfl
@[simp] theorem e_slices_Grow_int_int : hasBody Try.prog n_slices_Grow_int_int = true := by kernel_rfl

/- slices_Backward_2_int_2_int_1: slices.Backward[[][2]int,[2]int]$1 -/
abbrev slices_Backward_2_int_2_int_1_m0 : List Bool := [I,I,O,I,O,O,O,O,O,O,O,O,O,O,O,O,O,O,O]
abbrev slices_Backward_2_int_2_int_1_x0 : List Bool := [O,O,O,O,O,O,O,O,O,O,O,O,O,O,O,O,O,O,O]
abbrev slices_Backward_2_int_2_int_1_p1 : List AG := [o 9 (.mv (.t 3)), o 10 (.ibin .sub (.t 9) (.c (.int .i64 1))), o 3 (.mv (.t 10))]
abbrev slices_Backward_2_int_2_int_1_p2 : List AG := [o 11 (.mv (.t 0)), o 12 (.mv (.t 3)), o 13 (.load false 1 (.t 1)), o 14 (.mv (.t 3)), o 15 (.ixAddr 2 (.t 13) (.t 14)), o 16 (.load true 2 (.t 15)), o 17 (.call (.t 11) [(.t 12), (.t 16)]), o 18 (.not (.t 17))]
abbrev slices_Backward_2_int_2_int_1_p3 : ACode := (.seq (.reg slices_Backward_2_int_2_int_1_p2) (.cond (.t 18) .ret .skip))
abbrev slices_Backward_2_int_2_int_1_p4 : List AG := [o 7 (.mv (.t 3)), o 8 (.cmp .geq (.sc .int) (.t 7) (.c (.int .i64 0)))]
abbrev slices_Backward_2_int_2_int_1_b0 : ACode := (.seq (.seq (.reg slices_Backward_2_int_2_int_1_p4) (.cond (.t 8) .skip (.exit 0))) (.seq (.block 1 [] slices_Backward_2_int_2_int_1_p3) (.reg slices_Backward_2_int_2_int_1_p1)))
abbrev slices_Backward_2_int_2_int_1_p5 : List AG := [o 4 (.load false 1 (.t 1)), o 5 (.len (.t 4)), o 6 (.ibin .sub (.t 5) (.c (.int .i64 1))), o 3 (.mv (.t 6))]
abbrev slices_Backward_2_int_2_int_1 : AFun := ⟨(.seq (.reg slices_Backward_2_int_2_int_1_p5) (.block 0 slices_Backward_2_int_2_int_1_x0 (.loop slices_Backward_2_int_2_int_1_m0 slices_Backward_2_int_2_int_1_b0))), 19, []⟩
abbrev slices_Backward_2_int_2_int_1_k0 : List It := []
abbrev slices_Backward_2_int_2_int_1_L0 (x0 x1 x3 : AV) (h : List Ob) (e : Cx := cx) : Cfg := atC n_slices_Backward_2_int_2_int_1 (.code slices_Backward_2_int_2_int_1_b0 :: .inLoop slices_Backward_2_int_2_int_1_m0 slices_Backward_2_int_2_int_1_b0 :: .inBlock 0 slices_Backward_2_int_2_int_1_x0 :: slices_Backward_2_int_2_int_1_k0) [x0,x1,U,x3,U,U,U,U,U,U,U,U,U,U,U,U,U,U,U] h e
abbrev slices_Backward_2_int_2_int_1_E0 (h : List Ob) (e : Cx := cx) : Cfg := atC n_slices_Backward_2_int_2_int_1 slices_Backward_2_int_2_int_1_k0 [U,U,U,U,U,U,U,U,U,U,U,U,U,U,U,U,U,U,U] h e
@[simp] theorem c_slices_Backward_2_int_2_int_1 : cfun Try.prog n_slices_Backward_2_int_2_int_1 = some slices_Backward_2_int_2_int_1 := by kernel_rfl
@[simp] theorem e_slices_Backward_2_int_2_int_1 : hasBody Try.prog n_slices_Backward_2_int_2_int_1 = true := by kernel_rfl

end Go.Proofs.Ytdmedcdloeljeaa
