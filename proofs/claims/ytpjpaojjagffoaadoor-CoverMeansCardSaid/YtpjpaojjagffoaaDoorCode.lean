/- The functions, as the abstract machine has them. Printed by a program. -/
import Derived.Test.YtpjpaojjagffoaaDoorAMd
import Derived.Test.YtpjpaojjagffoaaDoorChecked
import Derived.KernelRfl
set_option linter.unusedSimpArgs false
set_option linter.unusedVariables false
namespace Go.Proofs.YtpjpaojjagffoaaDoor
open Go.AM Go.Proofs
abbrev n_gosem_cut : FuncId := 1
abbrev n_gosem_cut_init : FuncId := 2
abbrev n_w10_CoverFactors : FuncId := 3
abbrev n_w10_CoverForms : FuncId := 4
abbrev n_w10_CoverLess : FuncId := 5
abbrev n_w10_CoverRows : FuncId := 6
abbrev n_w10_CoverMeans : FuncId := 7
abbrev n_w10_works : FuncId := 8
abbrev n_w10_few : FuncId := 9
abbrev n_cover_Factor : FuncId := 10
abbrev n_r10_Factor : FuncId := 11
abbrev n_r10_Same : FuncId := 12
abbrev n_w10_Of : FuncId := 13
abbrev n_r10_Cost : FuncId := 14
abbrev n_cover_Cost : FuncId := 15
abbrev n_r10_Check : FuncId := 16
abbrev n_cover_Eval : FuncId := 17
abbrev n_r10_Eval : FuncId := 18
abbrev n_r10_Literals : FuncId := 19
abbrev n_cover_Check : FuncId := 20
abbrev n_cover_Literals : FuncId := 21
abbrev n_cover_Same : FuncId := 22
abbrev n_step_Gate : FuncId := 23
abbrev n_w05_Texts : FuncId := 24
abbrev n_cover_Factor_1 : FuncId := 25
abbrev n_strings_Trim : FuncId := 26
abbrev n_slices_ContainsFunc_string_string : FuncId := 27
abbrev n_slices_Contains_string_string : FuncId := 28
abbrev n_cover_factor : FuncId := 29
abbrev n_r10_row : FuncId := 30
abbrev n_r01_Has : FuncId := 31
abbrev n_r10_factor : FuncId := 32
abbrev n_strings_Count : FuncId := 33
abbrev n_r10_end : FuncId := 34
abbrev n_cover_read : FuncId := 35
abbrev n_cover_Eval_1 : FuncId := 36
abbrev n_r10_eval : FuncId := 37
abbrev n_cover_Check_1 : FuncId := 38
abbrev n_slices_Equal_cover_Form_cover_Form : FuncId := 39
abbrev n_net_Gate : FuncId := 40
abbrev n_step_of : FuncId := 41
abbrev n_step_Gate_1 : FuncId := 42
abbrev n_step_Gate_1_1 : FuncId := 43
abbrev n_step_fits : FuncId := 44
abbrev n_strings_trimLeftByte : FuncId := 45
abbrev n_strings_trimRightByte : FuncId := 46
abbrev n_strings_makeASCIISet : FuncId := 47
abbrev n_strings_trimLeftASCII : FuncId := 48
abbrev n_strings_trimRightASCII : FuncId := 49
abbrev n_strings_trimLeftUnicode : FuncId := 50
abbrev n_strings_trimRightUnicode : FuncId := 51
abbrev n_slices_IndexFunc_string_string : FuncId := 52
abbrev n_slices_Index_string_string : FuncId := 53
abbrev n_cover_factor_1 : FuncId := 54
abbrev n_cover_literals : FuncId := 55
abbrev n_cover_count : FuncId := 56
abbrev n_cover_all : FuncId := 57
abbrev n_cover_divide : FuncId := 58
abbrev n_cover_most : FuncId := 59
abbrev n_slices_Collect_cover_literal : FuncId := 60
abbrev n_cover_has : FuncId := 61
abbrev n_cover_factor_2 : FuncId := 62
abbrev n_slices_DeleteFunc_string_string : FuncId := 63
abbrev n_slices_Clone_string_string : FuncId := 64
abbrev n_slices_Concat_cover_Form_cover_Form : FuncId := 65
abbrev n_r10_free : FuncId := 66
abbrev n_r10_common : FuncId := 67
abbrev n_r10_and : FuncId := 68
abbrev n_r10_lits : FuncId := 69
abbrev n_r10_divided : FuncId := 70
abbrev n_r10_most : FuncId := 71
abbrev n_r10_many : FuncId := 72
abbrev n_r10_has : FuncId := 73
abbrev n_unicode_utf8_RuneCountInString : FuncId := 74
abbrev n_bytealg_CountString : FuncId := 75
abbrev n_strings_Index : FuncId := 76
abbrev n_r10_plain : FuncId := 77
abbrev n_cover_read_1 : FuncId := 78
abbrev n_cover_reader_read : FuncId := 79
abbrev n_net_Gate_1 : FuncId := 80
abbrev n_net_row : FuncId := 81
abbrev n_net_has : FuncId := 82
abbrev n_step_of_1 : FuncId := 83
abbrev n_step_of_2 : FuncId := 84
abbrev n_step_count : FuncId := 85
abbrev n_step_of_3 : FuncId := 86
abbrev n_step_of_4 : FuncId := 87
abbrev n_strings_asciiSet_contains : FuncId := 88
abbrev n_unicode_utf8_DecodeRuneInString : FuncId := 89
abbrev n_strings_ContainsRune : FuncId := 90
abbrev n_unicode_utf8_DecodeLastRuneInString : FuncId := 91
abbrev n_cover_literals_1 : FuncId := 92
abbrev n_cover_literal_node : FuncId := 93
abbrev n_slices_AppendSeq_cover_literal_cover_literal : FuncId := 94
abbrev n_cover_has_1 : FuncId := 95
abbrev n_slices_Grow_cover_Form_cover_Form : FuncId := 96
abbrev n_r10_truth : FuncId := 97
abbrev n_r10_without : FuncId := 98
abbrev n_r10_single : FuncId := 99
abbrev n_stringslite_Index : FuncId := 100
abbrev n_cover_reader_next : FuncId := 101
abbrev n_unicode_utf8_decodeRuneInStringSlow : FuncId := 102
abbrev n_strings_IndexRune : FuncId := 103
abbrev n_unicode_utf8_RuneStart : FuncId := 104
abbrev n_stringslite_IndexByte : FuncId := 105
abbrev n_bytealg_IndexString : FuncId := 106
abbrev n_bytealg_Cutover : FuncId := 107
abbrev n_bytealg_IndexRabinKarp_string : FuncId := 108
abbrev n_strings_IndexByte : FuncId := 109
abbrev n_unicode_utf8_ValidRune : FuncId := 110
abbrev n_bytealg_IndexByteString : FuncId := 111
abbrev n_bytealg_hashStr_string : FuncId := 112
abbrev n_gosem_cut_vars : FuncId := 135
abbrev t_uint8 : TypeId := 5
abbrev t_string : TypeId := 9
abbrev t_cover_Form_2 : TypeId := 47
abbrev t_r10_Form_2 : TypeId := 60
abbrev t_cover_literal_2 : TypeId := 86
abbrev t_cover_odd : TypeId := 106
/- w10_CoverFactors: patchbay/patchbaylaw10.CoverFactors -/
abbrev w10_CoverFactors_p0 : List AG := [o 39 (.mv (.t 5)), o 40 (.mv (.t 39)), oy 41 40 (.mv (.t 11)), o 42 (.pick (.t 40) (.t 41) (.c (.bool false))), o 43 (.mv (.t 42)), oy 44 43 (.mv (.t 8)), oy 45 43 (.mv (.t 10)), oy 46 43 (.cmp .eql (.sc .int) (.t 44) (.t 45)), o 47 (.pick (.t 43) (.t 46) (.c (.bool false))), o 48 (.mv (.t 47)), oy 49 48 (.mv (.t 0)), oy 50 48 (.call (.f n_cover_Cost) [(.t 49)]), oy 51 48 (.mv (.t 12)), oy 52 48 (.cmp .eql (.sc .int) (.t 50) (.t 51)), o 53 (.pick (.t 48) (.t 52) (.c (.bool false))), o 4 (.mv (.t 53))]
abbrev w10_CoverFactors_p1 : List AG := [o 37 (.mv (.t 0)), o 38 (.call (.f n_r10_Cost) [(.t 37)]), o 12 (.mv (.t 38))]
abbrev w10_CoverFactors_p2 : List AG := [o 33 (.mv (.t 7)), o 34 (.call (.f n_w10_Of) [(.t 33)]), o 35 (.mv (.t 9)), o 36 (.call (.f n_r10_Same) [(.t 34), (.t 35)]), o 11 (.mv (.t 36))]
abbrev w10_CoverFactors_p3 : List AG := [o 28 (.mv (.t 0)), o 29 (.mv (.t 1)), o 30 (.call (.f n_r10_Factor) [(.t 28), (.t 29)]), o 27 (.mv (.t 30)), o 31 (.extract (.t 27) 0), o 32 (.extract (.t 27) 1), o 9 (.mv (.t 31)), o 10 (.mv (.t 32))]
abbrev w10_CoverFactors_p4 : List AG := [o 22 (.mv (.t 0)), o 23 (.mv (.t 1)), o 24 (.call (.f n_cover_Factor) [(.t 22), (.t 23)]), o 21 (.mv (.t 24)), o 25 (.extract (.t 21) 0), o 26 (.extract (.t 21) 1), o 7 (.mv (.t 25)), o 8 (.mv (.t 26))]
abbrev w10_CoverFactors_p5 : List AG := [o 20 (.mv (.t 5)), o 4 (.mv (.t 20))]
abbrev w10_CoverFactors_p6 : ACode := (.seq (.reg w10_CoverFactors_p5) .ret)
abbrev w10_CoverFactors_p7 : List AG := [o 18 (.mv (.t 6)), o 19 (.not (.t 18))]
abbrev w10_CoverFactors_p8 : List AG := [o 16 (.mv (.t 0)), o 17 (.call (.f n_w10_few) [(.t 16)]), o 6 (.mv (.t 17))]
abbrev w10_CoverFactors_p9 : List AG := [o 4 (.mv (.c (.bool false)))]
abbrev w10_CoverFactors_p10 : ACode := (.seq (.reg w10_CoverFactors_p9) .ret)
abbrev w10_CoverFactors_p11 : List AG := [o 14 (.mv (.t 5)), o 15 (.not (.t 14))]
abbrev w10_CoverFactors_p12 : List AG := [o 13 (.call (.f n_w10_works) []), o 5 (.mv (.t 13))]
abbrev w10_CoverFactors_p13 : List AG := [o 4 (.mv (.c (.bool false)))]
abbrev w10_CoverFactors : AFun := ⟨(.seq (.reg w10_CoverFactors_p13) (.seq (.reg w10_CoverFactors_p12) (.seq (.seq (.reg w10_CoverFactors_p11) (.cond (.t 15) w10_CoverFactors_p10 .skip)) (.seq (.reg w10_CoverFactors_p8) (.seq (.seq (.reg w10_CoverFactors_p7) (.cond (.t 19) w10_CoverFactors_p6 .skip)) (.seq (.reg w10_CoverFactors_p4) (.seq (.reg w10_CoverFactors_p3) (.seq (.reg w10_CoverFactors_p2) (.seq (.reg w10_CoverFactors_p1) (.seq (.reg w10_CoverFactors_p0) .ret)))))))))), 54, [.tmp 4]⟩
@[simp] theorem c_w10_CoverFactors : cfun Tryd.prog n_w10_CoverFactors = some w10_CoverFactors := by kernel_rfl
@[simp] theorem e_w10_CoverFactors : hasBody Tryd.prog n_w10_CoverFactors = true := by kernel_rfl

/- w10_CoverForms: patchbay/patchbaylaw10.CoverForms -/
abbrev w10_CoverForms_p0 : List AG := [o 59 (.mv (.t 9)), o 60 (.mv (.t 59)), oy 61 60 (.mv (.t 0)), oy 62 60 (.mv (.t 2)), oy 63 60 (.call (.f n_cover_Check) [(.t 61), (.t 62)]), oy 64 60 (.cmp .eql (.sc .int) (.t 63) (.c (.int .i64 0))), oy 65 60 (.mv (.t 10)), oy 66 60 (.cmp .eql (.sc .bool) (.t 64) (.t 65)), o 67 (.pick (.t 60) (.t 66) (.c (.bool false))), o 68 (.mv (.t 67)), oy 69 68 (.mv (.t 11)), oy 70 68 (.mv (.t 13)), oy 71 68 (.cmp .eql (.sc .bool) (.t 69) (.t 70)), o 72 (.pick (.t 68) (.t 71) (.c (.bool false))), o 73 (.mv (.t 72)), oy 74 73 (.mv (.t 12)), oy 75 73 (.mv (.t 14)), oy 76 73 (.cmp .eql (.sc .int) (.t 74) (.t 75)), o 77 (.pick (.t 73) (.t 76) (.c (.bool false))), o 78 (.mv (.t 77)), oy 79 78 (.mv (.t 0)), oy 80 78 (.call (.f n_cover_Literals) [(.t 79)]), oy 81 78 (.mv (.t 15)), oy 82 78 (.cmp .eql (.sc .int) (.t 80) (.t 81)), o 83 (.pick (.t 78) (.t 82) (.c (.bool false))), o 84 (.mv (.t 83)), oy 85 84 (.mv (.t 0)), oy 86 84 (.mv (.t 1)), oy 87 84 (.call (.f n_cover_Same) [(.t 85), (.t 86)]), oy 88 84 (.mv (.t 16)), oy 89 84 (.cmp .eql (.sc .bool) (.t 87) (.t 88)), o 90 (.pick (.t 84) (.t 89) (.c (.bool false))), o 8 (.mv (.t 90))]
abbrev w10_CoverForms_p1 : List AG := [o 54 (.mv (.t 0)), o 55 (.call (.f n_w10_Of) [(.t 54)]), o 56 (.mv (.t 1)), o 57 (.call (.f n_w10_Of) [(.t 56)]), o 58 (.call (.f n_r10_Same) [(.t 55), (.t 57)]), o 16 (.mv (.t 58))]
abbrev w10_CoverForms_p2 : List AG := [o 51 (.mv (.t 0)), o 52 (.call (.f n_w10_Of) [(.t 51)]), o 53 (.call (.f n_r10_Literals) [(.t 52)]), o 15 (.mv (.t 53))]
abbrev w10_CoverForms_p3 : List AG := [o 45 (.mv (.t 0)), o 46 (.call (.f n_w10_Of) [(.t 45)]), o 47 (.mv (.t 3)), o 48 (.call (.f n_r10_Eval) [(.t 46), (.t 47)]), o 44 (.mv (.t 48)), o 49 (.extract (.t 44) 0), o 50 (.extract (.t 44) 1), o 13 (.mv (.t 49)), o 14 (.mv (.t 50))]
abbrev w10_CoverForms_p4 : List AG := [o 39 (.mv (.t 0)), o 40 (.mv (.t 3)), o 41 (.call (.f n_cover_Eval) [(.t 39), (.t 40)]), o 38 (.mv (.t 41)), o 42 (.extract (.t 38) 0), o 43 (.extract (.t 38) 1), o 11 (.mv (.t 42)), o 12 (.mv (.t 43))]
abbrev w10_CoverForms_p5 : List AG := [o 34 (.mv (.t 0)), o 35 (.call (.f n_w10_Of) [(.t 34)]), o 36 (.mv (.t 2)), o 37 (.call (.f n_r10_Check) [(.t 35), (.t 36)]), o 10 (.mv (.t 37))]
abbrev w10_CoverForms_p6 : List AG := [o 33 (.mv (.t 9)), o 8 (.mv (.t 33))]
abbrev w10_CoverForms_p7 : ACode := (.seq (.reg w10_CoverForms_p6) .ret)
abbrev w10_CoverForms_p8 : List AG := [o 20 (.mv (.t 0)), o 21 (.len (.t 20)), o 22 (.cmp .gtr (.sc .int) (.t 21) (.c (.int .i64 60))), o 23 (.mv (.t 22)), on 24 23 (.mv (.t 1)), on 25 23 (.len (.t 24)), on 26 23 (.cmp .gtr (.sc .int) (.t 25) (.c (.int .i64 60))), o 27 (.pick (.t 23) (.c (.bool true)) (.t 26)), o 28 (.mv (.t 27)), on 29 28 (.mv (.t 3)), on 30 28 (.len (.t 29)), on 31 28 (.cmp .gtr (.sc .int) (.t 30) (.c (.int .i64 60))), o 32 (.pick (.t 28) (.c (.bool true)) (.t 31))]
abbrev w10_CoverForms_p9 : List AG := [o 8 (.mv (.c (.bool false)))]
abbrev w10_CoverForms_p10 : ACode := (.seq (.reg w10_CoverForms_p9) .ret)
abbrev w10_CoverForms_p11 : List AG := [o 18 (.mv (.t 9)), o 19 (.not (.t 18))]
abbrev w10_CoverForms_p12 : List AG := [o 17 (.call (.f n_w10_works) []), o 9 (.mv (.t 17))]
abbrev w10_CoverForms_p13 : List AG := [o 8 (.mv (.c (.bool false)))]
abbrev w10_CoverForms : AFun := ⟨(.seq (.reg w10_CoverForms_p13) (.seq (.reg w10_CoverForms_p12) (.seq (.seq (.reg w10_CoverForms_p11) (.cond (.t 19) w10_CoverForms_p10 .skip)) (.seq (.seq (.reg w10_CoverForms_p8) (.cond (.t 32) w10_CoverForms_p7 .skip)) (.seq (.reg w10_CoverForms_p5) (.seq (.reg w10_CoverForms_p4) (.seq (.reg w10_CoverForms_p3) (.seq (.reg w10_CoverForms_p2) (.seq (.reg w10_CoverForms_p1) (.seq (.reg w10_CoverForms_p0) .ret)))))))))), 91, [.tmp 8]⟩
@[simp] theorem c_w10_CoverForms : cfun Tryd.prog n_w10_CoverForms = some w10_CoverForms := by kernel_rfl
@[simp] theorem e_w10_CoverForms : hasBody Tryd.prog n_w10_CoverForms = true := by kernel_rfl

/- w10_CoverLess: patchbay/patchbaylaw10.CoverLess -/
abbrev w10_CoverLess_p0 : List AG := [o 39 (.mv (.t 5)), o 40 (.mv (.t 39)), oy 41 40 (.mv (.t 7)), oy 42 40 (.mv (.t 1)), oy 43 40 (.call (.f n_cover_Check) [(.t 41), (.t 42)]), oy 44 40 (.cmp .eql (.sc .int) (.t 43) (.c (.int .i64 0))), o 45 (.pick (.t 40) (.t 44) (.c (.bool false))), o 46 (.mv (.t 45)), oy 47 46 (.mv (.t 7)), oy 48 46 (.call (.f n_cover_Literals) [(.t 47)]), oy 49 46 (.mv (.t 0)), oy 50 46 (.call (.f n_cover_Cost) [(.t 49)]), oy 51 46 (.cmp .leq (.sc .int) (.t 48) (.t 50)), o 52 (.pick (.t 46) (.t 51) (.c (.bool false))), o 53 (.mv (.t 52)), oy 54 53 (.mv (.t 10)), oy 55 53 (.cmp .eql (.sc .int) (.t 54) (.c (.int .i64 0))), o 56 (.pick (.t 53) (.t 55) (.c (.bool false))), o 57 (.mv (.t 56)), oy 58 57 (.mv (.t 7)), oy 59 57 (.mv (.t 9)), oy 60 57 (.call (.f n_cover_Same) [(.t 58), (.t 59)]), o 61 (.pick (.t 57) (.t 60) (.c (.bool false))), o 4 (.mv (.t 61))]
abbrev w10_CoverLess_p1 : List AG := [o 30 (.lit 1 [] []), o 31 (.mv (.t 0)), o 32 (.append 1 t_string 16 (.t 30) (.t 31)), o 33 (.mv (.t 0)), o 34 (.append 1 t_string 16 (.t 32) (.t 33)), o 35 (.mv (.t 1)), o 36 (.call (.f n_cover_Factor) [(.t 34), (.t 35)]), o 29 (.mv (.t 36)), o 37 (.extract (.t 29) 0), o 38 (.extract (.t 29) 1), o 9 (.mv (.t 37)), o 10 (.mv (.t 38))]
abbrev w10_CoverLess_p2 : List AG := [o 28 (.mv (.t 5)), o 4 (.mv (.t 28))]
abbrev w10_CoverLess_p3 : ACode := (.seq (.reg w10_CoverLess_p2) .ret)
abbrev w10_CoverLess_p4 : List AG := [o 22 (.mv (.t 6)), o 23 (.not (.t 22)), o 24 (.mv (.t 23)), on 25 24 (.mv (.t 8)), on 26 24 (.cmp .neq (.sc .int) (.t 25) (.c (.int .i64 0))), o 27 (.pick (.t 24) (.c (.bool true)) (.t 26))]
abbrev w10_CoverLess_p5 : List AG := [o 17 (.mv (.t 0)), o 18 (.mv (.t 1)), o 19 (.call (.f n_cover_Factor) [(.t 17), (.t 18)]), o 16 (.mv (.t 19)), o 20 (.extract (.t 16) 0), o 21 (.extract (.t 16) 1), o 7 (.mv (.t 20)), o 8 (.mv (.t 21))]
abbrev w10_CoverLess_p6 : List AG := [o 14 (.mv (.t 0)), o 15 (.call (.f n_w10_few) [(.t 14)]), o 6 (.mv (.t 15))]
abbrev w10_CoverLess_p7 : List AG := [o 4 (.mv (.c (.bool false)))]
abbrev w10_CoverLess_p8 : ACode := (.seq (.reg w10_CoverLess_p7) .ret)
abbrev w10_CoverLess_p9 : List AG := [o 12 (.mv (.t 5)), o 13 (.not (.t 12))]
abbrev w10_CoverLess_p10 : List AG := [o 11 (.call (.f n_w10_works) []), o 5 (.mv (.t 11))]
abbrev w10_CoverLess_p11 : List AG := [o 4 (.mv (.c (.bool false)))]
abbrev w10_CoverLess : AFun := ⟨(.seq (.reg w10_CoverLess_p11) (.seq (.reg w10_CoverLess_p10) (.seq (.seq (.reg w10_CoverLess_p9) (.cond (.t 13) w10_CoverLess_p8 .skip)) (.seq (.reg w10_CoverLess_p6) (.seq (.reg w10_CoverLess_p5) (.seq (.seq (.reg w10_CoverLess_p4) (.cond (.t 27) w10_CoverLess_p3 .skip)) (.seq (.reg w10_CoverLess_p1) (.seq (.reg w10_CoverLess_p0) .ret)))))))), 62, [.tmp 4]⟩
@[simp] theorem c_w10_CoverLess : cfun Tryd.prog n_w10_CoverLess = some w10_CoverLess := by kernel_rfl
@[simp] theorem e_w10_CoverLess : hasBody Tryd.prog n_w10_CoverLess = true := by kernel_rfl

/- w10_CoverRows: patchbay/patchbaylaw10.CoverRows -/
abbrev w10_CoverRows_p0 : List AG := [o 41 (.mv (.t 5)), o 42 (.mv (.t 41)), oy 43 42 (.mv (.t 6)), oy 44 42 (.call (.f n_cover_Literals) [(.t 43)]), oy 45 42 (.mv (.t 10)), oy 46 42 (.cmp .eql (.sc .int) (.t 44) (.t 45)), o 47 (.pick (.t 42) (.t 46) (.c (.bool false))), o 48 (.mv (.t 47)), oy 49 48 (.mv (.t 9)), oy 50 48 (.cmp .eql (.sc .int) (.t 49) (.c (.int .i64 0))), o 51 (.pick (.t 48) (.t 50) (.c (.bool false))), o 52 (.mv (.t 51)), oy 53 52 (.mv (.t 8)), oy 54 52 (.len (.t 53)), oy 55 52 (.cmp .eql (.sc .int) (.t 54) (.c (.int .i64 1))), o 56 (.pick (.t 52) (.t 55) (.c (.bool false))), o 57 (.mv (.t 56)), oy 58 57 (.mv (.t 8)), oy 59 57 (.ixAddr 3 (.t 58) (.c (.int .i64 0))), oy 60 57 (.off 0 (.t 59)), oy 61 57 (.load false 1 (.t 60)), oy 62 57 (.cmp .eql (.sc .int) (.t 61) (.c (.int .i64 0))), o 63 (.pick (.t 57) (.t 62) (.c (.bool false))), o 64 (.mv (.t 63)), oy 65 64 (.mv (.t 10)), oy 66 64 (.cmp .neq (.sc .int) (.t 65) (.c (.int .i64 1))), oy 67 64 (.mv (.t 66)), on 68 67 (.mv (.t 6)), on 69 67 (.len (.t 68)), on 70 67 (.cmp .eql (.sc .int) (.t 69) (.c (.int .i64 1))), oy 71 64 (.pick (.t 67) (.c (.bool true)) (.t 70)), o 72 (.pick (.t 64) (.t 71) (.c (.bool false))), o 73 (.mv (.t 72)), oy 74 73 (.mv (.t 10)), oy 75 73 (.cmp .neq (.sc .int) (.t 74) (.c (.int .i64 0))), oy 76 73 (.mv (.t 75)), on 77 76 (.mv (.t 6)), on 78 76 (.ixAddr 3 (.t 77) (.c (.int .i64 0))), on 79 76 (.off 0 (.t 78)), on 80 76 (.load false 1 (.t 79)), on 81 76 (.cmp .eql (.sc .int) (.t 80) (.c (.int .i64 1))), oy 82 73 (.pick (.t 76) (.c (.bool true)) (.t 81)), o 83 (.pick (.t 73) (.t 82) (.c (.bool false))), o 84 (.mv (.t 83)), oy 85 84 (.mv (.t 10)), oy 86 84 (.cmp .lss (.sc .int) (.t 85) (.c (.int .i64 2))), oy 87 84 (.mv (.t 86)), on 88 87 (.mv (.t 6)), on 89 87 (.ixAddr 3 (.t 88) (.c (.int .i64 0))), on 90 87 (.off 0 (.t 89)), on 91 87 (.load false 1 (.t 90)), on 92 87 (.cmp .eql (.sc .int) (.t 91) (.c (.int .i64 3))), on 93 87 (.mv (.t 92)), oy 94 93 (.mv (.t 6)), oy 95 93 (.ixAddr 3 (.t 94) (.c (.int .i64 0))), oy 96 93 (.off 2 (.t 95)), oy 97 93 (.load false 1 (.t 96)), oy 98 93 (.mv (.t 10)), oy 99 93 (.cmp .eql (.sc .int) (.t 97) (.t 98)), on 100 87 (.pick (.t 93) (.t 99) (.c (.bool false))), on 101 87 (.mv (.t 100)), oy 102 101 (.mv (.t 6)), oy 103 101 (.len (.t 102)), oy 104 101 (.mv (.t 10)), oy 105 101 (.ibin .add (.t 104) (.c (.int .i64 1))), oy 106 101 (.cmp .eql (.sc .int) (.t 103) (.t 105)), on 107 87 (.pick (.t 101) (.t 106) (.c (.bool false))), oy 108 84 (.pick (.t 87) (.c (.bool true)) (.t 107)), o 109 (.pick (.t 84) (.t 108) (.c (.bool false))), o 4 (.mv (.t 109))]
abbrev w10_CoverRows_p1 : List AG := [o 38 (.mv (.t 0)), o 39 (.lit 1 [(.str [])] [(0, (.t 38))]), o 40 (.call (.f n_cover_Cost) [(.t 39)]), o 10 (.mv (.t 40))]
abbrev w10_CoverRows_p2 : List AG := [o 34 (.mv (.t 1)), o 35 (.call (.f n_cover_Factor) [(.c (.list true 0 [])), (.t 34)]), o 33 (.mv (.t 35)), o 36 (.extract (.t 33) 0), o 37 (.extract (.t 33) 1), o 8 (.mv (.t 36)), o 9 (.mv (.t 37))]
abbrev w10_CoverRows_p3 : List AG := [o 27 (.mv (.t 5)), o 28 (.mv (.t 27)), oy 29 28 (.mv (.t 6)), oy 30 28 (.len (.t 29)), oy 31 28 (.cmp .eql (.sc .int) (.t 30) (.c (.int .i64 0))), o 32 (.pick (.t 28) (.t 31) (.c (.bool false))), o 4 (.mv (.t 32))]
abbrev w10_CoverRows_p4 : ACode := (.seq (.reg w10_CoverRows_p3) .ret)
abbrev w10_CoverRows_p5 : List AG := [o 25 (.mv (.t 7)), o 26 (.cmp .neq (.sc .int) (.t 25) (.c (.int .i64 0)))]
abbrev w10_CoverRows_p6 : List AG := [o 19 (.mv (.t 0)), o 20 (.lit 1 [(.str [])] [(0, (.t 19))]), o 21 (.mv (.t 1)), o 22 (.call (.f n_cover_Factor) [(.t 20), (.t 21)]), o 18 (.mv (.t 22)), o 23 (.extract (.t 18) 0), o 24 (.extract (.t 18) 1), o 6 (.mv (.t 23)), o 7 (.mv (.t 24))]
abbrev w10_CoverRows_p7 : List AG := [o 17 (.mv (.t 5)), o 4 (.mv (.t 17))]
abbrev w10_CoverRows_p8 : ACode := (.seq (.reg w10_CoverRows_p7) .ret)
abbrev w10_CoverRows_p9 : List AG := [o 14 (.mv (.t 0)), o 15 (.lenStr (.t 14)), o 16 (.cmp .gtr (.sc .int) (.t 15) (.c (.int .i64 60)))]
abbrev w10_CoverRows_p10 : List AG := [o 4 (.mv (.c (.bool false)))]
abbrev w10_CoverRows_p11 : ACode := (.seq (.reg w10_CoverRows_p10) .ret)
abbrev w10_CoverRows_p12 : List AG := [o 12 (.mv (.t 5)), o 13 (.not (.t 12))]
abbrev w10_CoverRows_p13 : List AG := [o 11 (.call (.f n_w10_works) []), o 5 (.mv (.t 11))]
abbrev w10_CoverRows_p14 : List AG := [o 4 (.mv (.c (.bool false)))]
abbrev w10_CoverRows : AFun := ⟨(.seq (.reg w10_CoverRows_p14) (.seq (.reg w10_CoverRows_p13) (.seq (.seq (.reg w10_CoverRows_p12) (.cond (.t 13) w10_CoverRows_p11 .skip)) (.seq (.seq (.reg w10_CoverRows_p9) (.cond (.t 16) w10_CoverRows_p8 .skip)) (.seq (.reg w10_CoverRows_p6) (.seq (.seq (.reg w10_CoverRows_p5) (.cond (.t 26) w10_CoverRows_p4 .skip)) (.seq (.reg w10_CoverRows_p2) (.seq (.reg w10_CoverRows_p1) (.seq (.reg w10_CoverRows_p0) .ret))))))))), 110, [.tmp 4]⟩
@[simp] theorem c_w10_CoverRows : cfun Tryd.prog n_w10_CoverRows = some w10_CoverRows := by kernel_rfl
@[simp] theorem e_w10_CoverRows : hasBody Tryd.prog n_w10_CoverRows = true := by kernel_rfl

/- w10_CoverMeans: patchbay/patchbaylaw10.CoverMeans -/
abbrev w10_CoverMeans_p0 : List AG := [o 69 (.mv (.t 5)), o 70 (.mv (.t 69)), oy 71 70 (.mv (.t 13)), oy 72 70 (.cmp .eql (.sc .int) (.t 71) (.c (.int .i64 0))), o 73 (.pick (.t 70) (.t 72) (.c (.bool false))), o 74 (.mv (.t 73)), oy 75 74 (.mv (.t 10)), oy 76 74 (.mv (.t 12)), oy 77 74 (.cmp .eql (.sc .bool) (.t 75) (.t 76)), o 78 (.pick (.t 74) (.t 77) (.c (.bool false))), o 4 (.mv (.t 78))]
abbrev w10_CoverMeans_p1 : List AG := [o 58 (.mv (.t 5)), o 59 (.mv (.t 58)), oy 60 59 (.mv (.t 8)), oy 61 59 (.mv (.t 11)), oy 62 59 (.cmp .eql (.sc .int) (.t 60) (.t 61)), o 63 (.pick (.t 59) (.t 62) (.c (.bool false))), o 64 (.mv (.t 63)), oy 65 64 (.mv (.t 7)), oy 66 64 (.len (.t 65)), oy 67 64 (.cmp .eql (.sc .int) (.t 66) (.c (.int .i64 0))), o 68 (.pick (.t 64) (.t 67) (.c (.bool false))), o 4 (.mv (.t 68))]
abbrev w10_CoverMeans_p2 : ACode := (.seq (.reg w10_CoverMeans_p1) .ret)
abbrev w10_CoverMeans_p3 : List AG := [o 52 (.mv (.t 8)), o 53 (.cmp .neq (.sc .int) (.t 52) (.c (.int .i64 0))), o 54 (.mv (.t 53)), on 55 54 (.mv (.t 11)), on 56 54 (.cmp .neq (.sc .int) (.t 55) (.c (.int .i64 0))), o 57 (.pick (.t 54) (.c (.bool true)) (.t 56))]
abbrev w10_CoverMeans_p4 : List AG := [o 47 (.mv (.t 7)), o 48 (.mv (.t 1)), o 49 (.call (.f n_cover_Eval) [(.t 47), (.t 48)]), o 46 (.mv (.t 49)), o 50 (.extract (.t 46) 0), o 51 (.extract (.t 46) 1), o 12 (.mv (.t 50)), o 13 (.mv (.t 51))]
abbrev w10_CoverMeans_p5 : List AG := [o 39 (.mv (.t 9)), o 40 (.mv (.t 0)), o 41 (.build [(.str []), (.int .i64 0), (.list true 0 []), (.list true 0 []), (.bool false)] [(0, 1, (.c (.str [122]))), (1, 1, (.c (.int .i64 10))), (2, 1, (.t 39)), (3, 1, (.t 40))]), o 42 (.mv (.t 1)), o 43 (.call (.f n_step_Gate) [(.t 41), (.t 42)]), o 38 (.mv (.t 43)), o 44 (.extract (.t 38) 0), o 45 (.extract (.t 38) 1), o 10 (.mv (.t 44)), o 11 (.mv (.t 45))]
abbrev w10_CoverMeans_p6 : List AG := [o 34 (.lit 1 [(.str []), (.str []), (.str []), (.str []), (.str []), (.str []), (.str []), (.str [])] [(0, (.c (.str [97]))), (1, (.c (.str [98]))), (2, (.c (.str [99]))), (3, (.c (.str [100]))), (4, (.c (.str [101]))), (5, (.c (.str [102]))), (6, (.c (.str [103]))), (7, (.c (.str [104])))]), o 35 (.mv (.t 1)), o 36 (.len (.t 35)), o 37 (.slice 1 (.t 34) none (some (.t 36))), o 9 (.mv (.t 37))]
abbrev w10_CoverMeans_p7 : List AG := [o 28 (.mv (.t 0)), o 29 (.mv (.t 1)), o 30 (.len (.t 29)), o 31 (.call (.f n_cover_Factor) [(.t 28), (.t 30)]), o 27 (.mv (.t 31)), o 32 (.extract (.t 27) 0), o 33 (.extract (.t 27) 1), o 7 (.mv (.t 32)), o 8 (.mv (.t 33))]
abbrev w10_CoverMeans_p8 : List AG := [o 26 (.mv (.t 5)), o 4 (.mv (.t 26))]
abbrev w10_CoverMeans_p9 : ACode := (.seq (.reg w10_CoverMeans_p8) .ret)
abbrev w10_CoverMeans_p10 : List AG := [o 19 (.mv (.t 6)), o 20 (.not (.t 19)), o 21 (.mv (.t 20)), on 22 21 (.mv (.t 1)), on 23 21 (.len (.t 22)), on 24 21 (.cmp .gtr (.sc .int) (.t 23) (.c (.int .i64 8))), o 25 (.pick (.t 21) (.c (.bool true)) (.t 24))]
abbrev w10_CoverMeans_p11 : List AG := [o 17 (.mv (.t 0)), o 18 (.call (.f n_w10_few) [(.t 17)]), o 6 (.mv (.t 18))]
abbrev w10_CoverMeans_p12 : List AG := [o 4 (.mv (.c (.bool false)))]
abbrev w10_CoverMeans_p13 : ACode := (.seq (.reg w10_CoverMeans_p12) .ret)
abbrev w10_CoverMeans_p14 : List AG := [o 15 (.mv (.t 5)), o 16 (.not (.t 15))]
abbrev w10_CoverMeans_p15 : List AG := [o 14 (.call (.f n_w10_works) []), o 5 (.mv (.t 14))]
abbrev w10_CoverMeans_p16 : List AG := [o 4 (.mv (.c (.bool false)))]
abbrev w10_CoverMeans : AFun := ⟨(.seq (.reg w10_CoverMeans_p16) (.seq (.reg w10_CoverMeans_p15) (.seq (.seq (.reg w10_CoverMeans_p14) (.cond (.t 16) w10_CoverMeans_p13 .skip)) (.seq (.reg w10_CoverMeans_p11) (.seq (.seq (.reg w10_CoverMeans_p10) (.cond (.t 25) w10_CoverMeans_p9 .skip)) (.seq (.reg w10_CoverMeans_p7) (.seq (.reg w10_CoverMeans_p6) (.seq (.reg w10_CoverMeans_p5) (.seq (.reg w10_CoverMeans_p4) (.seq (.seq (.reg w10_CoverMeans_p3) (.cond (.t 57) w10_CoverMeans_p2 .skip)) (.seq (.reg w10_CoverMeans_p0) .ret))))))))))), 79, [.tmp 4]⟩
@[simp] theorem c_w10_CoverMeans : cfun Tryd.prog n_w10_CoverMeans = some w10_CoverMeans := by kernel_rfl
@[simp] theorem e_w10_CoverMeans : hasBody Tryd.prog n_w10_CoverMeans = true := by kernel_rfl

/- w10_works: patchbay/patchbaylaw10.works -/
abbrev w10_works_p0 : List AG := [o 38 (.mv (.t 1)), o 39 (.build [(.int .i64 0), (.int .i64 0), (.int .i64 0)] [(0, 1, (.c (.int .i64 3))), (2, 1, (.c (.int .i64 2)))]), o 40 (.build [(.int .i64 0), (.int .i64 0), (.int .i64 0)] [(0, 1, (.c (.int .i64 2)))]), o 41 (.build [(.int .i64 0), (.int .i64 0), (.int .i64 0)] [(0, 1, (.c (.int .i64 4))), (2, 1, (.c (.int .i64 2)))]), o 42 (.build [(.int .i64 0), (.int .i64 0), (.int .i64 0)] [(0, 1, (.c (.int .i64 2))), (1, 1, (.c (.int .i64 2)))]), o 43 (.build [(.int .i64 0), (.int .i64 0), (.int .i64 0)] [(0, 1, (.c (.int .i64 2))), (1, 1, (.c (.int .i64 4)))]), o 44 (.lit 3 [(.agg [(.int .i64 0), (.int .i64 0), (.int .i64 0)]), (.agg [(.int .i64 0), (.int .i64 0), (.int .i64 0)]), (.agg [(.int .i64 0), (.int .i64 0), (.int .i64 0)]), (.agg [(.int .i64 0), (.int .i64 0), (.int .i64 0)]), (.agg [(.int .i64 0), (.int .i64 0), (.int .i64 0)])] [(0, (.t 39)), (1, (.t 40)), (2, (.t 41)), (3, (.t 42)), (4, (.t 43))]), o 45 (.call (.f n_cover_Same) [(.t 38), (.t 44)]), o 46 (.mv (.t 45)), oy 47 46 (.mv (.t 2)), oy 48 46 (.cmp .eql (.sc .int) (.t 47) (.c (.int .i64 0))), o 49 (.pick (.t 46) (.t 48) (.c (.bool false))), o 50 (.mv (.t 49)), oy 51 50 (.mv (.t 3)), o 52 (.pick (.t 50) (.t 51) (.c (.bool false))), o 53 (.mv (.t 52)), oy 54 53 (.mv (.t 4)), oy 55 53 (.cmp .eql (.sc .int) (.t 54) (.c (.int .i64 0))), o 56 (.pick (.t 53) (.t 55) (.c (.bool false))), o 57 (.mv (.t 56)), oy 58 57 (.mv (.t 5)), oy 59 57 (.not (.t 58)), o 60 (.pick (.t 57) (.t 59) (.c (.bool false))), o 61 (.mv (.t 60)), oy 62 61 (.mv (.t 6)), oy 63 61 (.cmp .eql (.sc .int) (.t 62) (.c (.int .i64 0))), o 64 (.pick (.t 61) (.t 63) (.c (.bool false))), o 65 (.mv (.t 64)), oy 66 65 (.mv (.t 8)), oy 67 65 (.cmp .eql (.sc .int) (.t 66) (.c (.int .i64 1))), o 68 (.pick (.t 65) (.t 67) (.c (.bool false))), o 69 (.mv (.t 68)), oy 70 69 (.mv (.t 9)), oy 71 69 (.len (.t 70)), oy 72 69 (.cmp .eql (.sc .int) (.t 71) (.c (.int .i64 1))), o 73 (.pick (.t 69) (.t 72) (.c (.bool false))), o 74 (.mv (.t 73)), oy 75 74 (.mv (.t 9)), oy 76 74 (.ixAddr 3 (.t 75) (.c (.int .i64 0))), oy 77 74 (.off 0 (.t 76)), oy 78 74 (.load false 1 (.t 77)), oy 79 74 (.cmp .eql (.sc .int) (.t 78) (.c (.int .i64 1))), o 80 (.pick (.t 74) (.t 79) (.c (.bool false))), o 81 (.mv (.t 80)), oy 82 81 (.mv (.t 10)), oy 83 81 (.cmp .eql (.sc .int) (.t 82) (.c (.int .i64 0))), o 84 (.pick (.t 81) (.t 83) (.c (.bool false))), o 85 (.mv (.t 84)), oy 86 85 (.mv (.t 1)), oy 87 85 (.call (.f n_cover_Literals) [(.t 86)]), oy 88 85 (.cmp .eql (.sc .int) (.t 87) (.c (.int .i64 3))), o 89 (.pick (.t 85) (.t 88) (.c (.bool false))), o 90 (.mv (.t 89)), oy 91 90 (.lit 1 [(.str []), (.str [])] [(0, (.c (.str [49, 49, 45]))), (1, (.c (.str [49, 45, 49])))]), oy 92 90 (.call (.f n_cover_Cost) [(.t 91)]), oy 93 90 (.cmp .eql (.sc .int) (.t 92) (.c (.int .i64 4))), o 94 (.pick (.t 90) (.t 93) (.c (.bool false))), o 95 (.mv (.t 94)), oy 96 95 (.mv (.t 1)), oy 97 95 (.call (.f n_cover_Check) [(.t 96), (.c (.int .i64 3))]), oy 98 95 (.cmp .eql (.sc .int) (.t 97) (.c (.int .i64 0))), o 99 (.pick (.t 95) (.t 98) (.c (.bool false))), o 100 (.mv (.t 99)), oy 101 100 (.mv (.t 1)), oy 102 100 (.call (.f n_cover_Check) [(.t 101), (.c (.int .i64 2))]), oy 103 100 (.cmp .eql (.sc .int) (.t 102) (.c (.int .i64 1))), o 104 (.pick (.t 100) (.t 103) (.c (.bool false))), o 105 (.mv (.t 104)), oy 106 105 (.mv (.t 1)), oy 107 105 (.mv (.t 9)), oy 108 105 (.call (.f n_cover_Same) [(.t 106), (.t 107)]), oy 109 105 (.not (.t 108)), o 110 (.pick (.t 105) (.t 109) (.c (.bool false))), o 0 (.mv (.t 110))]
abbrev w10_works_p1 : List AG := [o 34 (.lit 1 [(.str []), (.str [])] [(0, (.c (.str [45, 45]))), (1, (.c (.str [48, 49])))]), o 35 (.call (.f n_cover_Factor) [(.t 34), (.c (.int .i64 2))]), o 33 (.mv (.t 35)), o 36 (.extract (.t 33) 0), o 37 (.extract (.t 33) 1), o 9 (.mv (.t 36)), o 10 (.mv (.t 37))]
abbrev w10_works_p2 : List AG := [o 29 (.lit 1 [(.str [])] [(0, (.c (.str [49])))]), o 30 (.call (.f n_cover_Factor) [(.t 29), (.c (.int .i64 2))]), o 28 (.mv (.t 30)), o 31 (.extract (.t 28) 0), o 32 (.extract (.t 28) 1), o 7 (.mv (.t 31)), o 8 (.mv (.t 32))]
abbrev w10_works_p3 : List AG := [o 23 (.mv (.t 1)), o 24 (.lit 1 [(.bool false), (.bool false), (.bool false)] [(0, (.c (.bool true))), (1, (.c (.bool false))), (2, (.c (.bool false)))]), o 25 (.call (.f n_cover_Eval) [(.t 23), (.t 24)]), o 22 (.mv (.t 25)), o 26 (.extract (.t 22) 0), o 27 (.extract (.t 22) 1), o 5 (.mv (.t 26)), o 6 (.mv (.t 27))]
abbrev w10_works_p4 : List AG := [o 17 (.mv (.t 1)), o 18 (.lit 1 [(.bool false), (.bool false), (.bool false)] [(0, (.c (.bool true))), (1, (.c (.bool false))), (2, (.c (.bool true)))]), o 19 (.call (.f n_cover_Eval) [(.t 17), (.t 18)]), o 16 (.mv (.t 19)), o 20 (.extract (.t 16) 0), o 21 (.extract (.t 16) 1), o 3 (.mv (.t 20)), o 4 (.mv (.t 21))]
abbrev w10_works_p5 : List AG := [o 12 (.lit 1 [(.str []), (.str [])] [(0, (.c (.str [49, 49, 45]))), (1, (.c (.str [49, 45, 49])))]), o 13 (.call (.f n_cover_Factor) [(.t 12), (.c (.int .i64 3))]), o 11 (.mv (.t 13)), o 14 (.extract (.t 11) 0), o 15 (.extract (.t 11) 1), o 1 (.mv (.t 14)), o 2 (.mv (.t 15))]
abbrev w10_works_p6 : List AG := [o 0 (.mv (.c (.bool false)))]
abbrev w10_works : AFun := ⟨(.seq (.reg w10_works_p6) (.seq (.reg w10_works_p5) (.seq (.reg w10_works_p4) (.seq (.reg w10_works_p3) (.seq (.reg w10_works_p2) (.seq (.reg w10_works_p1) (.seq (.reg w10_works_p0) .ret))))))), 111, [.tmp 0]⟩
@[simp] theorem c_w10_works : cfun Tryd.prog n_w10_works = some w10_works := by kernel_rfl
@[simp] theorem e_w10_works : hasBody Tryd.prog n_w10_works = true := by kernel_rfl

/- w10_few: patchbay/patchbaylaw10.few -/
abbrev w10_few_p0 : List AG := [o 3 (.mv (.t 0)), o 4 (.call (.f n_w05_Texts) [(.t 3), (.c (.int .i64 40))]), o 2 (.mv (.t 4))]
abbrev w10_few_p1 : List AG := [o 2 (.mv (.c (.bool false)))]
abbrev w10_few : AFun := ⟨(.seq (.reg w10_few_p1) (.seq (.reg w10_few_p0) .ret)), 5, [.tmp 2]⟩
@[simp] theorem c_w10_few : cfun Tryd.prog n_w10_few = some w10_few := by kernel_rfl
@[simp] theorem e_w10_few : hasBody Tryd.prog n_w10_few = true := by kernel_rfl

/- cover_Factor: patchbay/cover.Factor -/
abbrev cover_Factor_p0 : List AG := [o 42 (.mv (.t 7)), o 43 (.call (.f n_cover_factor) [(.t 42)]), o 4 (.mv (.t 43)), o 5 (.mv (.c (.int .i64 0)))]
abbrev cover_Factor_m1 : List Bool := [O,O,O,O,O,O,O,I,O,O,O,O,O,O,O,O,O,O,O,O,O,O,O,O,O,O,O,I,I,I,O,O,O,O,O,O,O,O,O,O,O,O,O,O]
abbrev cover_Factor_x1 : List Bool := [O,O,O,O,O,O,O,I,O,O,O,O,O,O,O,O,O,O,O,O,O,O,O,O,O,O,O,O,O,O,O,O,O,O,O,O,O,O,O,O,O,O,O,O]
abbrev cover_Factor_p2 : List AG := [o 41 (.ibin .add (.t 29) (.c (.int .i64 1))), o 29 (.mv (.t 41))]
abbrev cover_Factor_p3 : List AG := [o 37 (.mv (.t 7)), o 38 (.mv (.t 9)), o 39 (.lit 1 [(.str [])] [(0, (.t 38))]), o 40 (.append 1 t_string 16 (.t 37) (.t 39)), o 7 (.mv (.t 40))]
abbrev cover_Factor_p4 : List AG := [o 33 (.mv (.t 7)), o 34 (.mv (.t 9)), o 35 (.call (.f n_slices_Contains_string_string) [(.t 33), (.t 34)]), o 36 (.not (.t 35))]
abbrev cover_Factor_p5 : List AG := [o 31 (.ixAddr 1 (.t 27) (.t 29)), o 32 (.load false 1 (.t 31)), o 9 (.mv (.t 32))]
abbrev cover_Factor_p6 : ACode := (.seq (.reg cover_Factor_p5) (.seq (.reg cover_Factor_p4) (.cond (.t 36) (.reg cover_Factor_p3) .skip)))
abbrev cover_Factor_p7 : List AG := [o 30 (.cmp .lss (.sc .int) (.t 29) (.t 28))]
abbrev cover_Factor_b1 : ACode := (.seq (.reg cover_Factor_p7) (.seq (.cond (.t 30) .skip (.exit 0)) (.seq (.block 1 [] cover_Factor_p6) (.reg cover_Factor_p2))))
abbrev cover_Factor_p8 : List AG := [o 27 (.mv (.t 0)), o 28 (.len (.t 27)), o 29 (.mv (.c (.int .i64 0)))]
abbrev cover_Factor_p9 : List AG := [o 7 (.nilrow 1 t_string)]
abbrev cover_Factor_p10 : List AG := [o 4 (.nilrow 3 t_cover_Form_2), o 5 (.mv (.c (.int .i64 1)))]
abbrev cover_Factor_p11 : ACode := (.seq (.reg cover_Factor_p10) .ret)
abbrev cover_Factor_p12 : List AG := [o 11 (.load false 1 (.t 3)), o 12 (.cmp .lss (.sc .int) (.t 11) (.c (.int .i64 0))), o 13 (.mv (.t 12)), on 14 13 (.load false 1 (.t 3)), on 15 13 (.cmp .gtr (.sc .int) (.t 14) (.c (.int .i64 8))), o 16 (.pick (.t 13) (.c (.bool true)) (.t 15)), o 17 (.mv (.t 16)), on 18 17 (.mv (.t 0)), on 19 17 (.len (.t 18)), on 20 17 (.cmp .gtr (.sc .int) (.t 19) (.c (.int .i64 128))), o 21 (.pick (.t 17) (.c (.bool true)) (.t 20)), o 22 (.mv (.t 21)), on 23 22 (.mv (.t 0)), on 24 22 (.mv (.t 6)), on 25 22 (.call (.f n_slices_ContainsFunc_string_string) [(.t 23), (.t 24)]), o 26 (.pick (.t 22) (.c (.bool true)) (.t 25))]
abbrev cover_Factor_p13 : List AG := [o 10 (.mkFunc (.func n_cover_Factor_1) [] [(.t 3)]), o 6 (.mv (.t 10))]
abbrev cover_Factor_p14 : List AG := [o 3 (.box 1 (.t 1)), o 4 (.nilrow 3 t_cover_Form_2), o 5 (.mv (.c (.int .i64 0)))]
abbrev cover_Factor : AFun := ⟨(.seq (.reg cover_Factor_p14) (.seq (.reg cover_Factor_p13) (.seq (.seq (.reg cover_Factor_p12) (.cond (.t 26) cover_Factor_p11 .skip)) (.seq (.reg cover_Factor_p9) (.seq (.seq (.reg cover_Factor_p8) (.block 0 cover_Factor_x1 (.loop cover_Factor_m1 cover_Factor_b1))) (.seq (.reg cover_Factor_p0) .ret)))))), 44, [.tmp 4, .tmp 5]⟩
abbrev cover_Factor_k1 : List It := [.code (.seq (.reg cover_Factor_p0) .ret)]
abbrev cover_Factor_L1 (x7 x27 x28 x29 : AV) (h : List Ob) (e : Cx := cx) : Cfg := atC n_cover_Factor (.code cover_Factor_b1 :: .inLoop cover_Factor_m1 cover_Factor_b1 :: .inBlock 0 cover_Factor_x1 :: cover_Factor_k1) [U,U,U,U,U,U,U,x7,U,U,U,U,U,U,U,U,U,U,U,U,U,U,U,U,U,U,U,x27,x28,x29,U,U,U,U,U,U,U,U,U,U,U,U,U,U] h e
abbrev cover_Factor_E1 (x7 : AV) (h : List Ob) (e : Cx := cx) : Cfg := atC n_cover_Factor cover_Factor_k1 [U,U,U,U,U,U,U,x7,U,U,U,U,U,U,U,U,U,U,U,U,U,U,U,U,U,U,U,U,U,U,U,U,U,U,U,U,U,U,U,U,U,U,U,U] h e
@[simp] theorem c_cover_Factor : cfun Tryd.prog n_cover_Factor = some cover_Factor := by kernel_rfl
@[simp] theorem e_cover_Factor : hasBody Tryd.prog n_cover_Factor = true := by kernel_rfl

/- r10_Factor: patchbay/patchbayref10.Factor -/
abbrev r10_Factor_p0 : List AG := [o 46 (.mv (.t 6)), o 47 (.call (.f n_r10_factor) [(.t 46)]), o 4 (.mv (.t 47)), o 5 (.mv (.c (.int .i64 0)))]
abbrev r10_Factor_m1 : List Bool := [I,I,O,O,O,O,I,I,O,O,O,O,O,O,O,O,O,O,O,O,O,O,O,O,O,O,O,O,O,O,O,O,O,O,O,O,O,O,O,O,O,O,O,O,O,O,O,O]
abbrev r10_Factor_x1 : List Bool := [O,O,O,O,O,O,I,O,O,O,O,O,O,O,O,O,O,O,O,O,O,O,O,O,O,O,O,O,O,O,O,O,O,O,O,O,O,O,O,O,O,O,O,O,O,O,O,O]
abbrev r10_Factor_p2 : List AG := [o 23 (.mv (.t 7)), o 24 (.ibin .add (.t 23) (.c (.int .i64 1))), o 7 (.mv (.t 24))]
abbrev r10_Factor_p3 : List AG := [o 39 (.mv (.t 6)), o 40 (.mv (.t 0)), o 41 (.mv (.t 7)), o 42 (.ixAddr 1 (.t 40) (.t 41)), o 43 (.load false 1 (.t 42)), o 44 (.lit 1 [(.str [])] [(0, (.t 43))]), o 45 (.append 1 t_string 16 (.t 39) (.t 44)), o 6 (.mv (.t 45))]
abbrev r10_Factor_p4 : List AG := [o 32 (.mv (.t 6)), o 33 (.mv (.t 0)), o 34 (.mv (.t 7)), o 35 (.ixAddr 1 (.t 33) (.t 34)), o 36 (.load false 1 (.t 35)), o 37 (.call (.f n_r01_Has) [(.t 32), (.t 36)]), o 38 (.not (.t 37))]
abbrev r10_Factor_p5 : List AG := [o 4 (.nilrow 3 t_r10_Form_2), o 5 (.mv (.c (.int .i64 1)))]
abbrev r10_Factor_p6 : ACode := (.seq (.reg r10_Factor_p5) .ret)
abbrev r10_Factor_p7 : List AG := [o 25 (.mv (.t 0)), o 26 (.mv (.t 7)), o 27 (.ixAddr 1 (.t 25) (.t 26)), o 28 (.load false 1 (.t 27)), o 29 (.mv (.t 1)), o 30 (.call (.f n_r10_row) [(.t 28), (.t 29)]), o 31 (.not (.t 30))]
abbrev r10_Factor_p8 : ACode := (.seq (.seq (.reg r10_Factor_p7) (.cond (.t 31) r10_Factor_p6 .skip)) (.seq (.reg r10_Factor_p4) (.cond (.t 38) (.reg r10_Factor_p3) .skip)))
abbrev r10_Factor_p9 : List AG := [o 19 (.mv (.t 7)), o 20 (.mv (.t 0)), o 21 (.len (.t 20)), o 22 (.cmp .lss (.sc .int) (.t 19) (.t 21))]
abbrev r10_Factor_b1 : ACode := (.seq (.seq (.reg r10_Factor_p9) (.cond (.t 22) .skip (.exit 0))) (.seq (.block 1 [] r10_Factor_p8) (.reg r10_Factor_p2)))
abbrev r10_Factor_p10 : List AG := [o 7 (.mv (.c (.int .i64 0)))]
abbrev r10_Factor_p11 : List AG := [o 6 (.nilrow 1 t_string)]
abbrev r10_Factor_p12 : List AG := [o 4 (.nilrow 3 t_r10_Form_2), o 5 (.mv (.c (.int .i64 1)))]
abbrev r10_Factor_p13 : ACode := (.seq (.reg r10_Factor_p12) .ret)
abbrev r10_Factor_p14 : List AG := [o 8 (.mv (.t 1)), o 9 (.cmp .lss (.sc .int) (.t 8) (.c (.int .i64 0))), o 10 (.mv (.t 9)), on 11 10 (.mv (.t 1)), on 12 10 (.cmp .gtr (.sc .int) (.t 11) (.c (.int .i64 8))), o 13 (.pick (.t 10) (.c (.bool true)) (.t 12)), o 14 (.mv (.t 13)), on 15 14 (.mv (.t 0)), on 16 14 (.len (.t 15)), on 17 14 (.cmp .gtr (.sc .int) (.t 16) (.c (.int .i64 128))), o 18 (.pick (.t 14) (.c (.bool true)) (.t 17))]
abbrev r10_Factor_p15 : List AG := [o 4 (.nilrow 3 t_r10_Form_2), o 5 (.mv (.c (.int .i64 0)))]
abbrev r10_Factor : AFun := ⟨(.seq (.reg r10_Factor_p15) (.seq (.seq (.reg r10_Factor_p14) (.cond (.t 18) r10_Factor_p13 .skip)) (.seq (.reg r10_Factor_p11) (.seq (.seq (.reg r10_Factor_p10) (.block 0 r10_Factor_x1 (.loop r10_Factor_m1 r10_Factor_b1))) (.seq (.reg r10_Factor_p0) .ret))))), 48, [.tmp 4, .tmp 5]⟩
abbrev r10_Factor_k1 : List It := [.code (.seq (.reg r10_Factor_p0) .ret)]
abbrev r10_Factor_L1 (x0 x1 x6 x7 : AV) (h : List Ob) (e : Cx := cx) : Cfg := atC n_r10_Factor (.code r10_Factor_b1 :: .inLoop r10_Factor_m1 r10_Factor_b1 :: .inBlock 0 r10_Factor_x1 :: r10_Factor_k1) [x0,x1,U,U,U,U,x6,x7,U,U,U,U,U,U,U,U,U,U,U,U,U,U,U,U,U,U,U,U,U,U,U,U,U,U,U,U,U,U,U,U,U,U,U,U,U,U,U,U] h e
abbrev r10_Factor_E1 (x6 : AV) (h : List Ob) (e : Cx := cx) : Cfg := atC n_r10_Factor r10_Factor_k1 [U,U,U,U,U,U,x6,U,U,U,U,U,U,U,U,U,U,U,U,U,U,U,U,U,U,U,U,U,U,U,U,U,U,U,U,U,U,U,U,U,U,U,U,U,U,U,U,U] h e
@[simp] theorem c_r10_Factor : cfun Tryd.prog n_r10_Factor = some r10_Factor := by kernel_rfl
@[simp] theorem e_r10_Factor : hasBody Tryd.prog n_r10_Factor = true := by kernel_rfl

/- r10_Same: patchbay/patchbayref10.Same -/
abbrev r10_Same_p0 : List AG := [o 4 (.mv (.c (.bool true)))]
abbrev r10_Same_m1 : List Bool := [I,I,O,O,O,I,O,O,O,O,O,O,O,O,O,O,O,O,O,O,O,O,O,O,O,O]
abbrev r10_Same_x1 : List Bool := [O,O,O,O,O,O,O,O,O,O,O,O,O,O,O,O,O,O,O,O,O,O,O,O,O,O]
abbrev r10_Same_p2 : List AG := [o 15 (.mv (.t 5)), o 16 (.ibin .add (.t 15) (.c (.int .i64 1))), o 5 (.mv (.t 16))]
abbrev r10_Same_p3 : List AG := [o 4 (.mv (.c (.bool false)))]
abbrev r10_Same_p4 : ACode := (.seq (.reg r10_Same_p3) .ret)
abbrev r10_Same_p5 : List AG := [o 17 (.mv (.t 0)), o 18 (.mv (.t 5)), o 19 (.ixAddr 3 (.t 17) (.t 18)), o 20 (.load true 3 (.t 19)), o 21 (.mv (.t 1)), o 22 (.mv (.t 5)), o 23 (.ixAddr 3 (.t 21) (.t 22)), o 24 (.load true 3 (.t 23)), o 25 (.cmp .neq (.strct [.int, .int, .int]) (.t 20) (.t 24))]
abbrev r10_Same_p6 : ACode := (.seq (.dreg [O,O,O,O,O,O,O,O,O] [10,10,10,10,10,10,10,10,10] r10_Same_p5) (.cond (.t 25) r10_Same_p4 .skip))
abbrev r10_Same_p7 : List AG := [o 11 (.mv (.t 5)), o 12 (.mv (.t 0)), o 13 (.len (.t 12)), o 14 (.cmp .lss (.sc .int) (.t 11) (.t 13))]
abbrev r10_Same_b1 : ACode := (.seq (.seq (.reg r10_Same_p7) (.cond (.t 14) .skip (.exit 0))) (.seq (.block 1 [] r10_Same_p6) (.reg r10_Same_p2)))
abbrev r10_Same_p8 : List AG := [o 5 (.mv (.c (.int .i64 0)))]
abbrev r10_Same_p9 : List AG := [o 4 (.mv (.c (.bool false)))]
abbrev r10_Same_p10 : ACode := (.seq (.reg r10_Same_p9) .ret)
abbrev r10_Same_p11 : List AG := [o 6 (.mv (.t 0)), o 7 (.len (.t 6)), o 8 (.mv (.t 1)), o 9 (.len (.t 8)), o 10 (.cmp .neq (.sc .int) (.t 7) (.t 9))]
abbrev r10_Same_p12 : List AG := [o 4 (.mv (.c (.bool false)))]
abbrev r10_Same : AFun := ⟨(.seq (.reg r10_Same_p12) (.seq (.seq (.reg r10_Same_p11) (.cond (.t 10) r10_Same_p10 .skip)) (.seq (.seq (.reg r10_Same_p8) (.block 0 r10_Same_x1 (.loop r10_Same_m1 r10_Same_b1))) (.seq (.reg r10_Same_p0) .ret)))), 26, [.tmp 4]⟩
abbrev r10_Same_k1 : List It := [.code (.seq (.reg r10_Same_p0) .ret)]
abbrev r10_Same_L1 (x0 x1 x5 : AV) (h : List Ob) (e : Cx := cx) : Cfg := atC n_r10_Same (.code r10_Same_b1 :: .inLoop r10_Same_m1 r10_Same_b1 :: .inBlock 0 r10_Same_x1 :: r10_Same_k1) [x0,x1,U,U,U,x5,U,U,U,U,U,U,U,U,U,U,U,U,U,U,U,U,U,U,U,U] h e
abbrev r10_Same_E1 (h : List Ob) (e : Cx := cx) : Cfg := atC n_r10_Same r10_Same_k1 [U,U,U,U,U,U,U,U,U,U,U,U,U,U,U,U,U,U,U,U,U,U,U,U,U,U] h e
@[simp] theorem c_r10_Same : cfun Tryd.prog n_r10_Same = some r10_Same := by kernel_rfl
@[simp] theorem e_r10_Same : hasBody Tryd.prog n_r10_Same = true := by kernel_rfl

/- w10_Of: patchbay/patchbaylaw10.Of -/
abbrev w10_Of_p0 : List AG := [o 30 (.mv (.t 3)), o 2 (.mv (.t 30))]
abbrev w10_Of_m1 : List Bool := [I,O,O,I,I,O,O,O,O,O,O,O,O,O,O,O,O,O,O,O,O,O,O,O,O,O,O,O,O,O,O]
abbrev w10_Of_x1 : List Bool := [O,O,O,I,O,O,O,O,O,O,O,O,O,O,O,O,O,O,O,O,O,O,O,O,O,O,O,O,O,O,O]
abbrev w10_Of_p2 : List AG := [o 9 (.mv (.t 4)), o 10 (.ibin .add (.t 9) (.c (.int .i64 1))), o 4 (.mv (.t 10))]
abbrev w10_Of_p3 : List AG := [o 11 (.mv (.t 3)), o 12 (.mv (.t 0)), o 13 (.mv (.t 4)), o 14 (.ixAddr 3 (.t 12) (.t 13)), o 15 (.off 0 (.t 14)), o 16 (.load false 1 (.t 15)), o 17 (.mv (.t 0)), o 18 (.mv (.t 4)), o 19 (.ixAddr 3 (.t 17) (.t 18)), o 20 (.off 1 (.t 19)), o 21 (.load false 1 (.t 20)), o 22 (.mv (.t 0)), o 23 (.mv (.t 4)), o 24 (.ixAddr 3 (.t 22) (.t 23)), o 25 (.off 2 (.t 24)), o 26 (.load false 1 (.t 25)), o 27 (.build [(.int .i64 0), (.int .i64 0), (.int .i64 0)] [(0, 1, (.t 16)), (1, 1, (.t 21)), (2, 1, (.t 26))]), o 28 (.lit 3 [(.agg [(.int .i64 0), (.int .i64 0), (.int .i64 0)])] [(0, (.t 27))]), o 29 (.append 3 t_r10_Form_2 24 (.t 11) (.t 28)), o 3 (.mv (.t 29))]
abbrev w10_Of_p4 : List AG := [o 5 (.mv (.t 4)), o 6 (.mv (.t 0)), o 7 (.len (.t 6)), o 8 (.cmp .lss (.sc .int) (.t 5) (.t 7))]
abbrev w10_Of_b1 : ACode := (.seq (.seq (.reg w10_Of_p4) (.cond (.t 8) .skip (.exit 0))) (.seq (.block 1 [] (.dreg [O,O,O,O,O,O,O,O,O,O,O,O,O,O,O,O,O,O,O,O] [19,18,18,18,18,18,18,18,18,18,18,18,18,18,18,18,18,19,21,21] w10_Of_p3)) (.reg w10_Of_p2)))
abbrev w10_Of_p5 : List AG := [o 4 (.mv (.c (.int .i64 0)))]
abbrev w10_Of_p6 : List AG := [o 3 (.nilrow 3 t_r10_Form_2)]
abbrev w10_Of_p7 : List AG := [o 2 (.nilrow 3 t_r10_Form_2)]
abbrev w10_Of : AFun := ⟨(.seq (.reg w10_Of_p7) (.seq (.reg w10_Of_p6) (.seq (.seq (.reg w10_Of_p5) (.block 0 w10_Of_x1 (.loop w10_Of_m1 w10_Of_b1))) (.seq (.reg w10_Of_p0) .ret)))), 31, [.tmp 2]⟩
abbrev w10_Of_k1 : List It := [.code (.seq (.reg w10_Of_p0) .ret)]
abbrev w10_Of_L1 (x0 x3 x4 : AV) (h : List Ob) (e : Cx := cx) : Cfg := atC n_w10_Of (.code w10_Of_b1 :: .inLoop w10_Of_m1 w10_Of_b1 :: .inBlock 0 w10_Of_x1 :: w10_Of_k1) [x0,U,U,x3,x4,U,U,U,U,U,U,U,U,U,U,U,U,U,U,U,U,U,U,U,U,U,U,U,U,U,U] h e
abbrev w10_Of_E1 (x3 : AV) (h : List Ob) (e : Cx := cx) : Cfg := atC n_w10_Of w10_Of_k1 [U,U,U,x3,U,U,U,U,U,U,U,U,U,U,U,U,U,U,U,U,U,U,U,U,U,U,U,U,U,U,U] h e
@[simp] theorem c_w10_Of : cfun Tryd.prog n_w10_Of = some w10_Of := by kernel_rfl
@[simp] theorem e_w10_Of : hasBody Tryd.prog n_w10_Of = true := by kernel_rfl

/- r10_Cost: patchbay/patchbayref10.Cost -/
abbrev r10_Cost_p0 : List AG := [o 30 (.mv (.t 3)), o 2 (.mv (.t 30))]
abbrev r10_Cost_m1 : List Bool := [I,O,O,I,I,O,O,O,O,O,O,O,O,O,O,O,O,O,O,O,O,O,O,O,O,O,O,O,O,O,O]
abbrev r10_Cost_x1 : List Bool := [O,O,O,I,O,O,O,O,O,O,O,O,O,O,O,O,O,O,O,O,O,O,O,O,O,O,O,O,O,O,O]
abbrev r10_Cost_p2 : List AG := [o 10 (.mv (.t 4)), o 11 (.ibin .add (.t 10) (.c (.int .i64 1))), o 4 (.mv (.t 11))]
abbrev r10_Cost_m3 : List Bool := [I,O,O,I,I,I,O,O,O,O,O,O,O,O,O,O,O,O,O,O,O,O,O,O,O,O,O,O,O,O,O]
abbrev r10_Cost_x3 : List Bool := [I,O,O,I,I,O,O,O,O,O,O,O,O,O,O,O,O,O,O,O,O,O,O,O,O,O,O,O,O,O,O]
abbrev r10_Cost_p4 : List AG := [o 19 (.mv (.t 5)), o 20 (.ibin .add (.t 19) (.c (.int .i64 1))), o 5 (.mv (.t 20))]
abbrev r10_Cost_p5 : List AG := [o 28 (.mv (.t 3)), o 29 (.ibin .add (.t 28) (.c (.int .i64 1))), o 3 (.mv (.t 29))]
abbrev r10_Cost_p6 : List AG := [o 21 (.mv (.t 0)), o 22 (.mv (.t 4)), o 23 (.ixAddr 1 (.t 21) (.t 22)), o 24 (.load false 1 (.t 23)), o 25 (.mv (.t 5)), o 26 (.ixStr (.t 24) (.t 25)), o 27 (.cmp .neq (.sc .int) (.t 26) (.c (.int .u8 45)))]
abbrev r10_Cost_p7 : ACode := (.seq (.reg r10_Cost_p6) (.cond (.t 27) (.reg r10_Cost_p5) .skip))
abbrev r10_Cost_p8 : List AG := [o 12 (.mv (.t 5)), o 13 (.mv (.t 0)), o 14 (.mv (.t 4)), o 15 (.ixAddr 1 (.t 13) (.t 14)), o 16 (.load false 1 (.t 15)), o 17 (.lenStr (.t 16)), o 18 (.cmp .lss (.sc .int) (.t 12) (.t 17))]
abbrev r10_Cost_b3 : ACode := (.seq (.seq (.reg r10_Cost_p8) (.cond (.t 18) .skip (.exit 2))) (.seq (.block 3 [] r10_Cost_p7) (.reg r10_Cost_p4)))
abbrev r10_Cost_p9 : List AG := [o 5 (.mv (.c (.int .i64 0)))]
abbrev r10_Cost_p10 : ACode := (.seq (.reg r10_Cost_p9) (.block 2 r10_Cost_x3 (.loop r10_Cost_m3 r10_Cost_b3)))
abbrev r10_Cost_p11 : List AG := [o 6 (.mv (.t 4)), o 7 (.mv (.t 0)), o 8 (.len (.t 7)), o 9 (.cmp .lss (.sc .int) (.t 6) (.t 8))]
abbrev r10_Cost_b1 : ACode := (.seq (.seq (.reg r10_Cost_p11) (.cond (.t 9) .skip (.exit 0))) (.seq (.block 1 [] r10_Cost_p10) (.reg r10_Cost_p2)))
abbrev r10_Cost_p12 : List AG := [o 4 (.mv (.c (.int .i64 0)))]
abbrev r10_Cost_p13 : List AG := [o 3 (.mv (.c (.int .i64 0)))]
abbrev r10_Cost_p14 : List AG := [o 2 (.mv (.c (.int .i64 0)))]
abbrev r10_Cost : AFun := ⟨(.seq (.reg r10_Cost_p14) (.seq (.reg r10_Cost_p13) (.seq (.seq (.reg r10_Cost_p12) (.block 0 r10_Cost_x1 (.loop r10_Cost_m1 r10_Cost_b1))) (.seq (.reg r10_Cost_p0) .ret)))), 31, [.tmp 2]⟩
abbrev r10_Cost_k3 : List It := [.inBlock 1 [], .code (.reg r10_Cost_p2), .inLoop r10_Cost_m1 r10_Cost_b1, .inBlock 0 r10_Cost_x1, .code (.seq (.reg r10_Cost_p0) .ret)]
abbrev r10_Cost_L3 (x0 x3 x4 x5 : AV) (h : List Ob) (e : Cx := cx) : Cfg := atC n_r10_Cost (.code r10_Cost_b3 :: .inLoop r10_Cost_m3 r10_Cost_b3 :: .inBlock 2 r10_Cost_x3 :: r10_Cost_k3) [x0,U,U,x3,x4,x5,U,U,U,U,U,U,U,U,U,U,U,U,U,U,U,U,U,U,U,U,U,U,U,U,U] h e
abbrev r10_Cost_E3 (x0 x3 x4 : AV) (h : List Ob) (e : Cx := cx) : Cfg := atC n_r10_Cost r10_Cost_k3 [x0,U,U,x3,x4,U,U,U,U,U,U,U,U,U,U,U,U,U,U,U,U,U,U,U,U,U,U,U,U,U,U] h e
abbrev r10_Cost_k1 : List It := [.code (.seq (.reg r10_Cost_p0) .ret)]
abbrev r10_Cost_L1 (x0 x3 x4 : AV) (h : List Ob) (e : Cx := cx) : Cfg := atC n_r10_Cost (.code r10_Cost_b1 :: .inLoop r10_Cost_m1 r10_Cost_b1 :: .inBlock 0 r10_Cost_x1 :: r10_Cost_k1) [x0,U,U,x3,x4,U,U,U,U,U,U,U,U,U,U,U,U,U,U,U,U,U,U,U,U,U,U,U,U,U,U] h e
abbrev r10_Cost_E1 (x3 : AV) (h : List Ob) (e : Cx := cx) : Cfg := atC n_r10_Cost r10_Cost_k1 [U,U,U,x3,U,U,U,U,U,U,U,U,U,U,U,U,U,U,U,U,U,U,U,U,U,U,U,U,U,U,U] h e
@[simp] theorem c_r10_Cost : cfun Tryd.prog n_r10_Cost = some r10_Cost := by kernel_rfl
@[simp] theorem e_r10_Cost : hasBody Tryd.prog n_r10_Cost = true := by kernel_rfl

/- cover_Cost: patchbay/cover.Cost -/
abbrev cover_Cost_p0 : List AG := [o 20 (.mv (.t 3)), o 2 (.mv (.t 20))]
abbrev cover_Cost_m1 : List Bool := [O,O,O,I,O,O,I,I,I,O,O,O,O,O,O,O,O,O,O,O,O]
abbrev cover_Cost_x1 : List Bool := [O,O,O,I,O,O,O,O,O,O,O,O,O,O,O,O,O,O,O,O,O]
abbrev cover_Cost_p2 : List AG := [o 19 (.ibin .add (.t 8) (.c (.int .i64 1))), o 8 (.mv (.t 19))]
abbrev cover_Cost_p3 : List AG := [o 12 (.mv (.t 3)), o 13 (.mv (.t 5)), o 14 (.lenStr (.t 13)), o 15 (.mv (.t 5)), o 16 (.call (.f n_strings_Count) [(.t 15), (.c (.str [45]))]), o 17 (.ibin .sub (.t 14) (.t 16)), o 18 (.ibin .add (.t 12) (.t 17)), o 3 (.mv (.t 18))]
abbrev cover_Cost_p4 : List AG := [o 10 (.ixAddr 1 (.t 6) (.t 8)), o 11 (.load false 1 (.t 10)), o 5 (.mv (.t 11))]
abbrev cover_Cost_p5 : ACode := (.seq (.reg cover_Cost_p4) (.reg cover_Cost_p3))
abbrev cover_Cost_p6 : List AG := [o 9 (.cmp .lss (.sc .int) (.t 8) (.t 7))]
abbrev cover_Cost_b1 : ACode := (.seq (.reg cover_Cost_p6) (.seq (.cond (.t 9) .skip (.exit 0)) (.seq (.block 1 [] cover_Cost_p5) (.reg cover_Cost_p2))))
abbrev cover_Cost_p7 : List AG := [o 6 (.mv (.t 0)), o 7 (.len (.t 6)), o 8 (.mv (.c (.int .i64 0)))]
abbrev cover_Cost_p8 : List AG := [o 3 (.mv (.c (.int .i64 0)))]
abbrev cover_Cost_p9 : List AG := [o 2 (.mv (.c (.int .i64 0)))]
abbrev cover_Cost : AFun := ⟨(.seq (.reg cover_Cost_p9) (.seq (.reg cover_Cost_p8) (.seq (.seq (.reg cover_Cost_p7) (.block 0 cover_Cost_x1 (.loop cover_Cost_m1 cover_Cost_b1))) (.seq (.reg cover_Cost_p0) .ret)))), 21, [.tmp 2]⟩
abbrev cover_Cost_k1 : List It := [.code (.seq (.reg cover_Cost_p0) .ret)]
abbrev cover_Cost_L1 (x3 x6 x7 x8 : AV) (h : List Ob) (e : Cx := cx) : Cfg := atC n_cover_Cost (.code cover_Cost_b1 :: .inLoop cover_Cost_m1 cover_Cost_b1 :: .inBlock 0 cover_Cost_x1 :: cover_Cost_k1) [U,U,U,x3,U,U,x6,x7,x8,U,U,U,U,U,U,U,U,U,U,U,U] h e
abbrev cover_Cost_E1 (x3 : AV) (h : List Ob) (e : Cx := cx) : Cfg := atC n_cover_Cost cover_Cost_k1 [U,U,U,x3,U,U,U,U,U,U,U,U,U,U,U,U,U,U,U,U,U] h e
@[simp] theorem c_cover_Cost : cfun Tryd.prog n_cover_Cost = some cover_Cost := by kernel_rfl
@[simp] theorem e_cover_Cost : hasBody Tryd.prog n_cover_Cost = true := by kernel_rfl

/- r10_Check: patchbay/patchbayref10.Check -/
abbrev r10_Check_p0 : List AG := [o 5 (.mv (.t 0)), o 6 (.len (.t 5)), o 7 (.cmp .leq (.sc .int) (.t 6) (.c (.int .i64 4000))), o 8 (.mv (.t 7)), oy 9 8 (.mv (.t 1)), oy 10 8 (.cmp .geq (.sc .int) (.t 9) (.c (.int .i64 0))), o 11 (.pick (.t 8) (.t 10) (.c (.bool false))), o 12 (.mv (.t 11)), oy 13 12 (.mv (.t 1)), oy 14 12 (.cmp .leq (.sc .int) (.t 13) (.c (.int .i64 4000))), o 15 (.pick (.t 12) (.t 14) (.c (.bool false))), o 16 (.mv (.t 15)), oy 17 16 (.mv (.t 0)), oy 18 16 (.mv (.t 1)), oy 19 16 (.call (.f n_r10_end) [(.t 17), (.c (.int .i64 0)), (.t 18)]), oy 20 16 (.mv (.t 0)), oy 21 16 (.len (.t 20)), oy 22 16 (.cmp .eql (.sc .int) (.t 19) (.t 21)), o 23 (.pick (.t 16) (.t 22) (.c (.bool false))), o 4 (.mv (.t 23))]
abbrev r10_Check_p1 : List AG := [o 4 (.mv (.c (.bool false)))]
abbrev r10_Check : AFun := ⟨(.seq (.reg r10_Check_p1) (.seq (.reg r10_Check_p0) .ret)), 24, [.tmp 4]⟩
@[simp] theorem c_r10_Check : cfun Tryd.prog n_r10_Check = some r10_Check := by kernel_rfl
@[simp] theorem e_r10_Check : hasBody Tryd.prog n_r10_Check = true := by kernel_rfl

/- cover_Eval: patchbay/cover.Eval -/
abbrev cover_Eval_p0 : List AG := [o 6 (.mv (.t 0)), o 7 (.load false 1 (.t 3)), o 8 (.len (.t 7)), o 9 (.mkFunc (.func n_cover_Eval_1) [] [(.t 3)]), o 10 (.call (.f n_cover_read) [(.t 6), (.t 8), (.t 9)]), o 11 (.extract (.t 10) 0), o 12 (.extract (.t 10) 1), o 4 (.mv (.t 11)), o 5 (.mv (.t 12))]
abbrev cover_Eval_p1 : List AG := [o 3 (.box 1 (.t 1)), o 4 (.mv (.c (.bool false))), o 5 (.mv (.c (.int .i64 0)))]
abbrev cover_Eval : AFun := ⟨(.seq (.reg cover_Eval_p1) (.seq (.reg cover_Eval_p0) .ret)), 13, [.tmp 4, .tmp 5]⟩
@[simp] theorem c_cover_Eval : cfun Tryd.prog n_cover_Eval = some cover_Eval := by kernel_rfl
@[simp] theorem e_cover_Eval : hasBody Tryd.prog n_cover_Eval = true := by kernel_rfl

/- r10_Eval: patchbay/patchbayref10.Eval -/
abbrev r10_Eval_p0 : List AG := [o 11 (.mv (.t 0)), o 12 (.mv (.t 1)), o 13 (.call (.f n_r10_eval) [(.t 11), (.c (.int .i64 0)), (.t 12)]), o 4 (.mv (.t 13)), o 5 (.mv (.c (.int .i64 0)))]
abbrev r10_Eval_p1 : List AG := [o 4 (.mv (.c (.bool false))), o 5 (.mv (.c (.int .i64 1)))]
abbrev r10_Eval_p2 : ACode := (.seq (.reg r10_Eval_p1) .ret)
abbrev r10_Eval_p3 : List AG := [o 6 (.mv (.t 0)), o 7 (.mv (.t 1)), o 8 (.len (.t 7)), o 9 (.call (.f n_r10_Check) [(.t 6), (.t 8)]), o 10 (.not (.t 9))]
abbrev r10_Eval_p4 : List AG := [o 4 (.mv (.c (.bool false))), o 5 (.mv (.c (.int .i64 0)))]
abbrev r10_Eval : AFun := ⟨(.seq (.reg r10_Eval_p4) (.seq (.seq (.reg r10_Eval_p3) (.cond (.t 10) r10_Eval_p2 .skip)) (.seq (.reg r10_Eval_p0) .ret))), 14, [.tmp 4, .tmp 5]⟩
@[simp] theorem c_r10_Eval : cfun Tryd.prog n_r10_Eval = some r10_Eval := by kernel_rfl
@[simp] theorem e_r10_Eval : hasBody Tryd.prog n_r10_Eval = true := by kernel_rfl

/- r10_Literals: patchbay/patchbayref10.Literals -/
abbrev r10_Literals_p0 : List AG := [o 19 (.mv (.t 3)), o 2 (.mv (.t 19))]
abbrev r10_Literals_m1 : List Bool := [I,O,O,I,I,O,O,O,O,O,O,O,O,O,O,O,O,O,O,O]
abbrev r10_Literals_x1 : List Bool := [O,O,O,I,O,O,O,O,O,O,O,O,O,O,O,O,O,O,O,O]
abbrev r10_Literals_p2 : List AG := [o 9 (.mv (.t 4)), o 10 (.ibin .add (.t 9) (.c (.int .i64 1))), o 4 (.mv (.t 10))]
abbrev r10_Literals_p3 : List AG := [o 17 (.mv (.t 3)), o 18 (.ibin .add (.t 17) (.c (.int .i64 1))), o 3 (.mv (.t 18))]
abbrev r10_Literals_p4 : List AG := [o 11 (.mv (.t 0)), o 12 (.mv (.t 4)), o 13 (.ixAddr 3 (.t 11) (.t 12)), o 14 (.off 0 (.t 13)), o 15 (.load false 1 (.t 14)), o 16 (.cmp .eql (.sc .int) (.t 15) (.c (.int .i64 2)))]
abbrev r10_Literals_p5 : ACode := (.seq (.reg r10_Literals_p4) (.cond (.t 16) (.reg r10_Literals_p3) .skip))
abbrev r10_Literals_p6 : List AG := [o 5 (.mv (.t 4)), o 6 (.mv (.t 0)), o 7 (.len (.t 6)), o 8 (.cmp .lss (.sc .int) (.t 5) (.t 7))]
abbrev r10_Literals_b1 : ACode := (.seq (.seq (.reg r10_Literals_p6) (.cond (.t 8) .skip (.exit 0))) (.seq (.block 1 [] r10_Literals_p5) (.reg r10_Literals_p2)))
abbrev r10_Literals_p7 : List AG := [o 4 (.mv (.c (.int .i64 0)))]
abbrev r10_Literals_p8 : List AG := [o 3 (.mv (.c (.int .i64 0)))]
abbrev r10_Literals_p9 : List AG := [o 2 (.mv (.c (.int .i64 0)))]
abbrev r10_Literals : AFun := ⟨(.seq (.reg r10_Literals_p9) (.seq (.reg r10_Literals_p8) (.seq (.seq (.reg r10_Literals_p7) (.block 0 r10_Literals_x1 (.loop r10_Literals_m1 r10_Literals_b1))) (.seq (.reg r10_Literals_p0) .ret)))), 20, [.tmp 2]⟩
abbrev r10_Literals_k1 : List It := [.code (.seq (.reg r10_Literals_p0) .ret)]
abbrev r10_Literals_L1 (x0 x3 x4 : AV) (h : List Ob) (e : Cx := cx) : Cfg := atC n_r10_Literals (.code r10_Literals_b1 :: .inLoop r10_Literals_m1 r10_Literals_b1 :: .inBlock 0 r10_Literals_x1 :: r10_Literals_k1) [x0,U,U,x3,x4,U,U,U,U,U,U,U,U,U,U,U,U,U,U,U] h e
abbrev r10_Literals_E1 (x3 : AV) (h : List Ob) (e : Cx := cx) : Cfg := atC n_r10_Literals r10_Literals_k1 [U,U,U,x3,U,U,U,U,U,U,U,U,U,U,U,U,U,U,U,U] h e
@[simp] theorem c_r10_Literals : cfun Tryd.prog n_r10_Literals = some r10_Literals := by kernel_rfl
@[simp] theorem e_r10_Literals : hasBody Tryd.prog n_r10_Literals = true := by kernel_rfl

/- cover_Check: patchbay/cover.Check -/
abbrev cover_Check_p0 : List AG := [o 13 (.mv (.t 6)), o 4 (.mv (.t 13))]
abbrev cover_Check_p1 : List AG := [o 8 (.mv (.t 0)), o 9 (.mv (.t 1)), o 10 (.call (.f n_cover_read) [(.t 8), (.t 9), (.f n_cover_Check_1)]), o 7 (.mv (.t 10)), o 11 (.extract (.t 7) 0), o 12 (.extract (.t 7) 1), o 5 (.mv (.t 11)), o 6 (.mv (.t 12))]
abbrev cover_Check_p2 : List AG := [o 4 (.mv (.c (.int .i64 0)))]
abbrev cover_Check : AFun := ⟨(.seq (.reg cover_Check_p2) (.seq (.reg cover_Check_p1) (.seq (.reg cover_Check_p0) .ret))), 14, [.tmp 4]⟩
@[simp] theorem c_cover_Check : cfun Tryd.prog n_cover_Check = some cover_Check := by kernel_rfl
@[simp] theorem e_cover_Check : hasBody Tryd.prog n_cover_Check = true := by kernel_rfl

/- cover_Literals: patchbay/cover.Literals -/
abbrev cover_Literals_p0 : List AG := [o 18 (.mv (.t 3)), o 2 (.mv (.t 18))]
abbrev cover_Literals_m1 : List Bool := [O,O,O,I,O,O,I,I,I,O,O,O,O,O,O,O,O,O,O]
abbrev cover_Literals_x1 : List Bool := [O,O,O,I,O,O,O,O,O,O,O,O,O,O,O,O,O,O,O]
abbrev cover_Literals_p2 : List AG := [o 17 (.ibin .add (.t 8) (.c (.int .i64 1))), o 8 (.mv (.t 17))]
abbrev cover_Literals_p3 : List AG := [o 15 (.mv (.t 3)), o 16 (.ibin .add (.t 15) (.c (.int .i64 1))), o 3 (.mv (.t 16))]
abbrev cover_Literals_p4 : List AG := [o 12 (.off 0 (.t 5)), o 13 (.load false 1 (.t 12)), o 14 (.cmp .eql (.sc .int) (.t 13) (.c (.int .i64 2)))]
abbrev cover_Literals_p5 : List AG := [o 10 (.ixAddr 3 (.t 6) (.t 8)), o 11 (.load true 3 (.t 10)), o 5 (.alloc [(.int .i64 0), (.int .i64 0), (.int .i64 0)]), q (.store 3 (.t 5) (.t 11))]
abbrev cover_Literals_p6 : ACode := (.seq (.reg cover_Literals_p5) (.seq (.reg cover_Literals_p4) (.cond (.t 14) (.reg cover_Literals_p3) .skip)))
abbrev cover_Literals_p7 : List AG := [o 9 (.cmp .lss (.sc .int) (.t 8) (.t 7))]
abbrev cover_Literals_b1 : ACode := (.seq (.reg cover_Literals_p7) (.seq (.cond (.t 9) .skip (.exit 0)) (.seq (.block 1 [] cover_Literals_p6) (.reg cover_Literals_p2))))
abbrev cover_Literals_p8 : List AG := [o 6 (.mv (.t 0)), o 7 (.len (.t 6)), o 8 (.mv (.c (.int .i64 0)))]
abbrev cover_Literals_p9 : List AG := [o 3 (.mv (.c (.int .i64 0)))]
abbrev cover_Literals_p10 : List AG := [o 2 (.mv (.c (.int .i64 0)))]
abbrev cover_Literals : AFun := ⟨(.seq (.reg cover_Literals_p10) (.seq (.reg cover_Literals_p9) (.seq (.seq (.reg cover_Literals_p8) (.block 0 cover_Literals_x1 (.loop cover_Literals_m1 cover_Literals_b1))) (.seq (.reg cover_Literals_p0) .ret)))), 19, [.tmp 2]⟩
abbrev cover_Literals_k1 : List It := [.code (.seq (.reg cover_Literals_p0) .ret)]
abbrev cover_Literals_L1 (x3 x6 x7 x8 : AV) (h : List Ob) (e : Cx := cx) : Cfg := atC n_cover_Literals (.code cover_Literals_b1 :: .inLoop cover_Literals_m1 cover_Literals_b1 :: .inBlock 0 cover_Literals_x1 :: cover_Literals_k1) [U,U,U,x3,U,U,x6,x7,x8,U,U,U,U,U,U,U,U,U,U] h e
abbrev cover_Literals_E1 (x3 : AV) (h : List Ob) (e : Cx := cx) : Cfg := atC n_cover_Literals cover_Literals_k1 [U,U,U,x3,U,U,U,U,U,U,U,U,U,U,U,U,U,U,U] h e
@[simp] theorem c_cover_Literals : cfun Tryd.prog n_cover_Literals = some cover_Literals := by kernel_rfl
@[simp] theorem e_cover_Literals : hasBody Tryd.prog n_cover_Literals = true := by kernel_rfl

/- cover_Same: patchbay/cover.Same -/
abbrev cover_Same_p0 : List AG := [o 5 (.mv (.t 0)), o 6 (.mv (.t 1)), o 7 (.call (.f n_slices_Equal_cover_Form_cover_Form) [(.t 5), (.t 6)]), o 4 (.mv (.t 7))]
abbrev cover_Same_p1 : List AG := [o 4 (.mv (.c (.bool false)))]
abbrev cover_Same : AFun := ⟨(.seq (.reg cover_Same_p1) (.seq (.reg cover_Same_p0) .ret)), 8, [.tmp 4]⟩
@[simp] theorem c_cover_Same : cfun Tryd.prog n_cover_Same = some cover_Same := by kernel_rfl
@[simp] theorem e_cover_Same : hasBody Tryd.prog n_cover_Same = true := by kernel_rfl

/- step_Gate: patchbay/step.Gate -/
abbrev step_Gate_p0 : List AG := [o 29 (.off 0 (.t 6)), o 30 (.load false 1 (.t 29)), o 31 (.mv (.t 1)), o 32 (.call (.t 30) [(.t 31)]), o 33 (.off 1 (.t 6)), o 34 (.load false 1 (.t 33)), o 35 (.cmp .neq (.sc .bool) (.t 32) (.t 34)), o 4 (.mv (.t 35)), o 5 (.mv (.c (.int .i64 0)))]
abbrev step_Gate_p1 : List AG := [o 27 (.mkFunc (.func n_step_Gate_1) [] [(.t 2)]), o 28 (.off 0 (.t 6)), q (.store 1 (.t 28) (.t 27))]
abbrev step_Gate_p2 : List AG := [o 24 (.off 4 (.t 2)), o 25 (.load false 1 (.t 24)), o 26 (.off 1 (.t 6)), q (.store 1 (.t 26) (.t 25))]
abbrev step_Gate_p3 : ACode := (.seq (.reg step_Gate_p2) (.reg step_Gate_p1))
abbrev step_Gate_p4 : List AG := [o 21 (.off 1 (.t 2)), o 22 (.load false 1 (.t 21)), o 23 (.cmp .eql (.sc .int) (.t 22) (.c (.int .i64 10)))]
abbrev step_Gate_p5 : List AG := [o 18 (.off 1 (.t 2)), o 19 (.load false 1 (.t 18)), o 20 (.call (.f n_step_of) [(.t 19)]), o 6 (.alloc [.nilf, (.bool false)]), q (.store 2 (.t 6) (.t 20))]
abbrev step_Gate_p6 : List AG := [o 4 (.mv (.c (.bool false))), o 5 (.mv (.c (.int .i64 1)))]
abbrev step_Gate_p7 : ACode := (.seq (.reg step_Gate_p6) .ret)
abbrev step_Gate_p8 : List AG := [o 7 (.load true 5 (.t 2)), o 8 (.call (.f n_net_Gate) [(.t 7)]), o 9 (.not (.t 8)), o 10 (.mv (.t 9)), on 11 10 (.mv (.t 1)), on 12 10 (.len (.t 11)), on 13 10 (.off 2 (.t 2)), on 14 10 (.load false 1 (.t 13)), on 15 10 (.len (.t 14)), on 16 10 (.cmp .neq (.sc .int) (.t 12) (.t 15)), o 17 (.pick (.t 10) (.c (.bool true)) (.t 16))]
abbrev step_Gate_p9 : List AG := [o 2 (.box 5 (.t 0)), o 4 (.mv (.c (.bool false))), o 5 (.mv (.c (.int .i64 0)))]
abbrev step_Gate : AFun := ⟨(.seq (.reg step_Gate_p9) (.seq (.seq (.reg step_Gate_p8) (.cond (.t 17) step_Gate_p7 .skip)) (.seq (.reg step_Gate_p5) (.seq (.seq (.reg step_Gate_p4) (.cond (.t 23) step_Gate_p3 .skip)) (.seq (.dreg [O,O,O,O,O,I,O,O,O] [4,4,4,10,10,10,10,10,10] step_Gate_p0) .ret))))), 36, [.tmp 4, .tmp 5]⟩
@[simp] theorem c_step_Gate : cfun Tryd.prog n_step_Gate = some step_Gate := by kernel_rfl
@[simp] theorem e_step_Gate : hasBody Tryd.prog n_step_Gate = true := by kernel_rfl

/- w05_Texts: patchbay/patchbaylaw05.Texts -/
abbrev w05_Texts_p0 : List AG := [o 23 (.mv (.t 0)), o 24 (.len (.t 23)), o 25 (.mv (.t 1)), o 26 (.cmp .leq (.sc .int) (.t 24) (.t 25)), o 4 (.mv (.t 26))]
abbrev w05_Texts_m1 : List Bool := [I,I,O,O,O,I,O,O,O,O,O,O,O,O,O,O,O,O,O,O,O,O,O,O,O,O,O]
abbrev w05_Texts_x1 : List Bool := [I,I,O,O,O,O,O,O,O,O,O,O,O,O,O,O,O,O,O,O,O,O,O,O,O,O,O]
abbrev w05_Texts_p2 : List AG := [o 15 (.mv (.t 5)), o 16 (.ibin .add (.t 15) (.c (.int .i64 1))), o 5 (.mv (.t 16))]
abbrev w05_Texts_p3 : List AG := [o 4 (.mv (.c (.bool false)))]
abbrev w05_Texts_p4 : ACode := (.seq (.reg w05_Texts_p3) .ret)
abbrev w05_Texts_p5 : List AG := [o 17 (.mv (.t 0)), o 18 (.mv (.t 5)), o 19 (.ixAddr 1 (.t 17) (.t 18)), o 20 (.load false 1 (.t 19)), o 21 (.lenStr (.t 20)), o 22 (.cmp .gtr (.sc .int) (.t 21) (.c (.int .i64 60)))]
abbrev w05_Texts_p6 : ACode := (.seq (.reg w05_Texts_p5) (.cond (.t 22) w05_Texts_p4 .skip))
abbrev w05_Texts_p7 : List AG := [o 6 (.mv (.t 5)), o 7 (.mv (.t 0)), o 8 (.len (.t 7)), o 9 (.cmp .lss (.sc .int) (.t 6) (.t 8)), o 10 (.mv (.t 9)), oy 11 10 (.mv (.t 5)), oy 12 10 (.mv (.t 1)), oy 13 10 (.cmp .leq (.sc .int) (.t 11) (.t 12)), o 14 (.pick (.t 10) (.t 13) (.c (.bool false)))]
abbrev w05_Texts_b1 : ACode := (.seq (.seq (.reg w05_Texts_p7) (.cond (.t 14) .skip (.exit 0))) (.seq (.block 1 [] w05_Texts_p6) (.reg w05_Texts_p2)))
abbrev w05_Texts_p8 : List AG := [o 5 (.mv (.c (.int .i64 0)))]
abbrev w05_Texts_p9 : List AG := [o 4 (.mv (.c (.bool false)))]
abbrev w05_Texts : AFun := ⟨(.seq (.reg w05_Texts_p9) (.seq (.seq (.reg w05_Texts_p8) (.block 0 w05_Texts_x1 (.loop w05_Texts_m1 w05_Texts_b1))) (.seq (.reg w05_Texts_p0) .ret))), 27, [.tmp 4]⟩
abbrev w05_Texts_k1 : List It := [.code (.seq (.reg w05_Texts_p0) .ret)]
abbrev w05_Texts_L1 (x0 x1 x5 : AV) (h : List Ob) (e : Cx := cx) : Cfg := atC n_w05_Texts (.code w05_Texts_b1 :: .inLoop w05_Texts_m1 w05_Texts_b1 :: .inBlock 0 w05_Texts_x1 :: w05_Texts_k1) [x0,x1,U,U,U,x5,U,U,U,U,U,U,U,U,U,U,U,U,U,U,U,U,U,U,U,U,U] h e
abbrev w05_Texts_E1 (x0 x1 : AV) (h : List Ob) (e : Cx := cx) : Cfg := atC n_w05_Texts w05_Texts_k1 [x0,x1,U,U,U,U,U,U,U,U,U,U,U,U,U,U,U,U,U,U,U,U,U,U,U,U,U] h e
@[simp] theorem c_w05_Texts : cfun Tryd.prog n_w05_Texts = some w05_Texts := by kernel_rfl
@[simp] theorem e_w05_Texts : hasBody Tryd.prog n_w05_Texts = true := by kernel_rfl

/- cover_Factor_1: patchbay/cover.Factor$1 -/
abbrev cover_Factor_1_p0 : List AG := [o 4 (.mv (.t 0)), o 5 (.lenStr (.t 4)), o 6 (.load false 1 (.t 1)), o 7 (.cmp .neq (.sc .int) (.t 5) (.t 6)), o 8 (.mv (.t 7)), on 9 8 (.mv (.t 0)), on 10 8 (.call (.f n_strings_Trim) [(.t 9), (.c (.str [48, 49, 45]))]), on 11 8 (.cmp .neq (.sc .str) (.t 10) (.c (.str []))), o 12 (.pick (.t 8) (.c (.bool true)) (.t 11)), o 3 (.mv (.t 12))]
abbrev cover_Factor_1_p1 : List AG := [o 3 (.mv (.c (.bool false)))]
abbrev cover_Factor_1 : AFun := ⟨(.seq (.reg cover_Factor_1_p1) (.seq (.reg cover_Factor_1_p0) .ret)), 13, [.tmp 3]⟩
@[simp] theorem c_cover_Factor_1 : cfun Tryd.prog n_cover_Factor_1 = some cover_Factor_1 := by kernel_rfl
@[simp] theorem e_cover_Factor_1 : hasBody Tryd.prog n_cover_Factor_1 = true := by kernel_rfl

/- strings_Trim: strings.Trim -/
@[simp] theorem e_strings_Trim : hasBody Tryd.prog n_strings_Trim = true := by kernel_rfl

/- slices_ContainsFunc_string_string: slices.ContainsFunc[[]string,string] -/
abbrev slices_ContainsFunc_string_string_p0 : List AG := [o 5 (.mv (.t 0)), o 6 (.mv (.t 1)), o 7 (.call (.f n_slices_IndexFunc_string_string) [(.t 5), (.t 6)]), o 8 (.cmp .geq (.sc .int) (.t 7) (.c (.int .i64 0))), o 4 (.mv (.t 8))]
abbrev slices_ContainsFunc_string_string_p1 : List AG := [o 4 (.mv (.c (.bool false)))]
abbrev slices_ContainsFunc_string_string : AFun := ⟨(.seq (.reg slices_ContainsFunc_string_string_p1) (.seq (.reg slices_ContainsFunc_string_string_p0) .ret)), 9, [.tmp 4]⟩
@[simp] theorem c_slices_ContainsFunc_string_string : cfun Tryd.prog n_slices_ContainsFunc_string_string = some slices_ContainsFunc_string_string := by kernel_rfl
@[simp] theorem e_slices_ContainsFunc_string_string : hasBody Tryd.prog n_slices_ContainsFunc_string_string = true := by kernel_rfl

/- slices_Contains_string_string: slices.Contains[[]string,string] -/
abbrev slices_Contains_string_string_p0 : List AG := [o 5 (.mv (.t 0)), o 6 (.mv (.t 1)), o 7 (.call (.f n_slices_Index_string_string) [(.t 5), (.t 6)]), o 8 (.cmp .geq (.sc .int) (.t 7) (.c (.int .i64 0))), o 4 (.mv (.t 8))]
abbrev slices_Contains_string_string_p1 : List AG := [o 4 (.mv (.c (.bool false)))]
abbrev slices_Contains_string_string : AFun := ⟨(.seq (.reg slices_Contains_string_string_p1) (.seq (.reg slices_Contains_string_string_p0) .ret)), 9, [.tmp 4]⟩
@[simp] theorem c_slices_Contains_string_string : cfun Tryd.prog n_slices_Contains_string_string = some slices_Contains_string_string := by kernel_rfl
@[simp] theorem e_slices_Contains_string_string : hasBody Tryd.prog n_slices_Contains_string_string = true := by kernel_rfl

/- cover_factor: patchbay/cover.factor -/
abbrev cover_factor_p0 : List AG := [o 92 (.build [(.int .i64 0), (.int .i64 0), (.int .i64 0)] [(0, 1, (.c (.int .i64 4))), (2, 1, (.c (.int .i64 2)))]), o 93 (.lit 3 [(.agg [(.int .i64 0), (.int .i64 0), (.int .i64 0)])] [(0, (.t 92))]), o 94 (.load true 2 (.t 6)), o 95 (.lit 2 [(.agg [(.int .i64 0), (.int .i64 0)])] [(0, (.t 94))]), o 96 (.mv (.t 13)), o 97 (.call (.f n_cover_all) [(.t 95), (.t 96)]), o 98 (.mv (.t 14)), o 99 (.lit 1 [(.list true 0 []), (.list true 0 []), (.list true 0 [])] [(0, (.t 93)), (1, (.t 97)), (2, (.t 98))]), o 100 (.call (.f n_slices_Concat_cover_Form_cover_Form) [(.t 99)]), o 2 (.mv (.t 100))]
abbrev cover_factor_p1 : List AG := [o 87 (.load false 1 (.t 1)), o 88 (.call (.f n_slices_Clone_string_string) [(.t 87)]), o 89 (.load false 1 (.t 11)), o 90 (.call (.f n_slices_DeleteFunc_string_string) [(.t 88), (.t 89)]), o 91 (.call (.f n_cover_factor) [(.t 90)]), o 14 (.mv (.t 91))]
abbrev cover_factor_p2 : List AG := [o 79 (.load false 1 (.t 1)), o 80 (.call (.f n_slices_Clone_string_string) [(.t 79)]), o 81 (.mv (.t 12)), o 82 (.call (.f n_slices_DeleteFunc_string_string) [(.t 80), (.t 81)]), o 83 (.load true 2 (.t 6)), o 84 (.lit 2 [(.agg [(.int .i64 0), (.int .i64 0)])] [(0, (.t 83))]), o 85 (.call (.f n_cover_divide) [(.t 82), (.t 84)]), o 86 (.call (.f n_cover_factor) [(.t 85)]), o 13 (.mv (.t 86))]
abbrev cover_factor_p3 : List AG := [o 78 (.mkFunc (.func n_cover_factor_2) [] [(.t 11)]), o 12 (.mv (.t 78))]
abbrev cover_factor_p4 : List AG := [o 76 (.load true 2 (.t 6)), o 77 (.call (.f n_cover_has) [(.t 76)]), o 11 (.alloc [.nilf]), q (.store 1 (.t 11) (.t 77))]
abbrev cover_factor_p5 : List AG := [o 75 (.mv (.t 8)), o 2 (.mv (.t 75))]
abbrev cover_factor_m6 : List Bool := [O,O,O,O,O,O,O,O,I,O,O,O,O,O,O,O,O,O,O,O,O,O,O,O,O,O,O,O,O,O,O,O,O,O,O,O,O,O,O,O,O,O,O,O,O,O,O,O,O,O,O,O,O,O,O,O,O,O,O,O,O,O,I,I,I,O,O,O,O,O,O,O,O,O,O,O,O,O,O,O,O,O,O,O,O,O,O,O,O,O,O,O,O,O,O,O,O,O,O,O,O]
abbrev cover_factor_x6 : List Bool := [O,O,O,O,O,O,O,O,I,O,O,O,O,O,O,O,O,O,O,O,O,O,O,O,O,O,O,O,O,O,O,O,O,O,O,O,O,O,O,O,O,O,O,O,O,O,O,O,O,O,O,O,O,O,O,O,O,O,O,O,O,O,O,O,O,O,O,O,O,O,O,O,O,O,O,O,O,O,O,O,O,O,O,O,O,O,O,O,O,O,O,O,O,O,O,O,O,O,O,O,O]
abbrev cover_factor_p7 : List AG := [o 74 (.ibin .add (.t 64) (.c (.int .i64 1))), o 64 (.mv (.t 74))]
abbrev cover_factor_p8 : List AG := [o 68 (.mv (.t 8)), o 69 (.mv (.t 10)), o 70 (.call (.f n_cover_literals) [(.t 69)]), o 71 (.call (.f n_slices_Collect_cover_literal) [(.t 70)]), o 72 (.call (.f n_cover_all) [(.t 71), (.c (.list true 0 []))]), o 73 (.append 3 t_cover_Form_2 24 (.t 68) (.t 72)), o 8 (.mv (.t 73))]
abbrev cover_factor_p9 : List AG := [o 66 (.ixAddr 1 (.t 62) (.t 64)), o 67 (.load false 1 (.t 66)), o 10 (.mv (.t 67))]
abbrev cover_factor_p10 : ACode := (.seq (.reg cover_factor_p9) (.reg cover_factor_p8))
abbrev cover_factor_p11 : List AG := [o 65 (.cmp .lss (.sc .int) (.t 64) (.t 63))]
abbrev cover_factor_b6 : ACode := (.seq (.reg cover_factor_p11) (.seq (.cond (.t 65) .skip (.exit 3)) (.seq (.block 4 [] cover_factor_p10) (.reg cover_factor_p7))))
abbrev cover_factor_p12 : List AG := [o 62 (.load false 1 (.t 1)), o 63 (.len (.t 62)), o 64 (.mv (.c (.int .i64 0)))]
abbrev cover_factor_p13 : List AG := [o 58 (.load false 1 (.t 1)), o 59 (.len (.t 58)), o 60 (.build [(.int .i64 0), (.int .i64 0), (.int .i64 0)] [(0, 1, (.c (.int .i64 4))), (2, 1, (.t 59))]), o 61 (.lit 3 [(.agg [(.int .i64 0), (.int .i64 0), (.int .i64 0)])] [(0, (.t 60))]), o 8 (.mv (.t 61))]
abbrev cover_factor_p14 : ACode := (.seq (.reg cover_factor_p13) (.seq (.seq (.reg cover_factor_p12) (.block 3 cover_factor_x6 (.loop cover_factor_m6 cover_factor_b6))) (.seq (.reg cover_factor_p5) .ret)))
abbrev cover_factor_p15 : List AG := [o 56 (.mv (.t 7)), o 57 (.cmp .lss (.sc .int) (.t 56) (.c (.int .i64 2)))]
abbrev cover_factor_p16 : List AG := [o 52 (.load false 1 (.t 1)), o 53 (.call (.f n_cover_most) [(.t 52)]), o 51 (.mv (.t 53)), o 54 (.extract (.t 51) 0), o 55 (.extract (.t 51) 1), o 6 (.alloc [(.int .i64 0), (.int .i64 0)]), q (.store 2 (.t 6) (.t 54)), o 7 (.mv (.t 55))]
abbrev cover_factor_p17 : List AG := [o 45 (.load false 1 (.t 4)), o 46 (.load false 1 (.t 1)), o 47 (.load false 1 (.t 4)), o 48 (.call (.f n_cover_divide) [(.t 46), (.t 47)]), o 49 (.call (.f n_cover_factor) [(.t 48)]), o 50 (.call (.f n_cover_all) [(.t 45), (.t 49)]), o 2 (.mv (.t 50))]
abbrev cover_factor_p18 : ACode := (.seq (.dreg [I,O,O,O,O,O,O] [6,4,4,5,6,8,8] cover_factor_p17) .ret)
abbrev cover_factor_p19 : List AG := [o 42 (.load false 1 (.t 4)), o 43 (.len (.t 42)), o 44 (.cmp .gtr (.sc .int) (.t 43) (.c (.int .i64 0)))]
abbrev cover_factor_p20 : List AG := [o 5 (.alloc [(.int .i64 0), (.int .i64 0)]), q (.store 2 (.t 5) (.t 31))]
abbrev cover_factor_p21 : List AG := [o 38 (.load false 1 (.t 4)), o 39 (.load true 2 (.t 5)), o 40 (.lit 2 [(.agg [(.int .i64 0), (.int .i64 0)])] [(0, (.t 39))]), o 41 (.append 2 t_cover_literal_2 16 (.t 38) (.t 40)), q (.store 1 (.t 4) (.t 41))]
abbrev cover_factor_p22 : List AG := [o 32 (.load false 1 (.t 1)), o 33 (.load true 2 (.t 5)), o 34 (.call (.f n_cover_count) [(.t 32), (.t 33)]), o 35 (.load false 1 (.t 1)), o 36 (.len (.t 35)), o 37 (.cmp .eql (.sc .int) (.t 34) (.t 36))]
abbrev cover_factor_p23 : ACode := (.seq (.dreg [O,O,O,I,O,O] [3,3,7,7,7,7] cover_factor_p22) (.cond (.t 37) (.reg cover_factor_p21) .skip))
abbrev cover_factor_p24 : ACode := (.block 2 [] cover_factor_p23)
abbrev cover_factor_p25 : ACode := (.rangeFunc (.t 30) [31] [O,I,I,O,I,O,O,O,O,O,O,O,O,O,O,O,O,O,O,O,O,O,O,O,O,O,O,O,O,O,O,O,O,O,O,O,O,O,O,O,O,O,O,O,O,O,O,O,O,O,O,O,O,O,O,O,O,O,O,O,O,O,O,O,O,O,O,O,O,O,O,O,O,O,O,O,O,O,O,O,O,O,O,O,O,O,O,O,O,O,O,O,O,O,O,O,O,O,O,O,O] (.reg cover_factor_p20) cover_factor_p24)
abbrev cover_factor_p26 : List AG := [o 27 (.load false 1 (.t 1)), o 28 (.ixAddr 1 (.t 27) (.c (.int .i64 0))), o 29 (.load false 1 (.t 28)), o 30 (.call (.f n_cover_literals) [(.t 29)])]
abbrev cover_factor_p27 : List AG := [o 4 (.alloc [(.own 2 t_cover_literal_2 [])])]
abbrev cover_factor_p28 : List AG := [o 19 (.build [(.int .i64 0), (.int .i64 0), (.int .i64 0)] [(0, 1, (.c (.int .i64 0)))]), o 20 (.lit 3 [(.agg [(.int .i64 0), (.int .i64 0), (.int .i64 0)])] [(0, (.t 19))]), o 2 (.mv (.t 20))]
abbrev cover_factor_p29 : List AG := [o 25 (.build [(.int .i64 0), (.int .i64 0), (.int .i64 0)] [(0, 1, (.c (.int .i64 1)))]), o 26 (.lit 3 [(.agg [(.int .i64 0), (.int .i64 0), (.int .i64 0)])] [(0, (.t 25))]), o 2 (.mv (.t 26))]
abbrev cover_factor_p30 : ACode := (.seq (.reg cover_factor_p29) .ret)
abbrev cover_factor_p31 : List AG := [o 22 (.load false 1 (.t 1)), o 23 (.mv (.t 3)), o 24 (.call (.f n_slices_ContainsFunc_string_string) [(.t 22), (.t 23)]), o 21 (.mv (.t 24))]
abbrev cover_factor_p32 : ACode := (.seq (.reg cover_factor_p28) .ret)
abbrev cover_factor_p33 : ACode := (.seq (.reg cover_factor_p31) (.cond (.t 21) cover_factor_p30 .skip))
abbrev cover_factor_p34 : List AG := [o 16 (.load false 1 (.t 1)), o 17 (.len (.t 16)), o 18 (.cmp .eql (.sc .int) (.t 17) (.c (.int .i64 0))), o 15 (.mv (.t 18))]
abbrev cover_factor_p35 : ACode := (.seq (.reg cover_factor_p34) (.cond (.t 15) cover_factor_p32 cover_factor_p33))
abbrev cover_factor_p36 : List AG := [o 3 (.mv (.f n_cover_factor_1))]
abbrev cover_factor_p37 : List AG := [o 1 (.box 1 (.t 0)), o 2 (.nilrow 3 t_cover_Form_2)]
abbrev cover_factor : AFun := ⟨(.seq (.reg cover_factor_p37) (.seq (.reg cover_factor_p36) (.seq (.block 0 [] cover_factor_p35) (.seq (.reg cover_factor_p27) (.seq (.seq (.reg cover_factor_p26) (.block 1 [] cover_factor_p25)) (.seq (.seq (.reg cover_factor_p19) (.cond (.t 44) cover_factor_p18 .skip)) (.seq (.reg cover_factor_p16) (.seq (.seq (.reg cover_factor_p15) (.cond (.t 57) cover_factor_p14 .skip)) (.seq (.reg cover_factor_p4) (.seq (.reg cover_factor_p3) (.seq (.dreg [I,I,O,I,O,O,O,O,O] [7,7,7,7,6,7,8,10,10] cover_factor_p2) (.seq (.dreg [O,O,I,O,O,O] [2,4,4,5,7,7] cover_factor_p1) (.seq (.reg cover_factor_p0) .ret))))))))))))), 101, [.tmp 2]⟩
abbrev cover_factor_k6 : List It := [.code (.seq (.reg cover_factor_p5) .ret), .code (.seq (.reg cover_factor_p4) (.seq (.reg cover_factor_p3) (.seq (.dreg [I,I,O,I,O,O,O,O,O] [7,7,7,7,6,7,8,10,10] cover_factor_p2) (.seq (.dreg [O,O,I,O,O,O] [2,4,4,5,7,7] cover_factor_p1) (.seq (.reg cover_factor_p0) .ret)))))]
abbrev cover_factor_L6 (x8 x62 x63 x64 : AV) (h : List Ob) (e : Cx := cx) : Cfg := atC n_cover_factor (.code cover_factor_b6 :: .inLoop cover_factor_m6 cover_factor_b6 :: .inBlock 3 cover_factor_x6 :: cover_factor_k6) [U,U,U,U,U,U,U,U,x8,U,U,U,U,U,U,U,U,U,U,U,U,U,U,U,U,U,U,U,U,U,U,U,U,U,U,U,U,U,U,U,U,U,U,U,U,U,U,U,U,U,U,U,U,U,U,U,U,U,U,U,U,U,x62,x63,x64,U,U,U,U,U,U,U,U,U,U,U,U,U,U,U,U,U,U,U,U,U,U,U,U,U,U,U,U,U,U,U,U,U,U,U,U] h e
abbrev cover_factor_E6 (x8 : AV) (h : List Ob) (e : Cx := cx) : Cfg := atC n_cover_factor cover_factor_k6 [U,U,U,U,U,U,U,U,x8,U,U,U,U,U,U,U,U,U,U,U,U,U,U,U,U,U,U,U,U,U,U,U,U,U,U,U,U,U,U,U,U,U,U,U,U,U,U,U,U,U,U,U,U,U,U,U,U,U,U,U,U,U,U,U,U,U,U,U,U,U,U,U,U,U,U,U,U,U,U,U,U,U,U,U,U,U,U,U,U,U,U,U,U,U,U,U,U,U,U,U,U] h e
@[simp] theorem c_cover_factor : cfun Tryd.prog n_cover_factor = some cover_factor := by kernel_rfl
@[simp] theorem e_cover_factor : hasBody Tryd.prog n_cover_factor = true := by kernel_rfl

/- r10_row: patchbay/patchbayref10.row -/
abbrev r10_row_p0 : List AG := [o 28 (.mv (.t 0)), o 29 (.lenStr (.t 28)), o 30 (.mv (.t 1)), o 31 (.cmp .eql (.sc .int) (.t 29) (.t 30)), o 4 (.mv (.t 31))]
abbrev r10_row_m1 : List Bool := [I,I,O,O,O,I,O,O,O,O,O,O,O,O,O,O,O,O,O,O,O,O,O,O,O,O,O,O,O,O,O,O]
abbrev r10_row_x1 : List Bool := [I,I,O,O,O,O,O,O,O,O,O,O,O,O,O,O,O,O,O,O,O,O,O,O,O,O,O,O,O,O,O,O]
abbrev r10_row_p2 : List AG := [o 10 (.mv (.t 5)), o 11 (.ibin .add (.t 10) (.c (.int .i64 1))), o 5 (.mv (.t 11))]
abbrev r10_row_p3 : List AG := [o 4 (.mv (.c (.bool false)))]
abbrev r10_row_p4 : ACode := (.seq (.reg r10_row_p3) .ret)
abbrev r10_row_p5 : List AG := [o 12 (.mv (.t 0)), o 13 (.mv (.t 5)), o 14 (.ixStr (.t 12) (.t 13)), o 15 (.cmp .neq (.sc .int) (.t 14) (.c (.int .u8 48))), o 16 (.mv (.t 15)), oy 17 16 (.mv (.t 0)), oy 18 16 (.mv (.t 5)), oy 19 16 (.ixStr (.t 17) (.t 18)), oy 20 16 (.cmp .neq (.sc .int) (.t 19) (.c (.int .u8 49))), o 21 (.pick (.t 16) (.t 20) (.c (.bool false))), o 22 (.mv (.t 21)), oy 23 22 (.mv (.t 0)), oy 24 22 (.mv (.t 5)), oy 25 22 (.ixStr (.t 23) (.t 24)), oy 26 22 (.cmp .neq (.sc .int) (.t 25) (.c (.int .u8 45))), o 27 (.pick (.t 22) (.t 26) (.c (.bool false)))]
abbrev r10_row_p6 : ACode := (.seq (.reg r10_row_p5) (.cond (.t 27) r10_row_p4 .skip))
abbrev r10_row_p7 : List AG := [o 6 (.mv (.t 5)), o 7 (.mv (.t 0)), o 8 (.lenStr (.t 7)), o 9 (.cmp .lss (.sc .int) (.t 6) (.t 8))]
abbrev r10_row_b1 : ACode := (.seq (.seq (.reg r10_row_p7) (.cond (.t 9) .skip (.exit 0))) (.seq (.block 1 [] r10_row_p6) (.reg r10_row_p2)))
abbrev r10_row_p8 : List AG := [o 5 (.mv (.c (.int .i64 0)))]
abbrev r10_row_p9 : List AG := [o 4 (.mv (.c (.bool false)))]
abbrev r10_row : AFun := ⟨(.seq (.reg r10_row_p9) (.seq (.seq (.reg r10_row_p8) (.block 0 r10_row_x1 (.loop r10_row_m1 r10_row_b1))) (.seq (.reg r10_row_p0) .ret))), 32, [.tmp 4]⟩
abbrev r10_row_k1 : List It := [.code (.seq (.reg r10_row_p0) .ret)]
abbrev r10_row_L1 (x0 x1 x5 : AV) (h : List Ob) (e : Cx := cx) : Cfg := atC n_r10_row (.code r10_row_b1 :: .inLoop r10_row_m1 r10_row_b1 :: .inBlock 0 r10_row_x1 :: r10_row_k1) [x0,x1,U,U,U,x5,U,U,U,U,U,U,U,U,U,U,U,U,U,U,U,U,U,U,U,U,U,U,U,U,U,U] h e
abbrev r10_row_E1 (x0 x1 : AV) (h : List Ob) (e : Cx := cx) : Cfg := atC n_r10_row r10_row_k1 [x0,x1,U,U,U,U,U,U,U,U,U,U,U,U,U,U,U,U,U,U,U,U,U,U,U,U,U,U,U,U,U,U] h e
@[simp] theorem c_r10_row : cfun Tryd.prog n_r10_row = some r10_row := by kernel_rfl
@[simp] theorem e_r10_row : hasBody Tryd.prog n_r10_row = true := by kernel_rfl

/- r01_Has: patchbay/patchbayref01.Has -/
abbrev r01_Has_p0 : List AG := [o 4 (.mv (.c (.bool false)))]
abbrev r01_Has_m1 : List Bool := [I,I,O,O,O,I,O,O,O,O,O,O,O,O,O,O,O,O]
abbrev r01_Has_x1 : List Bool := [O,O,O,O,O,O,O,O,O,O,O,O,O,O,O,O,O,O]
abbrev r01_Has_p2 : List AG := [o 10 (.mv (.t 5)), o 11 (.ibin .add (.t 10) (.c (.int .i64 1))), o 5 (.mv (.t 11))]
abbrev r01_Has_p3 : List AG := [o 4 (.mv (.c (.bool true)))]
abbrev r01_Has_p4 : ACode := (.seq (.reg r01_Has_p3) .ret)
abbrev r01_Has_p5 : List AG := [o 12 (.mv (.t 0)), o 13 (.mv (.t 5)), o 14 (.ixAddr 1 (.t 12) (.t 13)), o 15 (.load false 1 (.t 14)), o 16 (.mv (.t 1)), o 17 (.cmp .eql (.sc .str) (.t 15) (.t 16))]
abbrev r01_Has_p6 : ACode := (.seq (.reg r01_Has_p5) (.cond (.t 17) r01_Has_p4 .skip))
abbrev r01_Has_p7 : List AG := [o 6 (.mv (.t 5)), o 7 (.mv (.t 0)), o 8 (.len (.t 7)), o 9 (.cmp .lss (.sc .int) (.t 6) (.t 8))]
abbrev r01_Has_b1 : ACode := (.seq (.seq (.reg r01_Has_p7) (.cond (.t 9) .skip (.exit 0))) (.seq (.block 1 [] r01_Has_p6) (.reg r01_Has_p2)))
abbrev r01_Has_p8 : List AG := [o 5 (.mv (.c (.int .i64 0)))]
abbrev r01_Has_p9 : List AG := [o 4 (.mv (.c (.bool false)))]
abbrev r01_Has : AFun := ⟨(.seq (.reg r01_Has_p9) (.seq (.seq (.reg r01_Has_p8) (.block 0 r01_Has_x1 (.loop r01_Has_m1 r01_Has_b1))) (.seq (.reg r01_Has_p0) .ret))), 18, [.tmp 4]⟩
abbrev r01_Has_k1 : List It := [.code (.seq (.reg r01_Has_p0) .ret)]
abbrev r01_Has_L1 (x0 x1 x5 : AV) (h : List Ob) (e : Cx := cx) : Cfg := atC n_r01_Has (.code r01_Has_b1 :: .inLoop r01_Has_m1 r01_Has_b1 :: .inBlock 0 r01_Has_x1 :: r01_Has_k1) [x0,x1,U,U,U,x5,U,U,U,U,U,U,U,U,U,U,U,U] h e
abbrev r01_Has_E1 (h : List Ob) (e : Cx := cx) : Cfg := atC n_r01_Has r01_Has_k1 [U,U,U,U,U,U,U,U,U,U,U,U,U,U,U,U,U,U] h e
@[simp] theorem c_r01_Has : cfun Tryd.prog n_r01_Has = some r01_Has := by kernel_rfl
@[simp] theorem e_r01_Has : hasBody Tryd.prog n_r01_Has = true := by kernel_rfl

/- r10_factor: patchbay/patchbayref10.factor -/
abbrev r10_factor_p0 : List AG := [o 106 (.mv (.t 6)), o 107 (.mv (.t 9)), o 108 (.call (.f n_r10_factor) [(.t 107)]), o 109 (.append 3 t_r10_Form_2 24 (.t 106) (.t 108)), o 2 (.mv (.t 109))]
abbrev r10_factor_p1 : List AG := [o 97 (.mv (.t 6)), o 98 (.mv (.t 5)), o 99 (.call (.f n_r10_lits) [(.t 98)]), o 100 (.mv (.t 8)), o 101 (.mv (.t 5)), o 102 (.call (.f n_r10_divided) [(.t 100), (.t 101)]), o 103 (.call (.f n_r10_factor) [(.t 102)]), o 104 (.call (.f n_r10_and) [(.t 99), (.t 103)]), o 105 (.append 3 t_r10_Form_2 24 (.t 97) (.t 104)), o 6 (.mv (.t 105))]
abbrev r10_factor_m2 : List Bool := [I,O,O,O,O,I,I,O,I,I,I,O,O,O,O,O,O,O,O,O,O,O,O,O,O,O,O,O,O,O,O,O,O,O,O,O,O,O,O,O,O,O,O,O,O,O,O,O,O,O,O,O,O,O,O,O,O,O,O,O,O,O,O,O,O,O,O,O,O,O,O,O,O,O,O,O,O,O,O,O,O,O,O,O,O,O,O,O,O,O,O,O,O,O,O,O,O,O,O,O,O,O,O,O,O,O,O,O,O,O]
abbrev r10_factor_x2 : List Bool := [O,O,O,O,O,I,I,O,I,I,O,O,O,O,O,O,O,O,O,O,O,O,O,O,O,O,O,O,O,O,O,O,O,O,O,O,O,O,O,O,O,O,O,O,O,O,O,O,O,O,O,O,O,O,O,O,O,O,O,O,O,O,O,O,O,O,O,O,O,O,O,O,O,O,O,O,O,O,O,O,O,O,O,O,O,O,O,O,O,O,O,O,O,O,O,O,O,O,O,O,O,O,O,O,O,O,O,O,O,O]
abbrev r10_factor_p3 : List AG := [o 75 (.mv (.t 10)), o 76 (.ibin .add (.t 75) (.c (.int .i64 1))), o 10 (.mv (.t 76))]
abbrev r10_factor_p4 : List AG := [o 83 (.mv (.t 8)), o 84 (.mv (.t 0)), o 85 (.mv (.t 10)), o 86 (.ixAddr 1 (.t 84) (.t 85)), o 87 (.load false 1 (.t 86)), o 88 (.lit 1 [(.str [])] [(0, (.t 87))]), o 89 (.append 1 t_string 16 (.t 83) (.t 88)), o 8 (.mv (.t 89))]
abbrev r10_factor_p5 : List AG := [o 90 (.mv (.t 9)), o 91 (.mv (.t 0)), o 92 (.mv (.t 10)), o 93 (.ixAddr 1 (.t 91) (.t 92)), o 94 (.load false 1 (.t 93)), o 95 (.lit 1 [(.str [])] [(0, (.t 94))]), o 96 (.append 1 t_string 16 (.t 90) (.t 95)), o 9 (.mv (.t 96))]
abbrev r10_factor_p6 : List AG := [o 77 (.mv (.t 0)), o 78 (.mv (.t 10)), o 79 (.ixAddr 1 (.t 77) (.t 78)), o 80 (.load false 1 (.t 79)), o 81 (.mv (.t 5)), o 82 (.call (.f n_r10_has) [(.t 80), (.t 81)])]
abbrev r10_factor_p7 : ACode := (.seq (.reg r10_factor_p6) (.cond (.t 82) (.reg r10_factor_p4) (.reg r10_factor_p5)))
abbrev r10_factor_p8 : List AG := [o 71 (.mv (.t 10)), o 72 (.mv (.t 0)), o 73 (.len (.t 72)), o 74 (.cmp .lss (.sc .int) (.t 71) (.t 73))]
abbrev r10_factor_b2 : ACode := (.seq (.seq (.reg r10_factor_p8) (.cond (.t 74) .skip (.exit 4))) (.seq (.block 5 [] r10_factor_p7) (.reg r10_factor_p3)))
abbrev r10_factor_p9 : List AG := [o 10 (.mv (.c (.int .i64 0)))]
abbrev r10_factor_p10 : List AG := [o 9 (.nilrow 1 t_string)]
abbrev r10_factor_p11 : List AG := [o 8 (.nilrow 1 t_string)]
abbrev r10_factor_p12 : List AG := [o 70 (.mv (.t 6)), o 2 (.mv (.t 70))]
abbrev r10_factor_m13 : List Bool := [I,O,O,O,O,O,I,I,O,O,O,O,O,O,O,O,O,O,O,O,O,O,O,O,O,O,O,O,O,O,O,O,O,O,O,O,O,O,O,O,O,O,O,O,O,O,O,O,O,O,O,O,O,O,O,O,O,O,O,O,O,O,O,O,O,O,O,O,O,O,O,O,O,O,O,O,O,O,O,O,O,O,O,O,O,O,O,O,O,O,O,O,O,O,O,O,O,O,O,O,O,O,O,O,O,O,O,O,O,O]
abbrev r10_factor_x13 : List Bool := [O,O,O,O,O,O,I,O,O,O,O,O,O,O,O,O,O,O,O,O,O,O,O,O,O,O,O,O,O,O,O,O,O,O,O,O,O,O,O,O,O,O,O,O,O,O,O,O,O,O,O,O,O,O,O,O,O,O,O,O,O,O,O,O,O,O,O,O,O,O,O,O,O,O,O,O,O,O,O,O,O,O,O,O,O,O,O,O,O,O,O,O,O,O,O,O,O,O,O,O,O,O,O,O,O,O,O,O,O,O]
abbrev r10_factor_p14 : List AG := [o 58 (.mv (.t 7)), o 59 (.ibin .add (.t 58) (.c (.int .i64 1))), o 7 (.mv (.t 59))]
abbrev r10_factor_p15 : List AG := [o 60 (.mv (.t 6)), o 61 (.mv (.t 0)), o 62 (.mv (.t 7)), o 63 (.ixAddr 1 (.t 61) (.t 62)), o 64 (.load false 1 (.t 63)), o 65 (.call (.f n_r10_lits) [(.t 64)]), o 66 (.build [(.int .i64 0), (.int .i64 0), (.int .i64 0)] [(0, 1, (.c (.int .i64 1)))]), o 67 (.lit 3 [(.agg [(.int .i64 0), (.int .i64 0), (.int .i64 0)])] [(0, (.t 66))]), o 68 (.call (.f n_r10_and) [(.t 65), (.t 67)]), o 69 (.append 3 t_r10_Form_2 24 (.t 60) (.t 68)), o 6 (.mv (.t 69))]
abbrev r10_factor_p16 : List AG := [o 54 (.mv (.t 7)), o 55 (.mv (.t 0)), o 56 (.len (.t 55)), o 57 (.cmp .lss (.sc .int) (.t 54) (.t 56))]
abbrev r10_factor_b13 : ACode := (.seq (.seq (.reg r10_factor_p16) (.cond (.t 57) .skip (.exit 2))) (.seq (.block 3 [] (.reg r10_factor_p15)) (.reg r10_factor_p14)))
abbrev r10_factor_p17 : List AG := [o 7 (.mv (.c (.int .i64 0)))]
abbrev r10_factor_p18 : List AG := [o 49 (.mv (.t 6)), o 50 (.mv (.t 0)), o 51 (.len (.t 50)), o 52 (.ixAddr 3 (.t 49) (.c (.int .i64 0))), o 53 (.off 2 (.t 52)), q (.store 1 (.t 53) (.t 51))]
abbrev r10_factor_p19 : ACode := (.seq (.reg r10_factor_p18) (.seq (.seq (.reg r10_factor_p17) (.block 2 r10_factor_x13 (.loop r10_factor_m13 r10_factor_b13))) (.seq (.reg r10_factor_p12) .ret)))
abbrev r10_factor_p20 : List AG := [o 45 (.mv (.t 0)), o 46 (.mv (.t 5)), o 47 (.call (.f n_r10_many) [(.t 45), (.t 46)]), o 48 (.cmp .lss (.sc .int) (.t 47) (.c (.int .i64 2)))]
abbrev r10_factor_p21 : List AG := [o 43 (.build [(.int .i64 0), (.int .i64 0), (.int .i64 0)] [(0, 1, (.c (.int .i64 4))), (2, 1, (.c (.int .i64 2)))]), o 44 (.lit 3 [(.agg [(.int .i64 0), (.int .i64 0), (.int .i64 0)])] [(0, (.t 43))]), o 6 (.mv (.t 44))]
abbrev r10_factor_p22 : List AG := [o 41 (.mv (.t 0)), o 42 (.call (.f n_r10_most) [(.t 41)]), o 5 (.mv (.t 42))]
abbrev r10_factor_p23 : List AG := [o 34 (.mv (.t 4)), o 35 (.call (.f n_r10_lits) [(.t 34)]), o 36 (.mv (.t 0)), o 37 (.mv (.t 4)), o 38 (.call (.f n_r10_divided) [(.t 36), (.t 37)]), o 39 (.call (.f n_r10_factor) [(.t 38)]), o 40 (.call (.f n_r10_and) [(.t 35), (.t 39)]), o 2 (.mv (.t 40))]
abbrev r10_factor_p24 : ACode := (.seq (.reg r10_factor_p23) .ret)
abbrev r10_factor_p25 : List AG := [o 31 (.mv (.t 4)), o 32 (.call (.f n_r10_free) [(.t 31)]), o 33 (.not (.t 32))]
abbrev r10_factor_p26 : List AG := [o 29 (.mv (.t 0)), o 30 (.call (.f n_r10_common) [(.t 29)]), o 4 (.mv (.t 30))]
abbrev r10_factor_m27 : List Bool := [I,O,O,I,O,O,O,O,O,O,O,O,O,O,O,O,O,O,O,O,O,O,O,O,O,O,O,O,O,O,O,O,O,O,O,O,O,O,O,O,O,O,O,O,O,O,O,O,O,O,O,O,O,O,O,O,O,O,O,O,O,O,O,O,O,O,O,O,O,O,O,O,O,O,O,O,O,O,O,O,O,O,O,O,O,O,O,O,O,O,O,O,O,O,O,O,O,O,O,O,O,O,O,O,O,O,O,O,O,O]
abbrev r10_factor_x27 : List Bool := [I,O,O,O,O,O,O,O,O,O,O,O,O,O,O,O,O,O,O,O,O,O,O,O,O,O,O,O,O,O,O,O,O,O,O,O,O,O,O,O,O,O,O,O,O,O,O,O,O,O,O,O,O,O,O,O,O,O,O,O,O,O,O,O,O,O,O,O,O,O,O,O,O,O,O,O,O,O,O,O,O,O,O,O,O,O,O,O,O,O,O,O,O,O,O,O,O,O,O,O,O,O,O,O,O,O,O,O,O,O]
abbrev r10_factor_p28 : List AG := [o 20 (.mv (.t 3)), o 21 (.ibin .add (.t 20) (.c (.int .i64 1))), o 3 (.mv (.t 21))]
abbrev r10_factor_p29 : List AG := [o 27 (.build [(.int .i64 0), (.int .i64 0), (.int .i64 0)] [(0, 1, (.c (.int .i64 1)))]), o 28 (.lit 3 [(.agg [(.int .i64 0), (.int .i64 0), (.int .i64 0)])] [(0, (.t 27))]), o 2 (.mv (.t 28))]
abbrev r10_factor_p30 : ACode := (.seq (.reg r10_factor_p29) .ret)
abbrev r10_factor_p31 : List AG := [o 22 (.mv (.t 0)), o 23 (.mv (.t 3)), o 24 (.ixAddr 1 (.t 22) (.t 23)), o 25 (.load false 1 (.t 24)), o 26 (.call (.f n_r10_free) [(.t 25)])]
abbrev r10_factor_p32 : ACode := (.seq (.reg r10_factor_p31) (.cond (.t 26) r10_factor_p30 .skip))
abbrev r10_factor_p33 : List AG := [o 16 (.mv (.t 3)), o 17 (.mv (.t 0)), o 18 (.len (.t 17)), o 19 (.cmp .lss (.sc .int) (.t 16) (.t 18))]
abbrev r10_factor_b27 : ACode := (.seq (.seq (.reg r10_factor_p33) (.cond (.t 19) .skip (.exit 0))) (.seq (.block 1 [] r10_factor_p32) (.reg r10_factor_p28)))
abbrev r10_factor_p34 : List AG := [o 3 (.mv (.c (.int .i64 0)))]
abbrev r10_factor_p35 : List AG := [o 14 (.build [(.int .i64 0), (.int .i64 0), (.int .i64 0)] []), o 15 (.lit 3 [(.agg [(.int .i64 0), (.int .i64 0), (.int .i64 0)])] [(0, (.t 14))]), o 2 (.mv (.t 15))]
abbrev r10_factor_p36 : ACode := (.seq (.reg r10_factor_p35) .ret)
abbrev r10_factor_p37 : List AG := [o 11 (.mv (.t 0)), o 12 (.len (.t 11)), o 13 (.cmp .eql (.sc .int) (.t 12) (.c (.int .i64 0)))]
abbrev r10_factor_p38 : List AG := [o 2 (.nilrow 3 t_r10_Form_2)]
abbrev r10_factor : AFun := ⟨(.seq (.reg r10_factor_p38) (.seq (.seq (.reg r10_factor_p37) (.cond (.t 13) r10_factor_p36 .skip)) (.seq (.seq (.reg r10_factor_p34) (.block 0 r10_factor_x27 (.loop r10_factor_m27 r10_factor_b27))) (.seq (.reg r10_factor_p26) (.seq (.seq (.reg r10_factor_p25) (.cond (.t 33) r10_factor_p24 .skip)) (.seq (.reg r10_factor_p22) (.seq (.reg r10_factor_p21) (.seq (.seq (.reg r10_factor_p20) (.cond (.t 48) r10_factor_p19 .skip)) (.seq (.reg r10_factor_p11) (.seq (.reg r10_factor_p10) (.seq (.seq (.reg r10_factor_p9) (.block 4 r10_factor_x2 (.loop r10_factor_m2 r10_factor_b2))) (.seq (.reg r10_factor_p1) (.seq (.reg r10_factor_p0) .ret))))))))))))), 110, [.tmp 2]⟩
abbrev r10_factor_k2 : List It := [.code (.seq (.reg r10_factor_p1) (.seq (.reg r10_factor_p0) .ret))]
abbrev r10_factor_L2 (x0 x5 x6 x8 x9 x10 : AV) (h : List Ob) (e : Cx := cx) : Cfg := atC n_r10_factor (.code r10_factor_b2 :: .inLoop r10_factor_m2 r10_factor_b2 :: .inBlock 4 r10_factor_x2 :: r10_factor_k2) [x0,U,U,U,U,x5,x6,U,x8,x9,x10,U,U,U,U,U,U,U,U,U,U,U,U,U,U,U,U,U,U,U,U,U,U,U,U,U,U,U,U,U,U,U,U,U,U,U,U,U,U,U,U,U,U,U,U,U,U,U,U,U,U,U,U,U,U,U,U,U,U,U,U,U,U,U,U,U,U,U,U,U,U,U,U,U,U,U,U,U,U,U,U,U,U,U,U,U,U,U,U,U,U,U,U,U,U,U,U,U,U,U] h e
abbrev r10_factor_E2 (x5 x6 x8 x9 : AV) (h : List Ob) (e : Cx := cx) : Cfg := atC n_r10_factor r10_factor_k2 [U,U,U,U,U,x5,x6,U,x8,x9,U,U,U,U,U,U,U,U,U,U,U,U,U,U,U,U,U,U,U,U,U,U,U,U,U,U,U,U,U,U,U,U,U,U,U,U,U,U,U,U,U,U,U,U,U,U,U,U,U,U,U,U,U,U,U,U,U,U,U,U,U,U,U,U,U,U,U,U,U,U,U,U,U,U,U,U,U,U,U,U,U,U,U,U,U,U,U,U,U,U,U,U,U,U,U,U,U,U,U,U] h e
abbrev r10_factor_k13 : List It := [.code (.seq (.reg r10_factor_p12) .ret), .code (.seq (.reg r10_factor_p11) (.seq (.reg r10_factor_p10) (.seq (.seq (.reg r10_factor_p9) (.block 4 r10_factor_x2 (.loop r10_factor_m2 r10_factor_b2))) (.seq (.reg r10_factor_p1) (.seq (.reg r10_factor_p0) .ret)))))]
abbrev r10_factor_L13 (x0 x6 x7 : AV) (h : List Ob) (e : Cx := cx) : Cfg := atC n_r10_factor (.code r10_factor_b13 :: .inLoop r10_factor_m13 r10_factor_b13 :: .inBlock 2 r10_factor_x13 :: r10_factor_k13) [x0,U,U,U,U,U,x6,x7,U,U,U,U,U,U,U,U,U,U,U,U,U,U,U,U,U,U,U,U,U,U,U,U,U,U,U,U,U,U,U,U,U,U,U,U,U,U,U,U,U,U,U,U,U,U,U,U,U,U,U,U,U,U,U,U,U,U,U,U,U,U,U,U,U,U,U,U,U,U,U,U,U,U,U,U,U,U,U,U,U,U,U,U,U,U,U,U,U,U,U,U,U,U,U,U,U,U,U,U,U,U] h e
abbrev r10_factor_E13 (x6 : AV) (h : List Ob) (e : Cx := cx) : Cfg := atC n_r10_factor r10_factor_k13 [U,U,U,U,U,U,x6,U,U,U,U,U,U,U,U,U,U,U,U,U,U,U,U,U,U,U,U,U,U,U,U,U,U,U,U,U,U,U,U,U,U,U,U,U,U,U,U,U,U,U,U,U,U,U,U,U,U,U,U,U,U,U,U,U,U,U,U,U,U,U,U,U,U,U,U,U,U,U,U,U,U,U,U,U,U,U,U,U,U,U,U,U,U,U,U,U,U,U,U,U,U,U,U,U,U,U,U,U,U,U] h e
abbrev r10_factor_k27 : List It := [.code (.seq (.reg r10_factor_p26) (.seq (.seq (.reg r10_factor_p25) (.cond (.t 33) r10_factor_p24 .skip)) (.seq (.reg r10_factor_p22) (.seq (.reg r10_factor_p21) (.seq (.seq (.reg r10_factor_p20) (.cond (.t 48) r10_factor_p19 .skip)) (.seq (.reg r10_factor_p11) (.seq (.reg r10_factor_p10) (.seq (.seq (.reg r10_factor_p9) (.block 4 r10_factor_x2 (.loop r10_factor_m2 r10_factor_b2))) (.seq (.reg r10_factor_p1) (.seq (.reg r10_factor_p0) .ret))))))))))]
abbrev r10_factor_L27 (x0 x3 : AV) (h : List Ob) (e : Cx := cx) : Cfg := atC n_r10_factor (.code r10_factor_b27 :: .inLoop r10_factor_m27 r10_factor_b27 :: .inBlock 0 r10_factor_x27 :: r10_factor_k27) [x0,U,U,x3,U,U,U,U,U,U,U,U,U,U,U,U,U,U,U,U,U,U,U,U,U,U,U,U,U,U,U,U,U,U,U,U,U,U,U,U,U,U,U,U,U,U,U,U,U,U,U,U,U,U,U,U,U,U,U,U,U,U,U,U,U,U,U,U,U,U,U,U,U,U,U,U,U,U,U,U,U,U,U,U,U,U,U,U,U,U,U,U,U,U,U,U,U,U,U,U,U,U,U,U,U,U,U,U,U,U] h e
abbrev r10_factor_E27 (x0 : AV) (h : List Ob) (e : Cx := cx) : Cfg := atC n_r10_factor r10_factor_k27 [x0,U,U,U,U,U,U,U,U,U,U,U,U,U,U,U,U,U,U,U,U,U,U,U,U,U,U,U,U,U,U,U,U,U,U,U,U,U,U,U,U,U,U,U,U,U,U,U,U,U,U,U,U,U,U,U,U,U,U,U,U,U,U,U,U,U,U,U,U,U,U,U,U,U,U,U,U,U,U,U,U,U,U,U,U,U,U,U,U,U,U,U,U,U,U,U,U,U,U,U,U,U,U,U,U,U,U,U,U,U] h e
@[simp] theorem c_r10_factor : cfun Tryd.prog n_r10_factor = some r10_factor := by kernel_rfl
@[simp] theorem e_r10_factor : hasBody Tryd.prog n_r10_factor = true := by kernel_rfl

/- strings_Count: strings.Count -/
@[simp] theorem e_strings_Count : hasBody Tryd.prog n_strings_Count = true := by kernel_rfl

/- r10_end: patchbay/patchbayref10.end -/
abbrev r10_end_p0 : List AG := [o 45 (.mv (.t 7)), o 6 (.mv (.t 45))]
abbrev r10_end_m1 : List Bool := [I,I,I,O,O,O,O,I,I,O,O,O,O,O,O,O,O,O,O,O,O,O,O,O,O,O,O,O,O,O,O,O,O,O,O,O,O,O,O,O,O,O,O,O,O,O]
abbrev r10_end_x1 : List Bool := [O,O,O,O,O,O,O,I,O,O,O,O,O,O,O,O,O,O,O,O,O,O,O,O,O,O,O,O,O,O,O,O,O,O,O,O,O,O,O,O,O,O,O,O,O,O]
abbrev r10_end_p2 : List AG := [o 39 (.mv (.t 8)), o 40 (.ibin .add (.t 39) (.c (.int .i64 1))), o 8 (.mv (.t 40))]
abbrev r10_end_p3 : List AG := [o 41 (.mv (.t 0)), o 42 (.mv (.t 7)), o 43 (.mv (.t 2)), o 44 (.call (.f n_r10_end) [(.t 41), (.t 42), (.t 43)]), o 7 (.mv (.t 44))]
abbrev r10_end_p4 : List AG := [o 28 (.mv (.t 8)), o 29 (.mv (.t 0)), o 30 (.mv (.t 1)), o 31 (.ixAddr 3 (.t 29) (.t 30)), o 32 (.off 2 (.t 31)), o 33 (.load false 1 (.t 32)), o 34 (.cmp .lss (.sc .int) (.t 28) (.t 33)), o 35 (.mv (.t 34)), oy 36 35 (.mv (.t 7)), oy 37 35 (.cmp .geq (.sc .int) (.t 36) (.c (.int .i64 0))), o 38 (.pick (.t 35) (.t 37) (.c (.bool false)))]
abbrev r10_end_b1 : ACode := (.seq (.seq (.reg r10_end_p4) (.cond (.t 38) .skip (.exit 0))) (.seq (.block 1 [] (.reg r10_end_p3)) (.reg r10_end_p2)))
abbrev r10_end_p5 : List AG := [o 8 (.mv (.c (.int .i64 0)))]
abbrev r10_end_p6 : List AG := [o 26 (.mv (.t 1)), o 27 (.ibin .add (.t 26) (.c (.int .i64 1))), o 7 (.mv (.t 27))]
abbrev r10_end_p7 : List AG := [o 6 (.mv (.c (.int .i64 (-1))))]
abbrev r10_end_p8 : ACode := (.seq (.reg r10_end_p7) .ret)
abbrev r10_end_p9 : List AG := [o 9 (.mv (.t 1)), o 10 (.cmp .lss (.sc .int) (.t 9) (.c (.int .i64 0))), o 11 (.mv (.t 10)), on 12 11 (.mv (.t 1)), on 13 11 (.mv (.t 0)), on 14 11 (.len (.t 13)), on 15 11 (.cmp .geq (.sc .int) (.t 12) (.t 14)), o 16 (.pick (.t 11) (.c (.bool true)) (.t 15)), o 17 (.mv (.t 16)), on 18 17 (.mv (.t 0)), on 19 17 (.mv (.t 1)), on 20 17 (.ixAddr 3 (.t 18) (.t 19)), on 21 17 (.load true 3 (.t 20)), on 22 17 (.mv (.t 2)), on 23 17 (.call (.f n_r10_plain) [(.t 21), (.t 22)]), on 24 17 (.not (.t 23)), o 25 (.pick (.t 17) (.c (.bool true)) (.t 24))]
abbrev r10_end_p10 : List AG := [o 6 (.mv (.c (.int .i64 0)))]
abbrev r10_end : AFun := ⟨(.seq (.reg r10_end_p10) (.seq (.seq (.reg r10_end_p9) (.cond (.t 25) r10_end_p8 .skip)) (.seq (.reg r10_end_p6) (.seq (.seq (.reg r10_end_p5) (.block 0 r10_end_x1 (.loop r10_end_m1 r10_end_b1))) (.seq (.reg r10_end_p0) .ret))))), 46, [.tmp 6]⟩
abbrev r10_end_k1 : List It := [.code (.seq (.reg r10_end_p0) .ret)]
abbrev r10_end_L1 (x0 x1 x2 x7 x8 : AV) (h : List Ob) (e : Cx := cx) : Cfg := atC n_r10_end (.code r10_end_b1 :: .inLoop r10_end_m1 r10_end_b1 :: .inBlock 0 r10_end_x1 :: r10_end_k1) [x0,x1,x2,U,U,U,U,x7,x8,U,U,U,U,U,U,U,U,U,U,U,U,U,U,U,U,U,U,U,U,U,U,U,U,U,U,U,U,U,U,U,U,U,U,U,U,U] h e
abbrev r10_end_E1 (x7 : AV) (h : List Ob) (e : Cx := cx) : Cfg := atC n_r10_end r10_end_k1 [U,U,U,U,U,U,U,x7,U,U,U,U,U,U,U,U,U,U,U,U,U,U,U,U,U,U,U,U,U,U,U,U,U,U,U,U,U,U,U,U,U,U,U,U,U,U] h e
@[simp] theorem c_r10_end : cfun Tryd.prog n_r10_end = some r10_end := by kernel_rfl
@[simp] theorem e_r10_end : hasBody Tryd.prog n_r10_end = true := by kernel_rfl

/- cover_read: patchbay/cover.read -/
abbrev cover_read_p0 : List AG := [o 36 (.load false 1 (.t 6)), q (.store 1 (.t 6) (.t 36)), q (.store 1 (.t 7) (.c (.int .i64 0)))]
abbrev cover_read_p1 : List AG := [o 34 (.build [] []), o 35 (.mkIface t_cover_odd (.t 34)), q (.panic (.t 35))]
abbrev cover_read_p2 : List AG := [o 28 (.mv (.t 8)), o 29 (.nilck (.t 28)), o 30 (.off 0 (.t 29)), o 31 (.load false 1 (.t 30)), o 32 (.len (.t 31)), o 33 (.cmp .gtr (.sc .int) (.t 32) (.c (.int .i64 0)))]
abbrev cover_read_p3 : List AG := [o 26 (.mv (.t 8)), o 27 (.call (.f n_cover_reader_read) [(.t 26)]), q (.store 1 (.t 6) (.t 27))]
abbrev cover_read_p4 : List AG := [o 21 (.mv (.t 0)), o 22 (.mv (.t 1)), o 23 (.mv (.t 2)), o 24 (.build [(.list true 0 []), (.int .i64 0), .nilf] [(0, 1, (.t 21)), (1, 1, (.t 22)), (2, 1, (.t 23))]), o 25 (.box 3 (.t 24)), o 8 (.mv (.t 25))]
abbrev cover_read_p5 : List AG := [q (.store 1 (.t 6) (.c (.bool false))), q (.store 1 (.t 7) (.c (.int .i64 1)))]
abbrev cover_read_p6 : ACode := (.seq (.reg cover_read_p5) .ret)
abbrev cover_read_p7 : List AG := [o 10 (.mv (.t 0)), o 11 (.len (.t 10)), o 12 (.cmp .gtr (.sc .int) (.t 11) (.c (.int .i64 4000))), o 13 (.mv (.t 12)), on 14 13 (.mv (.t 1)), on 15 13 (.cmp .lss (.sc .int) (.t 14) (.c (.int .i64 0))), o 16 (.pick (.t 13) (.c (.bool true)) (.t 15)), o 17 (.mv (.t 16)), on 18 17 (.mv (.t 1)), on 19 17 (.cmp .gtr (.sc .int) (.t 18) (.c (.int .i64 4000))), o 20 (.pick (.t 17) (.c (.bool true)) (.t 19))]
abbrev cover_read_p8 : List AG := [o 9 (.mkFunc (.func n_cover_read_1) [] [(.t 6), (.t 7)]), q (.defer (.t 9) [])]
abbrev cover_read_p9 : List AG := [o 6 (.alloc [(.bool false)]), o 7 (.alloc [(.int .i64 0)])]
abbrev cover_read : AFun := ⟨(.seq (.reg cover_read_p9) (.seq (.reg cover_read_p8) (.seq (.seq (.reg cover_read_p7) (.cond (.t 20) cover_read_p6 .skip)) (.seq (.reg cover_read_p4) (.seq (.reg cover_read_p3) (.seq (.seq (.reg cover_read_p2) (.cond (.t 33) (.reg cover_read_p1) .skip)) (.seq (.reg cover_read_p0) .ret))))))), 37, [.cell 6 false 1, .cell 7 false 1]⟩
@[simp] theorem c_cover_read : cfun Tryd.prog n_cover_read = some cover_read := by kernel_rfl
@[simp] theorem e_cover_read : hasBody Tryd.prog n_cover_read = true := by kernel_rfl

/- cover_Eval_1: patchbay/cover.Eval$1 -/
abbrev cover_Eval_1_p0 : List AG := [o 4 (.load false 1 (.t 1)), o 5 (.mv (.t 0)), o 6 (.ibin .shr (.t 5) (.c (.int .u64 1))), o 7 (.ixAddr 1 (.t 4) (.t 6)), o 8 (.load false 1 (.t 7)), o 9 (.mv (.t 0)), o 10 (.ibin .and (.t 9) (.c (.int .i64 1))), o 11 (.cmp .eql (.sc .int) (.t 10) (.c (.int .i64 1))), o 12 (.cmp .neq (.sc .bool) (.t 8) (.t 11)), o 3 (.mv (.t 12))]
abbrev cover_Eval_1_p1 : List AG := [o 3 (.mv (.c (.bool false)))]
abbrev cover_Eval_1 : AFun := ⟨(.seq (.reg cover_Eval_1_p1) (.seq (.reg cover_Eval_1_p0) .ret)), 13, [.tmp 3]⟩
@[simp] theorem c_cover_Eval_1 : cfun Tryd.prog n_cover_Eval_1 = some cover_Eval_1 := by kernel_rfl
@[simp] theorem e_cover_Eval_1 : hasBody Tryd.prog n_cover_Eval_1 = true := by kernel_rfl

/- r10_eval: patchbay/patchbayref10.eval -/
abbrev r10_eval_p0 : List AG := [o 60 (.off 0 (.t 7)), o 61 (.load false 1 (.t 60)), o 62 (.cmp .neq (.sc .int) (.t 61) (.c (.int .i64 0))), o 63 (.mv (.t 62)), oy 64 63 (.mv (.t 8)), o 65 (.pick (.t 63) (.t 64) (.c (.bool false))), o 6 (.mv (.t 65))]
abbrev r10_eval_p1 : List AG := [o 59 (.mv (.t 9)), o 6 (.mv (.t 59))]
abbrev r10_eval_p2 : ACode := (.seq (.reg r10_eval_p1) .ret)
abbrev r10_eval_p3 : List AG := [o 56 (.off 0 (.t 7)), o 57 (.load false 1 (.t 56)), o 58 (.cmp .eql (.sc .int) (.t 57) (.c (.int .i64 4)))]
abbrev r10_eval_m4 : List Bool := [I,O,I,O,O,O,O,I,I,I,I,I,O,O,O,O,O,O,O,O,O,O,O,O,O,O,O,O,O,O,O,O,O,O,O,O,O,O,O,O,O,O,O,O,O,O,O,O,O,O,O,O,O,O,O,O,O,O,O,O,O,O,O,O,O,O]
abbrev r10_eval_x4 : List Bool := [O,O,O,O,O,O,O,I,I,I,O,O,O,O,O,O,O,O,O,O,O,O,O,O,O,O,O,O,O,O,O,O,O,O,O,O,O,O,O,O,O,O,O,O,O,O,O,O,O,O,O,O,O,O,O,O,O,O,O,O,O,O,O,O,O,O]
abbrev r10_eval_p5 : List AG := [o 37 (.mv (.t 11)), o 38 (.ibin .add (.t 37) (.c (.int .i64 1))), o 11 (.mv (.t 38))]
abbrev r10_eval_p6 : List AG := [o 51 (.mv (.t 0)), o 52 (.mv (.t 10)), o 53 (.mv (.t 2)), o 54 (.len (.t 53)), o 55 (.call (.f n_r10_end) [(.t 51), (.t 52), (.t 54)]), o 10 (.mv (.t 55))]
abbrev r10_eval_p7 : List AG := [o 47 (.mv (.t 9)), o 48 (.mv (.t 47)), on 49 48 (.mv (.t 12)), o 50 (.pick (.t 48) (.c (.bool true)) (.t 49)), o 9 (.mv (.t 50))]
abbrev r10_eval_p8 : List AG := [o 43 (.mv (.t 8)), o 44 (.mv (.t 43)), oy 45 44 (.mv (.t 12)), o 46 (.pick (.t 44) (.t 45) (.c (.bool false))), o 8 (.mv (.t 46))]
abbrev r10_eval_p9 : List AG := [o 39 (.mv (.t 0)), o 40 (.mv (.t 10)), o 41 (.mv (.t 2)), o 42 (.call (.f n_r10_eval) [(.t 39), (.t 40), (.t 41)]), o 12 (.mv (.t 42))]
abbrev r10_eval_p10 : ACode := (.seq (.reg r10_eval_p9) (.seq (.reg r10_eval_p8) (.seq (.reg r10_eval_p7) (.reg r10_eval_p6))))
abbrev r10_eval_p11 : List AG := [o 33 (.mv (.t 11)), o 34 (.off 2 (.t 7)), o 35 (.load false 1 (.t 34)), o 36 (.cmp .lss (.sc .int) (.t 33) (.t 35))]
abbrev r10_eval_b4 : ACode := (.seq (.seq (.reg r10_eval_p11) (.cond (.t 36) .skip (.exit 0))) (.seq (.block 1 [] r10_eval_p10) (.reg r10_eval_p5)))
abbrev r10_eval_p12 : List AG := [o 11 (.mv (.c (.int .i64 0)))]
abbrev r10_eval_p13 : List AG := [o 31 (.mv (.t 1)), o 32 (.ibin .add (.t 31) (.c (.int .i64 1))), o 10 (.mv (.t 32))]
abbrev r10_eval_p14 : List AG := [o 9 (.mv (.c (.bool false)))]
abbrev r10_eval_p15 : List AG := [o 8 (.mv (.c (.bool true)))]
abbrev r10_eval_p16 : List AG := [o 20 (.mv (.t 2)), o 21 (.off 1 (.t 7)), o 22 (.load false 1 (.t 21)), o 23 (.ibin .quo (.t 22) (.c (.int .i64 2))), o 24 (.ixAddr 1 (.t 20) (.t 23)), o 25 (.load false 1 (.t 24)), o 26 (.off 1 (.t 7)), o 27 (.load false 1 (.t 26)), o 28 (.ibin .rem (.t 27) (.c (.int .i64 2))), o 29 (.cmp .eql (.sc .int) (.t 28) (.c (.int .i64 1))), o 30 (.cmp .neq (.sc .bool) (.t 25) (.t 29)), o 6 (.mv (.t 30))]
abbrev r10_eval_p17 : ACode := (.seq (.dreg [O,O,O,O,O,O,O,O,O,O,O,O] [13,13,13,13,13,13,13,13,13,13,13,13] r10_eval_p16) .ret)
abbrev r10_eval_p18 : List AG := [o 17 (.off 0 (.t 7)), o 18 (.load false 1 (.t 17)), o 19 (.cmp .eql (.sc .int) (.t 18) (.c (.int .i64 2)))]
abbrev r10_eval_p19 : List AG := [o 13 (.mv (.t 0)), o 14 (.mv (.t 1)), o 15 (.ixAddr 3 (.t 13) (.t 14)), o 16 (.load true 3 (.t 15)), o 7 (.alloc [(.int .i64 0), (.int .i64 0), (.int .i64 0)]), q (.store 3 (.t 7) (.t 16))]
abbrev r10_eval_p20 : List AG := [o 6 (.mv (.c (.bool false)))]
abbrev r10_eval : AFun := ⟨(.seq (.reg r10_eval_p20) (.seq (.reg r10_eval_p19) (.seq (.seq (.reg r10_eval_p18) (.cond (.t 19) r10_eval_p17 .skip)) (.seq (.reg r10_eval_p15) (.seq (.reg r10_eval_p14) (.seq (.reg r10_eval_p13) (.seq (.seq (.reg r10_eval_p12) (.block 0 r10_eval_x4 (.loop r10_eval_m4 r10_eval_b4))) (.seq (.seq (.reg r10_eval_p3) (.cond (.t 58) r10_eval_p2 .skip)) (.seq (.reg r10_eval_p0) .ret))))))))), 66, [.tmp 6]⟩
abbrev r10_eval_k4 : List It := [.code (.seq (.seq (.reg r10_eval_p3) (.cond (.t 58) r10_eval_p2 .skip)) (.seq (.reg r10_eval_p0) .ret))]
abbrev r10_eval_L4 (x0 x2 x7 x8 x9 x10 x11 : AV) (h : List Ob) (e : Cx := cx) : Cfg := atC n_r10_eval (.code r10_eval_b4 :: .inLoop r10_eval_m4 r10_eval_b4 :: .inBlock 0 r10_eval_x4 :: r10_eval_k4) [x0,U,x2,U,U,U,U,x7,x8,x9,x10,x11,U,U,U,U,U,U,U,U,U,U,U,U,U,U,U,U,U,U,U,U,U,U,U,U,U,U,U,U,U,U,U,U,U,U,U,U,U,U,U,U,U,U,U,U,U,U,U,U,U,U,U,U,U,U] h e
abbrev r10_eval_E4 (x7 x8 x9 : AV) (h : List Ob) (e : Cx := cx) : Cfg := atC n_r10_eval r10_eval_k4 [U,U,U,U,U,U,U,x7,x8,x9,U,U,U,U,U,U,U,U,U,U,U,U,U,U,U,U,U,U,U,U,U,U,U,U,U,U,U,U,U,U,U,U,U,U,U,U,U,U,U,U,U,U,U,U,U,U,U,U,U,U,U,U,U,U,U,U] h e
@[simp] theorem c_r10_eval : cfun Tryd.prog n_r10_eval = some r10_eval := by kernel_rfl
@[simp] theorem e_r10_eval : hasBody Tryd.prog n_r10_eval = true := by kernel_rfl

/- cover_Check_1: patchbay/cover.Check$1 -/
abbrev cover_Check_1_p0 : List AG := [o 2 (.mv (.c (.bool false)))]
abbrev cover_Check_1_p1 : List AG := [o 2 (.mv (.c (.bool false)))]
abbrev cover_Check_1 : AFun := ⟨(.seq (.reg cover_Check_1_p1) (.seq (.reg cover_Check_1_p0) .ret)), 3, [.tmp 2]⟩
@[simp] theorem c_cover_Check_1 : cfun Tryd.prog n_cover_Check_1 = some cover_Check_1 := by kernel_rfl
@[simp] theorem e_cover_Check_1 : hasBody Tryd.prog n_cover_Check_1 = true := by kernel_rfl

/- slices_Equal_cover_Form_cover_Form: slices.Equal[[]patchbay/cover.Form,patchbay/cover.Form] -/
abbrev slices_Equal_cover_Form_cover_Form_p0 : List AG := [o 4 (.mv (.c (.bool true)))]
abbrev slices_Equal_cover_Form_cover_Form_m1 : List Bool := [I,I,O,O,O,O,O,O,O,O,O,O,I,I,O,O,O,O,O,O,O,O,O,O,O,O]
abbrev slices_Equal_cover_Form_cover_Form_x1 : List Bool := [O,O,O,O,O,O,O,O,O,O,O,O,O,O,O,O,O,O,O,O,O,O,O,O,O,O]
abbrev slices_Equal_cover_Form_cover_Form_p2 : List AG := [o 25 (.ibin .add (.t 13) (.c (.int .i64 1))), o 13 (.mv (.t 25))]
abbrev slices_Equal_cover_Form_cover_Form_p3 : List AG := [o 4 (.mv (.c (.bool false)))]
abbrev slices_Equal_cover_Form_cover_Form_p4 : ACode := (.seq (.reg slices_Equal_cover_Form_cover_Form_p3) .ret)
abbrev slices_Equal_cover_Form_cover_Form_p5 : List AG := [o 16 (.mv (.t 0)), o 17 (.mv (.t 5)), o 18 (.ixAddr 3 (.t 16) (.t 17)), o 19 (.load true 3 (.t 18)), o 20 (.mv (.t 1)), o 21 (.mv (.t 5)), o 22 (.ixAddr 3 (.t 20) (.t 21)), o 23 (.load true 3 (.t 22)), o 24 (.cmp .neq (.strct [.int, .int, .int]) (.t 19) (.t 23))]
abbrev slices_Equal_cover_Form_cover_Form_p6 : List AG := [o 15 (.mv (.t 13)), o 5 (.mv (.t 15))]
abbrev slices_Equal_cover_Form_cover_Form_p7 : ACode := (.seq (.reg slices_Equal_cover_Form_cover_Form_p6) (.seq (.dreg [O,O,O,O,O,O,O,O,O] [10,10,10,10,10,10,10,10,10] slices_Equal_cover_Form_cover_Form_p5) (.cond (.t 24) slices_Equal_cover_Form_cover_Form_p4 .skip)))
abbrev slices_Equal_cover_Form_cover_Form_p8 : List AG := [o 14 (.cmp .lss (.sc .int) (.t 13) (.t 12))]
abbrev slices_Equal_cover_Form_cover_Form_b1 : ACode := (.seq (.reg slices_Equal_cover_Form_cover_Form_p8) (.seq (.cond (.t 14) .skip (.exit 0)) (.seq (.block 1 [] slices_Equal_cover_Form_cover_Form_p7) (.reg slices_Equal_cover_Form_cover_Form_p2))))
abbrev slices_Equal_cover_Form_cover_Form_p9 : List AG := [o 11 (.mv (.t 0)), o 12 (.len (.t 11)), o 13 (.mv (.c (.int .i64 0)))]
abbrev slices_Equal_cover_Form_cover_Form_p10 : List AG := [o 4 (.mv (.c (.bool false)))]
abbrev slices_Equal_cover_Form_cover_Form_p11 : ACode := (.seq (.reg slices_Equal_cover_Form_cover_Form_p10) .ret)
abbrev slices_Equal_cover_Form_cover_Form_p12 : List AG := [o 6 (.mv (.t 0)), o 7 (.len (.t 6)), o 8 (.mv (.t 1)), o 9 (.len (.t 8)), o 10 (.cmp .neq (.sc .int) (.t 7) (.t 9))]
abbrev slices_Equal_cover_Form_cover_Form_p13 : List AG := [o 4 (.mv (.c (.bool false)))]
abbrev slices_Equal_cover_Form_cover_Form : AFun := ⟨(.seq (.reg slices_Equal_cover_Form_cover_Form_p13) (.seq (.seq (.reg slices_Equal_cover_Form_cover_Form_p12) (.cond (.t 10) slices_Equal_cover_Form_cover_Form_p11 .skip)) (.seq (.seq (.reg slices_Equal_cover_Form_cover_Form_p9) (.block 0 slices_Equal_cover_Form_cover_Form_x1 (.loop slices_Equal_cover_Form_cover_Form_m1 slices_Equal_cover_Form_cover_Form_b1))) (.seq (.reg slices_Equal_cover_Form_cover_Form_p0) .ret)))), 26, [.tmp 4]⟩
abbrev slices_Equal_cover_Form_cover_Form_k1 : List It := [.code (.seq (.reg slices_Equal_cover_Form_cover_Form_p0) .ret)]
abbrev slices_Equal_cover_Form_cover_Form_L1 (x0 x1 x12 x13 : AV) (h : List Ob) (e : Cx := cx) : Cfg := atC n_slices_Equal_cover_Form_cover_Form (.code slices_Equal_cover_Form_cover_Form_b1 :: .inLoop slices_Equal_cover_Form_cover_Form_m1 slices_Equal_cover_Form_cover_Form_b1 :: .inBlock 0 slices_Equal_cover_Form_cover_Form_x1 :: slices_Equal_cover_Form_cover_Form_k1) [x0,x1,U,U,U,U,U,U,U,U,U,U,x12,x13,U,U,U,U,U,U,U,U,U,U,U,U] h e
abbrev slices_Equal_cover_Form_cover_Form_E1 (h : List Ob) (e : Cx := cx) : Cfg := atC n_slices_Equal_cover_Form_cover_Form slices_Equal_cover_Form_cover_Form_k1 [U,U,U,U,U,U,U,U,U,U,U,U,U,U,U,U,U,U,U,U,U,U,U,U,U,U] h e
@[simp] theorem c_slices_Equal_cover_Form_cover_Form : cfun Tryd.prog n_slices_Equal_cover_Form_cover_Form = some slices_Equal_cover_Form_cover_Form := by kernel_rfl
@[simp] theorem e_slices_Equal_cover_Form_cover_Form : hasBody Tryd.prog n_slices_Equal_cover_Form_cover_Form = true := by kernel_rfl

/- net_Gate: patchbay/net.Gate -/
abbrev net_Gate_p0 : List AG := [o 18 (.off 1 (.t 1)), o 19 (.load false 1 (.t 18)), o 20 (.off 2 (.t 1)), o 21 (.load false 1 (.t 20)), o 22 (.len (.t 21)), o 23 (.call (.f n_net_has) [(.t 19), (.t 22)]), o 24 (.mv (.t 23)), oy 25 24 (.off 3 (.t 1)), oy 26 24 (.load false 1 (.t 25)), oy 27 24 (.len (.t 26)), oy 28 24 (.cmp .leq (.sc .int) (.t 27) (.c (.int .i64 128))), o 29 (.pick (.t 24) (.t 28) (.c (.bool false))), o 30 (.mv (.t 29)), oy 31 30 (.off 3 (.t 1)), oy 32 30 (.load false 1 (.t 31)), oy 33 30 (.mv (.t 3)), oy 34 30 (.call (.f n_slices_ContainsFunc_string_string) [(.t 32), (.t 33)]), oy 35 30 (.not (.t 34)), o 36 (.pick (.t 30) (.t 35) (.c (.bool false))), o 2 (.mv (.t 36))]
abbrev net_Gate_p1 : List AG := [o 2 (.mv (.c (.bool false)))]
abbrev net_Gate_p2 : ACode := (.seq (.reg net_Gate_p1) .ret)
abbrev net_Gate_p3 : List AG := [o 5 (.off 1 (.t 1)), o 6 (.load false 1 (.t 5)), o 7 (.cmp .neq (.sc .int) (.t 6) (.c (.int .i64 10))), o 8 (.mv (.t 7)), oy 9 8 (.off 3 (.t 1)), oy 10 8 (.load false 1 (.t 9)), oy 11 8 (.len (.t 10)), oy 12 8 (.cmp .gtr (.sc .int) (.t 11) (.c (.int .i64 0))), oy 13 8 (.mv (.t 12)), on 14 13 (.off 4 (.t 1)), on 15 13 (.load false 1 (.t 14)), oy 16 8 (.pick (.t 13) (.c (.bool true)) (.t 15)), o 17 (.pick (.t 8) (.t 16) (.c (.bool false)))]
abbrev net_Gate_p4 : List AG := [o 4 (.mkFunc (.func n_net_Gate_1) [] [(.t 1)]), o 3 (.mv (.t 4))]
abbrev net_Gate_p5 : List AG := [o 1 (.box 5 (.t 0)), o 2 (.mv (.c (.bool false)))]
abbrev net_Gate : AFun := ⟨(.seq (.reg net_Gate_p5) (.seq (.reg net_Gate_p4) (.seq (.seq (.reg net_Gate_p3) (.cond (.t 17) net_Gate_p2 .skip)) (.seq (.reg net_Gate_p0) .ret)))), 37, [.tmp 2]⟩
@[simp] theorem c_net_Gate : cfun Tryd.prog n_net_Gate = some net_Gate := by kernel_rfl
@[simp] theorem e_net_Gate : hasBody Tryd.prog n_net_Gate = true := by kernel_rfl

/- step_of: patchbay/step.of -/
abbrev step_of_p0 : List AG := [o 35 (.load true 2 (.t 3)), q (.store 2 (.t 2) (.t 35))]
abbrev step_of_p1 : List AG := [o 34 (.off 0 (.t 3)), q (.store 1 (.t 34) (.f n_step_of_4))]
abbrev step_of_p2 : List AG := [o 33 (.off 0 (.t 3)), q (.store 1 (.t 33) (.f n_step_of_3))]
abbrev step_of_p3 : List AG := [o 32 (.off 0 (.t 3)), q (.store 1 (.t 32) (.f n_step_of_2))]
abbrev step_of_p4 : List AG := [o 31 (.off 0 (.t 3)), q (.store 1 (.t 31) (.f n_step_of_1))]
abbrev step_of_p5 : List AG := [o 30 (.cmp .eql (.sc .int) (.t 13) (.c (.int .i64 9))), o 28 (.mv (.t 30))]
abbrev step_of_p6 : List AG := [o 29 (.cmp .eql (.sc .int) (.t 13) (.c (.int .i64 8))), o 28 (.mv (.t 29))]
abbrev step_of_p7 : List AG := [o 27 (.cmp .eql (.sc .int) (.t 13) (.c (.int .i64 7))), o 25 (.mv (.t 27))]
abbrev step_of_p8 : List AG := [o 26 (.cmp .eql (.sc .int) (.t 13) (.c (.int .i64 6))), o 25 (.mv (.t 26))]
abbrev step_of_p9 : List AG := [o 24 (.cmp .eql (.sc .int) (.t 13) (.c (.int .i64 5))), o 22 (.mv (.t 24))]
abbrev step_of_p10 : List AG := [o 23 (.cmp .eql (.sc .int) (.t 13) (.c (.int .i64 4))), o 22 (.mv (.t 23))]
abbrev step_of_p11 : List AG := [o 21 (.cmp .eql (.sc .int) (.t 13) (.c (.int .i64 3))), o 20 (.mv (.t 21))]
abbrev step_of_p12 : List AG := [o 19 (.cmp .eql (.sc .int) (.t 13) (.c (.int .i64 2))), o 18 (.mv (.t 19))]
abbrev step_of_p13 : List AG := [o 17 (.cmp .eql (.sc .int) (.t 13) (.c (.int .i64 1))), o 16 (.mv (.t 17))]
abbrev step_of_p14 : List AG := [o 15 (.cmp .eql (.sc .int) (.t 13) (.c (.int .i64 0))), o 14 (.mv (.t 15))]
abbrev step_of_p15 : ACode := (.seq (.seq (.seq (.reg step_of_p14) (.cond (.t 14) (.exit 2) .skip)) (.seq (.seq (.reg step_of_p13) (.cond (.t 16) (.exit 3) .skip)) (.seq (.seq (.reg step_of_p12) (.cond (.t 18) (.exit 4) .skip)) (.seq (.seq (.reg step_of_p11) (.cond (.t 20) (.exit 5) .skip)) (.seq (.seq (.seq (.reg step_of_p10) (.cond (.t 22) .skip (.reg step_of_p9))) (.cond (.t 22) (.exit 6) .skip)) (.seq (.seq (.seq (.reg step_of_p8) (.cond (.t 25) .skip (.reg step_of_p7))) (.cond (.t 25) (.exit 7) .skip)) (.seq (.seq (.reg step_of_p6) (.cond (.t 28) .skip (.reg step_of_p5))) (.cond (.t 28) (.exit 8) .skip)))))))) (.exit 1))
abbrev step_of_p16 : ACode := (.block 2 [] step_of_p15)
abbrev step_of_p17 : ACode := (.seq (.block 3 [] step_of_p16) (.seq (.reg step_of_p4) (.exit 1)))
abbrev step_of_p18 : ACode := (.block 4 [] step_of_p17)
abbrev step_of_p19 : ACode := (.block 5 [] step_of_p18)
abbrev step_of_p20 : ACode := (.seq (.block 6 [] step_of_p19) (.seq (.reg step_of_p3) (.exit 1)))
abbrev step_of_p21 : ACode := (.seq (.block 7 [] step_of_p20) (.seq (.reg step_of_p2) (.exit 1)))
abbrev step_of_p22 : ACode := (.seq (.block 8 [] step_of_p21) (.seq (.reg step_of_p1) (.exit 1)))
abbrev step_of_p23 : List AG := [o 13 (.mv (.t 0))]
abbrev step_of_p24 : List AG := [o 12 (.off 1 (.t 3)), q (.store 1 (.t 12) (.c (.bool true)))]
abbrev step_of_p25 : List AG := [o 11 (.cmp .eql (.sc .int) (.t 5) (.c (.int .i64 9))), o 6 (.mv (.t 11))]
abbrev step_of_p26 : List AG := [o 10 (.cmp .eql (.sc .int) (.t 5) (.c (.int .i64 7))), o 6 (.mv (.t 10))]
abbrev step_of_p27 : ACode := (.seq (.reg step_of_p26) (.cond (.t 6) .skip (.reg step_of_p25)))
abbrev step_of_p28 : List AG := [o 9 (.cmp .eql (.sc .int) (.t 5) (.c (.int .i64 5))), o 6 (.mv (.t 9))]
abbrev step_of_p29 : ACode := (.seq (.reg step_of_p28) (.cond (.t 6) .skip step_of_p27))
abbrev step_of_p30 : List AG := [o 8 (.cmp .eql (.sc .int) (.t 5) (.c (.int .i64 3))), o 6 (.mv (.t 8))]
abbrev step_of_p31 : ACode := (.seq (.reg step_of_p30) (.cond (.t 6) .skip step_of_p29))
abbrev step_of_p32 : List AG := [o 7 (.cmp .eql (.sc .int) (.t 5) (.c (.int .i64 1))), o 6 (.mv (.t 7))]
abbrev step_of_p33 : ACode := (.seq (.seq (.reg step_of_p32) (.cond (.t 6) .skip step_of_p31)) (.cond (.t 6) (.reg step_of_p24) .skip))
abbrev step_of_p34 : List AG := [o 5 (.mv (.t 0))]
abbrev step_of_p35 : List AG := [o 4 (.build [.nilf, (.bool false)] []), o 3 (.alloc [.nilf, (.bool false)]), q (.store 2 (.t 3) (.t 4))]
abbrev step_of_p36 : List AG := [o 2 (.alloc [.nilf, (.bool false)])]
abbrev step_of : AFun := ⟨(.seq (.reg step_of_p36) (.seq (.reg step_of_p35) (.seq (.seq (.reg step_of_p34) (.block 0 [] step_of_p33)) (.seq (.seq (.reg step_of_p23) (.block 1 [] step_of_p22)) (.seq (.reg step_of_p0) .ret))))), 36, [.cell 2 true 2]⟩
@[simp] theorem c_step_of : cfun Tryd.prog n_step_of = some step_of := by kernel_rfl
@[simp] theorem e_step_of : hasBody Tryd.prog n_step_of = true := by kernel_rfl

/- step_Gate_1: patchbay/step.Gate$1 -/
abbrev step_Gate_1_p0 : List AG := [o 4 (.off 3 (.t 1)), o 5 (.load false 1 (.t 4)), o 6 (.mkFunc (.func n_step_Gate_1_1) [] [(.t 2)]), o 7 (.call (.f n_slices_ContainsFunc_string_string) [(.t 5), (.t 6)]), o 3 (.mv (.t 7))]
abbrev step_Gate_1_p1 : List AG := [o 2 (.box 1 (.t 0)), o 3 (.mv (.c (.bool false)))]
abbrev step_Gate_1 : AFun := ⟨(.seq (.reg step_Gate_1_p1) (.seq (.reg step_Gate_1_p0) .ret)), 8, [.tmp 3]⟩
@[simp] theorem c_step_Gate_1 : cfun Tryd.prog n_step_Gate_1 = some step_Gate_1 := by kernel_rfl
@[simp] theorem e_step_Gate_1 : hasBody Tryd.prog n_step_Gate_1 = true := by kernel_rfl

/- step_Gate_1_1: patchbay/step.Gate$1$1 -/
abbrev step_Gate_1_1_p0 : List AG := [o 4 (.mv (.t 0)), o 5 (.load false 1 (.t 1)), o 6 (.call (.f n_step_fits) [(.t 4), (.t 5)]), o 3 (.mv (.t 6))]
abbrev step_Gate_1_1_p1 : List AG := [o 3 (.mv (.c (.bool false)))]
abbrev step_Gate_1_1 : AFun := ⟨(.seq (.reg step_Gate_1_1_p1) (.seq (.reg step_Gate_1_1_p0) .ret)), 7, [.tmp 3]⟩
@[simp] theorem c_step_Gate_1_1 : cfun Tryd.prog n_step_Gate_1_1 = some step_Gate_1_1 := by kernel_rfl
@[simp] theorem e_step_Gate_1_1 : hasBody Tryd.prog n_step_Gate_1_1 = true := by kernel_rfl

/- step_fits: patchbay/step.fits -/
abbrev step_fits_p0 : List AG := [o 4 (.mv (.c (.bool true)))]
abbrev step_fits_m1 : List Bool := [I,O,O,O,O,O,O,I,I,I,O,O,O,O,O,O,O,O,O,O,O,O,O,O,O,O,O]
abbrev step_fits_x1 : List Bool := [O,O,O,O,O,O,O,O,O,O,O,O,O,O,O,O,O,O,O,O,O,O,O,O,O,O,O]
abbrev step_fits_p2 : List AG := [o 26 (.ibin .add (.t 9) (.c (.int .i64 1))), o 9 (.mv (.t 26))]
abbrev step_fits_p3 : List AG := [o 4 (.mv (.c (.bool false)))]
abbrev step_fits_p4 : ACode := (.seq (.reg step_fits_p3) .ret)
abbrev step_fits_p5 : List AG := [o 14 (.mv (.t 0)), o 15 (.mv (.t 5)), o 16 (.ixStr (.t 14) (.t 15)), o 17 (.cmp .neq (.sc .int) (.t 16) (.c (.int .u8 45))), o 18 (.mv (.t 17)), oy 19 18 (.mv (.t 0)), oy 20 18 (.mv (.t 5)), oy 21 18 (.ixStr (.t 19) (.t 20)), oy 22 18 (.cmp .eql (.sc .int) (.t 21) (.c (.int .u8 49))), oy 23 18 (.mv (.t 6)), oy 24 18 (.cmp .neq (.sc .bool) (.t 22) (.t 23)), o 25 (.pick (.t 18) (.t 24) (.c (.bool false)))]
abbrev step_fits_p6 : List AG := [o 11 (.mv (.t 9)), o 12 (.ixAddr 1 (.t 7) (.t 9)), o 13 (.load false 1 (.t 12)), o 5 (.mv (.t 11)), o 6 (.mv (.t 13))]
abbrev step_fits_p7 : ACode := (.seq (.reg step_fits_p6) (.seq (.reg step_fits_p5) (.cond (.t 25) step_fits_p4 .skip)))
abbrev step_fits_p8 : List AG := [o 10 (.cmp .lss (.sc .int) (.t 9) (.t 8))]
abbrev step_fits_b1 : ACode := (.seq (.reg step_fits_p8) (.seq (.cond (.t 10) .skip (.exit 0)) (.seq (.block 1 [] step_fits_p7) (.reg step_fits_p2))))
abbrev step_fits_p9 : List AG := [o 7 (.mv (.t 1)), o 8 (.len (.t 7)), o 9 (.mv (.c (.int .i64 0)))]
abbrev step_fits_p10 : List AG := [o 4 (.mv (.c (.bool false)))]
abbrev step_fits : AFun := ⟨(.seq (.reg step_fits_p10) (.seq (.seq (.reg step_fits_p9) (.block 0 step_fits_x1 (.loop step_fits_m1 step_fits_b1))) (.seq (.reg step_fits_p0) .ret))), 27, [.tmp 4]⟩
abbrev step_fits_k1 : List It := [.code (.seq (.reg step_fits_p0) .ret)]
abbrev step_fits_L1 (x0 x7 x8 x9 : AV) (h : List Ob) (e : Cx := cx) : Cfg := atC n_step_fits (.code step_fits_b1 :: .inLoop step_fits_m1 step_fits_b1 :: .inBlock 0 step_fits_x1 :: step_fits_k1) [x0,U,U,U,U,U,U,x7,x8,x9,U,U,U,U,U,U,U,U,U,U,U,U,U,U,U,U,U] h e
abbrev step_fits_E1 (h : List Ob) (e : Cx := cx) : Cfg := atC n_step_fits step_fits_k1 [U,U,U,U,U,U,U,U,U,U,U,U,U,U,U,U,U,U,U,U,U,U,U,U,U,U,U] h e
@[simp] theorem c_step_fits : cfun Tryd.prog n_step_fits = some step_fits := by kernel_rfl
@[simp] theorem e_step_fits : hasBody Tryd.prog n_step_fits = true := by kernel_rfl

/- strings_trimLeftByte: strings.trimLeftByte -/
@[simp] theorem e_strings_trimLeftByte : hasBody Tryd.prog n_strings_trimLeftByte = true := by kernel_rfl

/- strings_trimRightByte: strings.trimRightByte -/
@[simp] theorem e_strings_trimRightByte : hasBody Tryd.prog n_strings_trimRightByte = true := by kernel_rfl

/- strings_makeASCIISet: strings.makeASCIISet -/
@[simp] theorem e_strings_makeASCIISet : hasBody Tryd.prog n_strings_makeASCIISet = true := by kernel_rfl

/- strings_trimLeftASCII: strings.trimLeftASCII -/
@[simp] theorem e_strings_trimLeftASCII : hasBody Tryd.prog n_strings_trimLeftASCII = true := by kernel_rfl

/- strings_trimRightASCII: strings.trimRightASCII -/
@[simp] theorem e_strings_trimRightASCII : hasBody Tryd.prog n_strings_trimRightASCII = true := by kernel_rfl

/- strings_trimLeftUnicode: strings.trimLeftUnicode -/
@[simp] theorem e_strings_trimLeftUnicode : hasBody Tryd.prog n_strings_trimLeftUnicode = true := by kernel_rfl

/- strings_trimRightUnicode: strings.trimRightUnicode -/
@[simp] theorem e_strings_trimRightUnicode : hasBody Tryd.prog n_strings_trimRightUnicode = true := by kernel_rfl

/- slices_IndexFunc_string_string: slices.IndexFunc[[]string,string] -/
abbrev slices_IndexFunc_string_string_p0 : List AG := [o 4 (.mv (.c (.int .i64 (-1))))]
abbrev slices_IndexFunc_string_string_m1 : List Bool := [I,I,O,O,O,O,O,I,I,O,O,O,O,O,O,O,O,O,O]
abbrev slices_IndexFunc_string_string_x1 : List Bool := [O,O,O,O,O,O,O,O,O,O,O,O,O,O,O,O,O,O,O]
abbrev slices_IndexFunc_string_string_p2 : List AG := [o 18 (.ibin .add (.t 8) (.c (.int .i64 1))), o 8 (.mv (.t 18))]
abbrev slices_IndexFunc_string_string_p3 : List AG := [o 17 (.mv (.t 5)), o 4 (.mv (.t 17))]
abbrev slices_IndexFunc_string_string_p4 : ACode := (.seq (.reg slices_IndexFunc_string_string_p3) .ret)
abbrev slices_IndexFunc_string_string_p5 : List AG := [o 11 (.mv (.t 1)), o 12 (.mv (.t 0)), o 13 (.mv (.t 5)), o 14 (.ixAddr 1 (.t 12) (.t 13)), o 15 (.load false 1 (.t 14)), o 16 (.call (.t 11) [(.t 15)])]
abbrev slices_IndexFunc_string_string_p6 : List AG := [o 10 (.mv (.t 8)), o 5 (.mv (.t 10))]
abbrev slices_IndexFunc_string_string_p7 : ACode := (.seq (.reg slices_IndexFunc_string_string_p6) (.seq (.reg slices_IndexFunc_string_string_p5) (.cond (.t 16) slices_IndexFunc_string_string_p4 .skip)))
abbrev slices_IndexFunc_string_string_p8 : List AG := [o 9 (.cmp .lss (.sc .int) (.t 8) (.t 7))]
abbrev slices_IndexFunc_string_string_b1 : ACode := (.seq (.reg slices_IndexFunc_string_string_p8) (.seq (.cond (.t 9) .skip (.exit 0)) (.seq (.block 1 [] slices_IndexFunc_string_string_p7) (.reg slices_IndexFunc_string_string_p2))))
abbrev slices_IndexFunc_string_string_p9 : List AG := [o 6 (.mv (.t 0)), o 7 (.len (.t 6)), o 8 (.mv (.c (.int .i64 0)))]
abbrev slices_IndexFunc_string_string_p10 : List AG := [o 4 (.mv (.c (.int .i64 0)))]
abbrev slices_IndexFunc_string_string : AFun := ⟨(.seq (.reg slices_IndexFunc_string_string_p10) (.seq (.seq (.reg slices_IndexFunc_string_string_p9) (.block 0 slices_IndexFunc_string_string_x1 (.loop slices_IndexFunc_string_string_m1 slices_IndexFunc_string_string_b1))) (.seq (.reg slices_IndexFunc_string_string_p0) .ret))), 19, [.tmp 4]⟩
abbrev slices_IndexFunc_string_string_k1 : List It := [.code (.seq (.reg slices_IndexFunc_string_string_p0) .ret)]
abbrev slices_IndexFunc_string_string_L1 (x0 x1 x7 x8 : AV) (h : List Ob) (e : Cx := cx) : Cfg := atC n_slices_IndexFunc_string_string (.code slices_IndexFunc_string_string_b1 :: .inLoop slices_IndexFunc_string_string_m1 slices_IndexFunc_string_string_b1 :: .inBlock 0 slices_IndexFunc_string_string_x1 :: slices_IndexFunc_string_string_k1) [x0,x1,U,U,U,U,U,x7,x8,U,U,U,U,U,U,U,U,U,U] h e
abbrev slices_IndexFunc_string_string_E1 (h : List Ob) (e : Cx := cx) : Cfg := atC n_slices_IndexFunc_string_string slices_IndexFunc_string_string_k1 [U,U,U,U,U,U,U,U,U,U,U,U,U,U,U,U,U,U,U] h e
@[simp] theorem c_slices_IndexFunc_string_string : cfun Tryd.prog n_slices_IndexFunc_string_string = some slices_IndexFunc_string_string := by kernel_rfl
@[simp] theorem e_slices_IndexFunc_string_string : hasBody Tryd.prog n_slices_IndexFunc_string_string = true := by kernel_rfl

/- slices_Index_string_string: slices.Index[[]string,string] -/
abbrev slices_Index_string_string_p0 : List AG := [o 4 (.mv (.c (.int .i64 (-1))))]
abbrev slices_Index_string_string_m1 : List Bool := [I,I,O,O,O,O,O,I,I,O,O,O,O,O,O,O,O,O,O]
abbrev slices_Index_string_string_x1 : List Bool := [O,O,O,O,O,O,O,O,O,O,O,O,O,O,O,O,O,O,O]
abbrev slices_Index_string_string_p2 : List AG := [o 18 (.ibin .add (.t 8) (.c (.int .i64 1))), o 8 (.mv (.t 18))]
abbrev slices_Index_string_string_p3 : List AG := [o 17 (.mv (.t 5)), o 4 (.mv (.t 17))]
abbrev slices_Index_string_string_p4 : ACode := (.seq (.reg slices_Index_string_string_p3) .ret)
abbrev slices_Index_string_string_p5 : List AG := [o 11 (.mv (.t 1)), o 12 (.mv (.t 0)), o 13 (.mv (.t 5)), o 14 (.ixAddr 1 (.t 12) (.t 13)), o 15 (.load false 1 (.t 14)), o 16 (.cmp .eql (.sc .str) (.t 11) (.t 15))]
abbrev slices_Index_string_string_p6 : List AG := [o 10 (.mv (.t 8)), o 5 (.mv (.t 10))]
abbrev slices_Index_string_string_p7 : ACode := (.seq (.reg slices_Index_string_string_p6) (.seq (.reg slices_Index_string_string_p5) (.cond (.t 16) slices_Index_string_string_p4 .skip)))
abbrev slices_Index_string_string_p8 : List AG := [o 9 (.cmp .lss (.sc .int) (.t 8) (.t 7))]
abbrev slices_Index_string_string_b1 : ACode := (.seq (.reg slices_Index_string_string_p8) (.seq (.cond (.t 9) .skip (.exit 0)) (.seq (.block 1 [] slices_Index_string_string_p7) (.reg slices_Index_string_string_p2))))
abbrev slices_Index_string_string_p9 : List AG := [o 6 (.mv (.t 0)), o 7 (.len (.t 6)), o 8 (.mv (.c (.int .i64 0)))]
abbrev slices_Index_string_string_p10 : List AG := [o 4 (.mv (.c (.int .i64 0)))]
abbrev slices_Index_string_string : AFun := ⟨(.seq (.reg slices_Index_string_string_p10) (.seq (.seq (.reg slices_Index_string_string_p9) (.block 0 slices_Index_string_string_x1 (.loop slices_Index_string_string_m1 slices_Index_string_string_b1))) (.seq (.reg slices_Index_string_string_p0) .ret))), 19, [.tmp 4]⟩
abbrev slices_Index_string_string_k1 : List It := [.code (.seq (.reg slices_Index_string_string_p0) .ret)]
abbrev slices_Index_string_string_L1 (x0 x1 x7 x8 : AV) (h : List Ob) (e : Cx := cx) : Cfg := atC n_slices_Index_string_string (.code slices_Index_string_string_b1 :: .inLoop slices_Index_string_string_m1 slices_Index_string_string_b1 :: .inBlock 0 slices_Index_string_string_x1 :: slices_Index_string_string_k1) [x0,x1,U,U,U,U,U,x7,x8,U,U,U,U,U,U,U,U,U,U] h e
abbrev slices_Index_string_string_E1 (h : List Ob) (e : Cx := cx) : Cfg := atC n_slices_Index_string_string slices_Index_string_string_k1 [U,U,U,U,U,U,U,U,U,U,U,U,U,U,U,U,U,U,U] h e
@[simp] theorem c_slices_Index_string_string : cfun Tryd.prog n_slices_Index_string_string = some slices_Index_string_string := by kernel_rfl
@[simp] theorem e_slices_Index_string_string : hasBody Tryd.prog n_slices_Index_string_string = true := by kernel_rfl

/- cover_factor_1: patchbay/cover.factor$1 -/
abbrev cover_factor_1_p0 : List AG := [o 3 (.mv (.t 0)), o 4 (.call (.f n_strings_Trim) [(.t 3), (.c (.str [45]))]), o 5 (.cmp .eql (.sc .str) (.t 4) (.c (.str []))), o 2 (.mv (.t 5))]
abbrev cover_factor_1_p1 : List AG := [o 2 (.mv (.c (.bool false)))]
abbrev cover_factor_1 : AFun := ⟨(.seq (.reg cover_factor_1_p1) (.seq (.reg cover_factor_1_p0) .ret)), 6, [.tmp 2]⟩
@[simp] theorem c_cover_factor_1 : cfun Tryd.prog n_cover_factor_1 = some cover_factor_1 := by kernel_rfl
@[simp] theorem e_cover_factor_1 : hasBody Tryd.prog n_cover_factor_1 = true := by kernel_rfl

/- cover_literals: patchbay/cover.literals -/
abbrev cover_literals_p0 : List AG := [o 3 (.mkFunc (.func n_cover_literals_1) [] [(.t 1)]), o 2 (.mv (.t 3))]
abbrev cover_literals_p1 : List AG := [o 1 (.box 1 (.t 0)), o 2 (.mv (.c .nilf))]
abbrev cover_literals : AFun := ⟨(.seq (.reg cover_literals_p1) (.seq (.reg cover_literals_p0) .ret)), 4, [.tmp 2]⟩
@[simp] theorem c_cover_literals : cfun Tryd.prog n_cover_literals = some cover_literals := by kernel_rfl
@[simp] theorem e_cover_literals : hasBody Tryd.prog n_cover_literals = true := by kernel_rfl

/- cover_count: patchbay/cover.count -/
abbrev cover_count_p0 : List AG := [o 21 (.mv (.t 5)), o 4 (.mv (.t 21))]
abbrev cover_count_m1 : List Bool := [O,O,O,I,O,I,O,O,I,I,I,O,O,O,O,O,O,O,O,O,O,O]
abbrev cover_count_x1 : List Bool := [O,O,O,O,O,I,O,O,O,O,O,O,O,O,O,O,O,O,O,O,O,O]
abbrev cover_count_p2 : List AG := [o 20 (.ibin .add (.t 10) (.c (.int .i64 1))), o 10 (.mv (.t 20))]
abbrev cover_count_p3 : List AG := [o 18 (.mv (.t 5)), o 19 (.ibin .add (.t 18) (.c (.int .i64 1))), o 5 (.mv (.t 19))]
abbrev cover_count_p4 : List AG := [o 14 (.load true 2 (.t 3)), o 15 (.call (.f n_cover_has) [(.t 14)]), o 16 (.mv (.t 7)), o 17 (.call (.t 15) [(.t 16)])]
abbrev cover_count_p5 : List AG := [o 12 (.ixAddr 1 (.t 8) (.t 10)), o 13 (.load false 1 (.t 12)), o 7 (.mv (.t 13))]
abbrev cover_count_p6 : ACode := (.seq (.reg cover_count_p5) (.seq (.reg cover_count_p4) (.cond (.t 17) (.reg cover_count_p3) .skip)))
abbrev cover_count_p7 : List AG := [o 11 (.cmp .lss (.sc .int) (.t 10) (.t 9))]
abbrev cover_count_b1 : ACode := (.seq (.reg cover_count_p7) (.seq (.cond (.t 11) .skip (.exit 0)) (.seq (.block 1 [] cover_count_p6) (.reg cover_count_p2))))
abbrev cover_count_p8 : List AG := [o 8 (.mv (.t 0)), o 9 (.len (.t 8)), o 10 (.mv (.c (.int .i64 0)))]
abbrev cover_count_p9 : List AG := [o 5 (.mv (.c (.int .i64 0)))]
abbrev cover_count_p10 : List AG := [o 3 (.box 2 (.t 1)), o 4 (.mv (.c (.int .i64 0)))]
abbrev cover_count : AFun := ⟨(.seq (.reg cover_count_p10) (.seq (.reg cover_count_p9) (.seq (.seq (.reg cover_count_p8) (.block 0 cover_count_x1 (.loop cover_count_m1 cover_count_b1))) (.seq (.reg cover_count_p0) .ret)))), 22, [.tmp 4]⟩
abbrev cover_count_k1 : List It := [.code (.seq (.reg cover_count_p0) .ret)]
abbrev cover_count_L1 (x3 x5 x8 x9 x10 : AV) (h : List Ob) (e : Cx := cx) : Cfg := atC n_cover_count (.code cover_count_b1 :: .inLoop cover_count_m1 cover_count_b1 :: .inBlock 0 cover_count_x1 :: cover_count_k1) [U,U,U,x3,U,x5,U,U,x8,x9,x10,U,U,U,U,U,U,U,U,U,U,U] h e
abbrev cover_count_E1 (x5 : AV) (h : List Ob) (e : Cx := cx) : Cfg := atC n_cover_count cover_count_k1 [U,U,U,U,U,x5,U,U,U,U,U,U,U,U,U,U,U,U,U,U,U,U] h e
@[simp] theorem c_cover_count : cfun Tryd.prog n_cover_count = some cover_count := by kernel_rfl
@[simp] theorem e_cover_count : hasBody Tryd.prog n_cover_count = true := by kernel_rfl

/- cover_all: patchbay/cover.all -/
abbrev cover_all_p0 : List AG := [o 44 (.mv (.t 6)), o 45 (.mv (.t 1)), o 46 (.append 3 t_cover_Form_2 24 (.t 44) (.t 45)), o 4 (.mv (.t 46))]
abbrev cover_all_m1 : List Bool := [O,I,O,O,O,O,I,O,O,O,O,O,O,O,O,O,O,O,O,O,O,O,O,O,O,O,O,O,O,O,O,O,I,I,I,O,O,O,O,O,O,O,O,O,O,O,O]
abbrev cover_all_x1 : List Bool := [O,I,O,O,O,O,I,O,O,O,O,O,O,O,O,O,O,O,O,O,O,O,O,O,O,O,O,O,O,O,O,O,O,O,O,O,O,O,O,O,O,O,O,O,O,O,O]
abbrev cover_all_p2 : List AG := [o 43 (.ibin .add (.t 34) (.c (.int .i64 1))), o 34 (.mv (.t 43))]
abbrev cover_all_p3 : List AG := [o 38 (.mv (.t 6)), o 39 (.load true 2 (.t 8)), o 40 (.call (.f n_cover_literal_node) [(.t 39)]), o 41 (.lit 3 [(.agg [(.int .i64 0), (.int .i64 0), (.int .i64 0)])] [(0, (.t 40))]), o 42 (.append 3 t_cover_Form_2 24 (.t 38) (.t 41)), o 6 (.mv (.t 42))]
abbrev cover_all_p4 : List AG := [o 36 (.ixAddr 2 (.t 32) (.t 34)), o 37 (.load true 2 (.t 36)), o 8 (.alloc [(.int .i64 0), (.int .i64 0)]), q (.store 2 (.t 8) (.t 37))]
abbrev cover_all_p5 : ACode := (.seq (.reg cover_all_p4) (.reg cover_all_p3))
abbrev cover_all_p6 : List AG := [o 35 (.cmp .lss (.sc .int) (.t 34) (.t 33))]
abbrev cover_all_b1 : ACode := (.seq (.reg cover_all_p6) (.seq (.cond (.t 35) .skip (.exit 0)) (.seq (.block 1 [] cover_all_p5) (.reg cover_all_p2))))
abbrev cover_all_p7 : List AG := [o 32 (.mv (.t 0)), o 33 (.len (.t 32)), o 34 (.mv (.c (.int .i64 0)))]
abbrev cover_all_p8 : List AG := [o 27 (.mv (.t 6)), o 28 (.mv (.t 5)), o 29 (.build [(.int .i64 0), (.int .i64 0), (.int .i64 0)] [(0, 1, (.c (.int .i64 3))), (2, 1, (.t 28))]), o 30 (.lit 3 [(.agg [(.int .i64 0), (.int .i64 0), (.int .i64 0)])] [(0, (.t 29))]), o 31 (.append 3 t_cover_Form_2 24 (.t 27) (.t 30)), o 6 (.mv (.t 31))]
abbrev cover_all_p9 : List AG := [o 25 (.mv (.t 5)), o 26 (.cmp .gtr (.sc .int) (.t 25) (.c (.int .i64 1)))]
abbrev cover_all_p10 : List AG := [o 6 (.nilrow 3 t_cover_Form_2)]
abbrev cover_all_p11 : List AG := [o 19 (.mv (.t 0)), o 20 (.len (.t 19)), o 21 (.mv (.t 1)), o 22 (.len (.t 21)), o 23 (.min [(.t 22), (.c (.int .i64 1))]), o 24 (.ibin .add (.t 20) (.t 23)), o 5 (.mv (.t 24))]
abbrev cover_all_p12 : List AG := [o 1 (.nilrow 3 t_cover_Form_2)]
abbrev cover_all_p13 : List AG := [o 9 (.mv (.t 1)), o 10 (.len (.t 9)), o 11 (.cmp .eql (.sc .int) (.t 10) (.c (.int .i64 1))), o 12 (.mv (.t 11)), oy 13 12 (.mv (.t 1)), oy 14 12 (.ixAddr 3 (.t 13) (.c (.int .i64 0))), oy 15 12 (.off 0 (.t 14)), oy 16 12 (.load false 1 (.t 15)), oy 17 12 (.cmp .eql (.sc .int) (.t 16) (.c (.int .i64 1))), o 18 (.pick (.t 12) (.t 17) (.c (.bool false)))]
abbrev cover_all_p14 : List AG := [o 4 (.nilrow 3 t_cover_Form_2)]
abbrev cover_all : AFun := ⟨(.seq (.reg cover_all_p14) (.seq (.seq (.reg cover_all_p13) (.cond (.t 18) (.reg cover_all_p12) .skip)) (.seq (.reg cover_all_p11) (.seq (.reg cover_all_p10) (.seq (.seq (.reg cover_all_p9) (.cond (.t 26) (.reg cover_all_p8) .skip)) (.seq (.seq (.reg cover_all_p7) (.block 0 cover_all_x1 (.loop cover_all_m1 cover_all_b1))) (.seq (.reg cover_all_p0) .ret))))))), 47, [.tmp 4]⟩
abbrev cover_all_k1 : List It := [.code (.seq (.reg cover_all_p0) .ret)]
abbrev cover_all_L1 (x1 x6 x32 x33 x34 : AV) (h : List Ob) (e : Cx := cx) : Cfg := atC n_cover_all (.code cover_all_b1 :: .inLoop cover_all_m1 cover_all_b1 :: .inBlock 0 cover_all_x1 :: cover_all_k1) [U,x1,U,U,U,U,x6,U,U,U,U,U,U,U,U,U,U,U,U,U,U,U,U,U,U,U,U,U,U,U,U,U,x32,x33,x34,U,U,U,U,U,U,U,U,U,U,U,U] h e
abbrev cover_all_E1 (x1 x6 : AV) (h : List Ob) (e : Cx := cx) : Cfg := atC n_cover_all cover_all_k1 [U,x1,U,U,U,U,x6,U,U,U,U,U,U,U,U,U,U,U,U,U,U,U,U,U,U,U,U,U,U,U,U,U,U,U,U,U,U,U,U,U,U,U,U,U,U,U,U] h e
@[simp] theorem c_cover_all : cfun Tryd.prog n_cover_all = some cover_all := by kernel_rfl
@[simp] theorem e_cover_all : hasBody Tryd.prog n_cover_all = true := by kernel_rfl

/- cover_divide: patchbay/cover.divide -/
abbrev cover_divide_p0 : List AG := [o 36 (.mv (.t 5)), o 4 (.mv (.t 36))]
abbrev cover_divide_m1 : List Bool := [O,I,O,O,O,I,O,O,O,O,O,I,I,I,O,O,O,O,O,O,O,O,O,O,O,O,O,O,O,O,O,O,O,O,O,O,O]
abbrev cover_divide_x1 : List Bool := [O,O,O,O,O,I,O,O,O,O,O,O,O,O,O,O,O,O,O,O,O,O,O,O,O,O,O,O,O,O,O,O,O,O,O,O,O]
abbrev cover_divide_p2 : List AG := [o 35 (.ibin .add (.t 13) (.c (.int .i64 1))), o 13 (.mv (.t 35))]
abbrev cover_divide_p3 : List AG := [o 30 (.mv (.t 5)), o 31 (.mv (.t 8)), o 32 (.toStr (.t 31)), o 33 (.lit 1 [(.str [])] [(0, (.t 32))]), o 34 (.append 1 t_string 16 (.t 30) (.t 33)), o 5 (.mv (.t 34))]
abbrev cover_divide_m4 : List Bool := [O,I,O,O,O,I,O,O,I,O,O,I,I,I,O,O,O,O,O,I,I,I,O,O,O,O,O,O,O,O,O,O,O,O,O,O,O]
abbrev cover_divide_x4 : List Bool := [O,I,O,O,O,I,O,O,I,O,O,I,I,I,O,O,O,O,O,O,O,O,O,O,O,O,O,O,O,O,O,O,O,O,O,O,O]
abbrev cover_divide_p5 : List AG := [o 29 (.ibin .add (.t 21) (.c (.int .i64 1))), o 21 (.mv (.t 29))]
abbrev cover_divide_p6 : List AG := [o 25 (.mv (.t 8)), o 26 (.arrAddr 2 1 (.t 10) (.c (.int .i64 0))), o 27 (.load false 1 (.t 26)), o 28 (.ixAddr 1 (.t 25) (.t 27)), q (.store 1 (.t 28) (.c (.int .u8 45)))]
abbrev cover_divide_p7 : List AG := [o 23 (.ixAddr 2 (.t 19) (.t 21)), o 24 (.load true 2 (.t 23)), o 10 (.alloc [(.int .i64 0), (.int .i64 0)]), q (.store 2 (.t 10) (.t 24))]
abbrev cover_divide_p8 : ACode := (.seq (.reg cover_divide_p7) (.reg cover_divide_p6))
abbrev cover_divide_p9 : List AG := [o 22 (.cmp .lss (.sc .int) (.t 21) (.t 20))]
abbrev cover_divide_b4 : ACode := (.seq (.reg cover_divide_p9) (.seq (.cond (.t 22) .skip (.exit 2)) (.seq (.block 3 [] cover_divide_p8) (.reg cover_divide_p5))))
abbrev cover_divide_p10 : List AG := [o 19 (.mv (.t 1)), o 20 (.len (.t 19)), o 21 (.mv (.c (.int .i64 0)))]
abbrev cover_divide_p11 : List AG := [o 17 (.mv (.t 7)), o 18 (.toBytes t_uint8 (.t 17)), o 8 (.mv (.t 18))]
abbrev cover_divide_p12 : List AG := [o 15 (.ixAddr 1 (.t 11) (.t 13)), o 16 (.load false 1 (.t 15)), o 7 (.mv (.t 16))]
abbrev cover_divide_p13 : ACode := (.seq (.reg cover_divide_p12) (.seq (.reg cover_divide_p11) (.seq (.seq (.reg cover_divide_p10) (.block 2 cover_divide_x4 (.loop cover_divide_m4 cover_divide_b4))) (.reg cover_divide_p3))))
abbrev cover_divide_p14 : List AG := [o 14 (.cmp .lss (.sc .int) (.t 13) (.t 12))]
abbrev cover_divide_b1 : ACode := (.seq (.reg cover_divide_p14) (.seq (.cond (.t 14) .skip (.exit 0)) (.seq (.block 1 [] cover_divide_p13) (.reg cover_divide_p2))))
abbrev cover_divide_p15 : List AG := [o 11 (.mv (.t 0)), o 12 (.len (.t 11)), o 13 (.mv (.c (.int .i64 0)))]
abbrev cover_divide_p16 : List AG := [o 5 (.nilrow 1 t_string)]
abbrev cover_divide_p17 : List AG := [o 4 (.nilrow 1 t_string)]
abbrev cover_divide : AFun := ⟨(.seq (.reg cover_divide_p17) (.seq (.reg cover_divide_p16) (.seq (.seq (.reg cover_divide_p15) (.block 0 cover_divide_x1 (.loop cover_divide_m1 cover_divide_b1))) (.seq (.reg cover_divide_p0) .ret)))), 37, [.tmp 4]⟩
abbrev cover_divide_k4 : List It := [.code (.reg cover_divide_p3), .inBlock 1 [], .code (.reg cover_divide_p2), .inLoop cover_divide_m1 cover_divide_b1, .inBlock 0 cover_divide_x1, .code (.seq (.reg cover_divide_p0) .ret)]
abbrev cover_divide_L4 (x1 x5 x8 x11 x12 x13 x19 x20 x21 : AV) (h : List Ob) (e : Cx := cx) : Cfg := atC n_cover_divide (.code cover_divide_b4 :: .inLoop cover_divide_m4 cover_divide_b4 :: .inBlock 2 cover_divide_x4 :: cover_divide_k4) [U,x1,U,U,U,x5,U,U,x8,U,U,x11,x12,x13,U,U,U,U,U,x19,x20,x21,U,U,U,U,U,U,U,U,U,U,U,U,U,U,U] h e
abbrev cover_divide_E4 (x1 x5 x8 x11 x12 x13 : AV) (h : List Ob) (e : Cx := cx) : Cfg := atC n_cover_divide cover_divide_k4 [U,x1,U,U,U,x5,U,U,x8,U,U,x11,x12,x13,U,U,U,U,U,U,U,U,U,U,U,U,U,U,U,U,U,U,U,U,U,U,U] h e
abbrev cover_divide_k1 : List It := [.code (.seq (.reg cover_divide_p0) .ret)]
abbrev cover_divide_L1 (x1 x5 x11 x12 x13 : AV) (h : List Ob) (e : Cx := cx) : Cfg := atC n_cover_divide (.code cover_divide_b1 :: .inLoop cover_divide_m1 cover_divide_b1 :: .inBlock 0 cover_divide_x1 :: cover_divide_k1) [U,x1,U,U,U,x5,U,U,U,U,U,x11,x12,x13,U,U,U,U,U,U,U,U,U,U,U,U,U,U,U,U,U,U,U,U,U,U,U] h e
abbrev cover_divide_E1 (x5 : AV) (h : List Ob) (e : Cx := cx) : Cfg := atC n_cover_divide cover_divide_k1 [U,U,U,U,U,x5,U,U,U,U,U,U,U,U,U,U,U,U,U,U,U,U,U,U,U,U,U,U,U,U,U,U,U,U,U,U,U] h e
@[simp] theorem c_cover_divide : cfun Tryd.prog n_cover_divide = some cover_divide := by kernel_rfl
@[simp] theorem e_cover_divide : hasBody Tryd.prog n_cover_divide = true := by kernel_rfl

/- cover_most: patchbay/cover.most -/
abbrev cover_most_p0 : List AG := [o 36 (.load true 2 (.t 4)), o 37 (.mv (.t 5)), q (.store 2 (.t 2) (.t 36)), o 3 (.mv (.t 37))]
abbrev cover_most_m1 : List Bool := [I,O,I,O,I,I,O,O,O,O,O,O,O,O,O,I,I,O,O,O,O,O,O,O,O,O,O,O,O,O,O,O,O,O,O,O,O,O]
abbrev cover_most_x1 : List Bool := [O,O,I,O,I,I,O,O,O,O,O,O,O,O,O,O,O,O,O,O,O,O,O,O,O,O,O,O,O,O,O,O,O,O,O,O,O,O]
abbrev cover_most_p2 : List AG := [o 35 (.ibin .add (.t 16) (.c (.int .i64 1))), o 16 (.mv (.t 35))]
abbrev cover_most_m3 : List Bool := [I,O,I,O,I,I,I,O,O,O,O,O,O,O,O,I,I,O,O,I,O,O,O,O,O,O,O,O,O,O,O,O,O,O,O,O,O,O]
abbrev cover_most_x3 : List Bool := [I,O,I,O,I,I,O,O,O,O,O,O,O,O,O,I,I,O,O,O,O,O,O,O,O,O,O,O,O,O,O,O,O,O,O,O,O,O]
abbrev cover_most_p4 : List AG := [o 33 (.load true 2 (.t 9)), o 34 (.mv (.t 10)), q (.store 2 (.t 4) (.t 33)), o 5 (.mv (.t 34))]
abbrev cover_most_p5 : List AG := [o 30 (.mv (.t 10)), o 31 (.mv (.t 5)), o 32 (.cmp .gtr (.sc .int) (.t 30) (.t 31))]
abbrev cover_most_p6 : List AG := [o 27 (.mv (.t 0)), o 28 (.load true 2 (.t 9)), o 29 (.call (.f n_cover_count) [(.t 27), (.t 28)]), o 10 (.mv (.t 29))]
abbrev cover_most_p7 : List AG := [o 23 (.mv (.t 6)), o 24 (.mv (.t 8)), o 25 (.conv .i64 (.t 24)), o 26 (.build [(.int .i64 0), (.int .i64 0)] [(0, 1, (.t 23)), (1, 1, (.t 25))]), o 9 (.alloc [(.int .i64 0), (.int .i64 0)]), q (.store 2 (.t 9) (.t 26))]
abbrev cover_most_p8 : List AG := [o 22 (.extract (.t 20) 2), o 8 (.mv (.t 22))]
abbrev cover_most_p9 : ACode := (.seq (.reg cover_most_p8) (.seq (.reg cover_most_p7) (.seq (.reg cover_most_p6) (.seq (.reg cover_most_p5) (.cond (.t 32) (.reg cover_most_p4) .skip)))))
abbrev cover_most_p10 : List AG := [o 20 (.next (.t 19)), o 21 (.extract (.t 20) 0)]
abbrev cover_most_b3 : ACode := (.seq (.reg cover_most_p10) (.seq (.cond (.t 21) .skip (.exit 2)) (.block 3 [] cover_most_p9)))
abbrev cover_most_p11 : List AG := [o 19 (.range (.c (.str [49, 48])))]
abbrev cover_most_p12 : List AG := [o 18 (.mv (.t 16)), o 6 (.mv (.t 18))]
abbrev cover_most_p13 : ACode := (.seq (.reg cover_most_p12) (.seq (.reg cover_most_p11) (.block 2 cover_most_x3 (.loop cover_most_m3 cover_most_b3))))
abbrev cover_most_p14 : List AG := [o 17 (.cmp .lss (.sc .int) (.t 16) (.t 15))]
abbrev cover_most_b1 : ACode := (.seq (.reg cover_most_p14) (.seq (.cond (.t 17) .skip (.exit 0)) (.seq (.block 1 [] cover_most_p13) (.reg cover_most_p2))))
abbrev cover_most_p15 : List AG := [o 12 (.mv (.t 0)), o 13 (.ixAddr 1 (.t 12) (.c (.int .i64 0))), o 14 (.load false 1 (.t 13)), o 15 (.lenStr (.t 14)), o 16 (.mv (.c (.int .i64 0)))]
abbrev cover_most_p16 : List AG := [o 11 (.build [(.int .i64 0), (.int .i64 0)] []), o 4 (.alloc [(.int .i64 0), (.int .i64 0)]), q (.store 2 (.t 4) (.t 11)), o 5 (.mv (.c (.int .i64 0)))]
abbrev cover_most_p17 : List AG := [o 2 (.alloc [(.int .i64 0), (.int .i64 0)]), o 3 (.mv (.c (.int .i64 0)))]
abbrev cover_most : AFun := ⟨(.seq (.reg cover_most_p17) (.seq (.reg cover_most_p16) (.seq (.seq (.reg cover_most_p15) (.block 0 cover_most_x1 (.loop cover_most_m1 cover_most_b1))) (.seq (.reg cover_most_p0) .ret)))), 38, [.cell 2 true 2, .tmp 3]⟩
abbrev cover_most_k3 : List It := [.inBlock 1 [], .code (.reg cover_most_p2), .inLoop cover_most_m1 cover_most_b1, .inBlock 0 cover_most_x1, .code (.seq (.reg cover_most_p0) .ret)]
abbrev cover_most_L3 (x0 x2 x4 x5 x6 x15 x16 x19 : AV) (h : List Ob) (e : Cx := cx) : Cfg := atC n_cover_most (.code cover_most_b3 :: .inLoop cover_most_m3 cover_most_b3 :: .inBlock 2 cover_most_x3 :: cover_most_k3) [x0,U,x2,U,x4,x5,x6,U,U,U,U,U,U,U,U,x15,x16,U,U,x19,U,U,U,U,U,U,U,U,U,U,U,U,U,U,U,U,U,U] h e
abbrev cover_most_E3 (x0 x2 x4 x5 x15 x16 : AV) (h : List Ob) (e : Cx := cx) : Cfg := atC n_cover_most cover_most_k3 [x0,U,x2,U,x4,x5,U,U,U,U,U,U,U,U,U,x15,x16,U,U,U,U,U,U,U,U,U,U,U,U,U,U,U,U,U,U,U,U,U] h e
abbrev cover_most_k1 : List It := [.code (.seq (.reg cover_most_p0) .ret)]
abbrev cover_most_L1 (x0 x2 x4 x5 x15 x16 : AV) (h : List Ob) (e : Cx := cx) : Cfg := atC n_cover_most (.code cover_most_b1 :: .inLoop cover_most_m1 cover_most_b1 :: .inBlock 0 cover_most_x1 :: cover_most_k1) [x0,U,x2,U,x4,x5,U,U,U,U,U,U,U,U,U,x15,x16,U,U,U,U,U,U,U,U,U,U,U,U,U,U,U,U,U,U,U,U,U] h e
abbrev cover_most_E1 (x2 x4 x5 : AV) (h : List Ob) (e : Cx := cx) : Cfg := atC n_cover_most cover_most_k1 [U,U,x2,U,x4,x5,U,U,U,U,U,U,U,U,U,U,U,U,U,U,U,U,U,U,U,U,U,U,U,U,U,U,U,U,U,U,U,U] h e
@[simp] theorem c_cover_most : cfun Tryd.prog n_cover_most = some cover_most := by kernel_rfl
@[simp] theorem e_cover_most : hasBody Tryd.prog n_cover_most = true := by kernel_rfl

/- slices_Collect_cover_literal: slices.Collect[patchbay/cover.literal] -/
abbrev slices_Collect_cover_literal_p0 : List AG := [o 3 (.mv (.t 0)), o 4 (.call (.f n_slices_AppendSeq_cover_literal_cover_literal) [(.c (.list true 0 [])), (.t 3)]), o 2 (.mv (.t 4))]
abbrev slices_Collect_cover_literal_p1 : List AG := [o 2 (.nilrow 2 t_cover_literal_2)]
abbrev slices_Collect_cover_literal : AFun := ⟨(.seq (.reg slices_Collect_cover_literal_p1) (.seq (.reg slices_Collect_cover_literal_p0) .ret)), 5, [.tmp 2]⟩
@[simp] theorem c_slices_Collect_cover_literal : cfun Tryd.prog n_slices_Collect_cover_literal = some slices_Collect_cover_literal := by kernel_rfl
@[simp] theorem e_slices_Collect_cover_literal : hasBody Tryd.prog n_slices_Collect_cover_literal = true := by kernel_rfl

/- cover_has: patchbay/cover.has -/
abbrev cover_has_p0 : List AG := [o 3 (.mkFunc (.func n_cover_has_1) [] [(.t 1)]), o 2 (.mv (.t 3))]
abbrev cover_has_p1 : List AG := [o 1 (.box 2 (.t 0)), o 2 (.mv (.c .nilf))]
abbrev cover_has : AFun := ⟨(.seq (.reg cover_has_p1) (.seq (.reg cover_has_p0) .ret)), 4, [.tmp 2]⟩
@[simp] theorem c_cover_has : cfun Tryd.prog n_cover_has = some cover_has := by kernel_rfl
@[simp] theorem e_cover_has : hasBody Tryd.prog n_cover_has = true := by kernel_rfl

/- cover_factor_2: patchbay/cover.factor$2 -/
abbrev cover_factor_2_p0 : List AG := [o 4 (.load false 1 (.t 1)), o 5 (.mv (.t 0)), o 6 (.call (.t 4) [(.t 5)]), o 7 (.not (.t 6)), o 3 (.mv (.t 7))]
abbrev cover_factor_2_p1 : List AG := [o 3 (.mv (.c (.bool false)))]
abbrev cover_factor_2 : AFun := ⟨(.seq (.reg cover_factor_2_p1) (.seq (.reg cover_factor_2_p0) .ret)), 8, [.tmp 3]⟩
@[simp] theorem c_cover_factor_2 : cfun Tryd.prog n_cover_factor_2 = some cover_factor_2 := by kernel_rfl
@[simp] theorem e_cover_factor_2 : hasBody Tryd.prog n_cover_factor_2 = true := by kernel_rfl

/- slices_DeleteFunc_string_string: slices.DeleteFunc[[]string,string] -/
abbrev slices_DeleteFunc_string_string_p0 : List AG := [o 39 (.mv (.t 0)), o 40 (.mv (.t 5)), o 41 (.slice 1 (.t 39) none (some (.t 40))), o 4 (.mv (.t 41))]
abbrev slices_DeleteFunc_string_string_p1 : List AG := [o 36 (.mv (.t 0)), o 37 (.mv (.t 5)), o 38 (.slice 1 (.t 36) (some (.t 37)) none), q (.clear 1 (.str []) (.t 38))]
abbrev slices_DeleteFunc_string_string_m2 : List Bool := [I,I,O,O,O,I,I,O,O,O,O,O,O,O,O,O,O,O,O,O,O,O,O,O,O,O,O,O,O,O,O,O,O,O,O,O,O,O,O,O,O,O]
abbrev slices_DeleteFunc_string_string_x2 : List Bool := [I,O,O,O,O,I,O,O,O,O,O,O,O,O,O,O,O,O,O,O,O,O,O,O,O,O,O,O,O,O,O,O,O,O,O,O,O,O,O,O,O,O]
abbrev slices_DeleteFunc_string_string_p3 : List AG := [o 20 (.mv (.t 6)), o 21 (.ibin .add (.t 20) (.c (.int .i64 1))), o 6 (.mv (.t 21))]
abbrev slices_DeleteFunc_string_string_p4 : List AG := [o 34 (.mv (.t 5)), o 35 (.ibin .add (.t 34) (.c (.int .i64 1))), o 5 (.mv (.t 35))]
abbrev slices_DeleteFunc_string_string_p5 : List AG := [o 30 (.mv (.t 0)), o 31 (.mv (.t 5)), o 32 (.mv (.t 7)), o 33 (.ixAddr 1 (.t 30) (.t 31)), q (.store 1 (.t 33) (.t 32))]
abbrev slices_DeleteFunc_string_string_p6 : ACode := (.seq (.reg slices_DeleteFunc_string_string_p5) (.reg slices_DeleteFunc_string_string_p4))
abbrev slices_DeleteFunc_string_string_p7 : List AG := [o 26 (.mv (.t 1)), o 27 (.mv (.t 7)), o 28 (.call (.t 26) [(.t 27)]), o 29 (.not (.t 28))]
abbrev slices_DeleteFunc_string_string_p8 : List AG := [o 22 (.mv (.t 0)), o 23 (.mv (.t 6)), o 24 (.ixAddr 1 (.t 22) (.t 23)), o 25 (.load false 1 (.t 24)), o 7 (.mv (.t 25))]
abbrev slices_DeleteFunc_string_string_p9 : ACode := (.seq (.reg slices_DeleteFunc_string_string_p8) (.seq (.reg slices_DeleteFunc_string_string_p7) (.cond (.t 29) slices_DeleteFunc_string_string_p6 .skip)))
abbrev slices_DeleteFunc_string_string_p10 : List AG := [o 16 (.mv (.t 6)), o 17 (.mv (.t 0)), o 18 (.len (.t 17)), o 19 (.cmp .lss (.sc .int) (.t 16) (.t 18))]
abbrev slices_DeleteFunc_string_string_b2 : ACode := (.seq (.seq (.reg slices_DeleteFunc_string_string_p10) (.cond (.t 19) .skip (.exit 0))) (.seq (.block 1 [] slices_DeleteFunc_string_string_p9) (.reg slices_DeleteFunc_string_string_p3)))
abbrev slices_DeleteFunc_string_string_p11 : List AG := [o 14 (.mv (.t 5)), o 15 (.ibin .add (.t 14) (.c (.int .i64 1))), o 6 (.mv (.t 15))]
abbrev slices_DeleteFunc_string_string_p12 : List AG := [o 13 (.mv (.t 0)), o 4 (.mv (.t 13))]
abbrev slices_DeleteFunc_string_string_p13 : ACode := (.seq (.reg slices_DeleteFunc_string_string_p12) .ret)
abbrev slices_DeleteFunc_string_string_p14 : List AG := [o 11 (.mv (.t 5)), o 12 (.cmp .eql (.sc .int) (.t 11) (.c (.int .i64 (-1))))]
abbrev slices_DeleteFunc_string_string_p15 : List AG := [o 8 (.mv (.t 0)), o 9 (.mv (.t 1)), o 10 (.call (.f n_slices_IndexFunc_string_string) [(.t 8), (.t 9)]), o 5 (.mv (.t 10))]
abbrev slices_DeleteFunc_string_string_p16 : List AG := [o 4 (.nilrow 1 t_string)]
abbrev slices_DeleteFunc_string_string : AFun := ⟨(.seq (.reg slices_DeleteFunc_string_string_p16) (.seq (.reg slices_DeleteFunc_string_string_p15) (.seq (.seq (.reg slices_DeleteFunc_string_string_p14) (.cond (.t 12) slices_DeleteFunc_string_string_p13 .skip)) (.seq (.seq (.reg slices_DeleteFunc_string_string_p11) (.block 0 slices_DeleteFunc_string_string_x2 (.loop slices_DeleteFunc_string_string_m2 slices_DeleteFunc_string_string_b2))) (.seq (.reg slices_DeleteFunc_string_string_p1) (.seq (.reg slices_DeleteFunc_string_string_p0) .ret)))))), 42, [.tmp 4]⟩
abbrev slices_DeleteFunc_string_string_k2 : List It := [.code (.seq (.reg slices_DeleteFunc_string_string_p1) (.seq (.reg slices_DeleteFunc_string_string_p0) .ret))]
abbrev slices_DeleteFunc_string_string_L2 (x0 x1 x5 x6 : AV) (h : List Ob) (e : Cx := cx) : Cfg := atC n_slices_DeleteFunc_string_string (.code slices_DeleteFunc_string_string_b2 :: .inLoop slices_DeleteFunc_string_string_m2 slices_DeleteFunc_string_string_b2 :: .inBlock 0 slices_DeleteFunc_string_string_x2 :: slices_DeleteFunc_string_string_k2) [x0,x1,U,U,U,x5,x6,U,U,U,U,U,U,U,U,U,U,U,U,U,U,U,U,U,U,U,U,U,U,U,U,U,U,U,U,U,U,U,U,U,U,U] h e
abbrev slices_DeleteFunc_string_string_E2 (x0 x5 : AV) (h : List Ob) (e : Cx := cx) : Cfg := atC n_slices_DeleteFunc_string_string slices_DeleteFunc_string_string_k2 [x0,U,U,U,U,x5,U,U,U,U,U,U,U,U,U,U,U,U,U,U,U,U,U,U,U,U,U,U,U,U,U,U,U,U,U,U,U,U,U,U,U,U] h e
@[simp] theorem c_slices_DeleteFunc_string_string : cfun Tryd.prog n_slices_DeleteFunc_string_string = some slices_DeleteFunc_string_string := by kernel_rfl
@[simp] theorem e_slices_DeleteFunc_string_string : hasBody Tryd.prog n_slices_DeleteFunc_string_string = true := by kernel_rfl

/- slices_Clone_string_string: slices.Clone[[]string,string] -/
abbrev slices_Clone_string_string_p0 : List AG := [o 5 (.lit 1 [] []), o 6 (.mv (.t 0)), o 7 (.append 1 t_string 16 (.t 5) (.t 6)), o 2 (.mv (.t 7))]
abbrev slices_Clone_string_string_p1 : List AG := [o 2 (.nilrow 1 t_string)]
abbrev slices_Clone_string_string_p2 : ACode := (.seq (.reg slices_Clone_string_string_p1) .ret)
abbrev slices_Clone_string_string_p3 : List AG := [o 3 (.mv (.t 0)), o 4 (.isnil false (.t 3))]
abbrev slices_Clone_string_string_p4 : List AG := [o 2 (.nilrow 1 t_string)]
abbrev slices_Clone_string_string : AFun := ⟨(.seq (.reg slices_Clone_string_string_p4) (.seq (.seq (.reg slices_Clone_string_string_p3) (.cond (.t 4) slices_Clone_string_string_p2 .skip)) (.seq (.reg slices_Clone_string_string_p0) .ret))), 8, [.tmp 2]⟩
@[simp] theorem c_slices_Clone_string_string : cfun Tryd.prog n_slices_Clone_string_string = some slices_Clone_string_string := by kernel_rfl
@[simp] theorem e_slices_Clone_string_string : hasBody Tryd.prog n_slices_Clone_string_string = true := by kernel_rfl

/- slices_Concat_cover_Form_cover_Form: slices.Concat[[]patchbay/cover.Form,patchbay/cover.Form] -/
abbrev slices_Concat_cover_Form_cover_Form_p0 : List AG := [o 35 (.mv (.t 6)), o 2 (.mv (.t 35))]
abbrev slices_Concat_cover_Form_cover_Form_m1 : List Bool := [O,O,O,O,O,O,I,O,O,O,O,O,O,O,O,O,O,O,O,O,O,O,O,O,O,I,I,I,O,O,O,O,O,O,O,O]
abbrev slices_Concat_cover_Form_cover_Form_x1 : List Bool := [O,O,O,O,O,O,I,O,O,O,O,O,O,O,O,O,O,O,O,O,O,O,O,O,O,O,O,O,O,O,O,O,O,O,O,O]
abbrev slices_Concat_cover_Form_cover_Form_p2 : List AG := [o 34 (.ibin .add (.t 27) (.c (.int .i64 1))), o 27 (.mv (.t 34))]
abbrev slices_Concat_cover_Form_cover_Form_p3 : List AG := [o 31 (.mv (.t 6)), o 32 (.mv (.t 8)), o 33 (.append 3 t_cover_Form_2 24 (.t 31) (.t 32)), o 6 (.mv (.t 33))]
abbrev slices_Concat_cover_Form_cover_Form_p4 : List AG := [o 29 (.ixAddr 1 (.t 25) (.t 27)), o 30 (.load false 1 (.t 29)), o 8 (.mv (.t 30))]
abbrev slices_Concat_cover_Form_cover_Form_p5 : ACode := (.seq (.reg slices_Concat_cover_Form_cover_Form_p4) (.reg slices_Concat_cover_Form_cover_Form_p3))
abbrev slices_Concat_cover_Form_cover_Form_p6 : List AG := [o 28 (.cmp .lss (.sc .int) (.t 27) (.t 26))]
abbrev slices_Concat_cover_Form_cover_Form_b1 : ACode := (.seq (.reg slices_Concat_cover_Form_cover_Form_p6) (.seq (.cond (.t 28) .skip (.exit 2)) (.seq (.block 3 [] slices_Concat_cover_Form_cover_Form_p5) (.reg slices_Concat_cover_Form_cover_Form_p2))))
abbrev slices_Concat_cover_Form_cover_Form_p7 : List AG := [o 25 (.mv (.t 0)), o 26 (.len (.t 25)), o 27 (.mv (.c (.int .i64 0)))]
abbrev slices_Concat_cover_Form_cover_Form_p8 : List AG := [o 23 (.mv (.t 3)), o 24 (.call (.f n_slices_Grow_cover_Form_cover_Form) [(.c (.list true 0 [])), (.t 23)]), o 6 (.mv (.t 24))]
abbrev slices_Concat_cover_Form_cover_Form_m9 : List Bool := [I,O,O,I,O,O,O,O,O,I,I,I,O,O,O,O,O,O,O,O,O,O,O,O,O,O,O,O,O,O,O,O,O,O,O,O]
abbrev slices_Concat_cover_Form_cover_Form_x9 : List Bool := [I,O,O,I,O,O,O,O,O,O,O,O,O,O,O,O,O,O,O,O,O,O,O,O,O,O,O,O,O,O,O,O,O,O,O,O]
abbrev slices_Concat_cover_Form_cover_Form_p10 : List AG := [o 22 (.ibin .add (.t 11) (.c (.int .i64 1))), o 11 (.mv (.t 22))]
abbrev slices_Concat_cover_Form_cover_Form_p11 : List AG := [o 21 (.mkIface t_string (.c (.str [108, 101, 110, 32, 111, 117, 116, 32, 111, 102, 32, 114, 97, 110, 103, 101]))), q (.panic (.t 21))]
abbrev slices_Concat_cover_Form_cover_Form_p12 : List AG := [o 19 (.mv (.t 3)), o 20 (.cmp .lss (.sc .int) (.t 19) (.c (.int .i64 0)))]
abbrev slices_Concat_cover_Form_cover_Form_p13 : List AG := [o 15 (.mv (.t 3)), o 16 (.mv (.t 5)), o 17 (.len (.t 16)), o 18 (.ibin .add (.t 15) (.t 17)), o 3 (.mv (.t 18))]
abbrev slices_Concat_cover_Form_cover_Form_p14 : List AG := [o 13 (.ixAddr 1 (.t 9) (.t 11)), o 14 (.load false 1 (.t 13)), o 5 (.mv (.t 14))]
abbrev slices_Concat_cover_Form_cover_Form_p15 : ACode := (.seq (.reg slices_Concat_cover_Form_cover_Form_p14) (.seq (.reg slices_Concat_cover_Form_cover_Form_p13) (.seq (.reg slices_Concat_cover_Form_cover_Form_p12) (.cond (.t 20) (.reg slices_Concat_cover_Form_cover_Form_p11) .skip))))
abbrev slices_Concat_cover_Form_cover_Form_p16 : List AG := [o 12 (.cmp .lss (.sc .int) (.t 11) (.t 10))]
abbrev slices_Concat_cover_Form_cover_Form_b9 : ACode := (.seq (.reg slices_Concat_cover_Form_cover_Form_p16) (.seq (.cond (.t 12) .skip (.exit 0)) (.seq (.block 1 [] slices_Concat_cover_Form_cover_Form_p15) (.reg slices_Concat_cover_Form_cover_Form_p10))))
abbrev slices_Concat_cover_Form_cover_Form_p17 : List AG := [o 9 (.mv (.t 0)), o 10 (.len (.t 9)), o 11 (.mv (.c (.int .i64 0)))]
abbrev slices_Concat_cover_Form_cover_Form_p18 : List AG := [o 3 (.mv (.c (.int .i64 0)))]
abbrev slices_Concat_cover_Form_cover_Form_p19 : List AG := [o 2 (.nilrow 3 t_cover_Form_2)]
abbrev slices_Concat_cover_Form_cover_Form : AFun := ⟨(.seq (.reg slices_Concat_cover_Form_cover_Form_p19) (.seq (.reg slices_Concat_cover_Form_cover_Form_p18) (.seq (.seq (.reg slices_Concat_cover_Form_cover_Form_p17) (.block 0 slices_Concat_cover_Form_cover_Form_x9 (.loop slices_Concat_cover_Form_cover_Form_m9 slices_Concat_cover_Form_cover_Form_b9))) (.seq (.reg slices_Concat_cover_Form_cover_Form_p8) (.seq (.seq (.reg slices_Concat_cover_Form_cover_Form_p7) (.block 2 slices_Concat_cover_Form_cover_Form_x1 (.loop slices_Concat_cover_Form_cover_Form_m1 slices_Concat_cover_Form_cover_Form_b1))) (.seq (.reg slices_Concat_cover_Form_cover_Form_p0) .ret)))))), 36, [.tmp 2]⟩
abbrev slices_Concat_cover_Form_cover_Form_k1 : List It := [.code (.seq (.reg slices_Concat_cover_Form_cover_Form_p0) .ret)]
abbrev slices_Concat_cover_Form_cover_Form_L1 (x6 x25 x26 x27 : AV) (h : List Ob) (e : Cx := cx) : Cfg := atC n_slices_Concat_cover_Form_cover_Form (.code slices_Concat_cover_Form_cover_Form_b1 :: .inLoop slices_Concat_cover_Form_cover_Form_m1 slices_Concat_cover_Form_cover_Form_b1 :: .inBlock 2 slices_Concat_cover_Form_cover_Form_x1 :: slices_Concat_cover_Form_cover_Form_k1) [U,U,U,U,U,U,x6,U,U,U,U,U,U,U,U,U,U,U,U,U,U,U,U,U,U,x25,x26,x27,U,U,U,U,U,U,U,U] h e
abbrev slices_Concat_cover_Form_cover_Form_E1 (x6 : AV) (h : List Ob) (e : Cx := cx) : Cfg := atC n_slices_Concat_cover_Form_cover_Form slices_Concat_cover_Form_cover_Form_k1 [U,U,U,U,U,U,x6,U,U,U,U,U,U,U,U,U,U,U,U,U,U,U,U,U,U,U,U,U,U,U,U,U,U,U,U,U] h e
abbrev slices_Concat_cover_Form_cover_Form_k9 : List It := [.code (.seq (.reg slices_Concat_cover_Form_cover_Form_p8) (.seq (.seq (.reg slices_Concat_cover_Form_cover_Form_p7) (.block 2 slices_Concat_cover_Form_cover_Form_x1 (.loop slices_Concat_cover_Form_cover_Form_m1 slices_Concat_cover_Form_cover_Form_b1))) (.seq (.reg slices_Concat_cover_Form_cover_Form_p0) .ret)))]
abbrev slices_Concat_cover_Form_cover_Form_L9 (x0 x3 x9 x10 x11 : AV) (h : List Ob) (e : Cx := cx) : Cfg := atC n_slices_Concat_cover_Form_cover_Form (.code slices_Concat_cover_Form_cover_Form_b9 :: .inLoop slices_Concat_cover_Form_cover_Form_m9 slices_Concat_cover_Form_cover_Form_b9 :: .inBlock 0 slices_Concat_cover_Form_cover_Form_x9 :: slices_Concat_cover_Form_cover_Form_k9) [x0,U,U,x3,U,U,U,U,U,x9,x10,x11,U,U,U,U,U,U,U,U,U,U,U,U,U,U,U,U,U,U,U,U,U,U,U,U] h e
abbrev slices_Concat_cover_Form_cover_Form_E9 (x0 x3 : AV) (h : List Ob) (e : Cx := cx) : Cfg := atC n_slices_Concat_cover_Form_cover_Form slices_Concat_cover_Form_cover_Form_k9 [x0,U,U,x3,U,U,U,U,U,U,U,U,U,U,U,U,U,U,U,U,U,U,U,U,U,U,U,U,U,U,U,U,U,U,U,U] h e
@[simp] theorem c_slices_Concat_cover_Form_cover_Form : cfun Tryd.prog n_slices_Concat_cover_Form_cover_Form = some slices_Concat_cover_Form_cover_Form := by kernel_rfl
@[simp] theorem e_slices_Concat_cover_Form_cover_Form : hasBody Tryd.prog n_slices_Concat_cover_Form_cover_Form = true := by kernel_rfl

/- r10_free: patchbay/patchbayref10.free -/
abbrev r10_free_p0 : List AG := [o 2 (.mv (.c (.bool true)))]
abbrev r10_free_m1 : List Bool := [I,O,O,I,O,O,O,O,O,O,O,O,O,O]
abbrev r10_free_x1 : List Bool := [O,O,O,O,O,O,O,O,O,O,O,O,O,O]
abbrev r10_free_p2 : List AG := [o 8 (.mv (.t 3)), o 9 (.ibin .add (.t 8) (.c (.int .i64 1))), o 3 (.mv (.t 9))]
abbrev r10_free_p3 : List AG := [o 2 (.mv (.c (.bool false)))]
abbrev r10_free_p4 : ACode := (.seq (.reg r10_free_p3) .ret)
abbrev r10_free_p5 : List AG := [o 10 (.mv (.t 0)), o 11 (.mv (.t 3)), o 12 (.ixStr (.t 10) (.t 11)), o 13 (.cmp .neq (.sc .int) (.t 12) (.c (.int .u8 45)))]
abbrev r10_free_p6 : ACode := (.seq (.reg r10_free_p5) (.cond (.t 13) r10_free_p4 .skip))
abbrev r10_free_p7 : List AG := [o 4 (.mv (.t 3)), o 5 (.mv (.t 0)), o 6 (.lenStr (.t 5)), o 7 (.cmp .lss (.sc .int) (.t 4) (.t 6))]
abbrev r10_free_b1 : ACode := (.seq (.seq (.reg r10_free_p7) (.cond (.t 7) .skip (.exit 0))) (.seq (.block 1 [] r10_free_p6) (.reg r10_free_p2)))
abbrev r10_free_p8 : List AG := [o 3 (.mv (.c (.int .i64 0)))]
abbrev r10_free_p9 : List AG := [o 2 (.mv (.c (.bool false)))]
abbrev r10_free : AFun := ⟨(.seq (.reg r10_free_p9) (.seq (.seq (.reg r10_free_p8) (.block 0 r10_free_x1 (.loop r10_free_m1 r10_free_b1))) (.seq (.reg r10_free_p0) .ret))), 14, [.tmp 2]⟩
abbrev r10_free_k1 : List It := [.code (.seq (.reg r10_free_p0) .ret)]
abbrev r10_free_L1 (x0 x3 : AV) (h : List Ob) (e : Cx := cx) : Cfg := atC n_r10_free (.code r10_free_b1 :: .inLoop r10_free_m1 r10_free_b1 :: .inBlock 0 r10_free_x1 :: r10_free_k1) [x0,U,U,x3,U,U,U,U,U,U,U,U,U,U] h e
abbrev r10_free_E1 (h : List Ob) (e : Cx := cx) : Cfg := atC n_r10_free r10_free_k1 [U,U,U,U,U,U,U,U,U,U,U,U,U,U] h e
@[simp] theorem c_r10_free : cfun Tryd.prog n_r10_free = some r10_free := by kernel_rfl
@[simp] theorem e_r10_free : hasBody Tryd.prog n_r10_free = true := by kernel_rfl

/- r10_common: patchbay/patchbayref10.common -/
abbrev r10_common_p0 : List AG := [o 42 (.mv (.t 3)), o 2 (.mv (.t 42))]
abbrev r10_common_m1 : List Bool := [I,O,O,I,I,O,O,O,O,O,O,O,O,O,O,O,O,O,O,O,O,O,O,O,O,O,O,O,O,O,O,O,O,O,O,O,O,O,O,O,O,O,O]
abbrev r10_common_x1 : List Bool := [O,O,O,I,O,O,O,O,O,O,O,O,O,O,O,O,O,O,O,O,O,O,O,O,O,O,O,O,O,O,O,O,O,O,O,O,O,O,O,O,O,O,O]
abbrev r10_common_p2 : List AG := [o 14 (.mv (.t 4)), o 15 (.ibin .add (.t 14) (.c (.int .i64 1))), o 4 (.mv (.t 15))]
abbrev r10_common_p3 : List AG := [o 41 (.mv (.t 5)), o 3 (.mv (.t 41))]
abbrev r10_common_m4 : List Bool := [I,O,O,I,I,I,I,O,O,O,O,O,O,O,O,O,O,O,O,O,O,O,O,O,O,O,O,O,O,O,O,O,O,O,O,O,O,O,O,O,O,O,O]
abbrev r10_common_x4 : List Bool := [I,O,O,O,I,I,O,O,O,O,O,O,O,O,O,O,O,O,O,O,O,O,O,O,O,O,O,O,O,O,O,O,O,O,O,O,O,O,O,O,O,O,O]
abbrev r10_common_p5 : List AG := [o 20 (.mv (.t 6)), o 21 (.ibin .add (.t 20) (.c (.int .i64 1))), o 6 (.mv (.t 21))]
abbrev r10_common_p6 : List AG := [o 32 (.mv (.t 5)), o 33 (.mv (.t 3)), o 34 (.mv (.t 6)), o 35 (.mv (.t 6)), o 36 (.ibin .add (.t 35) (.c (.int .i64 1))), o 37 (.sliceStr (.t 33) (some (.t 34)) (some (.t 36))), o 38 (.concat (.t 32) (.t 37)), o 5 (.mv (.t 38))]
abbrev r10_common_p7 : List AG := [o 39 (.mv (.t 5)), o 40 (.concat (.t 39) (.c (.str [45]))), o 5 (.mv (.t 40))]
abbrev r10_common_p8 : List AG := [o 22 (.mv (.t 3)), o 23 (.mv (.t 6)), o 24 (.ixStr (.t 22) (.t 23)), o 25 (.mv (.t 0)), o 26 (.mv (.t 4)), o 27 (.ixAddr 1 (.t 25) (.t 26)), o 28 (.load false 1 (.t 27)), o 29 (.mv (.t 6)), o 30 (.ixStr (.t 28) (.t 29)), o 31 (.cmp .eql (.sc .int) (.t 24) (.t 30))]
abbrev r10_common_p9 : ACode := (.seq (.dreg [O,O,O,O,O,O,O,O,O,O] [11,11,11,11,11,11,11,11,11,11] r10_common_p8) (.cond (.t 31) (.reg r10_common_p6) (.reg r10_common_p7)))
abbrev r10_common_p10 : List AG := [o 16 (.mv (.t 6)), o 17 (.mv (.t 3)), o 18 (.lenStr (.t 17)), o 19 (.cmp .lss (.sc .int) (.t 16) (.t 18))]
abbrev r10_common_b4 : ACode := (.seq (.seq (.reg r10_common_p10) (.cond (.t 19) .skip (.exit 2))) (.seq (.block 3 [] r10_common_p9) (.reg r10_common_p5)))
abbrev r10_common_p11 : List AG := [o 6 (.mv (.c (.int .i64 0)))]
abbrev r10_common_p12 : List AG := [o 5 (.mv (.c (.str [])))]
abbrev r10_common_p13 : ACode := (.seq (.reg r10_common_p12) (.seq (.seq (.reg r10_common_p11) (.block 2 r10_common_x4 (.loop r10_common_m4 r10_common_b4))) (.reg r10_common_p3)))
abbrev r10_common_p14 : List AG := [o 10 (.mv (.t 4)), o 11 (.mv (.t 0)), o 12 (.len (.t 11)), o 13 (.cmp .lss (.sc .int) (.t 10) (.t 12))]
abbrev r10_common_b1 : ACode := (.seq (.seq (.reg r10_common_p14) (.cond (.t 13) .skip (.exit 0))) (.seq (.block 1 [] r10_common_p13) (.reg r10_common_p2)))
abbrev r10_common_p15 : List AG := [o 4 (.mv (.c (.int .i64 1)))]
abbrev r10_common_p16 : List AG := [o 7 (.mv (.t 0)), o 8 (.ixAddr 1 (.t 7) (.c (.int .i64 0))), o 9 (.load false 1 (.t 8)), o 3 (.mv (.t 9))]
abbrev r10_common_p17 : List AG := [o 2 (.mv (.c (.str [])))]
abbrev r10_common : AFun := ⟨(.seq (.reg r10_common_p17) (.seq (.reg r10_common_p16) (.seq (.seq (.reg r10_common_p15) (.block 0 r10_common_x1 (.loop r10_common_m1 r10_common_b1))) (.seq (.reg r10_common_p0) .ret)))), 43, [.tmp 2]⟩
abbrev r10_common_k4 : List It := [.code (.reg r10_common_p3), .inBlock 1 [], .code (.reg r10_common_p2), .inLoop r10_common_m1 r10_common_b1, .inBlock 0 r10_common_x1, .code (.seq (.reg r10_common_p0) .ret)]
abbrev r10_common_L4 (x0 x3 x4 x5 x6 : AV) (h : List Ob) (e : Cx := cx) : Cfg := atC n_r10_common (.code r10_common_b4 :: .inLoop r10_common_m4 r10_common_b4 :: .inBlock 2 r10_common_x4 :: r10_common_k4) [x0,U,U,x3,x4,x5,x6,U,U,U,U,U,U,U,U,U,U,U,U,U,U,U,U,U,U,U,U,U,U,U,U,U,U,U,U,U,U,U,U,U,U,U,U] h e
abbrev r10_common_E4 (x0 x4 x5 : AV) (h : List Ob) (e : Cx := cx) : Cfg := atC n_r10_common r10_common_k4 [x0,U,U,U,x4,x5,U,U,U,U,U,U,U,U,U,U,U,U,U,U,U,U,U,U,U,U,U,U,U,U,U,U,U,U,U,U,U,U,U,U,U,U,U] h e
abbrev r10_common_k1 : List It := [.code (.seq (.reg r10_common_p0) .ret)]
abbrev r10_common_L1 (x0 x3 x4 : AV) (h : List Ob) (e : Cx := cx) : Cfg := atC n_r10_common (.code r10_common_b1 :: .inLoop r10_common_m1 r10_common_b1 :: .inBlock 0 r10_common_x1 :: r10_common_k1) [x0,U,U,x3,x4,U,U,U,U,U,U,U,U,U,U,U,U,U,U,U,U,U,U,U,U,U,U,U,U,U,U,U,U,U,U,U,U,U,U,U,U,U,U] h e
abbrev r10_common_E1 (x3 : AV) (h : List Ob) (e : Cx := cx) : Cfg := atC n_r10_common r10_common_k1 [U,U,U,x3,U,U,U,U,U,U,U,U,U,U,U,U,U,U,U,U,U,U,U,U,U,U,U,U,U,U,U,U,U,U,U,U,U,U,U,U,U,U,U] h e
@[simp] theorem c_r10_common : cfun Tryd.prog n_r10_common = some r10_common := by kernel_rfl
@[simp] theorem e_r10_common : hasBody Tryd.prog n_r10_common = true := by kernel_rfl

/- r10_and: patchbay/patchbayref10.and -/
abbrev r10_and_p0 : List AG := [o 30 (.mv (.t 5)), o 4 (.mv (.t 30))]
abbrev r10_and_p1 : List AG := [o 27 (.mv (.t 5)), o 28 (.mv (.t 1)), o 29 (.append 3 t_r10_Form_2 24 (.t 27) (.t 28)), o 5 (.mv (.t 29))]
abbrev r10_and_p2 : List AG := [o 24 (.mv (.t 1)), o 25 (.call (.f n_r10_truth) [(.t 24)]), o 26 (.not (.t 25))]
abbrev r10_and_p3 : List AG := [o 21 (.mv (.t 5)), o 22 (.mv (.t 0)), o 23 (.append 3 t_r10_Form_2 24 (.t 21) (.t 22)), o 5 (.mv (.t 23))]
abbrev r10_and_p4 : List AG := [o 16 (.mv (.t 5)), o 17 (.mv (.t 6)), o 18 (.build [(.int .i64 0), (.int .i64 0), (.int .i64 0)] [(0, 1, (.c (.int .i64 3))), (2, 1, (.t 17))]), o 19 (.lit 3 [(.agg [(.int .i64 0), (.int .i64 0), (.int .i64 0)])] [(0, (.t 18))]), o 20 (.append 3 t_r10_Form_2 24 (.t 16) (.t 19)), o 5 (.mv (.t 20))]
abbrev r10_and_p5 : List AG := [o 14 (.mv (.t 6)), o 15 (.cmp .gtr (.sc .int) (.t 14) (.c (.int .i64 1)))]
abbrev r10_and_p6 : List AG := [o 12 (.mv (.t 6)), o 13 (.ibin .add (.t 12) (.c (.int .i64 1))), o 6 (.mv (.t 13))]
abbrev r10_and_p7 : List AG := [o 9 (.mv (.t 1)), o 10 (.call (.f n_r10_truth) [(.t 9)]), o 11 (.not (.t 10))]
abbrev r10_and_p8 : List AG := [o 7 (.mv (.t 0)), o 8 (.len (.t 7)), o 6 (.mv (.t 8))]
abbrev r10_and_p9 : List AG := [o 5 (.nilrow 3 t_r10_Form_2)]
abbrev r10_and_p10 : List AG := [o 4 (.nilrow 3 t_r10_Form_2)]
abbrev r10_and : AFun := ⟨(.seq (.reg r10_and_p10) (.seq (.reg r10_and_p9) (.seq (.reg r10_and_p8) (.seq (.seq (.reg r10_and_p7) (.cond (.t 11) (.reg r10_and_p6) .skip)) (.seq (.seq (.reg r10_and_p5) (.cond (.t 15) (.reg r10_and_p4) .skip)) (.seq (.reg r10_and_p3) (.seq (.seq (.reg r10_and_p2) (.cond (.t 26) (.reg r10_and_p1) .skip)) (.seq (.reg r10_and_p0) .ret)))))))), 31, [.tmp 4]⟩
@[simp] theorem c_r10_and : cfun Tryd.prog n_r10_and = some r10_and := by kernel_rfl
@[simp] theorem e_r10_and : hasBody Tryd.prog n_r10_and = true := by kernel_rfl

/- r10_lits: patchbay/patchbayref10.lits -/
abbrev r10_lits_p0 : List AG := [o 32 (.mv (.t 3)), o 2 (.mv (.t 32))]
abbrev r10_lits_m1 : List Bool := [I,O,O,I,I,O,O,O,O,O,O,O,O,O,O,O,O,O,O,O,O,O,O,O,O,O,O,O,O,O,O,O,O]
abbrev r10_lits_x1 : List Bool := [O,O,O,I,O,O,O,O,O,O,O,O,O,O,O,O,O,O,O,O,O,O,O,O,O,O,O,O,O,O,O,O,O]
abbrev r10_lits_p2 : List AG := [o 9 (.mv (.t 4)), o 10 (.ibin .add (.t 9) (.c (.int .i64 1))), o 4 (.mv (.t 10))]
abbrev r10_lits_p3 : List AG := [o 25 (.mv (.t 3)), o 26 (.mv (.t 4)), o 27 (.ibin .mul (.c (.int .i64 2)) (.t 26)), o 28 (.ibin .add (.t 27) (.c (.int .i64 1))), o 29 (.build [(.int .i64 0), (.int .i64 0), (.int .i64 0)] [(0, 1, (.c (.int .i64 2))), (1, 1, (.t 28))]), o 30 (.lit 3 [(.agg [(.int .i64 0), (.int .i64 0), (.int .i64 0)])] [(0, (.t 29))]), o 31 (.append 3 t_r10_Form_2 24 (.t 25) (.t 30)), o 3 (.mv (.t 31))]
abbrev r10_lits_p4 : List AG := [o 21 (.mv (.t 0)), o 22 (.mv (.t 4)), o 23 (.ixStr (.t 21) (.t 22)), o 24 (.cmp .eql (.sc .int) (.t 23) (.c (.int .u8 48)))]
abbrev r10_lits_p5 : List AG := [o 15 (.mv (.t 3)), o 16 (.mv (.t 4)), o 17 (.ibin .mul (.c (.int .i64 2)) (.t 16)), o 18 (.build [(.int .i64 0), (.int .i64 0), (.int .i64 0)] [(0, 1, (.c (.int .i64 2))), (1, 1, (.t 17))]), o 19 (.lit 3 [(.agg [(.int .i64 0), (.int .i64 0), (.int .i64 0)])] [(0, (.t 18))]), o 20 (.append 3 t_r10_Form_2 24 (.t 15) (.t 19)), o 3 (.mv (.t 20))]
abbrev r10_lits_p6 : List AG := [o 11 (.mv (.t 0)), o 12 (.mv (.t 4)), o 13 (.ixStr (.t 11) (.t 12)), o 14 (.cmp .eql (.sc .int) (.t 13) (.c (.int .u8 49)))]
abbrev r10_lits_p7 : ACode := (.seq (.seq (.reg r10_lits_p6) (.cond (.t 14) (.reg r10_lits_p5) .skip)) (.seq (.reg r10_lits_p4) (.cond (.t 24) (.reg r10_lits_p3) .skip)))
abbrev r10_lits_p8 : List AG := [o 5 (.mv (.t 4)), o 6 (.mv (.t 0)), o 7 (.lenStr (.t 6)), o 8 (.cmp .lss (.sc .int) (.t 5) (.t 7))]
abbrev r10_lits_b1 : ACode := (.seq (.seq (.reg r10_lits_p8) (.cond (.t 8) .skip (.exit 0))) (.seq (.block 1 [] r10_lits_p7) (.reg r10_lits_p2)))
abbrev r10_lits_p9 : List AG := [o 4 (.mv (.c (.int .i64 0)))]
abbrev r10_lits_p10 : List AG := [o 3 (.nilrow 3 t_r10_Form_2)]
abbrev r10_lits_p11 : List AG := [o 2 (.nilrow 3 t_r10_Form_2)]
abbrev r10_lits : AFun := ⟨(.seq (.reg r10_lits_p11) (.seq (.reg r10_lits_p10) (.seq (.seq (.reg r10_lits_p9) (.block 0 r10_lits_x1 (.loop r10_lits_m1 r10_lits_b1))) (.seq (.reg r10_lits_p0) .ret)))), 33, [.tmp 2]⟩
abbrev r10_lits_k1 : List It := [.code (.seq (.reg r10_lits_p0) .ret)]
abbrev r10_lits_L1 (x0 x3 x4 : AV) (h : List Ob) (e : Cx := cx) : Cfg := atC n_r10_lits (.code r10_lits_b1 :: .inLoop r10_lits_m1 r10_lits_b1 :: .inBlock 0 r10_lits_x1 :: r10_lits_k1) [x0,U,U,x3,x4,U,U,U,U,U,U,U,U,U,U,U,U,U,U,U,U,U,U,U,U,U,U,U,U,U,U,U,U] h e
abbrev r10_lits_E1 (x3 : AV) (h : List Ob) (e : Cx := cx) : Cfg := atC n_r10_lits r10_lits_k1 [U,U,U,x3,U,U,U,U,U,U,U,U,U,U,U,U,U,U,U,U,U,U,U,U,U,U,U,U,U,U,U,U,U] h e
@[simp] theorem c_r10_lits : cfun Tryd.prog n_r10_lits = some r10_lits := by kernel_rfl
@[simp] theorem e_r10_lits : hasBody Tryd.prog n_r10_lits = true := by kernel_rfl

/- r10_divided: patchbay/patchbayref10.divided -/
abbrev r10_divided_p0 : List AG := [o 22 (.mv (.t 5)), o 4 (.mv (.t 22))]
abbrev r10_divided_m1 : List Bool := [I,I,O,O,O,I,I,O,O,O,O,O,O,O,O,O,O,O,O,O,O,O,O]
abbrev r10_divided_x1 : List Bool := [O,O,O,O,O,I,O,O,O,O,O,O,O,O,O,O,O,O,O,O,O,O,O]
abbrev r10_divided_p2 : List AG := [o 11 (.mv (.t 6)), o 12 (.ibin .add (.t 11) (.c (.int .i64 1))), o 6 (.mv (.t 12))]
abbrev r10_divided_p3 : List AG := [o 13 (.mv (.t 5)), o 14 (.mv (.t 0)), o 15 (.mv (.t 6)), o 16 (.ixAddr 1 (.t 14) (.t 15)), o 17 (.load false 1 (.t 16)), o 18 (.mv (.t 1)), o 19 (.call (.f n_r10_without) [(.t 17), (.t 18)]), o 20 (.lit 1 [(.str [])] [(0, (.t 19))]), o 21 (.append 1 t_string 16 (.t 13) (.t 20)), o 5 (.mv (.t 21))]
abbrev r10_divided_p4 : List AG := [o 7 (.mv (.t 6)), o 8 (.mv (.t 0)), o 9 (.len (.t 8)), o 10 (.cmp .lss (.sc .int) (.t 7) (.t 9))]
abbrev r10_divided_b1 : ACode := (.seq (.seq (.reg r10_divided_p4) (.cond (.t 10) .skip (.exit 0))) (.seq (.block 1 [] (.reg r10_divided_p3)) (.reg r10_divided_p2)))
abbrev r10_divided_p5 : List AG := [o 6 (.mv (.c (.int .i64 0)))]
abbrev r10_divided_p6 : List AG := [o 5 (.nilrow 1 t_string)]
abbrev r10_divided_p7 : List AG := [o 4 (.nilrow 1 t_string)]
abbrev r10_divided : AFun := ⟨(.seq (.reg r10_divided_p7) (.seq (.reg r10_divided_p6) (.seq (.seq (.reg r10_divided_p5) (.block 0 r10_divided_x1 (.loop r10_divided_m1 r10_divided_b1))) (.seq (.reg r10_divided_p0) .ret)))), 23, [.tmp 4]⟩
abbrev r10_divided_k1 : List It := [.code (.seq (.reg r10_divided_p0) .ret)]
abbrev r10_divided_L1 (x0 x1 x5 x6 : AV) (h : List Ob) (e : Cx := cx) : Cfg := atC n_r10_divided (.code r10_divided_b1 :: .inLoop r10_divided_m1 r10_divided_b1 :: .inBlock 0 r10_divided_x1 :: r10_divided_k1) [x0,x1,U,U,U,x5,x6,U,U,U,U,U,U,U,U,U,U,U,U,U,U,U,U] h e
abbrev r10_divided_E1 (x5 : AV) (h : List Ob) (e : Cx := cx) : Cfg := atC n_r10_divided r10_divided_k1 [U,U,U,U,U,x5,U,U,U,U,U,U,U,U,U,U,U,U,U,U,U,U,U] h e
@[simp] theorem c_r10_divided : cfun Tryd.prog n_r10_divided = some r10_divided := by kernel_rfl
@[simp] theorem e_r10_divided : hasBody Tryd.prog n_r10_divided = true := by kernel_rfl

/- r10_most: patchbay/patchbayref10.most -/
abbrev r10_most_p0 : List AG := [o 41 (.mv (.t 4)), o 2 (.mv (.t 41))]
abbrev r10_most_m1 : List Bool := [I,O,O,I,I,I,O,O,O,O,O,O,O,O,O,O,O,O,O,O,O,O,O,O,O,O,O,O,O,O,O,O,O,O,O,O,O,O,O,O,O,O]
abbrev r10_most_x1 : List Bool := [O,O,O,O,I,O,O,O,O,O,O,O,O,O,O,O,O,O,O,O,O,O,O,O,O,O,O,O,O,O,O,O,O,O,O,O,O,O,O,O,O,O]
abbrev r10_most_p2 : List AG := [o 17 (.mv (.t 5)), o 18 (.ibin .add (.t 17) (.c (.int .i64 1))), o 5 (.mv (.t 18))]
abbrev r10_most_p3 : List AG := [o 40 (.mv (.t 7)), o 4 (.mv (.t 40))]
abbrev r10_most_p4 : List AG := [o 33 (.mv (.t 0)), o 34 (.mv (.t 7)), o 35 (.call (.f n_r10_many) [(.t 33), (.t 34)]), o 36 (.mv (.t 0)), o 37 (.mv (.t 4)), o 38 (.call (.f n_r10_many) [(.t 36), (.t 37)]), o 39 (.cmp .gtr (.sc .int) (.t 35) (.t 38))]
abbrev r10_most_p5 : List AG := [o 32 (.mv (.t 6)), o 4 (.mv (.t 32))]
abbrev r10_most_p6 : List AG := [o 25 (.mv (.t 0)), o 26 (.mv (.t 6)), o 27 (.call (.f n_r10_many) [(.t 25), (.t 26)]), o 28 (.mv (.t 0)), o 29 (.mv (.t 4)), o 30 (.call (.f n_r10_many) [(.t 28), (.t 29)]), o 31 (.cmp .gtr (.sc .int) (.t 27) (.t 30))]
abbrev r10_most_p7 : List AG := [o 22 (.mv (.t 3)), o 23 (.mv (.t 5)), o 24 (.call (.f n_r10_single) [(.t 22), (.t 23), (.c (.str [48]))]), o 7 (.mv (.t 24))]
abbrev r10_most_p8 : List AG := [o 19 (.mv (.t 3)), o 20 (.mv (.t 5)), o 21 (.call (.f n_r10_single) [(.t 19), (.t 20), (.c (.str [49]))]), o 6 (.mv (.t 21))]
abbrev r10_most_p9 : ACode := (.seq (.reg r10_most_p8) (.seq (.reg r10_most_p7) (.seq (.seq (.reg r10_most_p6) (.cond (.t 31) (.reg r10_most_p5) .skip)) (.seq (.reg r10_most_p4) (.cond (.t 39) (.reg r10_most_p3) .skip)))))
abbrev r10_most_p10 : List AG := [o 14 (.mv (.t 5)), o 15 (.mv (.t 3)), o 16 (.cmp .lss (.sc .int) (.t 14) (.t 15))]
abbrev r10_most_b1 : ACode := (.seq (.seq (.reg r10_most_p10) (.cond (.t 16) .skip (.exit 0))) (.seq (.block 1 [] r10_most_p9) (.reg r10_most_p2)))
abbrev r10_most_p11 : List AG := [o 5 (.mv (.c (.int .i64 0)))]
abbrev r10_most_p12 : List AG := [o 12 (.mv (.t 3)), o 13 (.call (.f n_r10_single) [(.t 12), (.c (.int .i64 0)), (.c (.str [49]))]), o 4 (.mv (.t 13))]
abbrev r10_most_p13 : List AG := [o 8 (.mv (.t 0)), o 9 (.ixAddr 1 (.t 8) (.c (.int .i64 0))), o 10 (.load false 1 (.t 9)), o 11 (.lenStr (.t 10)), o 3 (.mv (.t 11))]
abbrev r10_most_p14 : List AG := [o 2 (.mv (.c (.str [])))]
abbrev r10_most : AFun := ⟨(.seq (.reg r10_most_p14) (.seq (.reg r10_most_p13) (.seq (.reg r10_most_p12) (.seq (.seq (.reg r10_most_p11) (.block 0 r10_most_x1 (.loop r10_most_m1 r10_most_b1))) (.seq (.reg r10_most_p0) .ret))))), 42, [.tmp 2]⟩
abbrev r10_most_k1 : List It := [.code (.seq (.reg r10_most_p0) .ret)]
abbrev r10_most_L1 (x0 x3 x4 x5 : AV) (h : List Ob) (e : Cx := cx) : Cfg := atC n_r10_most (.code r10_most_b1 :: .inLoop r10_most_m1 r10_most_b1 :: .inBlock 0 r10_most_x1 :: r10_most_k1) [x0,U,U,x3,x4,x5,U,U,U,U,U,U,U,U,U,U,U,U,U,U,U,U,U,U,U,U,U,U,U,U,U,U,U,U,U,U,U,U,U,U,U,U] h e
abbrev r10_most_E1 (x4 : AV) (h : List Ob) (e : Cx := cx) : Cfg := atC n_r10_most r10_most_k1 [U,U,U,U,x4,U,U,U,U,U,U,U,U,U,U,U,U,U,U,U,U,U,U,U,U,U,U,U,U,U,U,U,U,U,U,U,U,U,U,U,U,U] h e
@[simp] theorem c_r10_most : cfun Tryd.prog n_r10_most = some r10_most := by kernel_rfl
@[simp] theorem e_r10_most : hasBody Tryd.prog n_r10_most = true := by kernel_rfl

/- r10_many: patchbay/patchbayref10.many -/
abbrev r10_many_p0 : List AG := [o 21 (.mv (.t 5)), o 4 (.mv (.t 21))]
abbrev r10_many_m1 : List Bool := [I,I,O,O,O,I,I,O,O,O,O,O,O,O,O,O,O,O,O,O,O,O]
abbrev r10_many_x1 : List Bool := [O,O,O,O,O,I,O,O,O,O,O,O,O,O,O,O,O,O,O,O,O,O]
abbrev r10_many_p2 : List AG := [o 11 (.mv (.t 6)), o 12 (.ibin .add (.t 11) (.c (.int .i64 1))), o 6 (.mv (.t 12))]
abbrev r10_many_p3 : List AG := [o 19 (.mv (.t 5)), o 20 (.ibin .add (.t 19) (.c (.int .i64 1))), o 5 (.mv (.t 20))]
abbrev r10_many_p4 : List AG := [o 13 (.mv (.t 0)), o 14 (.mv (.t 6)), o 15 (.ixAddr 1 (.t 13) (.t 14)), o 16 (.load false 1 (.t 15)), o 17 (.mv (.t 1)), o 18 (.call (.f n_r10_has) [(.t 16), (.t 17)])]
abbrev r10_many_p5 : ACode := (.seq (.reg r10_many_p4) (.cond (.t 18) (.reg r10_many_p3) .skip))
abbrev r10_many_p6 : List AG := [o 7 (.mv (.t 6)), o 8 (.mv (.t 0)), o 9 (.len (.t 8)), o 10 (.cmp .lss (.sc .int) (.t 7) (.t 9))]
abbrev r10_many_b1 : ACode := (.seq (.seq (.reg r10_many_p6) (.cond (.t 10) .skip (.exit 0))) (.seq (.block 1 [] r10_many_p5) (.reg r10_many_p2)))
abbrev r10_many_p7 : List AG := [o 6 (.mv (.c (.int .i64 0)))]
abbrev r10_many_p8 : List AG := [o 5 (.mv (.c (.int .i64 0)))]
abbrev r10_many_p9 : List AG := [o 4 (.mv (.c (.int .i64 0)))]
abbrev r10_many : AFun := ⟨(.seq (.reg r10_many_p9) (.seq (.reg r10_many_p8) (.seq (.seq (.reg r10_many_p7) (.block 0 r10_many_x1 (.loop r10_many_m1 r10_many_b1))) (.seq (.reg r10_many_p0) .ret)))), 22, [.tmp 4]⟩
abbrev r10_many_k1 : List It := [.code (.seq (.reg r10_many_p0) .ret)]
abbrev r10_many_L1 (x0 x1 x5 x6 : AV) (h : List Ob) (e : Cx := cx) : Cfg := atC n_r10_many (.code r10_many_b1 :: .inLoop r10_many_m1 r10_many_b1 :: .inBlock 0 r10_many_x1 :: r10_many_k1) [x0,x1,U,U,U,x5,x6,U,U,U,U,U,U,U,U,U,U,U,U,U,U,U] h e
abbrev r10_many_E1 (x5 : AV) (h : List Ob) (e : Cx := cx) : Cfg := atC n_r10_many r10_many_k1 [U,U,U,U,U,x5,U,U,U,U,U,U,U,U,U,U,U,U,U,U,U,U] h e
@[simp] theorem c_r10_many : cfun Tryd.prog n_r10_many = some r10_many := by kernel_rfl
@[simp] theorem e_r10_many : hasBody Tryd.prog n_r10_many = true := by kernel_rfl

/- r10_has: patchbay/patchbayref10.has -/
abbrev r10_has_p0 : List AG := [o 4 (.mv (.c (.bool true)))]
abbrev r10_has_m1 : List Bool := [I,I,O,O,O,I,O,O,O,O,O,O,O,O,O,O,O,O,O,O,O,O,O,O,O]
abbrev r10_has_x1 : List Bool := [O,O,O,O,O,O,O,O,O,O,O,O,O,O,O,O,O,O,O,O,O,O,O,O,O]
abbrev r10_has_p2 : List AG := [o 10 (.mv (.t 5)), o 11 (.ibin .add (.t 10) (.c (.int .i64 1))), o 5 (.mv (.t 11))]
abbrev r10_has_p3 : List AG := [o 4 (.mv (.c (.bool false)))]
abbrev r10_has_p4 : ACode := (.seq (.reg r10_has_p3) .ret)
abbrev r10_has_p5 : List AG := [o 12 (.mv (.t 1)), o 13 (.mv (.t 5)), o 14 (.ixStr (.t 12) (.t 13)), o 15 (.cmp .neq (.sc .int) (.t 14) (.c (.int .u8 45))), o 16 (.mv (.t 15)), oy 17 16 (.mv (.t 0)), oy 18 16 (.mv (.t 5)), oy 19 16 (.ixStr (.t 17) (.t 18)), oy 20 16 (.mv (.t 1)), oy 21 16 (.mv (.t 5)), oy 22 16 (.ixStr (.t 20) (.t 21)), oy 23 16 (.cmp .neq (.sc .int) (.t 19) (.t 22)), o 24 (.pick (.t 16) (.t 23) (.c (.bool false)))]
abbrev r10_has_p6 : ACode := (.seq (.dreg [O,O,O,O,O,O,O,O,O,O,O,O,O] [14,14,14,14,14,14,14,14,14,14,14,14,14] r10_has_p5) (.cond (.t 24) r10_has_p4 .skip))
abbrev r10_has_p7 : List AG := [o 6 (.mv (.t 5)), o 7 (.mv (.t 0)), o 8 (.lenStr (.t 7)), o 9 (.cmp .lss (.sc .int) (.t 6) (.t 8))]
abbrev r10_has_b1 : ACode := (.seq (.seq (.reg r10_has_p7) (.cond (.t 9) .skip (.exit 0))) (.seq (.block 1 [] r10_has_p6) (.reg r10_has_p2)))
abbrev r10_has_p8 : List AG := [o 5 (.mv (.c (.int .i64 0)))]
abbrev r10_has_p9 : List AG := [o 4 (.mv (.c (.bool false)))]
abbrev r10_has : AFun := ⟨(.seq (.reg r10_has_p9) (.seq (.seq (.reg r10_has_p8) (.block 0 r10_has_x1 (.loop r10_has_m1 r10_has_b1))) (.seq (.reg r10_has_p0) .ret))), 25, [.tmp 4]⟩
abbrev r10_has_k1 : List It := [.code (.seq (.reg r10_has_p0) .ret)]
abbrev r10_has_L1 (x0 x1 x5 : AV) (h : List Ob) (e : Cx := cx) : Cfg := atC n_r10_has (.code r10_has_b1 :: .inLoop r10_has_m1 r10_has_b1 :: .inBlock 0 r10_has_x1 :: r10_has_k1) [x0,x1,U,U,U,x5,U,U,U,U,U,U,U,U,U,U,U,U,U,U,U,U,U,U,U] h e
abbrev r10_has_E1 (h : List Ob) (e : Cx := cx) : Cfg := atC n_r10_has r10_has_k1 [U,U,U,U,U,U,U,U,U,U,U,U,U,U,U,U,U,U,U,U,U,U,U,U,U] h e
@[simp] theorem c_r10_has : cfun Tryd.prog n_r10_has = some r10_has := by kernel_rfl
@[simp] theorem e_r10_has : hasBody Tryd.prog n_r10_has = true := by kernel_rfl

/- unicode_utf8_RuneCountInString: unicode/utf8.RuneCountInString -/
@[simp] theorem e_unicode_utf8_RuneCountInString : hasBody Tryd.prog n_unicode_utf8_RuneCountInString = true := by kernel_rfl

/- strings_Index: strings.Index -/
@[simp] theorem e_strings_Index : hasBody Tryd.prog n_strings_Index = true := by kernel_rfl

/- r10_plain: patchbay/patchbayref10.plain -/
abbrev r10_plain_p0 : List AG := [o 39 (.off 0 (.t 2)), o 40 (.load false 1 (.t 39)), o 41 (.cmp .eql (.sc .int) (.t 40) (.c (.int .i64 0))), o 42 (.mv (.t 41)), on 43 42 (.off 0 (.t 2)), on 44 42 (.load false 1 (.t 43)), on 45 42 (.cmp .eql (.sc .int) (.t 44) (.c (.int .i64 1))), o 46 (.pick (.t 42) (.c (.bool true)) (.t 45)), o 47 (.mv (.t 46)), oy 48 47 (.off 1 (.t 2)), oy 49 47 (.load false 1 (.t 48)), oy 50 47 (.cmp .eql (.sc .int) (.t 49) (.c (.int .i64 0))), o 51 (.pick (.t 47) (.t 50) (.c (.bool false))), o 52 (.mv (.t 51)), oy 53 52 (.off 2 (.t 2)), oy 54 52 (.load false 1 (.t 53)), oy 55 52 (.cmp .eql (.sc .int) (.t 54) (.c (.int .i64 0))), o 56 (.pick (.t 52) (.t 55) (.c (.bool false))), o 4 (.mv (.t 56))]
abbrev r10_plain_p1 : List AG := [o 31 (.off 1 (.t 2)), o 32 (.load false 1 (.t 31)), o 33 (.cmp .eql (.sc .int) (.t 32) (.c (.int .i64 0))), o 34 (.mv (.t 33)), oy 35 34 (.off 2 (.t 2)), oy 36 34 (.load false 1 (.t 35)), oy 37 34 (.cmp .geq (.sc .int) (.t 36) (.c (.int .i64 2))), o 38 (.pick (.t 34) (.t 37) (.c (.bool false))), o 4 (.mv (.t 38))]
abbrev r10_plain_p2 : ACode := (.seq (.reg r10_plain_p1) .ret)
abbrev r10_plain_p3 : List AG := [o 23 (.off 0 (.t 2)), o 24 (.load false 1 (.t 23)), o 25 (.cmp .eql (.sc .int) (.t 24) (.c (.int .i64 3))), o 26 (.mv (.t 25)), on 27 26 (.off 0 (.t 2)), on 28 26 (.load false 1 (.t 27)), on 29 26 (.cmp .eql (.sc .int) (.t 28) (.c (.int .i64 4))), o 30 (.pick (.t 26) (.c (.bool true)) (.t 29))]
abbrev r10_plain_p4 : List AG := [o 8 (.off 1 (.t 2)), o 9 (.load false 1 (.t 8)), o 10 (.cmp .geq (.sc .int) (.t 9) (.c (.int .i64 0))), o 11 (.mv (.t 10)), oy 12 11 (.off 1 (.t 2)), oy 13 11 (.load false 1 (.t 12)), oy 14 11 (.mv (.t 1)), oy 15 11 (.ibin .mul (.c (.int .i64 2)) (.t 14)), oy 16 11 (.cmp .lss (.sc .int) (.t 13) (.t 15)), o 17 (.pick (.t 11) (.t 16) (.c (.bool false))), o 18 (.mv (.t 17)), oy 19 18 (.off 2 (.t 2)), oy 20 18 (.load false 1 (.t 19)), oy 21 18 (.cmp .eql (.sc .int) (.t 20) (.c (.int .i64 0))), o 22 (.pick (.t 18) (.t 21) (.c (.bool false))), o 4 (.mv (.t 22))]
abbrev r10_plain_p5 : ACode := (.seq (.reg r10_plain_p4) .ret)
abbrev r10_plain_p6 : List AG := [o 5 (.off 0 (.t 2)), o 6 (.load false 1 (.t 5)), o 7 (.cmp .eql (.sc .int) (.t 6) (.c (.int .i64 2)))]
abbrev r10_plain_p7 : List AG := [o 2 (.box 3 (.t 0)), o 4 (.mv (.c (.bool false)))]
abbrev r10_plain : AFun := ⟨(.seq (.reg r10_plain_p7) (.seq (.seq (.reg r10_plain_p6) (.cond (.t 7) r10_plain_p5 .skip)) (.seq (.seq (.reg r10_plain_p3) (.cond (.t 30) r10_plain_p2 .skip)) (.seq (.reg r10_plain_p0) .ret)))), 57, [.tmp 4]⟩
@[simp] theorem c_r10_plain : cfun Tryd.prog n_r10_plain = some r10_plain := by kernel_rfl
@[simp] theorem e_r10_plain : hasBody Tryd.prog n_r10_plain = true := by kernel_rfl

/- cover_read_1: patchbay/cover.read$1 -/
abbrev cover_read_1_p0 : List AG := [q (.store 1 (.t 0) (.c (.bool false))), q (.store 1 (.t 1) (.c (.int .i64 1)))]
abbrev cover_read_1_p1 : List AG := [o 9 (.mv (.t 3))]
abbrev cover_read_1_p2 : List AG := [o 5 (.recover), o 6 (.tassert (.t 5) t_cover_odd (.agg []) true), o 4 (.mv (.t 6)), o 7 (.extract (.t 4) 0), o 8 (.extract (.t 4) 1), o 2 (.alloc []), q (.store 0 (.t 2) (.t 7)), o 3 (.mv (.t 8))]
abbrev cover_read_1 : AFun := ⟨(.seq (.reg cover_read_1_p2) (.seq (.reg cover_read_1_p1) (.cond (.t 9) (.reg cover_read_1_p0) .skip))), 10, []⟩
@[simp] theorem c_cover_read_1 : cfun Tryd.prog n_cover_read_1 = some cover_read_1 := by kernel_rfl
@[simp] theorem e_cover_read_1 : hasBody Tryd.prog n_cover_read_1 = true := by kernel_rfl

/- cover_reader_read: (*patchbay/cover.reader).read -/
abbrev cover_reader_read_p0 : List AG := [o 44 (.mv (.t 4)), o 2 (.mv (.t 44))]
abbrev cover_reader_read_m1 : List Bool := [I,O,O,I,I,O,O,O,O,O,O,O,O,O,O,O,O,O,O,O,O,O,O,O,O,O,O,I,I,O,O,O,O,O,O,O,O,O,O,O,O,O,O,O,O]
abbrev cover_reader_read_x1 : List Bool := [O,O,O,O,I,O,O,O,O,O,O,O,O,O,O,O,O,O,O,O,O,O,O,O,O,O,O,O,O,O,O,O,O,O,O,O,O,O,O,O,O,O,O,O,O]
abbrev cover_reader_read_p2 : List AG := [o 43 (.ibin .add (.t 28) (.c (.int .i64 1))), o 28 (.mv (.t 43))]
abbrev cover_reader_read_p3 : List AG := [o 35 (.mv (.t 5)), o 36 (.mv (.t 35)), oy 37 36 (.mv (.t 4)), o 38 (.pick (.t 36) (.t 37) (.c (.bool false))), o 4 (.mv (.t 38))]
abbrev cover_reader_read_p4 : List AG := [o 39 (.mv (.t 5)), o 40 (.mv (.t 39)), on 41 40 (.mv (.t 4)), o 42 (.pick (.t 40) (.c (.bool true)) (.t 41)), o 4 (.mv (.t 42))]
abbrev cover_reader_read_p5 : List AG := [o 32 (.off 0 (.t 3)), o 33 (.load false 1 (.t 32)), o 34 (.cmp .eql (.sc .int) (.t 33) (.c (.int .i64 3)))]
abbrev cover_reader_read_p6 : List AG := [o 30 (.mv (.t 0)), o 31 (.call (.f n_cover_reader_read) [(.t 30)]), o 5 (.mv (.t 31))]
abbrev cover_reader_read_p7 : ACode := (.seq (.reg cover_reader_read_p6) (.seq (.reg cover_reader_read_p5) (.cond (.t 34) (.reg cover_reader_read_p3) (.reg cover_reader_read_p4))))
abbrev cover_reader_read_p8 : List AG := [o 29 (.cmp .lss (.sc .int) (.t 28) (.t 27))]
abbrev cover_reader_read_b1 : ACode := (.seq (.reg cover_reader_read_p8) (.seq (.cond (.t 29) .skip (.exit 0)) (.seq (.block 1 [] cover_reader_read_p7) (.reg cover_reader_read_p2))))
abbrev cover_reader_read_p9 : List AG := [o 26 (.off 2 (.t 3)), o 27 (.load false 1 (.t 26)), o 28 (.mv (.c (.int .i64 0)))]
abbrev cover_reader_read_p10 : List AG := [o 19 (.mv (.t 0)), o 20 (.nilck (.t 19)), o 21 (.off 2 (.t 20)), o 22 (.load false 1 (.t 21)), o 23 (.off 1 (.t 3)), o 24 (.load false 1 (.t 23)), o 25 (.call (.t 22) [(.t 24)]), o 2 (.mv (.t 25))]
abbrev cover_reader_read_p11 : ACode := (.seq (.dreg [O,O,O,O,O,O,O,O] [7,7,7,7,7,7,9,9] cover_reader_read_p10) .ret)
abbrev cover_reader_read_p12 : List AG := [o 16 (.off 0 (.t 3)), o 17 (.load false 1 (.t 16)), o 18 (.cmp .eql (.sc .int) (.t 17) (.c (.int .i64 2)))]
abbrev cover_reader_read_p13 : List AG := [o 8 (.off 0 (.t 3)), o 9 (.load false 1 (.t 8)), o 10 (.cmp .eql (.sc .int) (.t 9) (.c (.int .i64 1))), o 11 (.mv (.t 10)), on 12 11 (.off 0 (.t 3)), on 13 11 (.load false 1 (.t 12)), on 14 11 (.cmp .eql (.sc .int) (.t 13) (.c (.int .i64 3))), o 15 (.pick (.t 11) (.c (.bool true)) (.t 14)), o 4 (.mv (.t 15))]
abbrev cover_reader_read_p14 : List AG := [o 6 (.mv (.t 0)), o 7 (.call (.f n_cover_reader_next) [(.t 6)]), o 3 (.alloc [(.int .i64 0), (.int .i64 0), (.int .i64 0)]), q (.store 3 (.t 3) (.t 7))]
abbrev cover_reader_read_p15 : List AG := [o 2 (.mv (.c (.bool false)))]
abbrev cover_reader_read : AFun := ⟨(.seq (.reg cover_reader_read_p15) (.seq (.reg cover_reader_read_p14) (.seq (.reg cover_reader_read_p13) (.seq (.seq (.reg cover_reader_read_p12) (.cond (.t 18) cover_reader_read_p11 .skip)) (.seq (.seq (.reg cover_reader_read_p9) (.block 0 cover_reader_read_x1 (.loop cover_reader_read_m1 cover_reader_read_b1))) (.seq (.reg cover_reader_read_p0) .ret)))))), 45, [.tmp 2]⟩
abbrev cover_reader_read_k1 : List It := [.code (.seq (.reg cover_reader_read_p0) .ret)]
abbrev cover_reader_read_L1 (x0 x3 x4 x27 x28 : AV) (h : List Ob) (e : Cx := cx) : Cfg := atC n_cover_reader_read (.code cover_reader_read_b1 :: .inLoop cover_reader_read_m1 cover_reader_read_b1 :: .inBlock 0 cover_reader_read_x1 :: cover_reader_read_k1) [x0,U,U,x3,x4,U,U,U,U,U,U,U,U,U,U,U,U,U,U,U,U,U,U,U,U,U,U,x27,x28,U,U,U,U,U,U,U,U,U,U,U,U,U,U,U,U] h e
abbrev cover_reader_read_E1 (x4 : AV) (h : List Ob) (e : Cx := cx) : Cfg := atC n_cover_reader_read cover_reader_read_k1 [U,U,U,U,x4,U,U,U,U,U,U,U,U,U,U,U,U,U,U,U,U,U,U,U,U,U,U,U,U,U,U,U,U,U,U,U,U,U,U,U,U,U,U,U,U] h e
@[simp] theorem c_cover_reader_read : cfun Tryd.prog n_cover_reader_read = some cover_reader_read := by kernel_rfl
@[simp] theorem e_cover_reader_read : hasBody Tryd.prog n_cover_reader_read = true := by kernel_rfl

/- net_Gate_1: patchbay/net.Gate$1 -/
abbrev net_Gate_1_p0 : List AG := [o 4 (.mv (.t 0)), o 5 (.off 2 (.t 1)), o 6 (.load false 1 (.t 5)), o 7 (.len (.t 6)), o 8 (.call (.f n_net_row) [(.t 4), (.t 7)]), o 9 (.not (.t 8)), o 3 (.mv (.t 9))]
abbrev net_Gate_1_p1 : List AG := [o 3 (.mv (.c (.bool false)))]
abbrev net_Gate_1 : AFun := ⟨(.seq (.reg net_Gate_1_p1) (.seq (.reg net_Gate_1_p0) .ret)), 10, [.tmp 3]⟩
@[simp] theorem c_net_Gate_1 : cfun Tryd.prog n_net_Gate_1 = some net_Gate_1 := by kernel_rfl
@[simp] theorem e_net_Gate_1 : hasBody Tryd.prog n_net_Gate_1 = true := by kernel_rfl

/- net_row: patchbay/net.row -/
abbrev net_row_p0 : List AG := [o 5 (.mv (.t 0)), o 6 (.lenStr (.t 5)), o 7 (.mv (.t 1)), o 8 (.cmp .eql (.sc .int) (.t 6) (.t 7)), o 9 (.mv (.t 8)), oy 10 9 (.mv (.t 0)), oy 11 9 (.call (.f n_strings_Trim) [(.t 10), (.c (.str [48, 49, 45]))]), oy 12 9 (.cmp .eql (.sc .str) (.t 11) (.c (.str []))), o 13 (.pick (.t 9) (.t 12) (.c (.bool false))), o 4 (.mv (.t 13))]
abbrev net_row_p1 : List AG := [o 4 (.mv (.c (.bool false)))]
abbrev net_row : AFun := ⟨(.seq (.reg net_row_p1) (.seq (.reg net_row_p0) .ret)), 14, [.tmp 4]⟩
@[simp] theorem c_net_row : cfun Tryd.prog n_net_row = some net_row := by kernel_rfl
@[simp] theorem e_net_row : hasBody Tryd.prog n_net_row = true := by kernel_rfl

/- net_has: patchbay/net.has -/
abbrev net_has_p0 : List AG := [o 13 (.mv (.t 6)), o 14 (.mv (.t 13)), oy 15 14 (.mv (.t 1)), oy 16 14 (.arrAddr 2 1 (.t 5) (.c (.int .i64 0))), oy 17 14 (.load false 1 (.t 16)), oy 18 14 (.cmp .geq (.sc .int) (.t 15) (.t 17)), o 19 (.pick (.t 14) (.t 18) (.c (.bool false))), o 20 (.mv (.t 19)), oy 21 20 (.mv (.t 1)), oy 22 20 (.arrAddr 2 1 (.t 5) (.c (.int .i64 1))), oy 23 20 (.load false 1 (.t 22)), oy 24 20 (.cmp .leq (.sc .int) (.t 21) (.t 23)), o 25 (.pick (.t 20) (.t 24) (.c (.bool false))), o 4 (.mv (.t 25))]
abbrev net_has_p1 : List AG := [o 8 (.load false 1 (.g 1)), o 9 (.mv (.t 0)), o 10 (.lookup (.sc .int) (.agg [(.int .i64 0), (.int .i64 0)]) (.t 8) (.t 9) true), o 7 (.mv (.t 10)), o 11 (.extract (.t 7) 0), o 12 (.extract (.t 7) 1), o 5 (.alloc [(.int .i64 0), (.int .i64 0)]), q (.store 2 (.t 5) (.t 11)), o 6 (.mv (.t 12))]
abbrev net_has_p2 : List AG := [o 4 (.mv (.c (.bool false)))]
abbrev net_has : AFun := ⟨(.seq (.reg net_has_p2) (.seq (.reg net_has_p1) (.seq (.reg net_has_p0) .ret))), 26, [.tmp 4]⟩
@[simp] theorem c_net_has : cfun Tryd.prog n_net_has = some net_has := by kernel_rfl
@[simp] theorem e_net_has : hasBody Tryd.prog n_net_has = true := by kernel_rfl

/- step_of_1: patchbay/step.of$1 -/
abbrev step_of_1_p0 : List AG := [o 2 (.mv (.c (.bool false)))]
abbrev step_of_1_p1 : List AG := [o 2 (.mv (.c (.bool false)))]
abbrev step_of_1 : AFun := ⟨(.seq (.reg step_of_1_p1) (.seq (.reg step_of_1_p0) .ret)), 3, [.tmp 2]⟩
@[simp] theorem c_step_of_1 : cfun Tryd.prog n_step_of_1 = some step_of_1 := by kernel_rfl
@[simp] theorem e_step_of_1 : hasBody Tryd.prog n_step_of_1 = true := by kernel_rfl

/- step_of_2: patchbay/step.of$2 -/
abbrev step_of_2_p0 : List AG := [o 3 (.mv (.t 0)), o 4 (.call (.f n_step_count) [(.t 3)]), o 5 (.mv (.t 0)), o 6 (.len (.t 5)), o 7 (.cmp .eql (.sc .int) (.t 4) (.t 6)), o 2 (.mv (.t 7))]
abbrev step_of_2_p1 : List AG := [o 2 (.mv (.c (.bool false)))]
abbrev step_of_2 : AFun := ⟨(.seq (.reg step_of_2_p1) (.seq (.reg step_of_2_p0) .ret)), 8, [.tmp 2]⟩
@[simp] theorem c_step_of_2 : cfun Tryd.prog n_step_of_2 = some step_of_2 := by kernel_rfl
@[simp] theorem e_step_of_2 : hasBody Tryd.prog n_step_of_2 = true := by kernel_rfl

/- step_count: patchbay/step.count -/
abbrev step_count_p0 : List AG := [o 16 (.mv (.t 3)), o 2 (.mv (.t 16))]
abbrev step_count_m1 : List Bool := [O,O,O,I,O,O,I,I,I,O,O,O,O,O,O,O,O]
abbrev step_count_x1 : List Bool := [O,O,O,I,O,O,O,O,O,O,O,O,O,O,O,O,O]
abbrev step_count_p2 : List AG := [o 15 (.ibin .add (.t 8) (.c (.int .i64 1))), o 8 (.mv (.t 15))]
abbrev step_count_p3 : List AG := [o 13 (.mv (.t 3)), o 14 (.ibin .add (.t 13) (.c (.int .i64 1))), o 3 (.mv (.t 14))]
abbrev step_count_p4 : List AG := [o 12 (.mv (.t 5))]
abbrev step_count_p5 : List AG := [o 10 (.ixAddr 1 (.t 6) (.t 8)), o 11 (.load false 1 (.t 10)), o 5 (.mv (.t 11))]
abbrev step_count_p6 : ACode := (.seq (.reg step_count_p5) (.seq (.reg step_count_p4) (.cond (.t 12) (.reg step_count_p3) .skip)))
abbrev step_count_p7 : List AG := [o 9 (.cmp .lss (.sc .int) (.t 8) (.t 7))]
abbrev step_count_b1 : ACode := (.seq (.reg step_count_p7) (.seq (.cond (.t 9) .skip (.exit 0)) (.seq (.block 1 [] step_count_p6) (.reg step_count_p2))))
abbrev step_count_p8 : List AG := [o 6 (.mv (.t 0)), o 7 (.len (.t 6)), o 8 (.mv (.c (.int .i64 0)))]
abbrev step_count_p9 : List AG := [o 3 (.mv (.c (.int .i64 0)))]
abbrev step_count_p10 : List AG := [o 2 (.mv (.c (.int .i64 0)))]
abbrev step_count : AFun := ⟨(.seq (.reg step_count_p10) (.seq (.reg step_count_p9) (.seq (.seq (.reg step_count_p8) (.block 0 step_count_x1 (.loop step_count_m1 step_count_b1))) (.seq (.reg step_count_p0) .ret)))), 17, [.tmp 2]⟩
abbrev step_count_k1 : List It := [.code (.seq (.reg step_count_p0) .ret)]
abbrev step_count_L1 (x3 x6 x7 x8 : AV) (h : List Ob) (e : Cx := cx) : Cfg := atC n_step_count (.code step_count_b1 :: .inLoop step_count_m1 step_count_b1 :: .inBlock 0 step_count_x1 :: step_count_k1) [U,U,U,x3,U,U,x6,x7,x8,U,U,U,U,U,U,U,U] h e
abbrev step_count_E1 (x3 : AV) (h : List Ob) (e : Cx := cx) : Cfg := atC n_step_count step_count_k1 [U,U,U,x3,U,U,U,U,U,U,U,U,U,U,U,U,U] h e
@[simp] theorem c_step_count : cfun Tryd.prog n_step_count = some step_count := by kernel_rfl
@[simp] theorem e_step_count : hasBody Tryd.prog n_step_count = true := by kernel_rfl

/- step_of_3: patchbay/step.of$3 -/
abbrev step_of_3_p0 : List AG := [o 3 (.mv (.t 0)), o 4 (.call (.f n_step_count) [(.t 3)]), o 5 (.cmp .gtr (.sc .int) (.t 4) (.c (.int .i64 0))), o 2 (.mv (.t 5))]
abbrev step_of_3_p1 : List AG := [o 2 (.mv (.c (.bool false)))]
abbrev step_of_3 : AFun := ⟨(.seq (.reg step_of_3_p1) (.seq (.reg step_of_3_p0) .ret)), 6, [.tmp 2]⟩
@[simp] theorem c_step_of_3 : cfun Tryd.prog n_step_of_3 = some step_of_3 := by kernel_rfl
@[simp] theorem e_step_of_3 : hasBody Tryd.prog n_step_of_3 = true := by kernel_rfl

/- step_of_4: patchbay/step.of$4 -/
abbrev step_of_4_p0 : List AG := [o 3 (.mv (.t 0)), o 4 (.call (.f n_step_count) [(.t 3)]), o 5 (.ibin .rem (.t 4) (.c (.int .i64 2))), o 6 (.cmp .eql (.sc .int) (.t 5) (.c (.int .i64 1))), o 2 (.mv (.t 6))]
abbrev step_of_4_p1 : List AG := [o 2 (.mv (.c (.bool false)))]
abbrev step_of_4 : AFun := ⟨(.seq (.reg step_of_4_p1) (.seq (.reg step_of_4_p0) .ret)), 7, [.tmp 2]⟩
@[simp] theorem c_step_of_4 : cfun Tryd.prog n_step_of_4 = some step_of_4 := by kernel_rfl
@[simp] theorem e_step_of_4 : hasBody Tryd.prog n_step_of_4 = true := by kernel_rfl

/- strings_asciiSet_contains: (*strings.asciiSet).contains -/
@[simp] theorem e_strings_asciiSet_contains : hasBody Tryd.prog n_strings_asciiSet_contains = true := by kernel_rfl

/- unicode_utf8_DecodeRuneInString: unicode/utf8.DecodeRuneInString -/
@[simp] theorem e_unicode_utf8_DecodeRuneInString : hasBody Tryd.prog n_unicode_utf8_DecodeRuneInString = true := by kernel_rfl

/- strings_ContainsRune: strings.ContainsRune -/
@[simp] theorem e_strings_ContainsRune : hasBody Tryd.prog n_strings_ContainsRune = true := by kernel_rfl

/- unicode_utf8_DecodeLastRuneInString: unicode/utf8.DecodeLastRuneInString -/
@[simp] theorem e_unicode_utf8_DecodeLastRuneInString : hasBody Tryd.prog n_unicode_utf8_DecodeLastRuneInString = true := by kernel_rfl

/- cover_literals_1: patchbay/cover.literals$1 -/
abbrev cover_literals_1_m0 : List Bool := [I,I,O,O,O,I,I,O,O,O,O,O,O,O,O,O,O,O,O,O,O,O,O,O,O]
abbrev cover_literals_1_x0 : List Bool := [O,O,O,O,O,O,O,O,O,O,O,O,O,O,O,O,O,O,O,O,O,O,O,O,O]
abbrev cover_literals_1_p1 : List AG := [o 24 (.ibin .add (.t 6) (.c (.int .i64 1))), o 6 (.mv (.t 24))]
abbrev cover_literals_1_p2 : List AG := [o 9 (.load false 1 (.t 1)), o 10 (.mv (.t 3)), o 11 (.ixStr (.t 9) (.t 10)), o 12 (.cmp .neq (.sc .int) (.t 11) (.c (.int .u8 45))), o 13 (.mv (.t 12)), oy 14 13 (.mv (.t 0)), oy 15 13 (.mv (.t 3)), oy 16 13 (.load false 1 (.t 1)), oy 17 13 (.mv (.t 3)), oy 18 13 (.ixStr (.t 16) (.t 17)), oy 19 13 (.conv .i64 (.t 18)), oy 20 13 (.build [(.int .i64 0), (.int .i64 0)] [(0, 1, (.t 15)), (1, 1, (.t 19))]), oy 21 13 (.call (.t 14) [(.t 20)]), oy 22 13 (.not (.t 21)), o 23 (.pick (.t 13) (.t 22) (.c (.bool false)))]
abbrev cover_literals_1_p3 : List AG := [o 8 (.mv (.t 6)), o 3 (.mv (.t 8))]
abbrev cover_literals_1_p4 : ACode := (.seq (.reg cover_literals_1_p3) (.seq (.reg cover_literals_1_p2) (.cond (.t 23) .ret .skip)))
abbrev cover_literals_1_p5 : List AG := [o 7 (.cmp .lss (.sc .int) (.t 6) (.t 5))]
abbrev cover_literals_1_b0 : ACode := (.seq (.reg cover_literals_1_p5) (.seq (.cond (.t 7) .skip (.exit 0)) (.seq (.block 1 [] cover_literals_1_p4) (.reg cover_literals_1_p1))))
abbrev cover_literals_1_p6 : List AG := [o 4 (.load false 1 (.t 1)), o 5 (.lenStr (.t 4)), o 6 (.mv (.c (.int .i64 0)))]
abbrev cover_literals_1 : AFun := ⟨(.seq (.reg cover_literals_1_p6) (.block 0 cover_literals_1_x0 (.loop cover_literals_1_m0 cover_literals_1_b0))), 25, []⟩
abbrev cover_literals_1_k0 : List It := []
abbrev cover_literals_1_L0 (x0 x1 x5 x6 : AV) (h : List Ob) (e : Cx := cx) : Cfg := atC n_cover_literals_1 (.code cover_literals_1_b0 :: .inLoop cover_literals_1_m0 cover_literals_1_b0 :: .inBlock 0 cover_literals_1_x0 :: cover_literals_1_k0) [x0,x1,U,U,U,x5,x6,U,U,U,U,U,U,U,U,U,U,U,U,U,U,U,U,U,U] h e
abbrev cover_literals_1_E0 (h : List Ob) (e : Cx := cx) : Cfg := atC n_cover_literals_1 cover_literals_1_k0 [U,U,U,U,U,U,U,U,U,U,U,U,U,U,U,U,U,U,U,U,U,U,U,U,U] h e
@[simp] theorem c_cover_literals_1 : cfun Tryd.prog n_cover_literals_1 = some cover_literals_1 := by kernel_rfl
@[simp] theorem e_cover_literals_1 : hasBody Tryd.prog n_cover_literals_1 = true := by kernel_rfl

/- cover_literal_node: (patchbay/cover.literal).node -/
abbrev cover_literal_node_p0 : List AG := [o 15 (.load true 3 (.t 3)), q (.store 3 (.t 2) (.t 15))]
abbrev cover_literal_node_p1 : List AG := [o 11 (.off 1 (.t 3)), o 12 (.load false 1 (.t 11)), o 13 (.ibin .add (.t 12) (.c (.int .i64 1))), o 14 (.off 1 (.t 3)), q (.store 1 (.t 14) (.t 13))]
abbrev cover_literal_node_p2 : List AG := [o 8 (.arrAddr 2 1 (.t 1) (.c (.int .i64 1))), o 9 (.load false 1 (.t 8)), o 10 (.cmp .eql (.sc .int) (.t 9) (.c (.int .i64 48)))]
abbrev cover_literal_node_p3 : List AG := [o 4 (.arrAddr 2 1 (.t 1) (.c (.int .i64 0))), o 5 (.load false 1 (.t 4)), o 6 (.ibin .mul (.c (.int .i64 2)) (.t 5)), o 7 (.build [(.int .i64 0), (.int .i64 0), (.int .i64 0)] [(0, 1, (.c (.int .i64 2))), (1, 1, (.t 6))]), o 3 (.alloc [(.int .i64 0), (.int .i64 0), (.int .i64 0)]), q (.store 3 (.t 3) (.t 7))]
abbrev cover_literal_node_p4 : List AG := [o 1 (.box 2 (.t 0)), o 2 (.alloc [(.int .i64 0), (.int .i64 0), (.int .i64 0)])]
abbrev cover_literal_node : AFun := ⟨(.seq (.reg cover_literal_node_p4) (.seq (.reg cover_literal_node_p3) (.seq (.seq (.reg cover_literal_node_p2) (.cond (.t 10) (.reg cover_literal_node_p1) .skip)) (.seq (.reg cover_literal_node_p0) .ret)))), 16, [.cell 2 true 3]⟩
@[simp] theorem c_cover_literal_node : cfun Tryd.prog n_cover_literal_node = some cover_literal_node := by kernel_rfl
@[simp] theorem e_cover_literal_node : hasBody Tryd.prog n_cover_literal_node = true := by kernel_rfl

/- slices_AppendSeq_cover_literal_cover_literal: slices.AppendSeq[[]patchbay/cover.literal,patchbay/cover.literal] -/
abbrev slices_AppendSeq_cover_literal_cover_literal_p0 : List AG := [o 12 (.load false 1 (.t 2)), o 4 (.mv (.t 12))]
abbrev slices_AppendSeq_cover_literal_cover_literal_p1 : List AG := [o 5 (.alloc [(.int .i64 0), (.int .i64 0)]), q (.store 2 (.t 5) (.t 7))]
abbrev slices_AppendSeq_cover_literal_cover_literal_p2 : List AG := [o 8 (.load false 1 (.t 2)), o 9 (.load true 2 (.t 5)), o 10 (.lit 2 [(.agg [(.int .i64 0), (.int .i64 0)])] [(0, (.t 9))]), o 11 (.append 2 t_cover_literal_2 16 (.t 8) (.t 10)), q (.store 1 (.t 2) (.t 11))]
abbrev slices_AppendSeq_cover_literal_cover_literal_p3 : ACode := (.block 1 [] (.reg slices_AppendSeq_cover_literal_cover_literal_p2))
abbrev slices_AppendSeq_cover_literal_cover_literal_p4 : ACode := (.rangeFunc (.t 6) [7] [O,O,I,O,I,O,O,O,O,O,O,O,O] (.reg slices_AppendSeq_cover_literal_cover_literal_p1) slices_AppendSeq_cover_literal_cover_literal_p3)
abbrev slices_AppendSeq_cover_literal_cover_literal_p5 : List AG := [o 6 (.mv (.t 1))]
abbrev slices_AppendSeq_cover_literal_cover_literal_p6 : List AG := [o 2 (.box 1 (.t 0)), o 4 (.nilrow 2 t_cover_literal_2)]
abbrev slices_AppendSeq_cover_literal_cover_literal : AFun := ⟨(.seq (.reg slices_AppendSeq_cover_literal_cover_literal_p6) (.seq (.seq (.reg slices_AppendSeq_cover_literal_cover_literal_p5) (.block 0 [] slices_AppendSeq_cover_literal_cover_literal_p4)) (.seq (.reg slices_AppendSeq_cover_literal_cover_literal_p0) .ret))), 13, [.tmp 4]⟩
@[simp] theorem c_slices_AppendSeq_cover_literal_cover_literal : cfun Tryd.prog n_slices_AppendSeq_cover_literal_cover_literal = some slices_AppendSeq_cover_literal_cover_literal := by kernel_rfl
@[simp] theorem e_slices_AppendSeq_cover_literal_cover_literal : hasBody Tryd.prog n_slices_AppendSeq_cover_literal_cover_literal = true := by kernel_rfl

/- cover_has_1: patchbay/cover.has$1 -/
abbrev cover_has_1_p0 : List AG := [q (.store 1 (.t 3) (.c (.bool false)))]
abbrev cover_has_1_p1 : List AG := [o 4 (.alloc [(.int .i64 0), (.int .i64 0)]), q (.store 2 (.t 4) (.t 7))]
abbrev cover_has_1_p2 : List AG := [q (.store 1 (.t 3) (.c (.bool true)))]
abbrev cover_has_1_p3 : ACode := (.seq (.reg cover_has_1_p2) .ret)
abbrev cover_has_1_p4 : List AG := [o 8 (.load true 2 (.t 4)), o 9 (.load true 2 (.t 1)), o 10 (.cmp .eql (.strct [.int, .int]) (.t 8) (.t 9))]
abbrev cover_has_1_p5 : ACode := (.seq (.reg cover_has_1_p4) (.cond (.t 10) cover_has_1_p3 .skip))
abbrev cover_has_1_p6 : ACode := (.block 1 [] cover_has_1_p5)
abbrev cover_has_1_p7 : ACode := (.rangeFunc (.t 6) [7] [O,I,O,I,O,O,O,O,O,O,O] (.reg cover_has_1_p1) cover_has_1_p6)
abbrev cover_has_1_p8 : List AG := [o 5 (.mv (.t 0)), o 6 (.call (.f n_cover_literals) [(.t 5)])]
abbrev cover_has_1_p9 : List AG := [o 3 (.alloc [(.bool false)])]
abbrev cover_has_1 : AFun := ⟨(.seq (.reg cover_has_1_p9) (.seq (.seq (.reg cover_has_1_p8) (.block 0 [] cover_has_1_p7)) (.seq (.reg cover_has_1_p0) .ret))), 11, [.cell 3 false 1]⟩
@[simp] theorem c_cover_has_1 : cfun Tryd.prog n_cover_has_1 = some cover_has_1 := by kernel_rfl
@[simp] theorem e_cover_has_1 : hasBody Tryd.prog n_cover_has_1 = true := by kernel_rfl

/- slices_Grow_cover_Form_cover_Form: slices.Grow[[]patchbay/cover.Form,patchbay/cover.Form] -/
abbrev slices_Grow_cover_Form_cover_Form_p0 : List AG := [o 26 (.mv (.t 0)), o 4 (.mv (.t 26))]
abbrev slices_Grow_cover_Form_cover_Form_p1 : List AG := [o 17 (.mv (.t 0)), o 18 (.mv (.t 0)), o 19 (.cap (.t 18)), o 20 (.slice 3 (.t 17) none (some (.t 19))), o 21 (.mv (.t 1)), o 22 (.appendZ 3 t_cover_Form_2 24 (.agg [(.int .i64 0), (.int .i64 0), (.int .i64 0)]) (.t 20) (.t 21)), o 23 (.mv (.t 0)), o 24 (.len (.t 23)), o 25 (.slice 3 (.t 22) none (some (.t 24))), o 0 (.mv (.t 25))]
abbrev slices_Grow_cover_Form_cover_Form_p2 : List AG := [o 15 (.mv (.t 1)), o 16 (.cmp .gtr (.sc .int) (.t 15) (.c (.int .i64 0)))]
abbrev slices_Grow_cover_Form_cover_Form_p3 : List AG := [o 8 (.mv (.t 1)), o 9 (.mv (.t 0)), o 10 (.cap (.t 9)), o 11 (.mv (.t 0)), o 12 (.len (.t 11)), o 13 (.ibin .sub (.t 10) (.t 12)), o 14 (.ibin .sub (.t 8) (.t 13)), o 1 (.mv (.t 14))]
abbrev slices_Grow_cover_Form_cover_Form_p4 : List AG := [o 7 (.mkIface t_string (.c (.str [99, 97, 110, 110, 111, 116, 32, 98, 101, 32, 110, 101, 103, 97, 116, 105, 118, 101]))), q (.panic (.t 7))]
abbrev slices_Grow_cover_Form_cover_Form_p5 : List AG := [o 5 (.mv (.t 1)), o 6 (.cmp .lss (.sc .int) (.t 5) (.c (.int .i64 0)))]
abbrev slices_Grow_cover_Form_cover_Form_p6 : List AG := [o 4 (.nilrow 3 t_cover_Form_2)]
abbrev slices_Grow_cover_Form_cover_Form : AFun := ⟨(.seq (.reg slices_Grow_cover_Form_cover_Form_p6) (.seq (.seq (.reg slices_Grow_cover_Form_cover_Form_p5) (.cond (.t 6) (.reg slices_Grow_cover_Form_cover_Form_p4) .skip)) (.seq (.seq (.reg slices_Grow_cover_Form_cover_Form_p3) (.seq (.reg slices_Grow_cover_Form_cover_Form_p2) (.cond (.t 16) (.reg slices_Grow_cover_Form_cover_Form_p1) .skip))) (.seq (.reg slices_Grow_cover_Form_cover_Form_p0) .ret)))), 27, [.tmp 4]⟩
@[simp] theorem c_slices_Grow_cover_Form_cover_Form : cfun Tryd.prog n_slices_Grow_cover_Form_cover_Form = some slices_Grow_cover_Form_cover_Form := by kernel_rfl
@[simp] theorem e_slices_Grow_cover_Form_cover_Form : hasBody Tryd.prog n_slices_Grow_cover_Form_cover_Form = true := by kernel_rfl

/- r10_truth: patchbay/patchbayref10.truth -/
abbrev r10_truth_p0 : List AG := [o 3 (.mv (.t 0)), o 4 (.len (.t 3)), o 5 (.cmp .eql (.sc .int) (.t 4) (.c (.int .i64 1))), o 6 (.mv (.t 5)), oy 7 6 (.mv (.t 0)), oy 8 6 (.ixAddr 3 (.t 7) (.c (.int .i64 0))), oy 9 6 (.off 0 (.t 8)), oy 10 6 (.load false 1 (.t 9)), oy 11 6 (.cmp .eql (.sc .int) (.t 10) (.c (.int .i64 1))), o 12 (.pick (.t 6) (.t 11) (.c (.bool false))), o 2 (.mv (.t 12))]
abbrev r10_truth_p1 : List AG := [o 2 (.mv (.c (.bool false)))]
abbrev r10_truth : AFun := ⟨(.seq (.reg r10_truth_p1) (.seq (.reg r10_truth_p0) .ret)), 13, [.tmp 2]⟩
@[simp] theorem c_r10_truth : cfun Tryd.prog n_r10_truth = some r10_truth := by kernel_rfl
@[simp] theorem e_r10_truth : hasBody Tryd.prog n_r10_truth = true := by kernel_rfl

/- r10_without: patchbay/patchbayref10.without -/
abbrev r10_without_p0 : List AG := [o 26 (.mv (.t 5)), o 4 (.mv (.t 26))]
abbrev r10_without_m1 : List Bool := [I,I,O,O,O,I,I,O,O,O,O,O,O,O,O,O,O,O,O,O,O,O,O,O,O,O,O]
abbrev r10_without_x1 : List Bool := [O,O,O,O,O,I,O,O,O,O,O,O,O,O,O,O,O,O,O,O,O,O,O,O,O,O,O]
abbrev r10_without_p2 : List AG := [o 11 (.mv (.t 6)), o 12 (.ibin .add (.t 11) (.c (.int .i64 1))), o 6 (.mv (.t 12))]
abbrev r10_without_p3 : List AG := [o 17 (.mv (.t 5)), o 18 (.mv (.t 0)), o 19 (.mv (.t 6)), o 20 (.mv (.t 6)), o 21 (.ibin .add (.t 20) (.c (.int .i64 1))), o 22 (.sliceStr (.t 18) (some (.t 19)) (some (.t 21))), o 23 (.concat (.t 17) (.t 22)), o 5 (.mv (.t 23))]
abbrev r10_without_p4 : List AG := [o 24 (.mv (.t 5)), o 25 (.concat (.t 24) (.c (.str [45]))), o 5 (.mv (.t 25))]
abbrev r10_without_p5 : List AG := [o 13 (.mv (.t 1)), o 14 (.mv (.t 6)), o 15 (.ixStr (.t 13) (.t 14)), o 16 (.cmp .eql (.sc .int) (.t 15) (.c (.int .u8 45)))]
abbrev r10_without_p6 : ACode := (.seq (.reg r10_without_p5) (.cond (.t 16) (.reg r10_without_p3) (.reg r10_without_p4)))
abbrev r10_without_p7 : List AG := [o 7 (.mv (.t 6)), o 8 (.mv (.t 0)), o 9 (.lenStr (.t 8)), o 10 (.cmp .lss (.sc .int) (.t 7) (.t 9))]
abbrev r10_without_b1 : ACode := (.seq (.seq (.reg r10_without_p7) (.cond (.t 10) .skip (.exit 0))) (.seq (.block 1 [] r10_without_p6) (.reg r10_without_p2)))
abbrev r10_without_p8 : List AG := [o 6 (.mv (.c (.int .i64 0)))]
abbrev r10_without_p9 : List AG := [o 5 (.mv (.c (.str [])))]
abbrev r10_without_p10 : List AG := [o 4 (.mv (.c (.str [])))]
abbrev r10_without : AFun := ⟨(.seq (.reg r10_without_p10) (.seq (.reg r10_without_p9) (.seq (.seq (.reg r10_without_p8) (.block 0 r10_without_x1 (.loop r10_without_m1 r10_without_b1))) (.seq (.reg r10_without_p0) .ret)))), 27, [.tmp 4]⟩
abbrev r10_without_k1 : List It := [.code (.seq (.reg r10_without_p0) .ret)]
abbrev r10_without_L1 (x0 x1 x5 x6 : AV) (h : List Ob) (e : Cx := cx) : Cfg := atC n_r10_without (.code r10_without_b1 :: .inLoop r10_without_m1 r10_without_b1 :: .inBlock 0 r10_without_x1 :: r10_without_k1) [x0,x1,U,U,U,x5,x6,U,U,U,U,U,U,U,U,U,U,U,U,U,U,U,U,U,U,U,U] h e
abbrev r10_without_E1 (x5 : AV) (h : List Ob) (e : Cx := cx) : Cfg := atC n_r10_without r10_without_k1 [U,U,U,U,U,x5,U,U,U,U,U,U,U,U,U,U,U,U,U,U,U,U,U,U,U,U,U] h e
@[simp] theorem c_r10_without : cfun Tryd.prog n_r10_without = some r10_without := by kernel_rfl
@[simp] theorem e_r10_without : hasBody Tryd.prog n_r10_without = true := by kernel_rfl

/- r10_single: patchbay/patchbayref10.single -/
abbrev r10_single_p0 : List AG := [o 22 (.mv (.t 7)), o 6 (.mv (.t 22))]
abbrev r10_single_m1 : List Bool := [I,I,I,O,O,O,O,I,I,O,O,O,O,O,O,O,O,O,O,O,O,O,O]
abbrev r10_single_x1 : List Bool := [O,O,O,O,O,O,O,I,O,O,O,O,O,O,O,O,O,O,O,O,O,O,O]
abbrev r10_single_p2 : List AG := [o 12 (.mv (.t 8)), o 13 (.ibin .add (.t 12) (.c (.int .i64 1))), o 8 (.mv (.t 13))]
abbrev r10_single_p3 : List AG := [o 17 (.mv (.t 7)), o 18 (.mv (.t 2)), o 19 (.concat (.t 17) (.t 18)), o 7 (.mv (.t 19))]
abbrev r10_single_p4 : List AG := [o 20 (.mv (.t 7)), o 21 (.concat (.t 20) (.c (.str [45]))), o 7 (.mv (.t 21))]
abbrev r10_single_p5 : List AG := [o 14 (.mv (.t 8)), o 15 (.mv (.t 1)), o 16 (.cmp .eql (.sc .int) (.t 14) (.t 15))]
abbrev r10_single_p6 : ACode := (.seq (.reg r10_single_p5) (.cond (.t 16) (.reg r10_single_p3) (.reg r10_single_p4)))
abbrev r10_single_p7 : List AG := [o 9 (.mv (.t 8)), o 10 (.mv (.t 0)), o 11 (.cmp .lss (.sc .int) (.t 9) (.t 10))]
abbrev r10_single_b1 : ACode := (.seq (.seq (.reg r10_single_p7) (.cond (.t 11) .skip (.exit 0))) (.seq (.block 1 [] r10_single_p6) (.reg r10_single_p2)))
abbrev r10_single_p8 : List AG := [o 8 (.mv (.c (.int .i64 0)))]
abbrev r10_single_p9 : List AG := [o 7 (.mv (.c (.str [])))]
abbrev r10_single_p10 : List AG := [o 6 (.mv (.c (.str [])))]
abbrev r10_single : AFun := ⟨(.seq (.reg r10_single_p10) (.seq (.reg r10_single_p9) (.seq (.seq (.reg r10_single_p8) (.block 0 r10_single_x1 (.loop r10_single_m1 r10_single_b1))) (.seq (.reg r10_single_p0) .ret)))), 23, [.tmp 6]⟩
abbrev r10_single_k1 : List It := [.code (.seq (.reg r10_single_p0) .ret)]
abbrev r10_single_L1 (x0 x1 x2 x7 x8 : AV) (h : List Ob) (e : Cx := cx) : Cfg := atC n_r10_single (.code r10_single_b1 :: .inLoop r10_single_m1 r10_single_b1 :: .inBlock 0 r10_single_x1 :: r10_single_k1) [x0,x1,x2,U,U,U,U,x7,x8,U,U,U,U,U,U,U,U,U,U,U,U,U,U] h e
abbrev r10_single_E1 (x7 : AV) (h : List Ob) (e : Cx := cx) : Cfg := atC n_r10_single r10_single_k1 [U,U,U,U,U,U,U,x7,U,U,U,U,U,U,U,U,U,U,U,U,U,U,U] h e
@[simp] theorem c_r10_single : cfun Tryd.prog n_r10_single = some r10_single := by kernel_rfl
@[simp] theorem e_r10_single : hasBody Tryd.prog n_r10_single = true := by kernel_rfl

/- stringslite_Index: internal/stringslite.Index -/
@[simp] theorem e_stringslite_Index : hasBody Tryd.prog n_stringslite_Index = true := by kernel_rfl

/- cover_reader_next: (*patchbay/cover.reader).next -/
abbrev cover_reader_next_p0 : List AG := [o 75 (.load true 3 (.t 3)), q (.store 3 (.t 2) (.t 75))]
abbrev cover_reader_next_p1 : List AG := [o 73 (.build [] []), o 74 (.mkIface t_cover_odd (.t 73)), q (.panic (.t 74))]
abbrev cover_reader_next_p2 : List AG := [o 71 (.mv (.t 4)), o 72 (.not (.t 71))]
abbrev cover_reader_next_p3 : List AG := [o 42 (.off 1 (.t 3)), o 43 (.load false 1 (.t 42)), o 44 (.cmp .geq (.sc .int) (.t 43) (.c (.int .i64 0))), o 45 (.mv (.t 44)), oy 46 45 (.off 1 (.t 3)), oy 47 45 (.load false 1 (.t 46)), oy 48 45 (.ibin .shr (.t 47) (.c (.int .u64 1))), oy 49 45 (.mv (.t 0)), oy 50 45 (.nilck (.t 49)), oy 51 45 (.off 1 (.t 50)), oy 52 45 (.load false 1 (.t 51)), oy 53 45 (.cmp .lss (.sc .int) (.t 48) (.t 52)), o 54 (.pick (.t 45) (.t 53) (.c (.bool false))), o 55 (.mv (.t 54)), oy 56 55 (.off 2 (.t 3)), oy 57 55 (.load false 1 (.t 56)), oy 58 55 (.cmp .eql (.sc .int) (.t 57) (.c (.int .i64 0))), o 59 (.pick (.t 55) (.t 58) (.c (.bool false))), o 4 (.mv (.t 59))]
abbrev cover_reader_next_p4 : List AG := [o 63 (.off 1 (.t 3)), o 64 (.load false 1 (.t 63)), o 65 (.cmp .eql (.sc .int) (.t 64) (.c (.int .i64 0))), o 66 (.mv (.t 65)), oy 67 66 (.off 2 (.t 3)), oy 68 66 (.load false 1 (.t 67)), oy 69 66 (.cmp .geq (.sc .int) (.t 68) (.c (.int .i64 2))), o 70 (.pick (.t 66) (.t 69) (.c (.bool false))), o 4 (.mv (.t 70))]
abbrev cover_reader_next_p5 : List AG := [o 4 (.mv (.c (.bool false)))]
abbrev cover_reader_next_p6 : List AG := [o 62 (.cmp .eql (.sc .int) (.t 36) (.c (.int .i64 4))), o 60 (.mv (.t 62))]
abbrev cover_reader_next_p7 : List AG := [o 61 (.cmp .eql (.sc .int) (.t 36) (.c (.int .i64 3))), o 60 (.mv (.t 61))]
abbrev cover_reader_next_p8 : ACode := (.seq (.seq (.reg cover_reader_next_p7) (.cond (.t 60) .skip (.reg cover_reader_next_p6))) (.cond (.t 60) (.reg cover_reader_next_p4) (.reg cover_reader_next_p5)))
abbrev cover_reader_next_p9 : List AG := [o 41 (.cmp .eql (.sc .int) (.t 36) (.c (.int .i64 2))), o 40 (.mv (.t 41))]
abbrev cover_reader_next_p10 : ACode := (.seq (.reg cover_reader_next_p9) (.cond (.t 40) (.dreg [O,O,O,O,O,O,O,O,O,O,O,O,O,O,O,O,O,O,O] [20,20,20,20,20,20,20,20,20,20,20,20,20,20,20,20,20,20,20] cover_reader_next_p3) cover_reader_next_p8))
abbrev cover_reader_next_p11 : List AG := [o 39 (.cmp .eql (.sc .int) (.t 36) (.c (.int .i64 1))), o 37 (.mv (.t 39))]
abbrev cover_reader_next_p12 : List AG := [o 38 (.cmp .eql (.sc .int) (.t 36) (.c (.int .i64 0))), o 37 (.mv (.t 38))]
abbrev cover_reader_next_p13 : ACode := (.seq (.seq (.reg cover_reader_next_p12) (.cond (.t 37) .skip (.reg cover_reader_next_p11))) (.cond (.t 37) .skip cover_reader_next_p10))
abbrev cover_reader_next_p14 : List AG := [o 35 (.off 0 (.t 3)), o 36 (.load false 1 (.t 35))]
abbrev cover_reader_next_p15 : List AG := [o 27 (.off 1 (.t 3)), o 28 (.load false 1 (.t 27)), o 29 (.cmp .eql (.sc .int) (.t 28) (.c (.int .i64 0))), o 30 (.mv (.t 29)), oy 31 30 (.off 2 (.t 3)), oy 32 30 (.load false 1 (.t 31)), oy 33 30 (.cmp .eql (.sc .int) (.t 32) (.c (.int .i64 0))), o 34 (.pick (.t 30) (.t 33) (.c (.bool false))), o 4 (.mv (.t 34))]
abbrev cover_reader_next_p16 : List AG := [o 19 (.mv (.t 0)), o 20 (.mv (.t 0)), o 21 (.nilck (.t 20)), o 22 (.off 0 (.t 21)), o 23 (.load false 1 (.t 22)), o 24 (.slice 3 (.t 23) (some (.c (.int .i64 1))) none), o 25 (.nilck (.t 19)), o 26 (.off 0 (.t 25)), q (.store 1 (.t 26) (.t 24))]
abbrev cover_reader_next_p17 : List AG := [o 13 (.mv (.t 0)), o 14 (.nilck (.t 13)), o 15 (.off 0 (.t 14)), o 16 (.load false 1 (.t 15)), o 17 (.ixAddr 3 (.t 16) (.c (.int .i64 0))), o 18 (.load true 3 (.t 17)), o 3 (.alloc [(.int .i64 0), (.int .i64 0), (.int .i64 0)]), q (.store 3 (.t 3) (.t 18))]
abbrev cover_reader_next_p18 : List AG := [o 11 (.build [] []), o 12 (.mkIface t_cover_odd (.t 11)), q (.panic (.t 12))]
abbrev cover_reader_next_p19 : List AG := [o 5 (.mv (.t 0)), o 6 (.nilck (.t 5)), o 7 (.off 0 (.t 6)), o 8 (.load false 1 (.t 7)), o 9 (.len (.t 8)), o 10 (.cmp .eql (.sc .int) (.t 9) (.c (.int .i64 0)))]
abbrev cover_reader_next_p20 : List AG := [o 2 (.alloc [(.int .i64 0), (.int .i64 0), (.int .i64 0)])]
abbrev cover_reader_next : AFun := ⟨(.seq (.reg cover_reader_next_p20) (.seq (.seq (.reg cover_reader_next_p19) (.cond (.t 10) (.reg cover_reader_next_p18) .skip)) (.seq (.reg cover_reader_next_p17) (.seq (.reg cover_reader_next_p16) (.seq (.reg cover_reader_next_p15) (.seq (.seq (.reg cover_reader_next_p14) (.block 0 [] cover_reader_next_p13)) (.seq (.seq (.reg cover_reader_next_p2) (.cond (.t 72) (.reg cover_reader_next_p1) .skip)) (.seq (.reg cover_reader_next_p0) .ret)))))))), 76, [.cell 2 true 3]⟩
@[simp] theorem c_cover_reader_next : cfun Tryd.prog n_cover_reader_next = some cover_reader_next := by kernel_rfl
@[simp] theorem e_cover_reader_next : hasBody Tryd.prog n_cover_reader_next = true := by kernel_rfl

/- unicode_utf8_decodeRuneInStringSlow: unicode/utf8.decodeRuneInStringSlow -/
@[simp] theorem e_unicode_utf8_decodeRuneInStringSlow : hasBody Tryd.prog n_unicode_utf8_decodeRuneInStringSlow = true := by kernel_rfl

/- strings_IndexRune: strings.IndexRune HAS BAD -/
@[simp] theorem e_strings_IndexRune : hasBody Tryd.prog n_strings_IndexRune = true := by kernel_rfl

/- unicode_utf8_RuneStart: unicode/utf8.RuneStart -/
@[simp] theorem e_unicode_utf8_RuneStart : hasBody Tryd.prog n_unicode_utf8_RuneStart = true := by kernel_rfl

/- stringslite_IndexByte: internal/stringslite.IndexByte -/
@[simp] theorem e_stringslite_IndexByte : hasBody Tryd.prog n_stringslite_IndexByte = true := by kernel_rfl

/- bytealg_Cutover: internal/bytealg.Cutover -/
@[simp] theorem e_bytealg_Cutover : hasBody Tryd.prog n_bytealg_Cutover = true := by kernel_rfl

/- bytealg_IndexRabinKarp_string: internal/bytealg.IndexRabinKarp[string] -/
@[simp] theorem e_bytealg_IndexRabinKarp_string : hasBody Tryd.prog n_bytealg_IndexRabinKarp_string = true := by kernel_rfl

/- strings_IndexByte: strings.IndexByte -/
@[simp] theorem e_strings_IndexByte : hasBody Tryd.prog n_strings_IndexByte = true := by kernel_rfl

/- unicode_utf8_ValidRune: unicode/utf8.ValidRune -/
@[simp] theorem e_unicode_utf8_ValidRune : hasBody Tryd.prog n_unicode_utf8_ValidRune = true := by kernel_rfl

/- bytealg_hashStr_string: internal/bytealg.hashStr[string] -/
@[simp] theorem e_bytealg_hashStr_string : hasBody Tryd.prog n_bytealg_hashStr_string = true := by kernel_rfl

/- gosem_cut_vars: gosem.cut.vars -/
abbrev gosem_cut_vars_p0 : List AG := [o 27 (.load false 1 (.g 1)), o 28 (.build [(.int .i64 0), (.int .i64 0)] [(0, 1, (.c (.int .i64 0))), (1, 1, (.c (.int .i64 8)))]), q (.upd (.sc .int) (.t 27) (.c (.int .i64 10)) (.t 28))]
abbrev gosem_cut_vars_p1 : List AG := [o 25 (.load false 1 (.g 1)), o 26 (.build [(.int .i64 0), (.int .i64 0)] [(0, 1, (.c (.int .i64 2))), (1, 1, (.c (.int .i64 8)))]), q (.upd (.sc .int) (.t 25) (.c (.int .i64 9)) (.t 26))]
abbrev gosem_cut_vars_p2 : List AG := [o 23 (.load false 1 (.g 1)), o 24 (.build [(.int .i64 0), (.int .i64 0)] [(0, 1, (.c (.int .i64 2))), (1, 1, (.c (.int .i64 8)))]), q (.upd (.sc .int) (.t 23) (.c (.int .i64 8)) (.t 24))]
abbrev gosem_cut_vars_p3 : List AG := [o 21 (.load false 1 (.g 1)), o 22 (.build [(.int .i64 0), (.int .i64 0)] [(0, 1, (.c (.int .i64 2))), (1, 1, (.c (.int .i64 8)))]), q (.upd (.sc .int) (.t 21) (.c (.int .i64 7)) (.t 22))]
abbrev gosem_cut_vars_p4 : List AG := [o 19 (.load false 1 (.g 1)), o 20 (.build [(.int .i64 0), (.int .i64 0)] [(0, 1, (.c (.int .i64 2))), (1, 1, (.c (.int .i64 8)))]), q (.upd (.sc .int) (.t 19) (.c (.int .i64 6)) (.t 20))]
abbrev gosem_cut_vars_p5 : List AG := [o 17 (.load false 1 (.g 1)), o 18 (.build [(.int .i64 0), (.int .i64 0)] [(0, 1, (.c (.int .i64 2))), (1, 1, (.c (.int .i64 8)))]), q (.upd (.sc .int) (.t 17) (.c (.int .i64 5)) (.t 18))]
abbrev gosem_cut_vars_p6 : List AG := [o 15 (.load false 1 (.g 1)), o 16 (.build [(.int .i64 0), (.int .i64 0)] [(0, 1, (.c (.int .i64 2))), (1, 1, (.c (.int .i64 8)))]), q (.upd (.sc .int) (.t 15) (.c (.int .i64 4)) (.t 16))]
abbrev gosem_cut_vars_p7 : List AG := [o 13 (.load false 1 (.g 1)), o 14 (.build [(.int .i64 0), (.int .i64 0)] [(0, 1, (.c (.int .i64 1))), (1, 1, (.c (.int .i64 1)))]), q (.upd (.sc .int) (.t 13) (.c (.int .i64 3)) (.t 14))]
abbrev gosem_cut_vars_p8 : List AG := [o 11 (.load false 1 (.g 1)), o 12 (.build [(.int .i64 0), (.int .i64 0)] [(0, 1, (.c (.int .i64 1))), (1, 1, (.c (.int .i64 1)))]), q (.upd (.sc .int) (.t 11) (.c (.int .i64 2)) (.t 12))]
abbrev gosem_cut_vars_p9 : List AG := [o 9 (.load false 1 (.g 1)), o 10 (.build [(.int .i64 0), (.int .i64 0)] [(0, 1, (.c (.int .i64 0))), (1, 1, (.c (.int .i64 0)))]), q (.upd (.sc .int) (.t 9) (.c (.int .i64 1)) (.t 10))]
abbrev gosem_cut_vars_p10 : List AG := [o 7 (.load false 1 (.g 1)), o 8 (.build [(.int .i64 0), (.int .i64 0)] [(0, 1, (.c (.int .i64 0))), (1, 1, (.c (.int .i64 0)))]), q (.upd (.sc .int) (.t 7) (.c (.int .i64 0)) (.t 8))]
abbrev gosem_cut_vars_p11 : List AG := [o 6 (.mkMap), q (.store 1 (.g 1) (.t 6))]
abbrev gosem_cut_vars_p12 : List AG := [o 0 (.build [(.int .u8 0), (.int .u8 0)] [(0, 1, (.c (.int .u8 128))), (1, 1, (.c (.int .u8 191)))]), o 1 (.build [(.int .u8 0), (.int .u8 0)] [(0, 1, (.c (.int .u8 160))), (1, 1, (.c (.int .u8 191)))]), o 2 (.build [(.int .u8 0), (.int .u8 0)] [(0, 1, (.c (.int .u8 128))), (1, 1, (.c (.int .u8 159)))]), o 3 (.build [(.int .u8 0), (.int .u8 0)] [(0, 1, (.c (.int .u8 144))), (1, 1, (.c (.int .u8 191)))]), o 4 (.build [(.int .u8 0), (.int .u8 0)] [(0, 1, (.c (.int .u8 128))), (1, 1, (.c (.int .u8 143)))]), o 5 (.build [(.int .u8 0), (.int .u8 0), (.int .u8 0), (.int .u8 0), (.int .u8 0), (.int .u8 0), (.int .u8 0), (.int .u8 0), (.int .u8 0), (.int .u8 0), (.int .u8 0), (.int .u8 0), (.int .u8 0), (.int .u8 0), (.int .u8 0), (.int .u8 0), (.int .u8 0), (.int .u8 0), (.int .u8 0), (.int .u8 0), (.int .u8 0), (.int .u8 0), (.int .u8 0), (.int .u8 0), (.int .u8 0), (.int .u8 0), (.int .u8 0), (.int .u8 0), (.int .u8 0), (.int .u8 0), (.int .u8 0), (.int .u8 0)] [(0, 2, (.t 0)), (2, 2, (.t 1)), (4, 2, (.t 2)), (6, 2, (.t 3)), (8, 2, (.t 4))]), q (.store 32 (.g 3) (.t 5))]
abbrev gosem_cut_vars : AFun := ⟨(.seq (.reg gosem_cut_vars_p12) (.seq (.reg gosem_cut_vars_p11) (.seq (.reg gosem_cut_vars_p10) (.seq (.reg gosem_cut_vars_p9) (.seq (.reg gosem_cut_vars_p8) (.seq (.reg gosem_cut_vars_p7) (.seq (.reg gosem_cut_vars_p6) (.seq (.reg gosem_cut_vars_p5) (.seq (.reg gosem_cut_vars_p4) (.seq (.reg gosem_cut_vars_p3) (.seq (.reg gosem_cut_vars_p2) (.seq (.reg gosem_cut_vars_p1) (.reg gosem_cut_vars_p0))))))))))))), 29, []⟩
@[simp] theorem c_gosem_cut_vars : cfun Tryd.prog n_gosem_cut_vars = some gosem_cut_vars := by kernel_rfl
@[simp] theorem e_gosem_cut_vars : hasBody Tryd.prog n_gosem_cut_vars = true := by kernel_rfl

end Go.Proofs.YtpjpaojjagffoaaDoor
