/- The functions, as the abstract machine has them. Printed by a program. -/
import Derived.Test.YtdodijoconoeeaaDoorAMd
import Derived.Test.YtdodijoconoeeaaDoorChecked
import Derived.KernelRfl
set_option linter.unusedSimpArgs false
set_option linter.unusedVariables false
namespace Go.Proofs.YtdodijoconoeeaaDoor
open Go.AM Go.Proofs
abbrev n_gosem_cut : FuncId := 1
abbrev n_gosem_cut_init : FuncId := 2
abbrev n_w06_NetChecks : FuncId := 3
abbrev n_w06_NetCanon : FuncId := 4
abbrev n_w06_NetCovers : FuncId := 5
abbrev n_w06_NetNames : FuncId := 6
abbrev n_w06_works : FuncId := 7
abbrev n_w06_Few : FuncId := 8
abbrev n_net_Check : FuncId := 9
abbrev n_r06_Check : FuncId := 10
abbrev n_r01_Texts : FuncId := 11
abbrev n_net_Nets : FuncId := 12
abbrev n_r06_Nets : FuncId := 13
abbrev n_r06_Place : FuncId := 14
abbrev n_r06_Same : FuncId := 15
abbrev n_net_Place : FuncId := 16
abbrev n_net_Same : FuncId := 17
abbrev n_w06_FewGate : FuncId := 18
abbrev n_net_Canon : FuncId := 19
abbrev n_r06_SameGate : FuncId := 20
abbrev n_net_Gate : FuncId := 21
abbrev n_r06_Rows : FuncId := 22
abbrev n_w05_Texts : FuncId := 23
abbrev n_net_Check_1 : FuncId := 24
abbrev n_net_Check_2 : FuncId := 25
abbrev n_net_need : FuncId := 26
abbrev n_slices_ContainsFunc_api_Gate_api_Gate : FuncId := 27
abbrev n_net_told : FuncId := 28
abbrev n_ident_Name : FuncId := 29
abbrev n_net_once : FuncId := 30
abbrev n_net_used : FuncId := 31
abbrev n_r06_limit : FuncId := 32
abbrev n_r06_Told : FuncId := 33
abbrev n_r04_Name : FuncId := 34
abbrev n_r06_twice : FuncId := 35
abbrev n_r06_Gate : FuncId := 36
abbrev n_r06_Used : FuncId := 37
abbrev n_r01_Has : FuncId := 38
abbrev n_slices_Clone_string_string : FuncId := 39
abbrev n_slices_Index_string_string : FuncId := 40
abbrev n_slices_Equal_string_string : FuncId := 41
abbrev n_slices_Equal_api_Latch_api_Latch : FuncId := 42
abbrev n_slices_EqualFunc_api_Gate_api_Gate_api_Gate_api_Gate : FuncId := 43
abbrev n_net_same : FuncId := 44
abbrev n_net_has : FuncId := 45
abbrev n_net_rows : FuncId := 46
abbrev n_net_Gate_1 : FuncId := 47
abbrev n_net_row : FuncId := 48
abbrev n_slices_ContainsFunc_string_string : FuncId := 49
abbrev n_r06_all : FuncId := 50
abbrev n_r06_odd : FuncId := 51
abbrev n_slices_IndexFunc_api_Gate_api_Gate : FuncId := 52
abbrev n_slices_Concat_string_string : FuncId := 53
abbrev n_ident_name_plain : FuncId := 54
abbrev n_r06_row : FuncId := 55
abbrev n_strings_Repeat : FuncId := 56
abbrev n_net_parity : FuncId := 57
abbrev n_strings_Trim : FuncId := 58
abbrev n_slices_IndexFunc_string_string : FuncId := 59
abbrev n_slices_Grow_string_string : FuncId := 60
abbrev n_ident_name_plain_1 : FuncId := 61
abbrev n_strings_IndexFunc : FuncId := 62
abbrev n_math_bits_Mul : FuncId := 63
abbrev n_strings_HasPrefix : FuncId := 64
abbrev n_strings_Builder_Grow : FuncId := 65
abbrev n_strings_Builder_WriteString : FuncId := 66
abbrev n_strings_Builder_Len : FuncId := 67
abbrev n_strings_Builder_String : FuncId := 68
abbrev n_net_parity_1 : FuncId := 69
abbrev n_math_bits_OnesCount : FuncId := 70
abbrev n_strings_trimLeftByte : FuncId := 71
abbrev n_strings_trimRightByte : FuncId := 72
abbrev n_strings_makeASCIISet : FuncId := 73
abbrev n_strings_trimLeftASCII : FuncId := 74
abbrev n_strings_trimRightASCII : FuncId := 75
abbrev n_strings_trimLeftUnicode : FuncId := 76
abbrev n_strings_trimRightUnicode : FuncId := 77
abbrev n_strings_indexFunc : FuncId := 78
abbrev n_math_bits_Mul32 : FuncId := 79
abbrev n_math_bits_Mul64 : FuncId := 80
abbrev n_stringslite_HasPrefix : FuncId := 81
abbrev n_strings_Builder_copyCheck : FuncId := 82
abbrev n_strings_Builder_grow : FuncId := 83
abbrev n_math_bits_OnesCount32 : FuncId := 84
abbrev n_math_bits_OnesCount64 : FuncId := 85
abbrev n_strings_asciiSet_contains : FuncId := 86
abbrev n_unicode_utf8_DecodeRuneInString : FuncId := 87
abbrev n_strings_ContainsRune : FuncId := 88
abbrev n_unicode_utf8_DecodeLastRuneInString : FuncId := 89
abbrev n_bytealg_MakeNoZero : FuncId := 91
abbrev n_unicode_utf8_decodeRuneInStringSlow : FuncId := 92
abbrev n_strings_IndexRune : FuncId := 93
abbrev n_unicode_utf8_RuneStart : FuncId := 94
abbrev n_strings_IndexByte : FuncId := 95
abbrev n_unicode_utf8_ValidRune : FuncId := 96
abbrev n_bytealg_Cutover : FuncId := 97
abbrev n_bytealg_IndexString : FuncId := 98
abbrev n_stringslite_IndexByte : FuncId := 99
abbrev n_bytealg_IndexByteString : FuncId := 100
abbrev n_gosem_cut_vars : FuncId := 125
abbrev t_uint8 : TypeId := 5
abbrev t_string : TypeId := 9
abbrev t_api_Gate_2 : TypeId := 39
abbrev t_api_Latch_2 : TypeId := 47
abbrev t_net_wrong : TypeId := 50
/- w06_NetChecks: patchbay/patchbaylaw06.NetChecks -/
abbrev w06_NetChecks_p0 : List AG := [o 54 (.mv (.t 7)), o 55 (.mv (.t 54)), oy 56 55 (.mv (.t 9)), oy 57 55 (.mv (.t 11)), oy 58 55 (.cmp .eql (.sc .int) (.t 56) (.t 57)), o 59 (.pick (.t 55) (.t 58) (.c (.bool false))), o 60 (.mv (.t 59)), oy 61 60 (.mv (.t 10)), oy 62 60 (.mv (.t 12)), oy 63 60 (.cmp .eql (.sc .str) (.t 61) (.t 62)), o 64 (.pick (.t 60) (.t 63) (.c (.bool false))), o 65 (.mv (.t 64)), oy 66 65 (.mv (.t 13)), o 67 (.pick (.t 65) (.t 66) (.c (.bool false))), o 68 (.mv (.t 67)), oy 69 68 (.load true 4 (.t 3)), oy 70 68 (.mv (.t 2)), oy 71 68 (.call (.f n_net_Place) [(.t 69), (.t 70)]), oy 72 68 (.mv (.t 14)), oy 73 68 (.cmp .eql (.sc .int) (.t 71) (.t 72)), o 74 (.pick (.t 68) (.t 73) (.c (.bool false))), o 75 (.mv (.t 74)), oy 76 75 (.load true 4 (.t 3)), oy 77 75 (.load true 4 (.t 4)), oy 78 75 (.call (.f n_net_Same) [(.t 76), (.t 77)]), oy 79 75 (.mv (.t 15)), oy 80 75 (.cmp .eql (.sc .bool) (.t 78) (.t 79)), o 81 (.pick (.t 75) (.t 80) (.c (.bool false))), o 6 (.mv (.t 81))]
abbrev w06_NetChecks_p1 : List AG := [o 51 (.load true 4 (.t 3)), o 52 (.load true 4 (.t 4)), o 53 (.call (.f n_r06_Same) [(.t 51), (.t 52)]), o 15 (.mv (.t 53))]
abbrev w06_NetChecks_p2 : List AG := [o 48 (.load true 4 (.t 3)), o 49 (.mv (.t 2)), o 50 (.call (.f n_r06_Place) [(.t 48), (.t 49)]), o 14 (.mv (.t 50))]
abbrev w06_NetChecks_p3 : List AG := [o 43 (.load true 4 (.t 3)), o 44 (.call (.f n_net_Nets) [(.t 43)]), o 45 (.load true 4 (.t 3)), o 46 (.call (.f n_r06_Nets) [(.t 45)]), o 47 (.call (.f n_r01_Texts) [(.t 44), (.t 46)]), o 13 (.mv (.t 47))]
abbrev w06_NetChecks_p4 : List AG := [o 39 (.load true 4 (.t 3)), o 40 (.call (.f n_r06_Check) [(.t 39)]), o 38 (.mv (.t 40)), o 41 (.extract (.t 38) 0), o 42 (.extract (.t 38) 1), o 11 (.mv (.t 41)), o 12 (.mv (.t 42))]
abbrev w06_NetChecks_p5 : List AG := [o 34 (.load true 4 (.t 3)), o 35 (.call (.f n_net_Check) [(.t 34)]), o 33 (.mv (.t 35)), o 36 (.extract (.t 33) 0), o 37 (.extract (.t 33) 1), o 9 (.mv (.t 36)), o 10 (.mv (.t 37))]
abbrev w06_NetChecks_p6 : List AG := [o 32 (.mv (.t 7)), o 6 (.mv (.t 32))]
abbrev w06_NetChecks_p7 : ACode := (.seq (.reg w06_NetChecks_p6) .ret)
abbrev w06_NetChecks_p8 : List AG := [o 25 (.mv (.t 8)), o 26 (.not (.t 25)), o 27 (.mv (.t 26)), on 28 27 (.mv (.t 2)), on 29 27 (.lenStr (.t 28)), on 30 27 (.cmp .gtr (.sc .int) (.t 29) (.c (.int .i64 60))), o 31 (.pick (.t 27) (.c (.bool true)) (.t 30))]
abbrev w06_NetChecks_p9 : List AG := [o 19 (.load true 4 (.t 3)), o 20 (.call (.f n_w06_Few) [(.t 19)]), o 21 (.mv (.t 20)), oy 22 21 (.load true 4 (.t 4)), oy 23 21 (.call (.f n_w06_Few) [(.t 22)]), o 24 (.pick (.t 21) (.t 23) (.c (.bool false))), o 8 (.mv (.t 24))]
abbrev w06_NetChecks_p10 : List AG := [o 6 (.mv (.c (.bool false)))]
abbrev w06_NetChecks_p11 : ACode := (.seq (.reg w06_NetChecks_p10) .ret)
abbrev w06_NetChecks_p12 : List AG := [o 17 (.mv (.t 7)), o 18 (.not (.t 17))]
abbrev w06_NetChecks_p13 : List AG := [o 16 (.call (.f n_w06_works) []), o 7 (.mv (.t 16))]
abbrev w06_NetChecks_p14 : List AG := [o 3 (.box 4 (.t 0)), o 4 (.box 4 (.t 1)), o 6 (.mv (.c (.bool false)))]
abbrev w06_NetChecks : AFun := ⟨(.seq (.reg w06_NetChecks_p14) (.seq (.reg w06_NetChecks_p13) (.seq (.seq (.reg w06_NetChecks_p12) (.cond (.t 18) w06_NetChecks_p11 .skip)) (.seq (.reg w06_NetChecks_p9) (.seq (.seq (.reg w06_NetChecks_p8) (.cond (.t 31) w06_NetChecks_p7 .skip)) (.seq (.reg w06_NetChecks_p5) (.seq (.reg w06_NetChecks_p4) (.seq (.dreg [O,O,I,O,O,O] [2,4,4,5,7,7] w06_NetChecks_p3) (.seq (.reg w06_NetChecks_p2) (.seq (.reg w06_NetChecks_p1) (.seq (.reg w06_NetChecks_p0) .ret))))))))))), 82, [.tmp 6]⟩
@[simp] theorem c_w06_NetChecks : cfun Tryd.prog n_w06_NetChecks = some w06_NetChecks := by kernel_rfl
@[simp] theorem e_w06_NetChecks : hasBody Tryd.prog n_w06_NetChecks = true := by kernel_rfl

/- w06_NetCanon: patchbay/patchbaylaw06.NetCanon -/
abbrev w06_NetCanon_p0 : List AG := [o 43 (.mv (.t 3)), o 44 (.mv (.t 43)), oy 45 44 (.mv (.t 6)), o 46 (.pick (.t 44) (.t 45) (.c (.bool false))), o 47 (.mv (.t 46)), oy 48 47 (.off 0 (.t 5)), oy 49 47 (.load false 1 (.t 48)), oy 50 47 (.off 0 (.t 1)), oy 51 47 (.load false 1 (.t 50)), oy 52 47 (.cmp .eql (.sc .str) (.t 49) (.t 51)), o 53 (.pick (.t 47) (.t 52) (.c (.bool false))), o 54 (.mv (.t 53)), oy 55 54 (.mv (.t 9)), o 56 (.pick (.t 54) (.t 55) (.c (.bool false))), o 57 (.mv (.t 56)), oy 58 57 (.load true 5 (.t 1)), oy 59 57 (.call (.f n_net_Gate) [(.t 58)]), oy 60 57 (.not (.t 59)), oy 61 57 (.mv (.t 60)), on 62 61 (.load true 5 (.t 5)), on 63 61 (.call (.f n_net_Gate) [(.t 62)]), oy 64 57 (.pick (.t 61) (.c (.bool true)) (.t 63)), o 65 (.pick (.t 57) (.t 64) (.c (.bool false))), o 66 (.mv (.t 65)), oy 67 66 (.mv (.t 8)), oy 68 66 (.not (.t 67)), oy 69 66 (.mv (.t 68)), on 70 69 (.load true 5 (.t 7)), on 71 69 (.call (.f n_net_Canon) [(.t 70)]), on 72 69 (.call (.f n_net_Gate) [(.t 71)]), oy 73 66 (.pick (.t 69) (.c (.bool true)) (.t 72)), o 74 (.pick (.t 66) (.t 73) (.c (.bool false))), o 2 (.mv (.t 74))]
abbrev w06_NetCanon_p1 : List AG := [o 38 (.off 2 (.t 5)), o 39 (.load false 1 (.t 38)), o 40 (.off 2 (.t 1)), o 41 (.load false 1 (.t 40)), o 42 (.call (.f n_r01_Texts) [(.t 39), (.t 41)]), o 9 (.mv (.t 42))]
abbrev w06_NetCanon_p2 : List AG := [o 30 (.off 1 (.t 1)), o 31 (.load false 1 (.t 30)), o 32 (.cmp .geq (.sc .int) (.t 31) (.c (.int .i64 2))), o 33 (.mv (.t 32)), oy 34 33 (.off 1 (.t 1)), oy 35 33 (.load false 1 (.t 34)), oy 36 33 (.cmp .leq (.sc .int) (.t 35) (.c (.int .i64 9))), o 37 (.pick (.t 33) (.t 36) (.c (.bool false))), o 8 (.mv (.t 37))]
abbrev w06_NetCanon_p3 : List AG := [o 24 (.off 0 (.t 1)), o 25 (.load false 1 (.t 24)), o 26 (.off 1 (.t 1)), o 27 (.load false 1 (.t 26)), o 28 (.lit 1 [(.str [])] [(0, (.c (.str [97])))]), o 29 (.build [(.str []), (.int .i64 0), (.list true 0 []), (.list true 0 []), (.bool false)] [(0, 1, (.t 25)), (1, 1, (.t 27)), (2, 1, (.t 28))]), o 7 (.alloc [(.str []), (.int .i64 0), (.own 1 t_string []), (.own 1 t_string []), (.bool false)]), q (.store 5 (.t 7) (.t 29))]
abbrev w06_NetCanon_p4 : List AG := [o 20 (.load true 5 (.t 5)), o 21 (.call (.f n_net_Canon) [(.t 20)]), o 22 (.load true 5 (.t 5)), o 23 (.call (.f n_r06_SameGate) [(.t 21), (.t 22)]), o 6 (.mv (.t 23))]
abbrev w06_NetCanon_p5 : List AG := [o 18 (.load true 5 (.t 1)), o 19 (.call (.f n_net_Canon) [(.t 18)]), o 5 (.alloc [(.str []), (.int .i64 0), (.own 1 t_string []), (.own 1 t_string []), (.bool false)]), q (.store 5 (.t 5) (.t 19))]
abbrev w06_NetCanon_p6 : List AG := [o 17 (.mv (.t 3)), o 2 (.mv (.t 17))]
abbrev w06_NetCanon_p7 : ACode := (.seq (.reg w06_NetCanon_p6) .ret)
abbrev w06_NetCanon_p8 : List AG := [o 15 (.mv (.t 4)), o 16 (.not (.t 15))]
abbrev w06_NetCanon_p9 : List AG := [o 13 (.load true 5 (.t 1)), o 14 (.call (.f n_w06_FewGate) [(.t 13)]), o 4 (.mv (.t 14))]
abbrev w06_NetCanon_p10 : List AG := [o 2 (.mv (.c (.bool false)))]
abbrev w06_NetCanon_p11 : ACode := (.seq (.reg w06_NetCanon_p10) .ret)
abbrev w06_NetCanon_p12 : List AG := [o 11 (.mv (.t 3)), o 12 (.not (.t 11))]
abbrev w06_NetCanon_p13 : List AG := [o 10 (.call (.f n_w06_works) []), o 3 (.mv (.t 10))]
abbrev w06_NetCanon_p14 : List AG := [o 1 (.box 5 (.t 0)), o 2 (.mv (.c (.bool false)))]
abbrev w06_NetCanon : AFun := ⟨(.seq (.reg w06_NetCanon_p14) (.seq (.reg w06_NetCanon_p13) (.seq (.seq (.reg w06_NetCanon_p12) (.cond (.t 12) w06_NetCanon_p11 .skip)) (.seq (.reg w06_NetCanon_p9) (.seq (.seq (.reg w06_NetCanon_p8) (.cond (.t 16) w06_NetCanon_p7 .skip)) (.seq (.reg w06_NetCanon_p5) (.seq (.dreg [O,O,I,O,O] [2,4,4,6,6] w06_NetCanon_p4) (.seq (.reg w06_NetCanon_p3) (.seq (.reg w06_NetCanon_p2) (.seq (.reg w06_NetCanon_p1) (.seq (.reg w06_NetCanon_p0) .ret))))))))))), 75, [.tmp 2]⟩
@[simp] theorem c_w06_NetCanon : cfun Tryd.prog n_w06_NetCanon = some w06_NetCanon := by kernel_rfl
@[simp] theorem e_w06_NetCanon : hasBody Tryd.prog n_w06_NetCanon = true := by kernel_rfl

/- w06_NetCovers: patchbay/patchbaylaw06.NetCovers -/
abbrev w06_NetCovers_p0 : List AG := [o 71 (.mv (.t 7)), o 72 (.mv (.t 71)), oy 73 72 (.off 1 (.t 14)), oy 74 72 (.load false 1 (.t 73)), oy 75 72 (.mv (.t 0)), oy 76 72 (.cmp .eql (.sc .int) (.t 74) (.t 75)), o 77 (.pick (.t 72) (.t 76) (.c (.bool false))), o 78 (.mv (.t 77)), oy 79 78 (.off 3 (.t 14)), oy 80 78 (.load false 1 (.t 79)), oy 81 78 (.len (.t 80)), oy 82 78 (.cmp .eql (.sc .int) (.t 81) (.c (.int .i64 0))), o 83 (.pick (.t 78) (.t 82) (.c (.bool false))), o 84 (.mv (.t 83)), oy 85 84 (.off 4 (.t 14)), oy 86 84 (.load false 1 (.t 85)), oy 87 84 (.not (.t 86)), o 88 (.pick (.t 84) (.t 87) (.c (.bool false))), o 89 (.mv (.t 88)), oy 90 89 (.off 1 (.t 15)), oy 91 89 (.load false 1 (.t 90)), oy 92 89 (.mv (.t 0)), oy 93 89 (.cmp .eql (.sc .int) (.t 91) (.t 92)), oy 94 89 (.mv (.t 16)), oy 95 89 (.cmp .eql (.sc .bool) (.t 93) (.t 94)), o 96 (.pick (.t 89) (.t 95) (.c (.bool false))), o 6 (.mv (.t 96))]
abbrev w06_NetCovers_p1 : List AG := [o 61 (.off 3 (.t 5)), o 62 (.load false 1 (.t 61)), o 63 (.mv (.t 10)), o 64 (.call (.f n_r01_Texts) [(.t 62), (.t 63)]), o 65 (.mv (.t 64)), oy 66 65 (.off 4 (.t 5)), oy 67 65 (.load false 1 (.t 66)), oy 68 65 (.mv (.t 11)), oy 69 65 (.cmp .eql (.sc .bool) (.t 67) (.t 68)), o 70 (.pick (.t 65) (.t 69) (.c (.bool false))), o 16 (.mv (.t 70))]
abbrev w06_NetCovers_p2 : List AG := [o 54 (.mv (.t 13)), o 55 (.off 3 (.t 5)), o 56 (.load false 1 (.t 55)), o 57 (.off 4 (.t 5)), o 58 (.load false 1 (.t 57)), o 59 (.build [(.str []), (.int .i64 0), (.list true 0 []), (.list true 0 []), (.bool false)] [(0, 1, (.c (.str [122]))), (1, 1, (.c (.int .i64 10))), (2, 1, (.t 54)), (3, 1, (.t 56)), (4, 1, (.t 58))]), o 60 (.call (.f n_net_Canon) [(.t 59)]), o 15 (.alloc [(.str []), (.int .i64 0), (.own 1 t_string []), (.own 1 t_string []), (.bool false)]), q (.store 5 (.t 15) (.t 60))]
abbrev w06_NetCovers_p3 : List AG := [o 49 (.mv (.t 13)), o 50 (.mv (.t 10)), o 51 (.mv (.t 11)), o 52 (.build [(.str []), (.int .i64 0), (.list true 0 []), (.list true 0 []), (.bool false)] [(0, 1, (.c (.str [122]))), (1, 1, (.c (.int .i64 10))), (2, 1, (.t 49)), (3, 1, (.t 50)), (4, 1, (.t 51))]), o 53 (.call (.f n_net_Canon) [(.t 52)]), o 14 (.alloc [(.str []), (.int .i64 0), (.own 1 t_string []), (.own 1 t_string []), (.bool false)]), q (.store 5 (.t 14) (.t 53))]
abbrev w06_NetCovers_p4 : List AG := [o 46 (.lit 1 [(.str []), (.str []), (.str []), (.str []), (.str []), (.str []), (.str []), (.str [])] [(0, (.c (.str [97]))), (1, (.c (.str [98]))), (2, (.c (.str [99]))), (3, (.c (.str [100]))), (4, (.c (.str [101]))), (5, (.c (.str [102]))), (6, (.c (.str [103]))), (7, (.c (.str [104])))]), o 47 (.mv (.t 9)), o 48 (.slice 1 (.t 46) none (some (.t 47))), o 13 (.mv (.t 48))]
abbrev w06_NetCovers_p5 : List AG := [o 45 (.mv (.t 7)), o 6 (.mv (.t 45))]
abbrev w06_NetCovers_p6 : ACode := (.seq (.reg w06_NetCovers_p5) .ret)
abbrev w06_NetCovers_p7 : List AG := [o 43 (.mv (.t 12)), o 44 (.not (.t 43))]
abbrev w06_NetCovers_p8 : List AG := [o 37 (.mv (.t 0)), o 38 (.mv (.t 9)), o 39 (.call (.f n_r06_Rows) [(.t 37), (.t 38)]), o 36 (.mv (.t 39)), o 40 (.extract (.t 36) 0), o 41 (.extract (.t 36) 1), o 42 (.extract (.t 36) 2), o 10 (.mv (.t 40)), o 11 (.mv (.t 41)), o 12 (.mv (.t 42))]
abbrev w06_NetCovers_p9 : List AG := [o 33 (.mv (.t 1)), o 34 (.conv .i64 (.t 33)), o 35 (.ibin .rem (.t 34) (.c (.int .i64 9))), o 9 (.mv (.t 35))]
abbrev w06_NetCovers_p10 : List AG := [o 32 (.mv (.t 7)), o 6 (.mv (.t 32))]
abbrev w06_NetCovers_p11 : ACode := (.seq (.reg w06_NetCovers_p10) .ret)
abbrev w06_NetCovers_p12 : List AG := [o 22 (.mv (.t 8)), o 23 (.not (.t 22)), o 24 (.mv (.t 23)), on 25 24 (.mv (.t 0)), on 26 24 (.cmp .lss (.sc .int) (.t 25) (.c (.int .i64 0))), o 27 (.pick (.t 24) (.c (.bool true)) (.t 26)), o 28 (.mv (.t 27)), on 29 28 (.mv (.t 0)), on 30 28 (.cmp .gtr (.sc .int) (.t 29) (.c (.int .i64 9))), o 31 (.pick (.t 28) (.c (.bool true)) (.t 30))]
abbrev w06_NetCovers_p13 : List AG := [o 20 (.load true 5 (.t 5)), o 21 (.call (.f n_w06_FewGate) [(.t 20)]), o 8 (.mv (.t 21))]
abbrev w06_NetCovers_p14 : List AG := [o 6 (.mv (.c (.bool false)))]
abbrev w06_NetCovers_p15 : ACode := (.seq (.reg w06_NetCovers_p14) .ret)
abbrev w06_NetCovers_p16 : List AG := [o 18 (.mv (.t 7)), o 19 (.not (.t 18))]
abbrev w06_NetCovers_p17 : List AG := [o 17 (.call (.f n_w06_works) []), o 7 (.mv (.t 17))]
abbrev w06_NetCovers_p18 : List AG := [o 5 (.box 5 (.t 2)), o 6 (.mv (.c (.bool false)))]
abbrev w06_NetCovers : AFun := ⟨(.seq (.reg w06_NetCovers_p18) (.seq (.reg w06_NetCovers_p17) (.seq (.seq (.reg w06_NetCovers_p16) (.cond (.t 19) w06_NetCovers_p15 .skip)) (.seq (.reg w06_NetCovers_p13) (.seq (.seq (.reg w06_NetCovers_p12) (.cond (.t 31) w06_NetCovers_p11 .skip)) (.seq (.reg w06_NetCovers_p9) (.seq (.reg w06_NetCovers_p8) (.seq (.seq (.reg w06_NetCovers_p7) (.cond (.t 44) w06_NetCovers_p6 .skip)) (.seq (.reg w06_NetCovers_p4) (.seq (.reg w06_NetCovers_p3) (.seq (.reg w06_NetCovers_p2) (.seq (.reg w06_NetCovers_p1) (.seq (.reg w06_NetCovers_p0) .ret))))))))))))), 97, [.tmp 6]⟩
@[simp] theorem c_w06_NetCovers : cfun Tryd.prog n_w06_NetCovers = some w06_NetCovers := by kernel_rfl
@[simp] theorem e_w06_NetCovers : hasBody Tryd.prog n_w06_NetCovers = true := by kernel_rfl

/- w06_NetNames: patchbay/patchbaylaw06.NetNames -/
abbrev w06_NetNames_p0 : List AG := [o 99 (.mv (.t 3)), o 100 (.mv (.t 99)), oy 101 100 (.mv (.t 6)), oy 102 100 (.cmp .eql (.sc .str) (.t 101) (.c (.str []))), o 103 (.pick (.t 100) (.t 102) (.c (.bool false))), o 104 (.mv (.t 103)), oy 105 104 (.mv (.t 7)), oy 106 104 (.len (.t 105)), oy 107 104 (.off 0 (.t 1)), oy 108 104 (.load false 1 (.t 107)), oy 109 104 (.len (.t 108)), oy 110 104 (.off 2 (.t 1)), oy 111 104 (.load false 1 (.t 110)), oy 112 104 (.len (.t 111)), oy 113 104 (.ibin .add (.t 109) (.t 112)), oy 114 104 (.off 3 (.t 1)), oy 115 104 (.load false 1 (.t 114)), oy 116 104 (.len (.t 115)), oy 117 104 (.ibin .add (.t 113) (.t 116)), oy 118 104 (.cmp .eql (.sc .int) (.t 106) (.t 117)), o 119 (.pick (.t 104) (.t 118) (.c (.bool false))), o 120 (.mv (.t 119)), oy 121 120 (.mv (.t 7)), oy 122 120 (.len (.t 121)), oy 123 120 (.cmp .leq (.sc .int) (.t 122) (.c (.int .i64 200))), o 124 (.pick (.t 120) (.t 123) (.c (.bool false))), o 2 (.mv (.t 124))]
abbrev w06_NetNames_m1 : List Bool := [O,I,O,I,O,O,I,I,O,O,I,O,O,O,O,O,O,O,O,O,O,O,O,O,O,O,O,O,O,O,O,O,O,O,O,O,O,O,O,O,O,O,O,O,O,O,O,O,O,O,O,O,O,O,O,O,O,O,O,O,O,O,O,O,O,O,O,O,O,O,O,O,O,O,O,O,O,O,O,O,O,O,O,O,O,O,O,O,O,O,O,O,O,O,O,O,O,O,O,O,O,O,O,O,O,O,O,O,O,O,O,O,O,O,O,O,O,O,O,O,O,O,O,O,O]
abbrev w06_NetNames_x1 : List Bool := [O,I,O,I,O,O,I,I,O,O,O,O,O,O,O,O,O,O,O,O,O,O,O,O,O,O,O,O,O,O,O,O,O,O,O,O,O,O,O,O,O,O,O,O,O,O,O,O,O,O,O,O,O,O,O,O,O,O,O,O,O,O,O,O,O,O,O,O,O,O,O,O,O,O,O,O,O,O,O,O,O,O,O,O,O,O,O,O,O,O,O,O,O,O,O,O,O,O,O,O,O,O,O,O,O,O,O,O,O,O,O,O,O,O,O,O,O,O,O,O,O,O,O,O,O]
abbrev w06_NetNames_p2 : List AG := [o 74 (.mv (.t 10)), o 75 (.ibin .add (.t 74) (.c (.int .i64 1))), o 10 (.mv (.t 75))]
abbrev w06_NetNames_m3 : List Bool := [O,I,O,I,O,O,I,I,O,O,I,I,O,O,O,O,O,O,O,O,O,O,O,O,O,O,O,O,O,O,O,O,O,O,O,O,O,O,O,O,O,O,O,O,O,O,O,O,O,O,O,O,O,O,O,O,O,O,O,O,O,O,O,O,O,O,O,O,O,O,O,O,O,O,O,O,O,O,O,O,O,O,O,O,O,O,O,O,O,O,O,O,O,O,O,O,O,O,O,O,O,O,O,O,O,O,O,O,O,O,O,O,O,O,O,O,O,O,O,O,O,O,O,O,O]
abbrev w06_NetNames_x3 : List Bool := [O,I,O,I,O,O,I,I,O,O,I,O,O,O,O,O,O,O,O,O,O,O,O,O,O,O,O,O,O,O,O,O,O,O,O,O,O,O,O,O,O,O,O,O,O,O,O,O,O,O,O,O,O,O,O,O,O,O,O,O,O,O,O,O,O,O,O,O,O,O,O,O,O,O,O,O,O,O,O,O,O,O,O,O,O,O,O,O,O,O,O,O,O,O,O,O,O,O,O,O,O,O,O,O,O,O,O,O,O,O,O,O,O,O,O,O,O,O,O,O,O,O,O,O,O]
abbrev w06_NetNames_p4 : List AG := [o 85 (.mv (.t 11)), o 86 (.ibin .add (.t 85) (.c (.int .i64 1))), o 11 (.mv (.t 86))]
abbrev w06_NetNames_p5 : List AG := [o 2 (.mv (.c (.bool false)))]
abbrev w06_NetNames_p6 : ACode := (.seq (.reg w06_NetNames_p5) .ret)
abbrev w06_NetNames_p7 : List AG := [o 87 (.load true 4 (.t 1)), o 88 (.off 3 (.t 1)), o 89 (.load false 1 (.t 88)), o 90 (.mv (.t 10)), o 91 (.ixAddr 5 (.t 89) (.t 90)), o 92 (.off 2 (.t 91)), o 93 (.load false 1 (.t 92)), o 94 (.mv (.t 11)), o 95 (.ixAddr 1 (.t 93) (.t 94)), o 96 (.load false 1 (.t 95)), o 97 (.call (.f n_net_Place) [(.t 87), (.t 96)]), o 98 (.cmp .lss (.sc .int) (.t 97) (.c (.int .i64 0)))]
abbrev w06_NetNames_p8 : ACode := (.seq (.dreg [O,O,O,O,O,O,O,O,O,O,O,O] [11,11,11,11,11,11,11,11,11,11,13,13] w06_NetNames_p7) (.cond (.t 98) w06_NetNames_p6 .skip))
abbrev w06_NetNames_p9 : List AG := [o 76 (.mv (.t 11)), o 77 (.off 3 (.t 1)), o 78 (.load false 1 (.t 77)), o 79 (.mv (.t 10)), o 80 (.ixAddr 5 (.t 78) (.t 79)), o 81 (.off 2 (.t 80)), o 82 (.load false 1 (.t 81)), o 83 (.len (.t 82)), o 84 (.cmp .lss (.sc .int) (.t 76) (.t 83))]
abbrev w06_NetNames_b3 : ACode := (.seq (.seq (.reg w06_NetNames_p9) (.cond (.t 84) .skip (.exit 6))) (.seq (.block 7 [] w06_NetNames_p8) (.reg w06_NetNames_p4)))
abbrev w06_NetNames_p10 : List AG := [o 11 (.mv (.c (.int .i64 0)))]
abbrev w06_NetNames_p11 : ACode := (.seq (.reg w06_NetNames_p10) (.block 6 w06_NetNames_x3 (.loop w06_NetNames_m3 w06_NetNames_b3)))
abbrev w06_NetNames_p12 : List AG := [o 69 (.mv (.t 10)), o 70 (.off 3 (.t 1)), o 71 (.load false 1 (.t 70)), o 72 (.len (.t 71)), o 73 (.cmp .lss (.sc .int) (.t 69) (.t 72))]
abbrev w06_NetNames_b1 : ACode := (.seq (.seq (.reg w06_NetNames_p12) (.cond (.t 73) .skip (.exit 4))) (.seq (.block 5 [] w06_NetNames_p11) (.reg w06_NetNames_p2)))
abbrev w06_NetNames_p13 : List AG := [o 10 (.mv (.c (.int .i64 0)))]
abbrev w06_NetNames_m14 : List Bool := [O,I,O,I,O,O,I,I,O,I,O,O,O,O,O,O,O,O,O,O,O,O,O,O,O,O,O,O,O,O,O,O,O,O,O,O,O,O,O,O,O,O,O,O,O,O,O,O,O,O,O,O,O,O,O,O,O,O,O,O,O,O,O,O,O,O,O,O,O,O,O,O,O,O,O,O,O,O,O,O,O,O,O,O,O,O,O,O,O,O,O,O,O,O,O,O,O,O,O,O,O,O,O,O,O,O,O,O,O,O,O,O,O,O,O,O,O,O,O,O,O,O,O,O,O]
abbrev w06_NetNames_x14 : List Bool := [O,I,O,I,O,O,I,I,O,O,O,O,O,O,O,O,O,O,O,O,O,O,O,O,O,O,O,O,O,O,O,O,O,O,O,O,O,O,O,O,O,O,O,O,O,O,O,O,O,O,O,O,O,O,O,O,O,O,O,O,O,O,O,O,O,O,O,O,O,O,O,O,O,O,O,O,O,O,O,O,O,O,O,O,O,O,O,O,O,O,O,O,O,O,O,O,O,O,O,O,O,O,O,O,O,O,O,O,O,O,O,O,O,O,O,O,O,O,O,O,O,O,O,O,O]
abbrev w06_NetNames_p15 : List AG := [o 59 (.mv (.t 9)), o 60 (.ibin .add (.t 59) (.c (.int .i64 1))), o 9 (.mv (.t 60))]
abbrev w06_NetNames_p16 : List AG := [o 2 (.mv (.c (.bool false)))]
abbrev w06_NetNames_p17 : ACode := (.seq (.reg w06_NetNames_p16) .ret)
abbrev w06_NetNames_p18 : List AG := [o 61 (.load true 4 (.t 1)), o 62 (.off 1 (.t 1)), o 63 (.load false 1 (.t 62)), o 64 (.mv (.t 9)), o 65 (.ixAddr 1 (.t 63) (.t 64)), o 66 (.load false 1 (.t 65)), o 67 (.call (.f n_net_Place) [(.t 61), (.t 66)]), o 68 (.cmp .lss (.sc .int) (.t 67) (.c (.int .i64 0)))]
abbrev w06_NetNames_p19 : ACode := (.seq (.dreg [O,O,O,O,O,O,O,O] [7,7,7,7,7,7,9,9] w06_NetNames_p18) (.cond (.t 68) w06_NetNames_p17 .skip))
abbrev w06_NetNames_p20 : List AG := [o 54 (.mv (.t 9)), o 55 (.off 1 (.t 1)), o 56 (.load false 1 (.t 55)), o 57 (.len (.t 56)), o 58 (.cmp .lss (.sc .int) (.t 54) (.t 57))]
abbrev w06_NetNames_b14 : ACode := (.seq (.seq (.reg w06_NetNames_p20) (.cond (.t 58) .skip (.exit 2))) (.seq (.block 3 [] w06_NetNames_p19) (.reg w06_NetNames_p15)))
abbrev w06_NetNames_p21 : List AG := [o 9 (.mv (.c (.int .i64 0)))]
abbrev w06_NetNames_m22 : List Bool := [O,I,O,I,O,O,I,I,I,O,O,O,O,O,O,O,O,O,O,O,O,O,O,O,O,O,O,O,O,O,O,O,O,O,O,O,O,O,O,O,O,O,O,O,O,O,O,O,O,O,O,O,O,O,O,O,O,O,O,O,O,O,O,O,O,O,O,O,O,O,O,O,O,O,O,O,O,O,O,O,O,O,O,O,O,O,O,O,O,O,O,O,O,O,O,O,O,O,O,O,O,O,O,O,O,O,O,O,O,O,O,O,O,O,O,O,O,O,O,O,O,O,O,O,O]
abbrev w06_NetNames_x22 : List Bool := [O,I,O,I,O,O,I,I,O,O,O,O,O,O,O,O,O,O,O,O,O,O,O,O,O,O,O,O,O,O,O,O,O,O,O,O,O,O,O,O,O,O,O,O,O,O,O,O,O,O,O,O,O,O,O,O,O,O,O,O,O,O,O,O,O,O,O,O,O,O,O,O,O,O,O,O,O,O,O,O,O,O,O,O,O,O,O,O,O,O,O,O,O,O,O,O,O,O,O,O,O,O,O,O,O,O,O,O,O,O,O,O,O,O,O,O,O,O,O,O,O,O,O,O,O]
abbrev w06_NetNames_p23 : List AG := [o 44 (.mv (.t 8)), o 45 (.ibin .add (.t 44) (.c (.int .i64 1))), o 8 (.mv (.t 45))]
abbrev w06_NetNames_p24 : List AG := [o 2 (.mv (.c (.bool false)))]
abbrev w06_NetNames_p25 : ACode := (.seq (.reg w06_NetNames_p24) .ret)
abbrev w06_NetNames_p26 : List AG := [o 46 (.load true 4 (.t 1)), o 47 (.mv (.t 7)), o 48 (.mv (.t 8)), o 49 (.ixAddr 1 (.t 47) (.t 48)), o 50 (.load false 1 (.t 49)), o 51 (.call (.f n_net_Place) [(.t 46), (.t 50)]), o 52 (.mv (.t 8)), o 53 (.cmp .neq (.sc .int) (.t 51) (.t 52))]
abbrev w06_NetNames_p27 : ACode := (.seq (.dreg [O,O,O,O,O,O,O,O] [6,6,6,6,6,9,9,9] w06_NetNames_p26) (.cond (.t 53) w06_NetNames_p25 .skip))
abbrev w06_NetNames_p28 : List AG := [o 40 (.mv (.t 8)), o 41 (.mv (.t 7)), o 42 (.len (.t 41)), o 43 (.cmp .lss (.sc .int) (.t 40) (.t 42))]
abbrev w06_NetNames_b22 : ACode := (.seq (.seq (.reg w06_NetNames_p28) (.cond (.t 43) .skip (.exit 0))) (.seq (.block 1 [] w06_NetNames_p27) (.reg w06_NetNames_p23)))
abbrev w06_NetNames_p29 : List AG := [o 8 (.mv (.c (.int .i64 0)))]
abbrev w06_NetNames_p30 : List AG := [o 29 (.mv (.t 3)), o 30 (.mv (.t 29)), oy 31 30 (.mv (.t 5)), oy 32 30 (.cmp .neq (.sc .int) (.t 31) (.c (.int .i64 6))), oy 33 30 (.mv (.t 32)), on 34 33 (.load true 4 (.t 1)), on 35 33 (.mv (.t 6)), on 36 33 (.call (.f n_net_Place) [(.t 34), (.t 35)]), on 37 33 (.cmp .eql (.sc .int) (.t 36) (.c (.int .i64 (-1)))), oy 38 30 (.pick (.t 33) (.c (.bool true)) (.t 37)), o 39 (.pick (.t 30) (.t 38) (.c (.bool false))), o 2 (.mv (.t 39))]
abbrev w06_NetNames_p31 : ACode := (.seq (.reg w06_NetNames_p30) .ret)
abbrev w06_NetNames_p32 : List AG := [o 27 (.mv (.t 5)), o 28 (.cmp .neq (.sc .int) (.t 27) (.c (.int .i64 0)))]
abbrev w06_NetNames_p33 : List AG := [o 25 (.load true 4 (.t 1)), o 26 (.call (.f n_net_Nets) [(.t 25)]), o 7 (.mv (.t 26))]
abbrev w06_NetNames_p34 : List AG := [o 21 (.load true 4 (.t 1)), o 22 (.call (.f n_net_Check) [(.t 21)]), o 20 (.mv (.t 22)), o 23 (.extract (.t 20) 0), o 24 (.extract (.t 20) 1), o 5 (.mv (.t 23)), o 6 (.mv (.t 24))]
abbrev w06_NetNames_p35 : List AG := [o 19 (.mv (.t 3)), o 2 (.mv (.t 19))]
abbrev w06_NetNames_p36 : ACode := (.seq (.reg w06_NetNames_p35) .ret)
abbrev w06_NetNames_p37 : List AG := [o 17 (.mv (.t 4)), o 18 (.not (.t 17))]
abbrev w06_NetNames_p38 : List AG := [o 15 (.load true 4 (.t 1)), o 16 (.call (.f n_w06_Few) [(.t 15)]), o 4 (.mv (.t 16))]
abbrev w06_NetNames_p39 : List AG := [o 2 (.mv (.c (.bool false)))]
abbrev w06_NetNames_p40 : ACode := (.seq (.reg w06_NetNames_p39) .ret)
abbrev w06_NetNames_p41 : List AG := [o 13 (.mv (.t 3)), o 14 (.not (.t 13))]
abbrev w06_NetNames_p42 : List AG := [o 12 (.call (.f n_w06_works) []), o 3 (.mv (.t 12))]
abbrev w06_NetNames_p43 : List AG := [o 1 (.box 4 (.t 0)), o 2 (.mv (.c (.bool false)))]
abbrev w06_NetNames : AFun := ⟨(.seq (.reg w06_NetNames_p43) (.seq (.reg w06_NetNames_p42) (.seq (.seq (.reg w06_NetNames_p41) (.cond (.t 14) w06_NetNames_p40 .skip)) (.seq (.reg w06_NetNames_p38) (.seq (.seq (.reg w06_NetNames_p37) (.cond (.t 18) w06_NetNames_p36 .skip)) (.seq (.reg w06_NetNames_p34) (.seq (.reg w06_NetNames_p33) (.seq (.seq (.reg w06_NetNames_p32) (.cond (.t 28) w06_NetNames_p31 .skip)) (.seq (.seq (.reg w06_NetNames_p29) (.block 0 w06_NetNames_x22 (.loop w06_NetNames_m22 w06_NetNames_b22))) (.seq (.seq (.reg w06_NetNames_p21) (.block 2 w06_NetNames_x14 (.loop w06_NetNames_m14 w06_NetNames_b14))) (.seq (.seq (.reg w06_NetNames_p13) (.block 4 w06_NetNames_x1 (.loop w06_NetNames_m1 w06_NetNames_b1))) (.seq (.reg w06_NetNames_p0) .ret)))))))))))), 125, [.tmp 2]⟩
abbrev w06_NetNames_k3 : List It := [.inBlock 5 [], .code (.reg w06_NetNames_p2), .inLoop w06_NetNames_m1 w06_NetNames_b1, .inBlock 4 w06_NetNames_x1, .code (.seq (.reg w06_NetNames_p0) .ret)]
abbrev w06_NetNames_L3 (x1 x3 x6 x7 x10 x11 : AV) (h : List Ob) (e : Cx := cx) : Cfg := atC n_w06_NetNames (.code w06_NetNames_b3 :: .inLoop w06_NetNames_m3 w06_NetNames_b3 :: .inBlock 6 w06_NetNames_x3 :: w06_NetNames_k3) [U,x1,U,x3,U,U,x6,x7,U,U,x10,x11,U,U,U,U,U,U,U,U,U,U,U,U,U,U,U,U,U,U,U,U,U,U,U,U,U,U,U,U,U,U,U,U,U,U,U,U,U,U,U,U,U,U,U,U,U,U,U,U,U,U,U,U,U,U,U,U,U,U,U,U,U,U,U,U,U,U,U,U,U,U,U,U,U,U,U,U,U,U,U,U,U,U,U,U,U,U,U,U,U,U,U,U,U,U,U,U,U,U,U,U,U,U,U,U,U,U,U,U,U,U,U,U,U] h e
abbrev w06_NetNames_E3 (x1 x3 x6 x7 x10 : AV) (h : List Ob) (e : Cx := cx) : Cfg := atC n_w06_NetNames w06_NetNames_k3 [U,x1,U,x3,U,U,x6,x7,U,U,x10,U,U,U,U,U,U,U,U,U,U,U,U,U,U,U,U,U,U,U,U,U,U,U,U,U,U,U,U,U,U,U,U,U,U,U,U,U,U,U,U,U,U,U,U,U,U,U,U,U,U,U,U,U,U,U,U,U,U,U,U,U,U,U,U,U,U,U,U,U,U,U,U,U,U,U,U,U,U,U,U,U,U,U,U,U,U,U,U,U,U,U,U,U,U,U,U,U,U,U,U,U,U,U,U,U,U,U,U,U,U,U,U,U,U] h e
abbrev w06_NetNames_k1 : List It := [.code (.seq (.reg w06_NetNames_p0) .ret)]
abbrev w06_NetNames_L1 (x1 x3 x6 x7 x10 : AV) (h : List Ob) (e : Cx := cx) : Cfg := atC n_w06_NetNames (.code w06_NetNames_b1 :: .inLoop w06_NetNames_m1 w06_NetNames_b1 :: .inBlock 4 w06_NetNames_x1 :: w06_NetNames_k1) [U,x1,U,x3,U,U,x6,x7,U,U,x10,U,U,U,U,U,U,U,U,U,U,U,U,U,U,U,U,U,U,U,U,U,U,U,U,U,U,U,U,U,U,U,U,U,U,U,U,U,U,U,U,U,U,U,U,U,U,U,U,U,U,U,U,U,U,U,U,U,U,U,U,U,U,U,U,U,U,U,U,U,U,U,U,U,U,U,U,U,U,U,U,U,U,U,U,U,U,U,U,U,U,U,U,U,U,U,U,U,U,U,U,U,U,U,U,U,U,U,U,U,U,U,U,U,U] h e
abbrev w06_NetNames_E1 (x1 x3 x6 x7 : AV) (h : List Ob) (e : Cx := cx) : Cfg := atC n_w06_NetNames w06_NetNames_k1 [U,x1,U,x3,U,U,x6,x7,U,U,U,U,U,U,U,U,U,U,U,U,U,U,U,U,U,U,U,U,U,U,U,U,U,U,U,U,U,U,U,U,U,U,U,U,U,U,U,U,U,U,U,U,U,U,U,U,U,U,U,U,U,U,U,U,U,U,U,U,U,U,U,U,U,U,U,U,U,U,U,U,U,U,U,U,U,U,U,U,U,U,U,U,U,U,U,U,U,U,U,U,U,U,U,U,U,U,U,U,U,U,U,U,U,U,U,U,U,U,U,U,U,U,U,U,U] h e
abbrev w06_NetNames_k14 : List It := [.code (.seq (.seq (.reg w06_NetNames_p13) (.block 4 w06_NetNames_x1 (.loop w06_NetNames_m1 w06_NetNames_b1))) (.seq (.reg w06_NetNames_p0) .ret))]
abbrev w06_NetNames_L14 (x1 x3 x6 x7 x9 : AV) (h : List Ob) (e : Cx := cx) : Cfg := atC n_w06_NetNames (.code w06_NetNames_b14 :: .inLoop w06_NetNames_m14 w06_NetNames_b14 :: .inBlock 2 w06_NetNames_x14 :: w06_NetNames_k14) [U,x1,U,x3,U,U,x6,x7,U,x9,U,U,U,U,U,U,U,U,U,U,U,U,U,U,U,U,U,U,U,U,U,U,U,U,U,U,U,U,U,U,U,U,U,U,U,U,U,U,U,U,U,U,U,U,U,U,U,U,U,U,U,U,U,U,U,U,U,U,U,U,U,U,U,U,U,U,U,U,U,U,U,U,U,U,U,U,U,U,U,U,U,U,U,U,U,U,U,U,U,U,U,U,U,U,U,U,U,U,U,U,U,U,U,U,U,U,U,U,U,U,U,U,U,U,U] h e
abbrev w06_NetNames_E14 (x1 x3 x6 x7 : AV) (h : List Ob) (e : Cx := cx) : Cfg := atC n_w06_NetNames w06_NetNames_k14 [U,x1,U,x3,U,U,x6,x7,U,U,U,U,U,U,U,U,U,U,U,U,U,U,U,U,U,U,U,U,U,U,U,U,U,U,U,U,U,U,U,U,U,U,U,U,U,U,U,U,U,U,U,U,U,U,U,U,U,U,U,U,U,U,U,U,U,U,U,U,U,U,U,U,U,U,U,U,U,U,U,U,U,U,U,U,U,U,U,U,U,U,U,U,U,U,U,U,U,U,U,U,U,U,U,U,U,U,U,U,U,U,U,U,U,U,U,U,U,U,U,U,U,U,U,U,U] h e
abbrev w06_NetNames_k22 : List It := [.code (.seq (.seq (.reg w06_NetNames_p21) (.block 2 w06_NetNames_x14 (.loop w06_NetNames_m14 w06_NetNames_b14))) (.seq (.seq (.reg w06_NetNames_p13) (.block 4 w06_NetNames_x1 (.loop w06_NetNames_m1 w06_NetNames_b1))) (.seq (.reg w06_NetNames_p0) .ret)))]
abbrev w06_NetNames_L22 (x1 x3 x6 x7 x8 : AV) (h : List Ob) (e : Cx := cx) : Cfg := atC n_w06_NetNames (.code w06_NetNames_b22 :: .inLoop w06_NetNames_m22 w06_NetNames_b22 :: .inBlock 0 w06_NetNames_x22 :: w06_NetNames_k22) [U,x1,U,x3,U,U,x6,x7,x8,U,U,U,U,U,U,U,U,U,U,U,U,U,U,U,U,U,U,U,U,U,U,U,U,U,U,U,U,U,U,U,U,U,U,U,U,U,U,U,U,U,U,U,U,U,U,U,U,U,U,U,U,U,U,U,U,U,U,U,U,U,U,U,U,U,U,U,U,U,U,U,U,U,U,U,U,U,U,U,U,U,U,U,U,U,U,U,U,U,U,U,U,U,U,U,U,U,U,U,U,U,U,U,U,U,U,U,U,U,U,U,U,U,U,U,U] h e
abbrev w06_NetNames_E22 (x1 x3 x6 x7 : AV) (h : List Ob) (e : Cx := cx) : Cfg := atC n_w06_NetNames w06_NetNames_k22 [U,x1,U,x3,U,U,x6,x7,U,U,U,U,U,U,U,U,U,U,U,U,U,U,U,U,U,U,U,U,U,U,U,U,U,U,U,U,U,U,U,U,U,U,U,U,U,U,U,U,U,U,U,U,U,U,U,U,U,U,U,U,U,U,U,U,U,U,U,U,U,U,U,U,U,U,U,U,U,U,U,U,U,U,U,U,U,U,U,U,U,U,U,U,U,U,U,U,U,U,U,U,U,U,U,U,U,U,U,U,U,U,U,U,U,U,U,U,U,U,U,U,U,U,U,U,U] h e
@[simp] theorem c_w06_NetNames : cfun Tryd.prog n_w06_NetNames = some w06_NetNames := by kernel_rfl
@[simp] theorem e_w06_NetNames : hasBody Tryd.prog n_w06_NetNames = true := by kernel_rfl

/- w06_works: patchbay/patchbaylaw06.works -/
abbrev w06_works_p0 : List AG := [o 37 (.mv (.t 3)), o 38 (.cmp .eql (.sc .int) (.t 37) (.c (.int .i64 0))), o 39 (.mv (.t 38)), oy 40 39 (.mv (.t 4)), oy 41 39 (.cmp .eql (.sc .str) (.t 40) (.c (.str []))), o 42 (.pick (.t 39) (.t 41) (.c (.bool false))), o 43 (.mv (.t 42)), oy 44 43 (.off 1 (.t 5)), oy 45 43 (.load false 1 (.t 44)), oy 46 43 (.cmp .eql (.sc .int) (.t 45) (.c (.int .i64 4))), o 47 (.pick (.t 43) (.t 46) (.c (.bool false))), o 48 (.mv (.t 47)), oy 49 48 (.off 3 (.t 5)), oy 50 48 (.load false 1 (.t 49)), oy 51 48 (.len (.t 50)), oy 52 48 (.cmp .eql (.sc .int) (.t 51) (.c (.int .i64 0))), o 53 (.pick (.t 48) (.t 52) (.c (.bool false))), o 54 (.mv (.t 53)), oy 55 54 (.mv (.t 7)), oy 56 54 (.cmp .eql (.sc .int) (.t 55) (.c (.int .i64 6))), o 57 (.pick (.t 54) (.t 56) (.c (.bool false))), o 58 (.mv (.t 57)), oy 59 58 (.mv (.t 8)), oy 60 58 (.cmp .eql (.sc .str) (.t 59) (.c (.str [121]))), o 61 (.pick (.t 58) (.t 60) (.c (.bool false))), o 62 (.mv (.t 61)), oy 63 62 (.mv (.t 9)), oy 64 62 (.len (.t 63)), oy 65 62 (.cmp .eql (.sc .int) (.t 64) (.c (.int .i64 3))), o 66 (.pick (.t 62) (.t 65) (.c (.bool false))), o 67 (.mv (.t 66)), oy 68 67 (.mv (.t 9)), oy 69 67 (.ixAddr 1 (.t 68) (.c (.int .i64 1))), oy 70 67 (.load false 1 (.t 69)), oy 71 67 (.cmp .eql (.sc .str) (.t 70) (.c (.str [113]))), o 72 (.pick (.t 67) (.t 71) (.c (.bool false))), o 73 (.mv (.t 72)), oy 74 73 (.load true 4 (.t 2)), oy 75 73 (.call (.f n_net_Place) [(.t 74), (.c (.str [122]))]), oy 76 73 (.cmp .eql (.sc .int) (.t 75) (.c (.int .i64 2))), o 77 (.pick (.t 73) (.t 76) (.c (.bool false))), o 78 (.mv (.t 77)), oy 79 78 (.load true 4 (.t 2)), oy 80 78 (.call (.f n_net_Place) [(.t 79), (.c (.str [121]))]), oy 81 78 (.cmp .eql (.sc .int) (.t 80) (.c (.int .i64 (-1)))), o 82 (.pick (.t 78) (.t 81) (.c (.bool false))), o 83 (.mv (.t 82)), oy 84 83 (.load true 5 (.t 1)), oy 85 83 (.call (.f n_net_Gate) [(.t 84)]), o 86 (.pick (.t 83) (.t 85) (.c (.bool false))), o 87 (.mv (.t 86)), oy 88 87 (.build [(.str []), (.int .i64 0), (.list true 0 []), (.list true 0 []), (.bool false)] [(1, 1, (.c (.int .i64 4)))]), oy 89 87 (.call (.f n_net_Gate) [(.t 88)]), oy 90 87 (.not (.t 89)), o 91 (.pick (.t 87) (.t 90) (.c (.bool false))), o 92 (.mv (.t 91)), oy 93 92 (.load true 4 (.t 2)), oy 94 92 (.load true 4 (.t 2)), oy 95 92 (.call (.f n_net_Same) [(.t 93), (.t 94)]), o 96 (.pick (.t 92) (.t 95) (.c (.bool false))), o 97 (.mv (.t 96)), oy 98 97 (.load true 4 (.t 2)), oy 99 97 (.load true 4 (.t 6)), oy 100 97 (.call (.f n_net_Same) [(.t 98), (.t 99)]), oy 101 97 (.not (.t 100)), o 102 (.pick (.t 97) (.t 101) (.c (.bool false))), o 0 (.mv (.t 102))]
abbrev w06_works_p1 : List AG := [o 35 (.load true 4 (.t 2)), o 36 (.call (.f n_net_Nets) [(.t 35)]), o 9 (.mv (.t 36))]
abbrev w06_works_p2 : List AG := [o 31 (.load true 4 (.t 6)), o 32 (.call (.f n_net_Check) [(.t 31)]), o 30 (.mv (.t 32)), o 33 (.extract (.t 30) 0), o 34 (.extract (.t 30) 1), o 7 (.mv (.t 33)), o 8 (.mv (.t 34))]
abbrev w06_works_p3 : List AG := [o 28 (.lit 1 [(.str []), (.str [])] [(0, (.c (.str [122]))), (1, (.c (.str [121])))]), o 29 (.off 1 (.t 6)), q (.store 1 (.t 29) (.t 28))]
abbrev w06_works_p4 : List AG := [o 27 (.load true 4 (.t 2)), o 6 (.alloc [(.own 1 t_string []), (.own 1 t_string []), (.own 3 t_api_Latch_2 []), (.own 5 t_api_Gate_2 [])]), q (.store 4 (.t 6) (.t 27))]
abbrev w06_works_p5 : List AG := [o 25 (.load true 5 (.t 1)), o 26 (.call (.f n_net_Canon) [(.t 25)]), o 5 (.alloc [(.str []), (.int .i64 0), (.own 1 t_string []), (.own 1 t_string []), (.bool false)]), q (.store 5 (.t 5) (.t 26))]
abbrev w06_works_p6 : List AG := [o 21 (.load true 4 (.t 2)), o 22 (.call (.f n_net_Check) [(.t 21)]), o 20 (.mv (.t 22)), o 23 (.extract (.t 20) 0), o 24 (.extract (.t 20) 1), o 3 (.mv (.t 23)), o 4 (.mv (.t 24))]
abbrev w06_works_p7 : List AG := [o 13 (.lit 1 [(.str [])] [(0, (.c (.str [97])))]), o 14 (.lit 1 [(.str [])] [(0, (.c (.str [122])))]), o 15 (.build [(.str []), (.str []), (.int .i64 0)] [(0, 1, (.c (.str [113]))), (1, 1, (.c (.str [122]))), (2, 1, (.c (.int .i64 2)))]), o 16 (.lit 3 [(.agg [(.str []), (.str []), (.int .i64 0)])] [(0, (.t 15))]), o 17 (.load true 5 (.t 1)), o 18 (.lit 5 [(.agg [(.str []), (.int .i64 0), (.list true 0 []), (.list true 0 []), (.bool false)])] [(0, (.t 17))]), o 19 (.build [(.list true 0 []), (.list true 0 []), (.list true 0 []), (.list true 0 [])] [(0, 1, (.t 13)), (1, 1, (.t 14)), (2, 1, (.t 16)), (3, 1, (.t 18))]), o 2 (.alloc [(.own 1 t_string []), (.own 1 t_string []), (.own 3 t_api_Latch_2 []), (.own 5 t_api_Gate_2 [])]), q (.store 4 (.t 2) (.t 19))]
abbrev w06_works_p8 : List AG := [o 10 (.lit 1 [(.str []), (.str [])] [(0, (.c (.str [97]))), (1, (.c (.str [113])))]), o 11 (.lit 1 [(.str [])] [(0, (.c (.str [49, 49])))]), o 12 (.build [(.str []), (.int .i64 0), (.list true 0 []), (.list true 0 []), (.bool false)] [(0, 1, (.c (.str [122]))), (1, 1, (.c (.int .i64 10))), (2, 1, (.t 10)), (3, 1, (.t 11))]), o 1 (.alloc [(.str []), (.int .i64 0), (.own 1 t_string []), (.own 1 t_string []), (.bool false)]), q (.store 5 (.t 1) (.t 12))]
abbrev w06_works_p9 : List AG := [o 0 (.mv (.c (.bool false)))]
abbrev w06_works : AFun := ⟨(.seq (.reg w06_works_p9) (.seq (.reg w06_works_p8) (.seq (.reg w06_works_p7) (.seq (.reg w06_works_p6) (.seq (.reg w06_works_p5) (.seq (.reg w06_works_p4) (.seq (.reg w06_works_p3) (.seq (.reg w06_works_p2) (.seq (.reg w06_works_p1) (.seq (.reg w06_works_p0) .ret)))))))))), 103, [.tmp 0]⟩
@[simp] theorem c_w06_works : cfun Tryd.prog n_w06_works = some w06_works := by kernel_rfl
@[simp] theorem e_w06_works : hasBody Tryd.prog n_w06_works = true := by kernel_rfl

/- w06_Few: patchbay/patchbaylaw06.Few -/
abbrev w06_Few_p0 : List AG := [o 62 (.mv (.t 6)), o 63 (.mv (.t 62)), oy 64 63 (.mv (.t 7)), o 65 (.pick (.t 63) (.t 64) (.c (.bool false))), o 66 (.mv (.t 65)), oy 67 66 (.off 3 (.t 1)), oy 68 66 (.load false 1 (.t 67)), oy 69 66 (.len (.t 68)), oy 70 66 (.cmp .leq (.sc .int) (.t 69) (.c (.int .i64 210))), o 71 (.pick (.t 66) (.t 70) (.c (.bool false))), o 72 (.mv (.t 71)), oy 73 72 (.off 2 (.t 1)), oy 74 72 (.load false 1 (.t 73)), oy 75 72 (.len (.t 74)), oy 76 72 (.cmp .leq (.sc .int) (.t 75) (.c (.int .i64 210))), o 77 (.pick (.t 72) (.t 76) (.c (.bool false))), o 2 (.mv (.t 77))]
abbrev w06_Few_p1 : List AG := [o 59 (.off 1 (.t 1)), o 60 (.load false 1 (.t 59)), o 61 (.call (.f n_w05_Texts) [(.t 60), (.c (.int .i64 210))]), o 7 (.mv (.t 61))]
abbrev w06_Few_p2 : List AG := [o 56 (.off 0 (.t 1)), o 57 (.load false 1 (.t 56)), o 58 (.call (.f n_w05_Texts) [(.t 57), (.c (.int .i64 210))]), o 6 (.mv (.t 58))]
abbrev w06_Few_m3 : List Bool := [O,I,O,O,O,I,O,O,O,O,O,O,O,O,O,O,O,O,O,O,O,O,O,O,O,O,O,O,O,O,O,O,O,O,O,O,O,O,O,O,O,O,O,O,O,O,O,O,O,O,O,O,O,O,O,O,O,O,O,O,O,O,O,O,O,O,O,O,O,O,O,O,O,O,O,O,O,O]
abbrev w06_Few_x3 : List Bool := [O,I,O,O,O,O,O,O,O,O,O,O,O,O,O,O,O,O,O,O,O,O,O,O,O,O,O,O,O,O,O,O,O,O,O,O,O,O,O,O,O,O,O,O,O,O,O,O,O,O,O,O,O,O,O,O,O,O,O,O,O,O,O,O,O,O,O,O,O,O,O,O,O,O,O,O,O,O]
abbrev w06_Few_p4 : List AG := [o 36 (.mv (.t 5)), o 37 (.ibin .add (.t 36) (.c (.int .i64 1))), o 5 (.mv (.t 37))]
abbrev w06_Few_p5 : List AG := [o 2 (.mv (.c (.bool false)))]
abbrev w06_Few_p6 : ACode := (.seq (.reg w06_Few_p5) .ret)
abbrev w06_Few_p7 : List AG := [o 38 (.off 2 (.t 1)), o 39 (.load false 1 (.t 38)), o 40 (.mv (.t 5)), o 41 (.ixAddr 3 (.t 39) (.t 40)), o 42 (.off 0 (.t 41)), o 43 (.load false 1 (.t 42)), o 44 (.lenStr (.t 43)), o 45 (.cmp .gtr (.sc .int) (.t 44) (.c (.int .i64 60))), o 46 (.mv (.t 45)), on 47 46 (.off 2 (.t 1)), on 48 46 (.load false 1 (.t 47)), on 49 46 (.mv (.t 5)), on 50 46 (.ixAddr 3 (.t 48) (.t 49)), on 51 46 (.off 1 (.t 50)), on 52 46 (.load false 1 (.t 51)), on 53 46 (.lenStr (.t 52)), on 54 46 (.cmp .gtr (.sc .int) (.t 53) (.c (.int .i64 60))), o 55 (.pick (.t 46) (.c (.bool true)) (.t 54))]
abbrev w06_Few_p8 : ACode := (.seq (.reg w06_Few_p7) (.cond (.t 55) w06_Few_p6 .skip))
abbrev w06_Few_p9 : List AG := [o 27 (.mv (.t 5)), o 28 (.off 2 (.t 1)), o 29 (.load false 1 (.t 28)), o 30 (.len (.t 29)), o 31 (.cmp .lss (.sc .int) (.t 27) (.t 30)), o 32 (.mv (.t 31)), oy 33 32 (.mv (.t 5)), oy 34 32 (.cmp .leq (.sc .int) (.t 33) (.c (.int .i64 210))), o 35 (.pick (.t 32) (.t 34) (.c (.bool false)))]
abbrev w06_Few_b3 : ACode := (.seq (.seq (.reg w06_Few_p9) (.cond (.t 35) .skip (.exit 2))) (.seq (.block 3 [] w06_Few_p8) (.reg w06_Few_p4)))
abbrev w06_Few_p10 : List AG := [o 5 (.mv (.c (.int .i64 0)))]
abbrev w06_Few_m11 : List Bool := [O,I,O,I,O,O,O,O,O,O,O,O,O,O,O,O,O,O,O,O,O,O,O,O,O,O,O,O,O,O,O,O,O,O,O,O,O,O,O,O,O,O,O,O,O,O,O,O,O,O,O,O,O,O,O,O,O,O,O,O,O,O,O,O,O,O,O,O,O,O,O,O,O,O,O,O,O,O]
abbrev w06_Few_x11 : List Bool := [O,I,O,O,O,O,O,O,O,O,O,O,O,O,O,O,O,O,O,O,O,O,O,O,O,O,O,O,O,O,O,O,O,O,O,O,O,O,O,O,O,O,O,O,O,O,O,O,O,O,O,O,O,O,O,O,O,O,O,O,O,O,O,O,O,O,O,O,O,O,O,O,O,O,O,O,O,O]
abbrev w06_Few_p12 : List AG := [o 17 (.mv (.t 3)), o 18 (.ibin .add (.t 17) (.c (.int .i64 1))), o 3 (.mv (.t 18))]
abbrev w06_Few_p13 : List AG := [o 2 (.mv (.c (.bool false)))]
abbrev w06_Few_p14 : ACode := (.seq (.reg w06_Few_p13) .ret)
abbrev w06_Few_p15 : List AG := [o 25 (.mv (.t 4)), o 26 (.not (.t 25))]
abbrev w06_Few_p16 : List AG := [o 19 (.off 3 (.t 1)), o 20 (.load false 1 (.t 19)), o 21 (.mv (.t 3)), o 22 (.ixAddr 5 (.t 20) (.t 21)), o 23 (.load true 5 (.t 22)), o 24 (.call (.f n_w06_FewGate) [(.t 23)]), o 4 (.mv (.t 24))]
abbrev w06_Few_p17 : ACode := (.seq (.reg w06_Few_p16) (.seq (.reg w06_Few_p15) (.cond (.t 26) w06_Few_p14 .skip)))
abbrev w06_Few_p18 : List AG := [o 8 (.mv (.t 3)), o 9 (.off 3 (.t 1)), o 10 (.load false 1 (.t 9)), o 11 (.len (.t 10)), o 12 (.cmp .lss (.sc .int) (.t 8) (.t 11)), o 13 (.mv (.t 12)), oy 14 13 (.mv (.t 3)), oy 15 13 (.cmp .leq (.sc .int) (.t 14) (.c (.int .i64 210))), o 16 (.pick (.t 13) (.t 15) (.c (.bool false)))]
abbrev w06_Few_b11 : ACode := (.seq (.seq (.reg w06_Few_p18) (.cond (.t 16) .skip (.exit 0))) (.seq (.block 1 [] w06_Few_p17) (.reg w06_Few_p12)))
abbrev w06_Few_p19 : List AG := [o 3 (.mv (.c (.int .i64 0)))]
abbrev w06_Few_p20 : List AG := [o 1 (.box 4 (.t 0)), o 2 (.mv (.c (.bool false)))]
abbrev w06_Few : AFun := ⟨(.seq (.reg w06_Few_p20) (.seq (.seq (.reg w06_Few_p19) (.block 0 w06_Few_x11 (.loop w06_Few_m11 w06_Few_b11))) (.seq (.seq (.reg w06_Few_p10) (.block 2 w06_Few_x3 (.loop w06_Few_m3 w06_Few_b3))) (.seq (.reg w06_Few_p2) (.seq (.reg w06_Few_p1) (.seq (.reg w06_Few_p0) .ret)))))), 78, [.tmp 2]⟩
abbrev w06_Few_k3 : List It := [.code (.seq (.reg w06_Few_p2) (.seq (.reg w06_Few_p1) (.seq (.reg w06_Few_p0) .ret)))]
abbrev w06_Few_L3 (x1 x5 : AV) (h : List Ob) (e : Cx := cx) : Cfg := atC n_w06_Few (.code w06_Few_b3 :: .inLoop w06_Few_m3 w06_Few_b3 :: .inBlock 2 w06_Few_x3 :: w06_Few_k3) [U,x1,U,U,U,x5,U,U,U,U,U,U,U,U,U,U,U,U,U,U,U,U,U,U,U,U,U,U,U,U,U,U,U,U,U,U,U,U,U,U,U,U,U,U,U,U,U,U,U,U,U,U,U,U,U,U,U,U,U,U,U,U,U,U,U,U,U,U,U,U,U,U,U,U,U,U,U,U] h e
abbrev w06_Few_E3 (x1 : AV) (h : List Ob) (e : Cx := cx) : Cfg := atC n_w06_Few w06_Few_k3 [U,x1,U,U,U,U,U,U,U,U,U,U,U,U,U,U,U,U,U,U,U,U,U,U,U,U,U,U,U,U,U,U,U,U,U,U,U,U,U,U,U,U,U,U,U,U,U,U,U,U,U,U,U,U,U,U,U,U,U,U,U,U,U,U,U,U,U,U,U,U,U,U,U,U,U,U,U,U] h e
abbrev w06_Few_k11 : List It := [.code (.seq (.seq (.reg w06_Few_p10) (.block 2 w06_Few_x3 (.loop w06_Few_m3 w06_Few_b3))) (.seq (.reg w06_Few_p2) (.seq (.reg w06_Few_p1) (.seq (.reg w06_Few_p0) .ret))))]
abbrev w06_Few_L11 (x1 x3 : AV) (h : List Ob) (e : Cx := cx) : Cfg := atC n_w06_Few (.code w06_Few_b11 :: .inLoop w06_Few_m11 w06_Few_b11 :: .inBlock 0 w06_Few_x11 :: w06_Few_k11) [U,x1,U,x3,U,U,U,U,U,U,U,U,U,U,U,U,U,U,U,U,U,U,U,U,U,U,U,U,U,U,U,U,U,U,U,U,U,U,U,U,U,U,U,U,U,U,U,U,U,U,U,U,U,U,U,U,U,U,U,U,U,U,U,U,U,U,U,U,U,U,U,U,U,U,U,U,U,U] h e
abbrev w06_Few_E11 (x1 : AV) (h : List Ob) (e : Cx := cx) : Cfg := atC n_w06_Few w06_Few_k11 [U,x1,U,U,U,U,U,U,U,U,U,U,U,U,U,U,U,U,U,U,U,U,U,U,U,U,U,U,U,U,U,U,U,U,U,U,U,U,U,U,U,U,U,U,U,U,U,U,U,U,U,U,U,U,U,U,U,U,U,U,U,U,U,U,U,U,U,U,U,U,U,U,U,U,U,U,U,U] h e
@[simp] theorem c_w06_Few : cfun Tryd.prog n_w06_Few = some w06_Few := by kernel_rfl
@[simp] theorem e_w06_Few : hasBody Tryd.prog n_w06_Few = true := by kernel_rfl

/- net_Check: patchbay/net.Check -/
abbrev net_Check_p0 : List AG := [q (.store 1 (.t 2) (.c (.int .i64 0))), q (.store 1 (.t 3) (.c (.str [])))]
abbrev net_Check_m1 : List Bool := [O,O,I,I,O,O,O,I,O,O,O,O,O,O,O,O,O,O,O,O,O,O,O,O,O,O,O,O,O,O,O,O,O,O,O,O,O,O,O,O,O,O,O,O,O,O,O,O,O,O,O,O,O,O,O,O,O,O,O,O,O,O,O,O,O,O,O,O,O,O,O,O,O,O,O,O,O,O,O,O,O,O,O,O,O,O,O,O,O,O,O,O,I,I,I,O,O,O,O,O,O,O,O,O]
abbrev net_Check_x1 : List Bool := [O,O,I,I,O,O,O,O,O,O,O,O,O,O,O,O,O,O,O,O,O,O,O,O,O,O,O,O,O,O,O,O,O,O,O,O,O,O,O,O,O,O,O,O,O,O,O,O,O,O,O,O,O,O,O,O,O,O,O,O,O,O,O,O,O,O,O,O,O,O,O,O,O,O,O,O,O,O,O,O,O,O,O,O,O,O,O,O,O,O,O,O,O,O,O,O,O,O,O,O,O,O,O,O]
abbrev net_Check_p2 : List AG := [o 103 (.ibin .add (.t 94) (.c (.int .i64 1))), o 94 (.mv (.t 103))]
abbrev net_Check_p3 : List AG := [o 98 (.mv (.t 7)), o 99 (.mv (.t 13)), o 100 (.lookup (.sc .str) (.bool false) (.t 98) (.t 99) false), o 101 (.mv (.t 13)), o 102 (.call (.f n_net_need) [(.t 100), (.c (.int .i64 6)), (.t 101)])]
abbrev net_Check_p4 : List AG := [o 96 (.ixAddr 1 (.t 92) (.t 94)), o 97 (.load false 1 (.t 96)), o 13 (.mv (.t 97))]
abbrev net_Check_p5 : ACode := (.seq (.reg net_Check_p4) (.reg net_Check_p3))
abbrev net_Check_p6 : List AG := [o 95 (.cmp .lss (.sc .int) (.t 94) (.t 93))]
abbrev net_Check_b1 : ACode := (.seq (.reg net_Check_p6) (.seq (.cond (.t 95) .skip (.exit 6)) (.seq (.block 7 [] net_Check_p5) (.reg net_Check_p2))))
abbrev net_Check_p7 : List AG := [o 91 (.load true 4 (.t 1)), o 92 (.call (.f n_net_used) [(.t 91)]), o 93 (.len (.t 92)), o 94 (.mv (.c (.int .i64 0)))]
abbrev net_Check_m8 : List Bool := [O,I,I,I,O,O,O,I,O,O,O,O,O,O,O,O,O,O,O,O,O,O,O,O,O,O,O,O,O,O,O,O,O,O,O,O,O,O,O,O,O,O,O,O,O,O,O,O,O,O,O,O,O,O,O,O,O,O,O,O,O,O,O,O,O,O,O,O,O,O,O,O,O,O,O,O,O,O,O,I,I,I,O,O,O,O,O,O,O,O,O,O,O,O,O,O,O,O,O,O,O,O,O,O]
abbrev net_Check_x8 : List Bool := [O,I,I,I,O,O,O,I,O,O,O,O,O,O,O,O,O,O,O,O,O,O,O,O,O,O,O,O,O,O,O,O,O,O,O,O,O,O,O,O,O,O,O,O,O,O,O,O,O,O,O,O,O,O,O,O,O,O,O,O,O,O,O,O,O,O,O,O,O,O,O,O,O,O,O,O,O,O,O,O,O,O,O,O,O,O,O,O,O,O,O,O,O,O,O,O,O,O,O,O,O,O,O,O]
abbrev net_Check_p9 : List AG := [o 90 (.ibin .add (.t 81) (.c (.int .i64 1))), o 81 (.mv (.t 90))]
abbrev net_Check_p10 : List AG := [o 85 (.load true 5 (.t 11)), o 86 (.call (.f n_net_Gate) [(.t 85)]), o 87 (.off 0 (.t 11)), o 88 (.load false 1 (.t 87)), o 89 (.call (.f n_net_need) [(.t 86), (.c (.int .i64 1)), (.t 88)])]
abbrev net_Check_p11 : List AG := [o 83 (.ixAddr 5 (.t 79) (.t 81)), o 84 (.load true 5 (.t 83)), o 11 (.alloc [(.str []), (.int .i64 0), (.own 1 t_string []), (.own 1 t_string []), (.bool false)]), q (.store 5 (.t 11) (.t 84))]
abbrev net_Check_p12 : ACode := (.seq (.reg net_Check_p11) (.dreg [O,O,O,I,O] [2,5,5,5,6] net_Check_p10))
abbrev net_Check_p13 : List AG := [o 82 (.cmp .lss (.sc .int) (.t 81) (.t 80))]
abbrev net_Check_b8 : ACode := (.seq (.reg net_Check_p13) (.seq (.cond (.t 82) .skip (.exit 4)) (.seq (.block 5 [] net_Check_p12) (.reg net_Check_p9))))
abbrev net_Check_p14 : List AG := [o 78 (.off 3 (.t 1)), o 79 (.load false 1 (.t 78)), o 80 (.len (.t 79)), o 81 (.mv (.c (.int .i64 0)))]
abbrev net_Check_m15 : List Bool := [O,I,I,I,O,O,O,I,O,O,O,O,O,O,O,O,O,O,O,O,O,O,O,O,O,O,O,O,O,O,O,O,O,O,O,O,O,O,O,O,O,O,O,O,O,O,O,O,O,O,O,O,O,O,O,O,O,O,O,O,I,I,I,O,O,O,O,O,O,O,O,O,O,O,O,O,O,O,O,O,O,O,O,O,O,O,O,O,O,O,O,O,O,O,O,O,O,O,O,O,O,O,O,O]
abbrev net_Check_x15 : List Bool := [O,I,I,I,O,O,O,I,O,O,O,O,O,O,O,O,O,O,O,O,O,O,O,O,O,O,O,O,O,O,O,O,O,O,O,O,O,O,O,O,O,O,O,O,O,O,O,O,O,O,O,O,O,O,O,O,O,O,O,O,O,O,O,O,O,O,O,O,O,O,O,O,O,O,O,O,O,O,O,O,O,O,O,O,O,O,O,O,O,O,O,O,O,O,O,O,O,O,O,O,O,O,O,O]
abbrev net_Check_p16 : List AG := [o 77 (.ibin .add (.t 62) (.c (.int .i64 1))), o 62 (.mv (.t 77))]
abbrev net_Check_p17 : List AG := [o 66 (.off 2 (.t 9)), o 67 (.load false 1 (.t 66)), o 68 (.cmp .geq (.sc .int) (.t 67) (.c (.int .i64 0))), o 69 (.mv (.t 68)), oy 70 69 (.off 2 (.t 9)), oy 71 69 (.load false 1 (.t 70)), oy 72 69 (.cmp .leq (.sc .int) (.t 71) (.c (.int .i64 2))), o 73 (.pick (.t 69) (.t 72) (.c (.bool false))), o 74 (.off 0 (.t 9)), o 75 (.load false 1 (.t 74)), o 76 (.call (.f n_net_need) [(.t 73), (.c (.int .i64 1)), (.t 75)])]
abbrev net_Check_p18 : List AG := [o 64 (.ixAddr 3 (.t 60) (.t 62)), o 65 (.load true 3 (.t 64)), o 9 (.alloc [(.str []), (.str []), (.int .i64 0)]), q (.store 3 (.t 9) (.t 65))]
abbrev net_Check_p19 : ACode := (.seq (.reg net_Check_p18) (.reg net_Check_p17))
abbrev net_Check_p20 : List AG := [o 63 (.cmp .lss (.sc .int) (.t 62) (.t 61))]
abbrev net_Check_b15 : ACode := (.seq (.reg net_Check_p20) (.seq (.cond (.t 63) .skip (.exit 2)) (.seq (.block 3 [] net_Check_p19) (.reg net_Check_p16))))
abbrev net_Check_p21 : List AG := [o 59 (.off 2 (.t 1)), o 60 (.load false 1 (.t 59)), o 61 (.len (.t 60)), o 62 (.mv (.c (.int .i64 0)))]
abbrev net_Check_p22 : List AG := [o 56 (.off 1 (.t 1)), o 57 (.load false 1 (.t 56)), o 58 (.call (.f n_net_once) [(.t 57)])]
abbrev net_Check_p23 : List AG := [o 53 (.load true 4 (.t 1)), o 54 (.call (.f n_net_Nets) [(.t 53)]), o 55 (.call (.f n_net_once) [(.t 54)]), o 7 (.mv (.t 55))]
abbrev net_Check_m24 : List Bool := [O,I,I,I,O,O,O,O,O,O,O,O,O,O,O,O,O,O,O,O,O,O,O,O,O,O,O,O,O,O,O,O,O,O,O,O,O,O,O,O,O,O,I,I,I,O,O,O,O,O,O,O,O,O,O,O,O,O,O,O,O,O,O,O,O,O,O,O,O,O,O,O,O,O,O,O,O,O,O,O,O,O,O,O,O,O,O,O,O,O,O,O,O,O,O,O,O,O,O,O,O,O,O,O]
abbrev net_Check_x24 : List Bool := [O,I,I,I,O,O,O,O,O,O,O,O,O,O,O,O,O,O,O,O,O,O,O,O,O,O,O,O,O,O,O,O,O,O,O,O,O,O,O,O,O,O,O,O,O,O,O,O,O,O,O,O,O,O,O,O,O,O,O,O,O,O,O,O,O,O,O,O,O,O,O,O,O,O,O,O,O,O,O,O,O,O,O,O,O,O,O,O,O,O,O,O,O,O,O,O,O,O,O,O,O,O,O,O]
abbrev net_Check_p25 : List AG := [o 52 (.ibin .add (.t 44) (.c (.int .i64 1))), o 44 (.mv (.t 52))]
abbrev net_Check_p26 : List AG := [o 48 (.mv (.t 6)), o 49 (.call (.f n_ident_Name) [(.t 48)]), o 50 (.mv (.t 6)), o 51 (.call (.f n_net_need) [(.t 49), (.c (.int .i64 4)), (.t 50)])]
abbrev net_Check_p27 : List AG := [o 46 (.ixAddr 1 (.t 42) (.t 44)), o 47 (.load false 1 (.t 46)), o 6 (.mv (.t 47))]
abbrev net_Check_p28 : ACode := (.seq (.reg net_Check_p27) (.reg net_Check_p26))
abbrev net_Check_p29 : List AG := [o 45 (.cmp .lss (.sc .int) (.t 44) (.t 43))]
abbrev net_Check_b24 : ACode := (.seq (.reg net_Check_p29) (.seq (.cond (.t 45) .skip (.exit 0)) (.seq (.block 1 [] net_Check_p28) (.reg net_Check_p25))))
abbrev net_Check_p30 : List AG := [o 41 (.load true 4 (.t 1)), o 42 (.call (.f n_net_told) [(.t 41)]), o 43 (.len (.t 42)), o 44 (.mv (.c (.int .i64 0)))]
abbrev net_Check_p31 : List AG := [o 15 (.off 0 (.t 1)), o 16 (.load false 1 (.t 15)), o 17 (.len (.t 16)), o 18 (.off 2 (.t 1)), o 19 (.load false 1 (.t 18)), o 20 (.len (.t 19)), o 21 (.ibin .add (.t 17) (.t 20)), o 22 (.off 3 (.t 1)), o 23 (.load false 1 (.t 22)), o 24 (.len (.t 23)), o 25 (.ibin .add (.t 21) (.t 24)), o 26 (.cmp .leq (.sc .int) (.t 25) (.c (.int .i64 200))), o 27 (.mv (.t 26)), oy 28 27 (.off 1 (.t 1)), oy 29 27 (.load false 1 (.t 28)), oy 30 27 (.len (.t 29)), oy 31 27 (.cmp .leq (.sc .int) (.t 30) (.c (.int .i64 200))), o 32 (.pick (.t 27) (.t 31) (.c (.bool false))), o 33 (.mv (.t 32)), oy 34 33 (.off 3 (.t 1)), oy 35 33 (.load false 1 (.t 34)), oy 36 33 (.mv (.t 4)), oy 37 33 (.call (.f n_slices_ContainsFunc_api_Gate_api_Gate) [(.t 35), (.t 36)]), oy 38 33 (.not (.t 37)), o 39 (.pick (.t 33) (.t 38) (.c (.bool false))), o 40 (.call (.f n_net_need) [(.t 39), (.c (.int .i64 8)), (.c (.str []))])]
abbrev net_Check_p32 : List AG := [o 4 (.mv (.f n_net_Check_2))]
abbrev net_Check_p33 : List AG := [o 14 (.mkFunc (.func n_net_Check_1) [] [(.t 2), (.t 3)]), q (.defer (.t 14) [])]
abbrev net_Check_p34 : List AG := [o 1 (.box 4 (.t 0)), o 2 (.alloc [(.int .i64 0)]), o 3 (.alloc [(.str [])])]
abbrev net_Check : AFun := ⟨(.seq (.reg net_Check_p34) (.seq (.reg net_Check_p33) (.seq (.reg net_Check_p32) (.seq (.reg net_Check_p31) (.seq (.seq (.reg net_Check_p30) (.block 0 net_Check_x24 (.loop net_Check_m24 net_Check_b24))) (.seq (.reg net_Check_p23) (.seq (.reg net_Check_p22) (.seq (.seq (.reg net_Check_p21) (.block 2 net_Check_x15 (.loop net_Check_m15 net_Check_b15))) (.seq (.seq (.reg net_Check_p14) (.block 4 net_Check_x8 (.loop net_Check_m8 net_Check_b8))) (.seq (.seq (.reg net_Check_p7) (.block 6 net_Check_x1 (.loop net_Check_m1 net_Check_b1))) (.seq (.reg net_Check_p0) .ret))))))))))), 104, [.cell 2 false 1, .cell 3 false 1]⟩
abbrev net_Check_k1 : List It := [.code (.seq (.reg net_Check_p0) .ret)]
abbrev net_Check_L1 (x2 x3 x7 x92 x93 x94 : AV) (h : List Ob) (e : Cx := cx) : Cfg := atC n_net_Check (.code net_Check_b1 :: .inLoop net_Check_m1 net_Check_b1 :: .inBlock 6 net_Check_x1 :: net_Check_k1) [U,U,x2,x3,U,U,U,x7,U,U,U,U,U,U,U,U,U,U,U,U,U,U,U,U,U,U,U,U,U,U,U,U,U,U,U,U,U,U,U,U,U,U,U,U,U,U,U,U,U,U,U,U,U,U,U,U,U,U,U,U,U,U,U,U,U,U,U,U,U,U,U,U,U,U,U,U,U,U,U,U,U,U,U,U,U,U,U,U,U,U,U,U,x92,x93,x94,U,U,U,U,U,U,U,U,U] h e
abbrev net_Check_E1 (x2 x3 : AV) (h : List Ob) (e : Cx := cx) : Cfg := atC n_net_Check net_Check_k1 [U,U,x2,x3,U,U,U,U,U,U,U,U,U,U,U,U,U,U,U,U,U,U,U,U,U,U,U,U,U,U,U,U,U,U,U,U,U,U,U,U,U,U,U,U,U,U,U,U,U,U,U,U,U,U,U,U,U,U,U,U,U,U,U,U,U,U,U,U,U,U,U,U,U,U,U,U,U,U,U,U,U,U,U,U,U,U,U,U,U,U,U,U,U,U,U,U,U,U,U,U,U,U,U,U] h e
abbrev net_Check_k8 : List It := [.code (.seq (.seq (.reg net_Check_p7) (.block 6 net_Check_x1 (.loop net_Check_m1 net_Check_b1))) (.seq (.reg net_Check_p0) .ret))]
abbrev net_Check_L8 (x1 x2 x3 x7 x79 x80 x81 : AV) (h : List Ob) (e : Cx := cx) : Cfg := atC n_net_Check (.code net_Check_b8 :: .inLoop net_Check_m8 net_Check_b8 :: .inBlock 4 net_Check_x8 :: net_Check_k8) [U,x1,x2,x3,U,U,U,x7,U,U,U,U,U,U,U,U,U,U,U,U,U,U,U,U,U,U,U,U,U,U,U,U,U,U,U,U,U,U,U,U,U,U,U,U,U,U,U,U,U,U,U,U,U,U,U,U,U,U,U,U,U,U,U,U,U,U,U,U,U,U,U,U,U,U,U,U,U,U,U,x79,x80,x81,U,U,U,U,U,U,U,U,U,U,U,U,U,U,U,U,U,U,U,U,U,U] h e
abbrev net_Check_E8 (x1 x2 x3 x7 : AV) (h : List Ob) (e : Cx := cx) : Cfg := atC n_net_Check net_Check_k8 [U,x1,x2,x3,U,U,U,x7,U,U,U,U,U,U,U,U,U,U,U,U,U,U,U,U,U,U,U,U,U,U,U,U,U,U,U,U,U,U,U,U,U,U,U,U,U,U,U,U,U,U,U,U,U,U,U,U,U,U,U,U,U,U,U,U,U,U,U,U,U,U,U,U,U,U,U,U,U,U,U,U,U,U,U,U,U,U,U,U,U,U,U,U,U,U,U,U,U,U,U,U,U,U,U,U] h e
abbrev net_Check_k15 : List It := [.code (.seq (.seq (.reg net_Check_p14) (.block 4 net_Check_x8 (.loop net_Check_m8 net_Check_b8))) (.seq (.seq (.reg net_Check_p7) (.block 6 net_Check_x1 (.loop net_Check_m1 net_Check_b1))) (.seq (.reg net_Check_p0) .ret)))]
abbrev net_Check_L15 (x1 x2 x3 x7 x60 x61 x62 : AV) (h : List Ob) (e : Cx := cx) : Cfg := atC n_net_Check (.code net_Check_b15 :: .inLoop net_Check_m15 net_Check_b15 :: .inBlock 2 net_Check_x15 :: net_Check_k15) [U,x1,x2,x3,U,U,U,x7,U,U,U,U,U,U,U,U,U,U,U,U,U,U,U,U,U,U,U,U,U,U,U,U,U,U,U,U,U,U,U,U,U,U,U,U,U,U,U,U,U,U,U,U,U,U,U,U,U,U,U,U,x60,x61,x62,U,U,U,U,U,U,U,U,U,U,U,U,U,U,U,U,U,U,U,U,U,U,U,U,U,U,U,U,U,U,U,U,U,U,U,U,U,U,U,U,U] h e
abbrev net_Check_E15 (x1 x2 x3 x7 : AV) (h : List Ob) (e : Cx := cx) : Cfg := atC n_net_Check net_Check_k15 [U,x1,x2,x3,U,U,U,x7,U,U,U,U,U,U,U,U,U,U,U,U,U,U,U,U,U,U,U,U,U,U,U,U,U,U,U,U,U,U,U,U,U,U,U,U,U,U,U,U,U,U,U,U,U,U,U,U,U,U,U,U,U,U,U,U,U,U,U,U,U,U,U,U,U,U,U,U,U,U,U,U,U,U,U,U,U,U,U,U,U,U,U,U,U,U,U,U,U,U,U,U,U,U,U,U] h e
abbrev net_Check_k24 : List It := [.code (.seq (.reg net_Check_p23) (.seq (.reg net_Check_p22) (.seq (.seq (.reg net_Check_p21) (.block 2 net_Check_x15 (.loop net_Check_m15 net_Check_b15))) (.seq (.seq (.reg net_Check_p14) (.block 4 net_Check_x8 (.loop net_Check_m8 net_Check_b8))) (.seq (.seq (.reg net_Check_p7) (.block 6 net_Check_x1 (.loop net_Check_m1 net_Check_b1))) (.seq (.reg net_Check_p0) .ret))))))]
abbrev net_Check_L24 (x1 x2 x3 x42 x43 x44 : AV) (h : List Ob) (e : Cx := cx) : Cfg := atC n_net_Check (.code net_Check_b24 :: .inLoop net_Check_m24 net_Check_b24 :: .inBlock 0 net_Check_x24 :: net_Check_k24) [U,x1,x2,x3,U,U,U,U,U,U,U,U,U,U,U,U,U,U,U,U,U,U,U,U,U,U,U,U,U,U,U,U,U,U,U,U,U,U,U,U,U,U,x42,x43,x44,U,U,U,U,U,U,U,U,U,U,U,U,U,U,U,U,U,U,U,U,U,U,U,U,U,U,U,U,U,U,U,U,U,U,U,U,U,U,U,U,U,U,U,U,U,U,U,U,U,U,U,U,U,U,U,U,U,U,U] h e
abbrev net_Check_E24 (x1 x2 x3 : AV) (h : List Ob) (e : Cx := cx) : Cfg := atC n_net_Check net_Check_k24 [U,x1,x2,x3,U,U,U,U,U,U,U,U,U,U,U,U,U,U,U,U,U,U,U,U,U,U,U,U,U,U,U,U,U,U,U,U,U,U,U,U,U,U,U,U,U,U,U,U,U,U,U,U,U,U,U,U,U,U,U,U,U,U,U,U,U,U,U,U,U,U,U,U,U,U,U,U,U,U,U,U,U,U,U,U,U,U,U,U,U,U,U,U,U,U,U,U,U,U,U,U,U,U,U,U] h e
@[simp] theorem c_net_Check : cfun Tryd.prog n_net_Check = some net_Check := by kernel_rfl
@[simp] theorem e_net_Check : hasBody Tryd.prog n_net_Check = true := by kernel_rfl

/- r06_Check: patchbay/patchbayref06.Check -/
abbrev r06_Check_p0 : List AG := [o 2 (.mv (.c (.int .i64 0))), o 3 (.mv (.c (.str [])))]
abbrev r06_Check_m1 : List Bool := [O,O,O,O,O,O,I,O,O,O,O,O,O,I,I,O,O,O,O,O,O,O,O,O,O,O,O,O,O,O,O,O,O,O,O,O,O,O,O,O,O,O,O,O,O,O,O,O,O,O,O,O,O,O,O,O,O,O,O,O,O,O,O,O,O,O,O,O,O,O,O,O,O,O,O,O,O,O,O,O,O,O,O,O,O,O,O,O,O,O,O,O,O,O,O,O,O,O,O,O,O,O,O,O,O,O,O,O,O,O,O,O,O,O,O,O,O,O,O,O]
abbrev r06_Check_x1 : List Bool := [O,O,O,O,O,O,O,O,O,O,O,O,O,O,O,O,O,O,O,O,O,O,O,O,O,O,O,O,O,O,O,O,O,O,O,O,O,O,O,O,O,O,O,O,O,O,O,O,O,O,O,O,O,O,O,O,O,O,O,O,O,O,O,O,O,O,O,O,O,O,O,O,O,O,O,O,O,O,O,O,O,O,O,O,O,O,O,O,O,O,O,O,O,O,O,O,O,O,O,O,O,O,O,O,O,O,O,O,O,O,O,O,O,O,O,O,O,O,O,O]
abbrev r06_Check_p2 : List AG := [o 107 (.mv (.t 14)), o 108 (.ibin .add (.t 107) (.c (.int .i64 1))), o 14 (.mv (.t 108))]
abbrev r06_Check_p3 : List AG := [o 116 (.mv (.t 13)), o 117 (.mv (.t 14)), o 118 (.ixAddr 1 (.t 116) (.t 117)), o 119 (.load false 1 (.t 118)), o 2 (.mv (.c (.int .i64 6))), o 3 (.mv (.t 119))]
abbrev r06_Check_p4 : ACode := (.seq (.dreg [O,O,O,O,O,O] [7,7,7,7,7,7] r06_Check_p3) .ret)
abbrev r06_Check_p5 : List AG := [o 109 (.mv (.t 6)), o 110 (.mv (.t 13)), o 111 (.mv (.t 14)), o 112 (.ixAddr 1 (.t 110) (.t 111)), o 113 (.load false 1 (.t 112)), o 114 (.call (.f n_r01_Has) [(.t 109), (.t 113)]), o 115 (.not (.t 114))]
abbrev r06_Check_p6 : ACode := (.seq (.reg r06_Check_p5) (.cond (.t 115) r06_Check_p4 .skip))
abbrev r06_Check_p7 : List AG := [o 103 (.mv (.t 14)), o 104 (.mv (.t 13)), o 105 (.len (.t 104)), o 106 (.cmp .lss (.sc .int) (.t 103) (.t 105))]
abbrev r06_Check_b1 : ACode := (.seq (.seq (.reg r06_Check_p7) (.cond (.t 106) .skip (.exit 6))) (.seq (.block 7 [] r06_Check_p6) (.reg r06_Check_p2)))
abbrev r06_Check_p8 : List AG := [o 14 (.mv (.c (.int .i64 0)))]
abbrev r06_Check_p9 : List AG := [o 101 (.load true 4 (.t 1)), o 102 (.call (.f n_r06_Used) [(.t 101)]), o 13 (.mv (.t 102))]
abbrev r06_Check_m10 : List Bool := [O,I,O,O,O,O,I,O,O,O,O,O,I,O,O,O,O,O,O,O,O,O,O,O,O,O,O,O,O,O,O,O,O,O,O,O,O,O,O,O,O,O,O,O,O,O,O,O,O,O,O,O,O,O,O,O,O,O,O,O,O,O,O,O,O,O,O,O,O,O,O,O,O,O,O,O,O,O,O,O,O,O,O,O,O,O,O,O,O,O,O,O,O,O,O,O,O,O,O,O,O,O,O,O,O,O,O,O,O,O,O,O,O,O,O,O,O,O,O,O]
abbrev r06_Check_x10 : List Bool := [O,I,O,O,O,O,I,O,O,O,O,O,O,O,O,O,O,O,O,O,O,O,O,O,O,O,O,O,O,O,O,O,O,O,O,O,O,O,O,O,O,O,O,O,O,O,O,O,O,O,O,O,O,O,O,O,O,O,O,O,O,O,O,O,O,O,O,O,O,O,O,O,O,O,O,O,O,O,O,O,O,O,O,O,O,O,O,O,O,O,O,O,O,O,O,O,O,O,O,O,O,O,O,O,O,O,O,O,O,O,O,O,O,O,O,O,O,O,O,O]
abbrev r06_Check_p11 : List AG := [o 86 (.mv (.t 12)), o 87 (.ibin .add (.t 86) (.c (.int .i64 1))), o 12 (.mv (.t 87))]
abbrev r06_Check_p12 : List AG := [o 95 (.off 3 (.t 1)), o 96 (.load false 1 (.t 95)), o 97 (.mv (.t 12)), o 98 (.ixAddr 5 (.t 96) (.t 97)), o 99 (.off 0 (.t 98)), o 100 (.load false 1 (.t 99)), o 2 (.mv (.c (.int .i64 1))), o 3 (.mv (.t 100))]
abbrev r06_Check_p13 : ACode := (.seq (.dreg [O,O,O,O,O,O,O,O] [9,9,9,9,9,9,9,9] r06_Check_p12) .ret)
abbrev r06_Check_p14 : List AG := [o 88 (.off 3 (.t 1)), o 89 (.load false 1 (.t 88)), o 90 (.mv (.t 12)), o 91 (.ixAddr 5 (.t 89) (.t 90)), o 92 (.load true 5 (.t 91)), o 93 (.call (.f n_r06_Gate) [(.t 92)]), o 94 (.not (.t 93))]
abbrev r06_Check_p15 : ACode := (.seq (.reg r06_Check_p14) (.cond (.t 94) r06_Check_p13 .skip))
abbrev r06_Check_p16 : List AG := [o 81 (.mv (.t 12)), o 82 (.off 3 (.t 1)), o 83 (.load false 1 (.t 82)), o 84 (.len (.t 83)), o 85 (.cmp .lss (.sc .int) (.t 81) (.t 84))]
abbrev r06_Check_b10 : ACode := (.seq (.seq (.reg r06_Check_p16) (.cond (.t 85) .skip (.exit 4))) (.seq (.block 5 [] r06_Check_p15) (.reg r06_Check_p11)))
abbrev r06_Check_p17 : List AG := [o 12 (.mv (.c (.int .i64 0)))]
abbrev r06_Check_m18 : List Bool := [O,I,O,O,O,O,I,O,O,O,O,I,O,O,O,O,O,O,O,O,O,O,O,O,O,O,O,O,O,O,O,O,O,O,O,O,O,O,O,O,O,O,O,O,O,O,O,O,O,O,O,O,O,O,O,O,O,O,O,O,O,O,O,O,O,O,O,O,O,O,O,O,O,O,O,O,O,O,O,O,O,O,O,O,O,O,O,O,O,O,O,O,O,O,O,O,O,O,O,O,O,O,O,O,O,O,O,O,O,O,O,O,O,O,O,O,O,O,O,O]
abbrev r06_Check_x18 : List Bool := [O,I,O,O,O,O,I,O,O,O,O,O,O,O,O,O,O,O,O,O,O,O,O,O,O,O,O,O,O,O,O,O,O,O,O,O,O,O,O,O,O,O,O,O,O,O,O,O,O,O,O,O,O,O,O,O,O,O,O,O,O,O,O,O,O,O,O,O,O,O,O,O,O,O,O,O,O,O,O,O,O,O,O,O,O,O,O,O,O,O,O,O,O,O,O,O,O,O,O,O,O,O,O,O,O,O,O,O,O,O,O,O,O,O,O,O,O,O,O,O]
abbrev r06_Check_p19 : List AG := [o 57 (.mv (.t 11)), o 58 (.ibin .add (.t 57) (.c (.int .i64 1))), o 11 (.mv (.t 58))]
abbrev r06_Check_p20 : List AG := [o 75 (.off 2 (.t 1)), o 76 (.load false 1 (.t 75)), o 77 (.mv (.t 11)), o 78 (.ixAddr 3 (.t 76) (.t 77)), o 79 (.off 0 (.t 78)), o 80 (.load false 1 (.t 79)), o 2 (.mv (.c (.int .i64 1))), o 3 (.mv (.t 80))]
abbrev r06_Check_p21 : ACode := (.seq (.dreg [O,O,O,O,O,O,O,O] [9,9,9,9,9,9,9,9] r06_Check_p20) .ret)
abbrev r06_Check_p22 : List AG := [o 59 (.off 2 (.t 1)), o 60 (.load false 1 (.t 59)), o 61 (.mv (.t 11)), o 62 (.ixAddr 3 (.t 60) (.t 61)), o 63 (.off 2 (.t 62)), o 64 (.load false 1 (.t 63)), o 65 (.cmp .lss (.sc .int) (.t 64) (.c (.int .i64 0))), o 66 (.mv (.t 65)), on 67 66 (.off 2 (.t 1)), on 68 66 (.load false 1 (.t 67)), on 69 66 (.mv (.t 11)), on 70 66 (.ixAddr 3 (.t 68) (.t 69)), on 71 66 (.off 2 (.t 70)), on 72 66 (.load false 1 (.t 71)), on 73 66 (.cmp .gtr (.sc .int) (.t 72) (.c (.int .i64 2))), o 74 (.pick (.t 66) (.c (.bool true)) (.t 73))]
abbrev r06_Check_p23 : ACode := (.seq (.reg r06_Check_p22) (.cond (.t 74) r06_Check_p21 .skip))
abbrev r06_Check_p24 : List AG := [o 52 (.mv (.t 11)), o 53 (.off 2 (.t 1)), o 54 (.load false 1 (.t 53)), o 55 (.len (.t 54)), o 56 (.cmp .lss (.sc .int) (.t 52) (.t 55))]
abbrev r06_Check_b18 : ACode := (.seq (.seq (.reg r06_Check_p24) (.cond (.t 56) .skip (.exit 2))) (.seq (.block 3 [] r06_Check_p23) (.reg r06_Check_p19)))
abbrev r06_Check_p25 : List AG := [o 11 (.mv (.c (.int .i64 0)))]
abbrev r06_Check_p26 : List AG := [o 51 (.mv (.t 9)), o 2 (.mv (.c (.int .i64 5))), o 3 (.mv (.t 51))]
abbrev r06_Check_p27 : ACode := (.seq (.reg r06_Check_p26) .ret)
abbrev r06_Check_p28 : List AG := [o 50 (.mv (.t 10))]
abbrev r06_Check_p29 : List AG := [o 45 (.off 1 (.t 1)), o 46 (.load false 1 (.t 45)), o 47 (.call (.f n_r06_twice) [(.t 46)]), o 44 (.mv (.t 47)), o 48 (.extract (.t 44) 0), o 49 (.extract (.t 44) 1), o 9 (.mv (.t 48)), o 10 (.mv (.t 49))]
abbrev r06_Check_p30 : List AG := [o 43 (.mv (.t 7)), o 2 (.mv (.c (.int .i64 5))), o 3 (.mv (.t 43))]
abbrev r06_Check_p31 : ACode := (.seq (.reg r06_Check_p30) .ret)
abbrev r06_Check_p32 : List AG := [o 42 (.mv (.t 8))]
abbrev r06_Check_p33 : List AG := [o 38 (.mv (.t 6)), o 39 (.call (.f n_r06_twice) [(.t 38)]), o 37 (.mv (.t 39)), o 40 (.extract (.t 37) 0), o 41 (.extract (.t 37) 1), o 7 (.mv (.t 40)), o 8 (.mv (.t 41))]
abbrev r06_Check_p34 : List AG := [o 35 (.load true 4 (.t 1)), o 36 (.call (.f n_r06_Nets) [(.t 35)]), o 6 (.mv (.t 36))]
abbrev r06_Check_m35 : List Bool := [O,I,O,O,I,I,O,O,O,O,O,O,O,O,O,O,O,O,O,O,O,O,O,O,O,O,O,O,O,O,O,O,O,O,O,O,O,O,O,O,O,O,O,O,O,O,O,O,O,O,O,O,O,O,O,O,O,O,O,O,O,O,O,O,O,O,O,O,O,O,O,O,O,O,O,O,O,O,O,O,O,O,O,O,O,O,O,O,O,O,O,O,O,O,O,O,O,O,O,O,O,O,O,O,O,O,O,O,O,O,O,O,O,O,O,O,O,O,O,O]
abbrev r06_Check_x35 : List Bool := [O,I,O,O,O,O,O,O,O,O,O,O,O,O,O,O,O,O,O,O,O,O,O,O,O,O,O,O,O,O,O,O,O,O,O,O,O,O,O,O,O,O,O,O,O,O,O,O,O,O,O,O,O,O,O,O,O,O,O,O,O,O,O,O,O,O,O,O,O,O,O,O,O,O,O,O,O,O,O,O,O,O,O,O,O,O,O,O,O,O,O,O,O,O,O,O,O,O,O,O,O,O,O,O,O,O,O,O,O,O,O,O,O,O,O,O,O,O,O,O]
abbrev r06_Check_p36 : List AG := [o 23 (.mv (.t 5)), o 24 (.ibin .add (.t 23) (.c (.int .i64 1))), o 5 (.mv (.t 24))]
abbrev r06_Check_p37 : List AG := [o 31 (.mv (.t 4)), o 32 (.mv (.t 5)), o 33 (.ixAddr 1 (.t 31) (.t 32)), o 34 (.load false 1 (.t 33)), o 2 (.mv (.c (.int .i64 4))), o 3 (.mv (.t 34))]
abbrev r06_Check_p38 : ACode := (.seq (.dreg [O,O,O,O,O,O] [7,7,7,7,7,7] r06_Check_p37) .ret)
abbrev r06_Check_p39 : List AG := [o 25 (.mv (.t 4)), o 26 (.mv (.t 5)), o 27 (.ixAddr 1 (.t 25) (.t 26)), o 28 (.load false 1 (.t 27)), o 29 (.call (.f n_r04_Name) [(.t 28)]), o 30 (.not (.t 29))]
abbrev r06_Check_p40 : ACode := (.seq (.reg r06_Check_p39) (.cond (.t 30) r06_Check_p38 .skip))
abbrev r06_Check_p41 : List AG := [o 19 (.mv (.t 5)), o 20 (.mv (.t 4)), o 21 (.len (.t 20)), o 22 (.cmp .lss (.sc .int) (.t 19) (.t 21))]
abbrev r06_Check_b35 : ACode := (.seq (.seq (.reg r06_Check_p41) (.cond (.t 22) .skip (.exit 0))) (.seq (.block 1 [] r06_Check_p40) (.reg r06_Check_p36)))
abbrev r06_Check_p42 : List AG := [o 5 (.mv (.c (.int .i64 0)))]
abbrev r06_Check_p43 : List AG := [o 17 (.load true 4 (.t 1)), o 18 (.call (.f n_r06_Told) [(.t 17)]), o 4 (.mv (.t 18))]
abbrev r06_Check_p44 : List AG := [o 2 (.mv (.c (.int .i64 8))), o 3 (.mv (.c (.str [])))]
abbrev r06_Check_p45 : ACode := (.seq (.reg r06_Check_p44) .ret)
abbrev r06_Check_p46 : List AG := [o 15 (.load true 4 (.t 1)), o 16 (.call (.f n_r06_limit) [(.t 15)])]
abbrev r06_Check_p47 : List AG := [o 1 (.box 4 (.t 0)), o 2 (.mv (.c (.int .i64 0))), o 3 (.mv (.c (.str [])))]
abbrev r06_Check : AFun := ⟨(.seq (.reg r06_Check_p47) (.seq (.seq (.reg r06_Check_p46) (.cond (.t 16) r06_Check_p45 .skip)) (.seq (.reg r06_Check_p43) (.seq (.seq (.reg r06_Check_p42) (.block 0 r06_Check_x35 (.loop r06_Check_m35 r06_Check_b35))) (.seq (.reg r06_Check_p34) (.seq (.reg r06_Check_p33) (.seq (.seq (.reg r06_Check_p32) (.cond (.t 42) r06_Check_p31 .skip)) (.seq (.reg r06_Check_p29) (.seq (.seq (.reg r06_Check_p28) (.cond (.t 50) r06_Check_p27 .skip)) (.seq (.seq (.reg r06_Check_p25) (.block 2 r06_Check_x18 (.loop r06_Check_m18 r06_Check_b18))) (.seq (.seq (.reg r06_Check_p17) (.block 4 r06_Check_x10 (.loop r06_Check_m10 r06_Check_b10))) (.seq (.reg r06_Check_p9) (.seq (.seq (.reg r06_Check_p8) (.block 6 r06_Check_x1 (.loop r06_Check_m1 r06_Check_b1))) (.seq (.reg r06_Check_p0) .ret)))))))))))))), 120, [.tmp 2, .tmp 3]⟩
abbrev r06_Check_k1 : List It := [.code (.seq (.reg r06_Check_p0) .ret)]
abbrev r06_Check_L1 (x6 x13 x14 : AV) (h : List Ob) (e : Cx := cx) : Cfg := atC n_r06_Check (.code r06_Check_b1 :: .inLoop r06_Check_m1 r06_Check_b1 :: .inBlock 6 r06_Check_x1 :: r06_Check_k1) [U,U,U,U,U,U,x6,U,U,U,U,U,U,x13,x14,U,U,U,U,U,U,U,U,U,U,U,U,U,U,U,U,U,U,U,U,U,U,U,U,U,U,U,U,U,U,U,U,U,U,U,U,U,U,U,U,U,U,U,U,U,U,U,U,U,U,U,U,U,U,U,U,U,U,U,U,U,U,U,U,U,U,U,U,U,U,U,U,U,U,U,U,U,U,U,U,U,U,U,U,U,U,U,U,U,U,U,U,U,U,U,U,U,U,U,U,U,U,U,U,U] h e
abbrev r06_Check_E1 (h : List Ob) (e : Cx := cx) : Cfg := atC n_r06_Check r06_Check_k1 [U,U,U,U,U,U,U,U,U,U,U,U,U,U,U,U,U,U,U,U,U,U,U,U,U,U,U,U,U,U,U,U,U,U,U,U,U,U,U,U,U,U,U,U,U,U,U,U,U,U,U,U,U,U,U,U,U,U,U,U,U,U,U,U,U,U,U,U,U,U,U,U,U,U,U,U,U,U,U,U,U,U,U,U,U,U,U,U,U,U,U,U,U,U,U,U,U,U,U,U,U,U,U,U,U,U,U,U,U,U,U,U,U,U,U,U,U,U,U,U] h e
abbrev r06_Check_k10 : List It := [.code (.seq (.reg r06_Check_p9) (.seq (.seq (.reg r06_Check_p8) (.block 6 r06_Check_x1 (.loop r06_Check_m1 r06_Check_b1))) (.seq (.reg r06_Check_p0) .ret)))]
abbrev r06_Check_L10 (x1 x6 x12 : AV) (h : List Ob) (e : Cx := cx) : Cfg := atC n_r06_Check (.code r06_Check_b10 :: .inLoop r06_Check_m10 r06_Check_b10 :: .inBlock 4 r06_Check_x10 :: r06_Check_k10) [U,x1,U,U,U,U,x6,U,U,U,U,U,x12,U,U,U,U,U,U,U,U,U,U,U,U,U,U,U,U,U,U,U,U,U,U,U,U,U,U,U,U,U,U,U,U,U,U,U,U,U,U,U,U,U,U,U,U,U,U,U,U,U,U,U,U,U,U,U,U,U,U,U,U,U,U,U,U,U,U,U,U,U,U,U,U,U,U,U,U,U,U,U,U,U,U,U,U,U,U,U,U,U,U,U,U,U,U,U,U,U,U,U,U,U,U,U,U,U,U,U] h e
abbrev r06_Check_E10 (x1 x6 : AV) (h : List Ob) (e : Cx := cx) : Cfg := atC n_r06_Check r06_Check_k10 [U,x1,U,U,U,U,x6,U,U,U,U,U,U,U,U,U,U,U,U,U,U,U,U,U,U,U,U,U,U,U,U,U,U,U,U,U,U,U,U,U,U,U,U,U,U,U,U,U,U,U,U,U,U,U,U,U,U,U,U,U,U,U,U,U,U,U,U,U,U,U,U,U,U,U,U,U,U,U,U,U,U,U,U,U,U,U,U,U,U,U,U,U,U,U,U,U,U,U,U,U,U,U,U,U,U,U,U,U,U,U,U,U,U,U,U,U,U,U,U,U] h e
abbrev r06_Check_k18 : List It := [.code (.seq (.seq (.reg r06_Check_p17) (.block 4 r06_Check_x10 (.loop r06_Check_m10 r06_Check_b10))) (.seq (.reg r06_Check_p9) (.seq (.seq (.reg r06_Check_p8) (.block 6 r06_Check_x1 (.loop r06_Check_m1 r06_Check_b1))) (.seq (.reg r06_Check_p0) .ret))))]
abbrev r06_Check_L18 (x1 x6 x11 : AV) (h : List Ob) (e : Cx := cx) : Cfg := atC n_r06_Check (.code r06_Check_b18 :: .inLoop r06_Check_m18 r06_Check_b18 :: .inBlock 2 r06_Check_x18 :: r06_Check_k18) [U,x1,U,U,U,U,x6,U,U,U,U,x11,U,U,U,U,U,U,U,U,U,U,U,U,U,U,U,U,U,U,U,U,U,U,U,U,U,U,U,U,U,U,U,U,U,U,U,U,U,U,U,U,U,U,U,U,U,U,U,U,U,U,U,U,U,U,U,U,U,U,U,U,U,U,U,U,U,U,U,U,U,U,U,U,U,U,U,U,U,U,U,U,U,U,U,U,U,U,U,U,U,U,U,U,U,U,U,U,U,U,U,U,U,U,U,U,U,U,U,U] h e
abbrev r06_Check_E18 (x1 x6 : AV) (h : List Ob) (e : Cx := cx) : Cfg := atC n_r06_Check r06_Check_k18 [U,x1,U,U,U,U,x6,U,U,U,U,U,U,U,U,U,U,U,U,U,U,U,U,U,U,U,U,U,U,U,U,U,U,U,U,U,U,U,U,U,U,U,U,U,U,U,U,U,U,U,U,U,U,U,U,U,U,U,U,U,U,U,U,U,U,U,U,U,U,U,U,U,U,U,U,U,U,U,U,U,U,U,U,U,U,U,U,U,U,U,U,U,U,U,U,U,U,U,U,U,U,U,U,U,U,U,U,U,U,U,U,U,U,U,U,U,U,U,U,U] h e
abbrev r06_Check_k35 : List It := [.code (.seq (.reg r06_Check_p34) (.seq (.reg r06_Check_p33) (.seq (.seq (.reg r06_Check_p32) (.cond (.t 42) r06_Check_p31 .skip)) (.seq (.reg r06_Check_p29) (.seq (.seq (.reg r06_Check_p28) (.cond (.t 50) r06_Check_p27 .skip)) (.seq (.seq (.reg r06_Check_p25) (.block 2 r06_Check_x18 (.loop r06_Check_m18 r06_Check_b18))) (.seq (.seq (.reg r06_Check_p17) (.block 4 r06_Check_x10 (.loop r06_Check_m10 r06_Check_b10))) (.seq (.reg r06_Check_p9) (.seq (.seq (.reg r06_Check_p8) (.block 6 r06_Check_x1 (.loop r06_Check_m1 r06_Check_b1))) (.seq (.reg r06_Check_p0) .ret))))))))))]
abbrev r06_Check_L35 (x1 x4 x5 : AV) (h : List Ob) (e : Cx := cx) : Cfg := atC n_r06_Check (.code r06_Check_b35 :: .inLoop r06_Check_m35 r06_Check_b35 :: .inBlock 0 r06_Check_x35 :: r06_Check_k35) [U,x1,U,U,x4,x5,U,U,U,U,U,U,U,U,U,U,U,U,U,U,U,U,U,U,U,U,U,U,U,U,U,U,U,U,U,U,U,U,U,U,U,U,U,U,U,U,U,U,U,U,U,U,U,U,U,U,U,U,U,U,U,U,U,U,U,U,U,U,U,U,U,U,U,U,U,U,U,U,U,U,U,U,U,U,U,U,U,U,U,U,U,U,U,U,U,U,U,U,U,U,U,U,U,U,U,U,U,U,U,U,U,U,U,U,U,U,U,U,U,U] h e
abbrev r06_Check_E35 (x1 : AV) (h : List Ob) (e : Cx := cx) : Cfg := atC n_r06_Check r06_Check_k35 [U,x1,U,U,U,U,U,U,U,U,U,U,U,U,U,U,U,U,U,U,U,U,U,U,U,U,U,U,U,U,U,U,U,U,U,U,U,U,U,U,U,U,U,U,U,U,U,U,U,U,U,U,U,U,U,U,U,U,U,U,U,U,U,U,U,U,U,U,U,U,U,U,U,U,U,U,U,U,U,U,U,U,U,U,U,U,U,U,U,U,U,U,U,U,U,U,U,U,U,U,U,U,U,U,U,U,U,U,U,U,U,U,U,U,U,U,U,U,U,U] h e
@[simp] theorem c_r06_Check : cfun Tryd.prog n_r06_Check = some r06_Check := by kernel_rfl
@[simp] theorem e_r06_Check : hasBody Tryd.prog n_r06_Check = true := by kernel_rfl

/- r01_Texts: patchbay/patchbayref01.Texts -/
abbrev r01_Texts_p0 : List AG := [o 4 (.mv (.c (.bool true)))]
abbrev r01_Texts_m1 : List Bool := [I,I,O,O,O,I,O,O,O,O,O,O,O,O,O,O,O,O,O,O,O,O,O,O,O,O]
abbrev r01_Texts_x1 : List Bool := [O,O,O,O,O,O,O,O,O,O,O,O,O,O,O,O,O,O,O,O,O,O,O,O,O,O]
abbrev r01_Texts_p2 : List AG := [o 15 (.mv (.t 5)), o 16 (.ibin .add (.t 15) (.c (.int .i64 1))), o 5 (.mv (.t 16))]
abbrev r01_Texts_p3 : List AG := [o 4 (.mv (.c (.bool false)))]
abbrev r01_Texts_p4 : ACode := (.seq (.reg r01_Texts_p3) .ret)
abbrev r01_Texts_p5 : List AG := [o 17 (.mv (.t 0)), o 18 (.mv (.t 5)), o 19 (.ixAddr 1 (.t 17) (.t 18)), o 20 (.load false 1 (.t 19)), o 21 (.mv (.t 1)), o 22 (.mv (.t 5)), o 23 (.ixAddr 1 (.t 21) (.t 22)), o 24 (.load false 1 (.t 23)), o 25 (.cmp .neq (.sc .str) (.t 20) (.t 24))]
abbrev r01_Texts_p6 : ACode := (.seq (.dreg [O,O,O,O,O,O,O,O,O] [10,10,10,10,10,10,10,10,10] r01_Texts_p5) (.cond (.t 25) r01_Texts_p4 .skip))
abbrev r01_Texts_p7 : List AG := [o 11 (.mv (.t 5)), o 12 (.mv (.t 0)), o 13 (.len (.t 12)), o 14 (.cmp .lss (.sc .int) (.t 11) (.t 13))]
abbrev r01_Texts_b1 : ACode := (.seq (.seq (.reg r01_Texts_p7) (.cond (.t 14) .skip (.exit 0))) (.seq (.block 1 [] r01_Texts_p6) (.reg r01_Texts_p2)))
abbrev r01_Texts_p8 : List AG := [o 5 (.mv (.c (.int .i64 0)))]
abbrev r01_Texts_p9 : List AG := [o 4 (.mv (.c (.bool false)))]
abbrev r01_Texts_p10 : ACode := (.seq (.reg r01_Texts_p9) .ret)
abbrev r01_Texts_p11 : List AG := [o 6 (.mv (.t 0)), o 7 (.len (.t 6)), o 8 (.mv (.t 1)), o 9 (.len (.t 8)), o 10 (.cmp .neq (.sc .int) (.t 7) (.t 9))]
abbrev r01_Texts_p12 : List AG := [o 4 (.mv (.c (.bool false)))]
abbrev r01_Texts : AFun := ⟨(.seq (.reg r01_Texts_p12) (.seq (.seq (.reg r01_Texts_p11) (.cond (.t 10) r01_Texts_p10 .skip)) (.seq (.seq (.reg r01_Texts_p8) (.block 0 r01_Texts_x1 (.loop r01_Texts_m1 r01_Texts_b1))) (.seq (.reg r01_Texts_p0) .ret)))), 26, [.tmp 4]⟩
abbrev r01_Texts_k1 : List It := [.code (.seq (.reg r01_Texts_p0) .ret)]
abbrev r01_Texts_L1 (x0 x1 x5 : AV) (h : List Ob) (e : Cx := cx) : Cfg := atC n_r01_Texts (.code r01_Texts_b1 :: .inLoop r01_Texts_m1 r01_Texts_b1 :: .inBlock 0 r01_Texts_x1 :: r01_Texts_k1) [x0,x1,U,U,U,x5,U,U,U,U,U,U,U,U,U,U,U,U,U,U,U,U,U,U,U,U] h e
abbrev r01_Texts_E1 (h : List Ob) (e : Cx := cx) : Cfg := atC n_r01_Texts r01_Texts_k1 [U,U,U,U,U,U,U,U,U,U,U,U,U,U,U,U,U,U,U,U,U,U,U,U,U,U] h e
@[simp] theorem c_r01_Texts : cfun Tryd.prog n_r01_Texts = some r01_Texts := by kernel_rfl
@[simp] theorem e_r01_Texts : hasBody Tryd.prog n_r01_Texts = true := by kernel_rfl

/- net_Nets: patchbay/net.Nets -/
abbrev net_Nets_p0 : List AG := [o 37 (.mv (.t 3)), o 2 (.mv (.t 37))]
abbrev net_Nets_m1 : List Bool := [O,O,O,I,O,O,O,O,O,O,O,O,O,O,O,O,O,O,O,O,O,O,O,O,O,I,I,I,O,O,O,O,O,O,O,O,O,O]
abbrev net_Nets_x1 : List Bool := [O,O,O,I,O,O,O,O,O,O,O,O,O,O,O,O,O,O,O,O,O,O,O,O,O,O,O,O,O,O,O,O,O,O,O,O,O,O]
abbrev net_Nets_p2 : List AG := [o 36 (.ibin .add (.t 27) (.c (.int .i64 1))), o 27 (.mv (.t 36))]
abbrev net_Nets_p3 : List AG := [o 31 (.mv (.t 3)), o 32 (.off 0 (.t 7)), o 33 (.load false 1 (.t 32)), o 34 (.lit 1 [(.str [])] [(0, (.t 33))]), o 35 (.append 1 t_string 16 (.t 31) (.t 34)), o 3 (.mv (.t 35))]
abbrev net_Nets_p4 : List AG := [o 29 (.ixAddr 5 (.t 25) (.t 27)), o 30 (.load true 5 (.t 29)), o 7 (.alloc [(.str []), (.int .i64 0), (.own 1 t_string []), (.own 1 t_string []), (.bool false)]), q (.store 5 (.t 7) (.t 30))]
abbrev net_Nets_p5 : ACode := (.seq (.reg net_Nets_p4) (.reg net_Nets_p3))
abbrev net_Nets_p6 : List AG := [o 28 (.cmp .lss (.sc .int) (.t 27) (.t 26))]
abbrev net_Nets_b1 : ACode := (.seq (.reg net_Nets_p6) (.seq (.cond (.t 28) .skip (.exit 2)) (.seq (.block 3 [] net_Nets_p5) (.reg net_Nets_p2))))
abbrev net_Nets_p7 : List AG := [o 24 (.off 3 (.t 1)), o 25 (.load false 1 (.t 24)), o 26 (.len (.t 25)), o 27 (.mv (.c (.int .i64 0)))]
abbrev net_Nets_m8 : List Bool := [O,I,O,I,O,O,O,O,O,O,O,O,I,I,I,O,O,O,O,O,O,O,O,O,O,O,O,O,O,O,O,O,O,O,O,O,O,O]
abbrev net_Nets_x8 : List Bool := [O,I,O,I,O,O,O,O,O,O,O,O,O,O,O,O,O,O,O,O,O,O,O,O,O,O,O,O,O,O,O,O,O,O,O,O,O,O]
abbrev net_Nets_p9 : List AG := [o 23 (.ibin .add (.t 14) (.c (.int .i64 1))), o 14 (.mv (.t 23))]
abbrev net_Nets_p10 : List AG := [o 18 (.mv (.t 3)), o 19 (.off 0 (.t 5)), o 20 (.load false 1 (.t 19)), o 21 (.lit 1 [(.str [])] [(0, (.t 20))]), o 22 (.append 1 t_string 16 (.t 18) (.t 21)), o 3 (.mv (.t 22))]
abbrev net_Nets_p11 : List AG := [o 16 (.ixAddr 3 (.t 12) (.t 14)), o 17 (.load true 3 (.t 16)), o 5 (.alloc [(.str []), (.str []), (.int .i64 0)]), q (.store 3 (.t 5) (.t 17))]
abbrev net_Nets_p12 : ACode := (.seq (.reg net_Nets_p11) (.reg net_Nets_p10))
abbrev net_Nets_p13 : List AG := [o 15 (.cmp .lss (.sc .int) (.t 14) (.t 13))]
abbrev net_Nets_b8 : ACode := (.seq (.reg net_Nets_p13) (.seq (.cond (.t 15) .skip (.exit 0)) (.seq (.block 1 [] net_Nets_p12) (.reg net_Nets_p9))))
abbrev net_Nets_p14 : List AG := [o 11 (.off 2 (.t 1)), o 12 (.load false 1 (.t 11)), o 13 (.len (.t 12)), o 14 (.mv (.c (.int .i64 0)))]
abbrev net_Nets_p15 : List AG := [o 8 (.off 0 (.t 1)), o 9 (.load false 1 (.t 8)), o 10 (.call (.f n_slices_Clone_string_string) [(.t 9)]), o 3 (.mv (.t 10))]
abbrev net_Nets_p16 : List AG := [o 1 (.box 4 (.t 0)), o 2 (.nilrow 1 t_string)]
abbrev net_Nets : AFun := ⟨(.seq (.reg net_Nets_p16) (.seq (.reg net_Nets_p15) (.seq (.seq (.reg net_Nets_p14) (.block 0 net_Nets_x8 (.loop net_Nets_m8 net_Nets_b8))) (.seq (.seq (.reg net_Nets_p7) (.block 2 net_Nets_x1 (.loop net_Nets_m1 net_Nets_b1))) (.seq (.reg net_Nets_p0) .ret))))), 38, [.tmp 2]⟩
abbrev net_Nets_k1 : List It := [.code (.seq (.reg net_Nets_p0) .ret)]
abbrev net_Nets_L1 (x3 x25 x26 x27 : AV) (h : List Ob) (e : Cx := cx) : Cfg := atC n_net_Nets (.code net_Nets_b1 :: .inLoop net_Nets_m1 net_Nets_b1 :: .inBlock 2 net_Nets_x1 :: net_Nets_k1) [U,U,U,x3,U,U,U,U,U,U,U,U,U,U,U,U,U,U,U,U,U,U,U,U,U,x25,x26,x27,U,U,U,U,U,U,U,U,U,U] h e
abbrev net_Nets_E1 (x3 : AV) (h : List Ob) (e : Cx := cx) : Cfg := atC n_net_Nets net_Nets_k1 [U,U,U,x3,U,U,U,U,U,U,U,U,U,U,U,U,U,U,U,U,U,U,U,U,U,U,U,U,U,U,U,U,U,U,U,U,U,U] h e
abbrev net_Nets_k8 : List It := [.code (.seq (.seq (.reg net_Nets_p7) (.block 2 net_Nets_x1 (.loop net_Nets_m1 net_Nets_b1))) (.seq (.reg net_Nets_p0) .ret))]
abbrev net_Nets_L8 (x1 x3 x12 x13 x14 : AV) (h : List Ob) (e : Cx := cx) : Cfg := atC n_net_Nets (.code net_Nets_b8 :: .inLoop net_Nets_m8 net_Nets_b8 :: .inBlock 0 net_Nets_x8 :: net_Nets_k8) [U,x1,U,x3,U,U,U,U,U,U,U,U,x12,x13,x14,U,U,U,U,U,U,U,U,U,U,U,U,U,U,U,U,U,U,U,U,U,U,U] h e
abbrev net_Nets_E8 (x1 x3 : AV) (h : List Ob) (e : Cx := cx) : Cfg := atC n_net_Nets net_Nets_k8 [U,x1,U,x3,U,U,U,U,U,U,U,U,U,U,U,U,U,U,U,U,U,U,U,U,U,U,U,U,U,U,U,U,U,U,U,U,U,U] h e
@[simp] theorem c_net_Nets : cfun Tryd.prog n_net_Nets = some net_Nets := by kernel_rfl
@[simp] theorem e_net_Nets : hasBody Tryd.prog n_net_Nets = true := by kernel_rfl

/- r06_Nets: patchbay/patchbayref06.Nets -/
abbrev r06_Nets_p0 : List AG := [o 42 (.mv (.t 3)), o 2 (.mv (.t 42))]
abbrev r06_Nets_m1 : List Bool := [O,I,O,I,O,I,O,O,O,O,O,O,O,O,O,O,O,O,O,O,O,O,O,O,O,O,O,O,O,O,O,O,O,O,O,O,O,O,O,O,O,O,O]
abbrev r06_Nets_x1 : List Bool := [O,O,O,I,O,O,O,O,O,O,O,O,O,O,O,O,O,O,O,O,O,O,O,O,O,O,O,O,O,O,O,O,O,O,O,O,O,O,O,O,O,O,O]
abbrev r06_Nets_p2 : List AG := [o 31 (.mv (.t 5)), o 32 (.ibin .add (.t 31) (.c (.int .i64 1))), o 5 (.mv (.t 32))]
abbrev r06_Nets_p3 : List AG := [o 33 (.mv (.t 3)), o 34 (.off 3 (.t 1)), o 35 (.load false 1 (.t 34)), o 36 (.mv (.t 5)), o 37 (.ixAddr 5 (.t 35) (.t 36)), o 38 (.off 0 (.t 37)), o 39 (.load false 1 (.t 38)), o 40 (.lit 1 [(.str [])] [(0, (.t 39))]), o 41 (.append 1 t_string 16 (.t 33) (.t 40)), o 3 (.mv (.t 41))]
abbrev r06_Nets_p4 : List AG := [o 26 (.mv (.t 5)), o 27 (.off 3 (.t 1)), o 28 (.load false 1 (.t 27)), o 29 (.len (.t 28)), o 30 (.cmp .lss (.sc .int) (.t 26) (.t 29))]
abbrev r06_Nets_b1 : ACode := (.seq (.seq (.reg r06_Nets_p4) (.cond (.t 30) .skip (.exit 2))) (.seq (.block 3 [] (.reg r06_Nets_p3)) (.reg r06_Nets_p2)))
abbrev r06_Nets_p5 : List AG := [o 5 (.mv (.c (.int .i64 0)))]
abbrev r06_Nets_m6 : List Bool := [O,I,O,I,I,O,O,O,O,O,O,O,O,O,O,O,O,O,O,O,O,O,O,O,O,O,O,O,O,O,O,O,O,O,O,O,O,O,O,O,O,O,O]
abbrev r06_Nets_x6 : List Bool := [O,I,O,I,O,O,O,O,O,O,O,O,O,O,O,O,O,O,O,O,O,O,O,O,O,O,O,O,O,O,O,O,O,O,O,O,O,O,O,O,O,O,O]
abbrev r06_Nets_p7 : List AG := [o 15 (.mv (.t 4)), o 16 (.ibin .add (.t 15) (.c (.int .i64 1))), o 4 (.mv (.t 16))]
abbrev r06_Nets_p8 : List AG := [o 17 (.mv (.t 3)), o 18 (.off 2 (.t 1)), o 19 (.load false 1 (.t 18)), o 20 (.mv (.t 4)), o 21 (.ixAddr 3 (.t 19) (.t 20)), o 22 (.off 0 (.t 21)), o 23 (.load false 1 (.t 22)), o 24 (.lit 1 [(.str [])] [(0, (.t 23))]), o 25 (.append 1 t_string 16 (.t 17) (.t 24)), o 3 (.mv (.t 25))]
abbrev r06_Nets_p9 : List AG := [o 10 (.mv (.t 4)), o 11 (.off 2 (.t 1)), o 12 (.load false 1 (.t 11)), o 13 (.len (.t 12)), o 14 (.cmp .lss (.sc .int) (.t 10) (.t 13))]
abbrev r06_Nets_b6 : ACode := (.seq (.seq (.reg r06_Nets_p9) (.cond (.t 14) .skip (.exit 0))) (.seq (.block 1 [] (.reg r06_Nets_p8)) (.reg r06_Nets_p7)))
abbrev r06_Nets_p10 : List AG := [o 4 (.mv (.c (.int .i64 0)))]
abbrev r06_Nets_p11 : List AG := [o 6 (.mv (.t 3)), o 7 (.off 0 (.t 1)), o 8 (.load false 1 (.t 7)), o 9 (.append 1 t_string 16 (.t 6) (.t 8)), o 3 (.mv (.t 9))]
abbrev r06_Nets_p12 : List AG := [o 3 (.nilrow 1 t_string)]
abbrev r06_Nets_p13 : List AG := [o 1 (.box 4 (.t 0)), o 2 (.nilrow 1 t_string)]
abbrev r06_Nets : AFun := ⟨(.seq (.reg r06_Nets_p13) (.seq (.reg r06_Nets_p12) (.seq (.reg r06_Nets_p11) (.seq (.seq (.reg r06_Nets_p10) (.block 0 r06_Nets_x6 (.loop r06_Nets_m6 r06_Nets_b6))) (.seq (.seq (.reg r06_Nets_p5) (.block 2 r06_Nets_x1 (.loop r06_Nets_m1 r06_Nets_b1))) (.seq (.reg r06_Nets_p0) .ret)))))), 43, [.tmp 2]⟩
abbrev r06_Nets_k1 : List It := [.code (.seq (.reg r06_Nets_p0) .ret)]
abbrev r06_Nets_L1 (x1 x3 x5 : AV) (h : List Ob) (e : Cx := cx) : Cfg := atC n_r06_Nets (.code r06_Nets_b1 :: .inLoop r06_Nets_m1 r06_Nets_b1 :: .inBlock 2 r06_Nets_x1 :: r06_Nets_k1) [U,x1,U,x3,U,x5,U,U,U,U,U,U,U,U,U,U,U,U,U,U,U,U,U,U,U,U,U,U,U,U,U,U,U,U,U,U,U,U,U,U,U,U,U] h e
abbrev r06_Nets_E1 (x3 : AV) (h : List Ob) (e : Cx := cx) : Cfg := atC n_r06_Nets r06_Nets_k1 [U,U,U,x3,U,U,U,U,U,U,U,U,U,U,U,U,U,U,U,U,U,U,U,U,U,U,U,U,U,U,U,U,U,U,U,U,U,U,U,U,U,U,U] h e
abbrev r06_Nets_k6 : List It := [.code (.seq (.seq (.reg r06_Nets_p5) (.block 2 r06_Nets_x1 (.loop r06_Nets_m1 r06_Nets_b1))) (.seq (.reg r06_Nets_p0) .ret))]
abbrev r06_Nets_L6 (x1 x3 x4 : AV) (h : List Ob) (e : Cx := cx) : Cfg := atC n_r06_Nets (.code r06_Nets_b6 :: .inLoop r06_Nets_m6 r06_Nets_b6 :: .inBlock 0 r06_Nets_x6 :: r06_Nets_k6) [U,x1,U,x3,x4,U,U,U,U,U,U,U,U,U,U,U,U,U,U,U,U,U,U,U,U,U,U,U,U,U,U,U,U,U,U,U,U,U,U,U,U,U,U] h e
abbrev r06_Nets_E6 (x1 x3 : AV) (h : List Ob) (e : Cx := cx) : Cfg := atC n_r06_Nets r06_Nets_k6 [U,x1,U,x3,U,U,U,U,U,U,U,U,U,U,U,U,U,U,U,U,U,U,U,U,U,U,U,U,U,U,U,U,U,U,U,U,U,U,U,U,U,U,U] h e
@[simp] theorem c_r06_Nets : cfun Tryd.prog n_r06_Nets = some r06_Nets := by kernel_rfl
@[simp] theorem e_r06_Nets : hasBody Tryd.prog n_r06_Nets = true := by kernel_rfl

/- r06_Place: patchbay/patchbayref06.Place -/
abbrev r06_Place_p0 : List AG := [o 4 (.mv (.c (.int .i64 (-1))))]
abbrev r06_Place_m1 : List Bool := [O,I,O,O,O,I,I,O,O,O,O,O,O,O,O,O,O,O,O,O,O,O]
abbrev r06_Place_x1 : List Bool := [O,O,O,O,O,O,O,O,O,O,O,O,O,O,O,O,O,O,O,O,O,O]
abbrev r06_Place_p2 : List AG := [o 13 (.mv (.t 6)), o 14 (.ibin .add (.t 13) (.c (.int .i64 1))), o 6 (.mv (.t 14))]
abbrev r06_Place_p3 : List AG := [o 21 (.mv (.t 6)), o 4 (.mv (.t 21))]
abbrev r06_Place_p4 : ACode := (.seq (.reg r06_Place_p3) .ret)
abbrev r06_Place_p5 : List AG := [o 15 (.mv (.t 5)), o 16 (.mv (.t 6)), o 17 (.ixAddr 1 (.t 15) (.t 16)), o 18 (.load false 1 (.t 17)), o 19 (.mv (.t 1)), o 20 (.cmp .eql (.sc .str) (.t 18) (.t 19))]
abbrev r06_Place_p6 : ACode := (.seq (.reg r06_Place_p5) (.cond (.t 20) r06_Place_p4 .skip))
abbrev r06_Place_p7 : List AG := [o 9 (.mv (.t 6)), o 10 (.mv (.t 5)), o 11 (.len (.t 10)), o 12 (.cmp .lss (.sc .int) (.t 9) (.t 11))]
abbrev r06_Place_b1 : ACode := (.seq (.seq (.reg r06_Place_p7) (.cond (.t 12) .skip (.exit 0))) (.seq (.block 1 [] r06_Place_p6) (.reg r06_Place_p2)))
abbrev r06_Place_p8 : List AG := [o 6 (.mv (.c (.int .i64 0)))]
abbrev r06_Place_p9 : List AG := [o 7 (.load true 4 (.t 2)), o 8 (.call (.f n_r06_Nets) [(.t 7)]), o 5 (.mv (.t 8))]
abbrev r06_Place_p10 : List AG := [o 2 (.box 4 (.t 0)), o 4 (.mv (.c (.int .i64 0)))]
abbrev r06_Place : AFun := ⟨(.seq (.reg r06_Place_p10) (.seq (.reg r06_Place_p9) (.seq (.seq (.reg r06_Place_p8) (.block 0 r06_Place_x1 (.loop r06_Place_m1 r06_Place_b1))) (.seq (.reg r06_Place_p0) .ret)))), 22, [.tmp 4]⟩
abbrev r06_Place_k1 : List It := [.code (.seq (.reg r06_Place_p0) .ret)]
abbrev r06_Place_L1 (x1 x5 x6 : AV) (h : List Ob) (e : Cx := cx) : Cfg := atC n_r06_Place (.code r06_Place_b1 :: .inLoop r06_Place_m1 r06_Place_b1 :: .inBlock 0 r06_Place_x1 :: r06_Place_k1) [U,x1,U,U,U,x5,x6,U,U,U,U,U,U,U,U,U,U,U,U,U,U,U] h e
abbrev r06_Place_E1 (h : List Ob) (e : Cx := cx) : Cfg := atC n_r06_Place r06_Place_k1 [U,U,U,U,U,U,U,U,U,U,U,U,U,U,U,U,U,U,U,U,U,U] h e
@[simp] theorem c_r06_Place : cfun Tryd.prog n_r06_Place = some r06_Place := by kernel_rfl
@[simp] theorem e_r06_Place : hasBody Tryd.prog n_r06_Place = true := by kernel_rfl

/- r06_Same: patchbay/patchbayref06.Same -/
abbrev r06_Same_p0 : List AG := [o 4 (.mv (.c (.bool true)))]
abbrev r06_Same_m1 : List Bool := [O,O,I,I,O,O,I,O,O,O,O,O,O,O,O,O,O,O,O,O,O,O,O,O,O,O,O,O,O,O,O,O,O,O,O,O,O,O,O,O,O,O,O,O,O,O,O,O,O,O,O,O,O,O,O,O,O,O,O,O,O,O,O,O,O,O,O,O,O,O,O,O,O,O,O,O]
abbrev r06_Same_x1 : List Bool := [O,O,O,O,O,O,O,O,O,O,O,O,O,O,O,O,O,O,O,O,O,O,O,O,O,O,O,O,O,O,O,O,O,O,O,O,O,O,O,O,O,O,O,O,O,O,O,O,O,O,O,O,O,O,O,O,O,O,O,O,O,O,O,O,O,O,O,O,O,O,O,O,O,O,O,O]
abbrev r06_Same_p2 : List AG := [o 62 (.mv (.t 6)), o 63 (.ibin .add (.t 62) (.c (.int .i64 1))), o 6 (.mv (.t 63))]
abbrev r06_Same_p3 : List AG := [o 4 (.mv (.c (.bool false)))]
abbrev r06_Same_p4 : ACode := (.seq (.reg r06_Same_p3) .ret)
abbrev r06_Same_p5 : List AG := [o 64 (.off 3 (.t 2)), o 65 (.load false 1 (.t 64)), o 66 (.mv (.t 6)), o 67 (.ixAddr 5 (.t 65) (.t 66)), o 68 (.load true 5 (.t 67)), o 69 (.off 3 (.t 3)), o 70 (.load false 1 (.t 69)), o 71 (.mv (.t 6)), o 72 (.ixAddr 5 (.t 70) (.t 71)), o 73 (.load true 5 (.t 72)), o 74 (.call (.f n_r06_SameGate) [(.t 68), (.t 73)]), o 75 (.not (.t 74))]
abbrev r06_Same_p6 : ACode := (.seq (.dreg [O,O,O,O,O,O,O,O,O,O,O,O] [11,11,11,11,11,11,11,11,11,11,13,13] r06_Same_p5) (.cond (.t 75) r06_Same_p4 .skip))
abbrev r06_Same_p7 : List AG := [o 57 (.mv (.t 6)), o 58 (.off 3 (.t 2)), o 59 (.load false 1 (.t 58)), o 60 (.len (.t 59)), o 61 (.cmp .lss (.sc .int) (.t 57) (.t 60))]
abbrev r06_Same_b1 : ACode := (.seq (.seq (.reg r06_Same_p7) (.cond (.t 61) .skip (.exit 2))) (.seq (.block 3 [] r06_Same_p6) (.reg r06_Same_p2)))
abbrev r06_Same_p8 : List AG := [o 6 (.mv (.c (.int .i64 0)))]
abbrev r06_Same_m9 : List Bool := [O,O,I,I,O,I,O,O,O,O,O,O,O,O,O,O,O,O,O,O,O,O,O,O,O,O,O,O,O,O,O,O,O,O,O,O,O,O,O,O,O,O,O,O,O,O,O,O,O,O,O,O,O,O,O,O,O,O,O,O,O,O,O,O,O,O,O,O,O,O,O,O,O,O,O,O]
abbrev r06_Same_x9 : List Bool := [O,O,I,I,O,O,O,O,O,O,O,O,O,O,O,O,O,O,O,O,O,O,O,O,O,O,O,O,O,O,O,O,O,O,O,O,O,O,O,O,O,O,O,O,O,O,O,O,O,O,O,O,O,O,O,O,O,O,O,O,O,O,O,O,O,O,O,O,O,O,O,O,O,O,O,O]
abbrev r06_Same_p10 : List AG := [o 44 (.mv (.t 5)), o 45 (.ibin .add (.t 44) (.c (.int .i64 1))), o 5 (.mv (.t 45))]
abbrev r06_Same_p11 : List AG := [o 4 (.mv (.c (.bool false)))]
abbrev r06_Same_p12 : ACode := (.seq (.reg r06_Same_p11) .ret)
abbrev r06_Same_p13 : List AG := [o 46 (.off 2 (.t 2)), o 47 (.load false 1 (.t 46)), o 48 (.mv (.t 5)), o 49 (.ixAddr 3 (.t 47) (.t 48)), o 50 (.load true 3 (.t 49)), o 51 (.off 2 (.t 3)), o 52 (.load false 1 (.t 51)), o 53 (.mv (.t 5)), o 54 (.ixAddr 3 (.t 52) (.t 53)), o 55 (.load true 3 (.t 54)), o 56 (.cmp .neq (.strct [.str, .str, .int]) (.t 50) (.t 55))]
abbrev r06_Same_p14 : ACode := (.seq (.dreg [O,O,O,O,O,O,O,O,O,O,O] [12,12,12,12,12,12,12,12,12,12,12] r06_Same_p13) (.cond (.t 56) r06_Same_p12 .skip))
abbrev r06_Same_p15 : List AG := [o 39 (.mv (.t 5)), o 40 (.off 2 (.t 2)), o 41 (.load false 1 (.t 40)), o 42 (.len (.t 41)), o 43 (.cmp .lss (.sc .int) (.t 39) (.t 42))]
abbrev r06_Same_b9 : ACode := (.seq (.seq (.reg r06_Same_p15) (.cond (.t 43) .skip (.exit 0))) (.seq (.block 1 [] r06_Same_p14) (.reg r06_Same_p10)))
abbrev r06_Same_p16 : List AG := [o 5 (.mv (.c (.int .i64 0)))]
abbrev r06_Same_p17 : List AG := [o 4 (.mv (.c (.bool false)))]
abbrev r06_Same_p18 : ACode := (.seq (.reg r06_Same_p17) .ret)
abbrev r06_Same_p19 : List AG := [o 7 (.off 0 (.t 2)), o 8 (.load false 1 (.t 7)), o 9 (.off 0 (.t 3)), o 10 (.load false 1 (.t 9)), o 11 (.call (.f n_r01_Texts) [(.t 8), (.t 10)]), o 12 (.not (.t 11)), o 13 (.mv (.t 12)), on 14 13 (.off 1 (.t 2)), on 15 13 (.load false 1 (.t 14)), on 16 13 (.off 1 (.t 3)), on 17 13 (.load false 1 (.t 16)), on 18 13 (.call (.f n_r01_Texts) [(.t 15), (.t 17)]), on 19 13 (.not (.t 18)), o 20 (.pick (.t 13) (.c (.bool true)) (.t 19)), o 21 (.mv (.t 20)), on 22 21 (.off 2 (.t 2)), on 23 21 (.load false 1 (.t 22)), on 24 21 (.len (.t 23)), on 25 21 (.off 2 (.t 3)), on 26 21 (.load false 1 (.t 25)), on 27 21 (.len (.t 26)), on 28 21 (.cmp .neq (.sc .int) (.t 24) (.t 27)), o 29 (.pick (.t 21) (.c (.bool true)) (.t 28)), o 30 (.mv (.t 29)), on 31 30 (.off 3 (.t 2)), on 32 30 (.load false 1 (.t 31)), on 33 30 (.len (.t 32)), on 34 30 (.off 3 (.t 3)), on 35 30 (.load false 1 (.t 34)), on 36 30 (.len (.t 35)), on 37 30 (.cmp .neq (.sc .int) (.t 33) (.t 36)), o 38 (.pick (.t 30) (.c (.bool true)) (.t 37))]
abbrev r06_Same_p20 : List AG := [o 2 (.box 4 (.t 0)), o 3 (.box 4 (.t 1)), o 4 (.mv (.c (.bool false)))]
abbrev r06_Same : AFun := ⟨(.seq (.reg r06_Same_p20) (.seq (.seq (.reg r06_Same_p19) (.cond (.t 38) r06_Same_p18 .skip)) (.seq (.seq (.reg r06_Same_p16) (.block 0 r06_Same_x9 (.loop r06_Same_m9 r06_Same_b9))) (.seq (.seq (.reg r06_Same_p8) (.block 2 r06_Same_x1 (.loop r06_Same_m1 r06_Same_b1))) (.seq (.reg r06_Same_p0) .ret))))), 76, [.tmp 4]⟩
abbrev r06_Same_k1 : List It := [.code (.seq (.reg r06_Same_p0) .ret)]
abbrev r06_Same_L1 (x2 x3 x6 : AV) (h : List Ob) (e : Cx := cx) : Cfg := atC n_r06_Same (.code r06_Same_b1 :: .inLoop r06_Same_m1 r06_Same_b1 :: .inBlock 2 r06_Same_x1 :: r06_Same_k1) [U,U,x2,x3,U,U,x6,U,U,U,U,U,U,U,U,U,U,U,U,U,U,U,U,U,U,U,U,U,U,U,U,U,U,U,U,U,U,U,U,U,U,U,U,U,U,U,U,U,U,U,U,U,U,U,U,U,U,U,U,U,U,U,U,U,U,U,U,U,U,U,U,U,U,U,U,U] h e
abbrev r06_Same_E1 (h : List Ob) (e : Cx := cx) : Cfg := atC n_r06_Same r06_Same_k1 [U,U,U,U,U,U,U,U,U,U,U,U,U,U,U,U,U,U,U,U,U,U,U,U,U,U,U,U,U,U,U,U,U,U,U,U,U,U,U,U,U,U,U,U,U,U,U,U,U,U,U,U,U,U,U,U,U,U,U,U,U,U,U,U,U,U,U,U,U,U,U,U,U,U,U,U] h e
abbrev r06_Same_k9 : List It := [.code (.seq (.seq (.reg r06_Same_p8) (.block 2 r06_Same_x1 (.loop r06_Same_m1 r06_Same_b1))) (.seq (.reg r06_Same_p0) .ret))]
abbrev r06_Same_L9 (x2 x3 x5 : AV) (h : List Ob) (e : Cx := cx) : Cfg := atC n_r06_Same (.code r06_Same_b9 :: .inLoop r06_Same_m9 r06_Same_b9 :: .inBlock 0 r06_Same_x9 :: r06_Same_k9) [U,U,x2,x3,U,x5,U,U,U,U,U,U,U,U,U,U,U,U,U,U,U,U,U,U,U,U,U,U,U,U,U,U,U,U,U,U,U,U,U,U,U,U,U,U,U,U,U,U,U,U,U,U,U,U,U,U,U,U,U,U,U,U,U,U,U,U,U,U,U,U,U,U,U,U,U,U] h e
abbrev r06_Same_E9 (x2 x3 : AV) (h : List Ob) (e : Cx := cx) : Cfg := atC n_r06_Same r06_Same_k9 [U,U,x2,x3,U,U,U,U,U,U,U,U,U,U,U,U,U,U,U,U,U,U,U,U,U,U,U,U,U,U,U,U,U,U,U,U,U,U,U,U,U,U,U,U,U,U,U,U,U,U,U,U,U,U,U,U,U,U,U,U,U,U,U,U,U,U,U,U,U,U,U,U,U,U,U,U] h e
@[simp] theorem c_r06_Same : cfun Tryd.prog n_r06_Same = some r06_Same := by kernel_rfl
@[simp] theorem e_r06_Same : hasBody Tryd.prog n_r06_Same = true := by kernel_rfl

/- net_Place: patchbay/net.Place -/
abbrev net_Place_p0 : List AG := [o 5 (.load true 4 (.t 2)), o 6 (.call (.f n_net_Nets) [(.t 5)]), o 7 (.mv (.t 1)), o 8 (.call (.f n_slices_Index_string_string) [(.t 6), (.t 7)]), o 4 (.mv (.t 8))]
abbrev net_Place_p1 : List AG := [o 2 (.box 4 (.t 0)), o 4 (.mv (.c (.int .i64 0)))]
abbrev net_Place : AFun := ⟨(.seq (.reg net_Place_p1) (.seq (.reg net_Place_p0) .ret)), 9, [.tmp 4]⟩
@[simp] theorem c_net_Place : cfun Tryd.prog n_net_Place = some net_Place := by kernel_rfl
@[simp] theorem e_net_Place : hasBody Tryd.prog n_net_Place = true := by kernel_rfl

/- net_Same: patchbay/net.Same -/
abbrev net_Same_p0 : List AG := [o 5 (.off 0 (.t 2)), o 6 (.load false 1 (.t 5)), o 7 (.off 0 (.t 3)), o 8 (.load false 1 (.t 7)), o 9 (.call (.f n_slices_Equal_string_string) [(.t 6), (.t 8)]), o 10 (.mv (.t 9)), oy 11 10 (.off 1 (.t 2)), oy 12 10 (.load false 1 (.t 11)), oy 13 10 (.off 1 (.t 3)), oy 14 10 (.load false 1 (.t 13)), oy 15 10 (.call (.f n_slices_Equal_string_string) [(.t 12), (.t 14)]), o 16 (.pick (.t 10) (.t 15) (.c (.bool false))), o 17 (.mv (.t 16)), oy 18 17 (.off 2 (.t 2)), oy 19 17 (.load false 1 (.t 18)), oy 20 17 (.off 2 (.t 3)), oy 21 17 (.load false 1 (.t 20)), oy 22 17 (.call (.f n_slices_Equal_api_Latch_api_Latch) [(.t 19), (.t 21)]), o 23 (.pick (.t 17) (.t 22) (.c (.bool false))), o 24 (.mv (.t 23)), oy 25 24 (.off 3 (.t 2)), oy 26 24 (.load false 1 (.t 25)), oy 27 24 (.off 3 (.t 3)), oy 28 24 (.load false 1 (.t 27)), oy 29 24 (.call (.f n_slices_EqualFunc_api_Gate_api_Gate_api_Gate_api_Gate) [(.t 26), (.t 28), (.f n_net_same)]), o 30 (.pick (.t 24) (.t 29) (.c (.bool false))), o 4 (.mv (.t 30))]
abbrev net_Same_p1 : List AG := [o 2 (.box 4 (.t 0)), o 3 (.box 4 (.t 1)), o 4 (.mv (.c (.bool false)))]
abbrev net_Same : AFun := ⟨(.seq (.reg net_Same_p1) (.seq (.reg net_Same_p0) .ret)), 31, [.tmp 4]⟩
@[simp] theorem c_net_Same : cfun Tryd.prog n_net_Same = some net_Same := by kernel_rfl
@[simp] theorem e_net_Same : hasBody Tryd.prog n_net_Same = true := by kernel_rfl

/- w06_FewGate: patchbay/patchbaylaw06.FewGate -/
abbrev w06_FewGate_p0 : List AG := [o 11 (.mv (.t 3)), o 12 (.mv (.t 11)), oy 13 12 (.mv (.t 4)), o 14 (.pick (.t 12) (.t 13) (.c (.bool false))), o 15 (.mv (.t 14)), oy 16 15 (.off 0 (.t 1)), oy 17 15 (.load false 1 (.t 16)), oy 18 15 (.lenStr (.t 17)), oy 19 15 (.cmp .leq (.sc .int) (.t 18) (.c (.int .i64 60))), o 20 (.pick (.t 15) (.t 19) (.c (.bool false))), o 2 (.mv (.t 20))]
abbrev w06_FewGate_p1 : List AG := [o 8 (.off 3 (.t 1)), o 9 (.load false 1 (.t 8)), o 10 (.call (.f n_w05_Texts) [(.t 9), (.c (.int .i64 140))]), o 4 (.mv (.t 10))]
abbrev w06_FewGate_p2 : List AG := [o 5 (.off 2 (.t 1)), o 6 (.load false 1 (.t 5)), o 7 (.call (.f n_w05_Texts) [(.t 6), (.c (.int .i64 12))]), o 3 (.mv (.t 7))]
abbrev w06_FewGate_p3 : List AG := [o 1 (.box 5 (.t 0)), o 2 (.mv (.c (.bool false)))]
abbrev w06_FewGate : AFun := ⟨(.seq (.reg w06_FewGate_p3) (.seq (.reg w06_FewGate_p2) (.seq (.reg w06_FewGate_p1) (.seq (.reg w06_FewGate_p0) .ret)))), 21, [.tmp 2]⟩
@[simp] theorem c_w06_FewGate : cfun Tryd.prog n_w06_FewGate = some w06_FewGate := by kernel_rfl
@[simp] theorem e_w06_FewGate : hasBody Tryd.prog n_w06_FewGate = true := by kernel_rfl

/- net_Canon: patchbay/net.Canon -/
abbrev net_Canon_p0 : List AG := [o 71 (.load true 5 (.t 1)), q (.store 5 (.t 2) (.t 71))]
abbrev net_Canon_m1 : List Bool := [O,I,I,I,O,O,O,O,O,O,O,O,O,O,O,O,O,O,O,O,O,O,O,O,O,O,O,O,O,O,O,O,O,O,O,O,O,O,O,O,O,O,O,O,O,O,O,O,O,O,O,O,O,O,O,O,O,O,O,O,O,O,O,O,O,O,O,O,O,O,O,O]
abbrev net_Canon_x1 : List Bool := [O,I,I,O,O,O,O,O,O,O,O,O,O,O,O,O,O,O,O,O,O,O,O,O,O,O,O,O,O,O,O,O,O,O,O,O,O,O,O,O,O,O,O,O,O,O,O,O,O,O,O,O,O,O,O,O,O,O,O,O,O,O,O,O,O,O,O,O,O,O,O,O]
abbrev net_Canon_p2 : List AG := [o 39 (.mv (.t 3)), o 40 (.ibin .add (.t 39) (.c (.int .i64 1))), o 3 (.mv (.t 40))]
abbrev net_Canon_p3 : List AG := [o 65 (.off 0 (.t 1)), o 66 (.load false 1 (.t 65)), o 67 (.mv (.t 3)), o 68 (.off 2 (.t 1)), o 69 (.load false 1 (.t 68)), o 70 (.build [(.str []), (.int .i64 0), (.list true 0 []), (.list true 0 []), (.bool false)] [(0, 1, (.t 66)), (1, 1, (.t 67)), (2, 1, (.t 69))]), q (.store 5 (.t 2) (.t 70))]
abbrev net_Canon_p4 : ACode := (.seq (.reg net_Canon_p3) .ret)
abbrev net_Canon_p5 : List AG := [o 55 (.mv (.t 5)), o 56 (.off 4 (.t 1)), o 57 (.load false 1 (.t 56)), o 58 (.cmp .eql (.sc .bool) (.t 55) (.t 57)), o 59 (.mv (.t 58)), oy 60 59 (.mv (.t 4)), oy 61 59 (.off 3 (.t 1)), oy 62 59 (.load false 1 (.t 61)), oy 63 59 (.call (.f n_slices_Equal_string_string) [(.t 60), (.t 62)]), o 64 (.pick (.t 59) (.t 63) (.c (.bool false)))]
abbrev net_Canon_p6 : List AG := [o 48 (.mv (.t 3)), o 49 (.off 2 (.t 1)), o 50 (.load false 1 (.t 49)), o 51 (.len (.t 50)), o 52 (.call (.f n_net_rows) [(.t 48), (.t 51)]), o 47 (.mv (.t 52)), o 53 (.extract (.t 47) 0), o 54 (.extract (.t 47) 1), o 4 (.mv (.t 53)), o 5 (.mv (.t 54))]
abbrev net_Canon_p7 : List AG := [o 41 (.mv (.t 3)), o 42 (.off 2 (.t 1)), o 43 (.load false 1 (.t 42)), o 44 (.len (.t 43)), o 45 (.call (.f n_net_has) [(.t 41), (.t 44)]), o 46 (.not (.t 45))]
abbrev net_Canon_p8 : ACode := (.seq (.seq (.reg net_Canon_p7) (.cond (.t 46) (.exit 2) .skip)) (.seq (.reg net_Canon_p6) (.seq (.reg net_Canon_p5) (.cond (.t 64) net_Canon_p4 .skip))))
abbrev net_Canon_p9 : List AG := [o 37 (.mv (.t 3)), o 38 (.cmp .lss (.sc .int) (.t 37) (.c (.int .i64 10)))]
abbrev net_Canon_b1 : ACode := (.seq (.seq (.reg net_Canon_p9) (.cond (.t 38) .skip (.exit 1))) (.seq (.block 2 [] net_Canon_p8) (.reg net_Canon_p2)))
abbrev net_Canon_p10 : List AG := [o 3 (.mv (.c (.int .i64 0)))]
abbrev net_Canon_p11 : List AG := [o 36 (.load true 5 (.t 1)), q (.store 5 (.t 2) (.t 36))]
abbrev net_Canon_p12 : ACode := (.seq (.reg net_Canon_p11) .ret)
abbrev net_Canon_p13 : List AG := [o 33 (.off 1 (.t 1)), o 34 (.load false 1 (.t 33)), o 35 (.cmp .neq (.sc .int) (.t 34) (.c (.int .i64 10)))]
abbrev net_Canon_p14 : List AG := [o 27 (.off 1 (.t 1)), q (.store 1 (.t 27) (.c (.int .i64 2)))]
abbrev net_Canon_p15 : List AG := [o 32 (.off 1 (.t 1)), q (.store 1 (.t 32) (.c (.int .i64 3)))]
abbrev net_Canon_p16 : List AG := [o 31 (.cmp .eql (.sc .int) (.t 22) (.c (.int .i64 9))), o 28 (.mv (.t 31))]
abbrev net_Canon_p17 : List AG := [o 30 (.cmp .eql (.sc .int) (.t 22) (.c (.int .i64 7))), o 28 (.mv (.t 30))]
abbrev net_Canon_p18 : ACode := (.seq (.reg net_Canon_p17) (.cond (.t 28) .skip (.reg net_Canon_p16)))
abbrev net_Canon_p19 : List AG := [o 29 (.cmp .eql (.sc .int) (.t 22) (.c (.int .i64 5))), o 28 (.mv (.t 29))]
abbrev net_Canon_p20 : ACode := (.seq (.seq (.reg net_Canon_p19) (.cond (.t 28) .skip net_Canon_p18)) (.cond (.t 28) (.reg net_Canon_p15) .skip))
abbrev net_Canon_p21 : List AG := [o 26 (.cmp .eql (.sc .int) (.t 22) (.c (.int .i64 8))), o 23 (.mv (.t 26))]
abbrev net_Canon_p22 : List AG := [o 25 (.cmp .eql (.sc .int) (.t 22) (.c (.int .i64 6))), o 23 (.mv (.t 25))]
abbrev net_Canon_p23 : ACode := (.seq (.reg net_Canon_p22) (.cond (.t 23) .skip (.reg net_Canon_p21)))
abbrev net_Canon_p24 : List AG := [o 24 (.cmp .eql (.sc .int) (.t 22) (.c (.int .i64 4))), o 23 (.mv (.t 24))]
abbrev net_Canon_p25 : ACode := (.seq (.seq (.reg net_Canon_p24) (.cond (.t 23) .skip net_Canon_p23)) (.cond (.t 23) (.reg net_Canon_p14) net_Canon_p20))
abbrev net_Canon_p26 : List AG := [o 21 (.off 1 (.t 1)), o 22 (.load false 1 (.t 21))]
abbrev net_Canon_p27 : ACode := (.seq (.reg net_Canon_p26) (.block 0 [] net_Canon_p25))
abbrev net_Canon_p28 : List AG := [o 6 (.off 2 (.t 1)), o 7 (.load false 1 (.t 6)), o 8 (.len (.t 7)), o 9 (.cmp .eql (.sc .int) (.t 8) (.c (.int .i64 1))), o 10 (.mv (.t 9)), oy 11 10 (.off 3 (.t 1)), oy 12 10 (.load false 1 (.t 11)), oy 13 10 (.len (.t 12)), oy 14 10 (.cmp .eql (.sc .int) (.t 13) (.c (.int .i64 0))), o 15 (.pick (.t 10) (.t 14) (.c (.bool false))), o 16 (.mv (.t 15)), oy 17 16 (.off 4 (.t 1)), oy 18 16 (.load false 1 (.t 17)), oy 19 16 (.not (.t 18)), o 20 (.pick (.t 16) (.t 19) (.c (.bool false)))]
abbrev net_Canon_p29 : List AG := [o 1 (.box 5 (.t 0)), o 2 (.alloc [(.str []), (.int .i64 0), (.own 1 t_string []), (.own 1 t_string []), (.bool false)])]
abbrev net_Canon : AFun := ⟨(.seq (.reg net_Canon_p29) (.seq (.seq (.reg net_Canon_p28) (.cond (.t 20) net_Canon_p27 .skip)) (.seq (.seq (.reg net_Canon_p13) (.cond (.t 35) net_Canon_p12 .skip)) (.seq (.seq (.reg net_Canon_p10) (.block 1 net_Canon_x1 (.loop net_Canon_m1 net_Canon_b1))) (.seq (.reg net_Canon_p0) .ret))))), 72, [.cell 2 true 5]⟩
abbrev net_Canon_k1 : List It := [.code (.seq (.reg net_Canon_p0) .ret)]
abbrev net_Canon_L1 (x1 x2 x3 : AV) (h : List Ob) (e : Cx := cx) : Cfg := atC n_net_Canon (.code net_Canon_b1 :: .inLoop net_Canon_m1 net_Canon_b1 :: .inBlock 1 net_Canon_x1 :: net_Canon_k1) [U,x1,x2,x3,U,U,U,U,U,U,U,U,U,U,U,U,U,U,U,U,U,U,U,U,U,U,U,U,U,U,U,U,U,U,U,U,U,U,U,U,U,U,U,U,U,U,U,U,U,U,U,U,U,U,U,U,U,U,U,U,U,U,U,U,U,U,U,U,U,U,U,U] h e
abbrev net_Canon_E1 (x1 x2 : AV) (h : List Ob) (e : Cx := cx) : Cfg := atC n_net_Canon net_Canon_k1 [U,x1,x2,U,U,U,U,U,U,U,U,U,U,U,U,U,U,U,U,U,U,U,U,U,U,U,U,U,U,U,U,U,U,U,U,U,U,U,U,U,U,U,U,U,U,U,U,U,U,U,U,U,U,U,U,U,U,U,U,U,U,U,U,U,U,U,U,U,U,U,U,U] h e
@[simp] theorem c_net_Canon : cfun Tryd.prog n_net_Canon = some net_Canon := by kernel_rfl
@[simp] theorem e_net_Canon : hasBody Tryd.prog n_net_Canon = true := by kernel_rfl

/- r06_SameGate: patchbay/patchbayref06.SameGate -/
abbrev r06_SameGate_p0 : List AG := [o 5 (.off 0 (.t 2)), o 6 (.load false 1 (.t 5)), o 7 (.off 0 (.t 3)), o 8 (.load false 1 (.t 7)), o 9 (.cmp .eql (.sc .str) (.t 6) (.t 8)), o 10 (.mv (.t 9)), oy 11 10 (.off 1 (.t 2)), oy 12 10 (.load false 1 (.t 11)), oy 13 10 (.off 1 (.t 3)), oy 14 10 (.load false 1 (.t 13)), oy 15 10 (.cmp .eql (.sc .int) (.t 12) (.t 14)), o 16 (.pick (.t 10) (.t 15) (.c (.bool false))), o 17 (.mv (.t 16)), oy 18 17 (.off 4 (.t 2)), oy 19 17 (.load false 1 (.t 18)), oy 20 17 (.off 4 (.t 3)), oy 21 17 (.load false 1 (.t 20)), oy 22 17 (.cmp .eql (.sc .bool) (.t 19) (.t 21)), o 23 (.pick (.t 17) (.t 22) (.c (.bool false))), o 24 (.mv (.t 23)), oy 25 24 (.off 2 (.t 2)), oy 26 24 (.load false 1 (.t 25)), oy 27 24 (.off 2 (.t 3)), oy 28 24 (.load false 1 (.t 27)), oy 29 24 (.call (.f n_r01_Texts) [(.t 26), (.t 28)]), o 30 (.pick (.t 24) (.t 29) (.c (.bool false))), o 31 (.mv (.t 30)), oy 32 31 (.off 3 (.t 2)), oy 33 31 (.load false 1 (.t 32)), oy 34 31 (.off 3 (.t 3)), oy 35 31 (.load false 1 (.t 34)), oy 36 31 (.call (.f n_r01_Texts) [(.t 33), (.t 35)]), o 37 (.pick (.t 31) (.t 36) (.c (.bool false))), o 4 (.mv (.t 37))]
abbrev r06_SameGate_p1 : List AG := [o 2 (.box 5 (.t 0)), o 3 (.box 5 (.t 1)), o 4 (.mv (.c (.bool false)))]
abbrev r06_SameGate : AFun := ⟨(.seq (.reg r06_SameGate_p1) (.seq (.reg r06_SameGate_p0) .ret)), 38, [.tmp 4]⟩
@[simp] theorem c_r06_SameGate : cfun Tryd.prog n_r06_SameGate = some r06_SameGate := by kernel_rfl
@[simp] theorem e_r06_SameGate : hasBody Tryd.prog n_r06_SameGate = true := by kernel_rfl

/- net_Gate: patchbay/net.Gate -/
abbrev net_Gate_p0 : List AG := [o 18 (.off 1 (.t 1)), o 19 (.load false 1 (.t 18)), o 20 (.off 2 (.t 1)), o 21 (.load false 1 (.t 20)), o 22 (.len (.t 21)), o 23 (.call (.f n_net_has) [(.t 19), (.t 22)]), o 24 (.mv (.t 23)), oy 25 24 (.off 3 (.t 1)), oy 26 24 (.load false 1 (.t 25)), oy 27 24 (.len (.t 26)), oy 28 24 (.cmp .leq (.sc .int) (.t 27) (.c (.int .i64 128))), o 29 (.pick (.t 24) (.t 28) (.c (.bool false))), o 30 (.mv (.t 29)), oy 31 30 (.off 3 (.t 1)), oy 32 30 (.load false 1 (.t 31)), oy 33 30 (.mv (.t 3)), oy 34 30 (.call (.f n_slices_ContainsFunc_string_string) [(.t 32), (.t 33)]), oy 35 30 (.not (.t 34)), o 36 (.pick (.t 30) (.t 35) (.c (.bool false))), o 2 (.mv (.t 36))]
abbrev net_Gate_p1 : List AG := [o 2 (.mv (.c (.bool false)))]
abbrev net_Gate_p2 : ACode := (.seq (.reg net_Gate_p1) .ret)
abbrev net_Gate_p3 : List AG := [o 5 (.off 1 (.t 1)), o 6 (.load false 1 (.t 5)), o 7 (.cmp .neq (.sc .int) (.t 6) (.c (.int .i64 10))), o 8 (.mv (.t 7)), oy 9 8 (.off 3 (.t 1)), oy 10 8 (.load false 1 (.t 9)), oy 11 8 (.len (.t 10)), oy 12 8 (.cmp .gtr (.sc .int) (.t 11) (.c (.int .i64 0))), oy 13 8 (.mv (.t 12)), on 14 13 (.off 4 (.t 1)), on 15 13 (.load false 1 (.t 14)), oy 16 8 (.pick (.t 13) (.c (.bool true)) (.t 15)), o 17 (.pick (.t 8) (.t 16) (.c (.bool false)))]
abbrev net_Gate_p4 : List AG := [o 4 (.mkFunc (.func n_net_Gate_1) [] [(.t 1)]), o 3 (.mv (.t 4))]
abbrev net_Gate_p5 : List AG := [o 1 (.box 5 (.t 0)), o 2 (.mv (.c (.bool false)))]
abbrev net_Gate : AFun := ⟨(.seq (.reg net_Gate_p5) (.seq (.reg net_Gate_p4) (.seq (.seq (.reg net_Gate_p3) (.cond (.t 17) net_Gate_p2 .skip)) (.seq (.reg net_Gate_p0) .ret)))), 37, [.tmp 2]⟩
@[simp] theorem c_net_Gate : cfun Tryd.prog n_net_Gate = some net_Gate := by kernel_rfl
@[simp] theorem e_net_Gate : hasBody Tryd.prog n_net_Gate = true := by kernel_rfl

/- r06_Rows: patchbay/patchbayref06.Rows -/
abbrev r06_Rows_p0 : List AG := [o 81 (.mv (.t 1)), o 82 (.call (.f n_r06_odd) [(.t 81), (.c (.int .i64 0))]), o 83 (.mv (.t 0)), o 84 (.cmp .eql (.sc .int) (.t 83) (.c (.int .i64 9))), o 4 (.mv (.t 82)), o 5 (.mv (.c (.bool false))), o 6 (.mv (.t 84))]
abbrev r06_Rows_p1 : List AG := [o 79 (.mv (.t 1)), o 80 (.call (.f n_r06_odd) [(.t 79), (.c (.int .i64 1))]), o 4 (.mv (.t 80)), o 5 (.mv (.c (.bool false))), o 6 (.mv (.c (.bool true)))]
abbrev r06_Rows_p2 : ACode := (.seq (.reg r06_Rows_p1) .ret)
abbrev r06_Rows_p3 : List AG := [o 77 (.mv (.t 0)), o 78 (.cmp .eql (.sc .int) (.t 77) (.c (.int .i64 8)))]
abbrev r06_Rows_p4 : List AG := [o 4 (.nilrow 1 t_string), o 5 (.mv (.c (.bool false))), o 6 (.mv (.c (.bool false)))]
abbrev r06_Rows_p5 : ACode := (.seq (.reg r06_Rows_p4) .ret)
abbrev r06_Rows_p6 : List AG := [o 71 (.mv (.t 1)), o 72 (.cmp .lss (.sc .int) (.t 71) (.c (.int .i64 2))), o 73 (.mv (.t 72)), on 74 73 (.mv (.t 1)), on 75 73 (.cmp .gtr (.sc .int) (.t 74) (.c (.int .i64 8))), o 76 (.pick (.t 73) (.c (.bool true)) (.t 75))]
abbrev r06_Rows_p7 : List AG := [o 10 (.mv (.t 1)), o 11 (.cmp .eql (.sc .int) (.t 10) (.c (.int .i64 0))), o 4 (.nilrow 1 t_string), o 5 (.mv (.c (.bool false))), o 6 (.mv (.t 11))]
abbrev r06_Rows_p8 : List AG := [o 14 (.lit 1 [(.str [])] [(0, (.c (.str [])))]), o 15 (.mv (.t 1)), o 16 (.cmp .eql (.sc .int) (.t 15) (.c (.int .i64 0))), o 4 (.mv (.t 14)), o 5 (.mv (.c (.bool false))), o 6 (.mv (.t 16))]
abbrev r06_Rows_p9 : List AG := [o 19 (.lit 1 [(.str [])] [(0, (.c (.str [49])))]), o 20 (.mv (.t 1)), o 21 (.cmp .eql (.sc .int) (.t 20) (.c (.int .i64 1))), o 4 (.mv (.t 19)), o 5 (.mv (.c (.bool false))), o 6 (.mv (.t 21))]
abbrev r06_Rows_p10 : List AG := [o 24 (.lit 1 [(.str [])] [(0, (.c (.str [48])))]), o 25 (.mv (.t 1)), o 26 (.cmp .eql (.sc .int) (.t 25) (.c (.int .i64 1))), o 4 (.mv (.t 24)), o 5 (.mv (.c (.bool false))), o 6 (.mv (.t 26))]
abbrev r06_Rows_p11 : List AG := [o 29 (.mv (.t 1)), o 30 (.call (.f n_r06_all) [(.c (.str [49])), (.t 29)]), o 31 (.lit 1 [(.str [])] [(0, (.t 30))]), o 32 (.mv (.t 1)), o 33 (.cmp .geq (.sc .int) (.t 32) (.c (.int .i64 2))), o 34 (.mv (.t 33)), oy 35 34 (.mv (.t 1)), oy 36 34 (.cmp .leq (.sc .int) (.t 35) (.c (.int .i64 8))), o 37 (.pick (.t 34) (.t 36) (.c (.bool false))), o 4 (.mv (.t 31)), o 5 (.mv (.c (.bool false))), o 6 (.mv (.t 37))]
abbrev r06_Rows_p12 : List AG := [o 40 (.mv (.t 1)), o 41 (.call (.f n_r06_all) [(.c (.str [49])), (.t 40)]), o 42 (.lit 1 [(.str [])] [(0, (.t 41))]), o 43 (.mv (.t 1)), o 44 (.cmp .geq (.sc .int) (.t 43) (.c (.int .i64 2))), o 45 (.mv (.t 44)), oy 46 45 (.mv (.t 1)), oy 47 45 (.cmp .leq (.sc .int) (.t 46) (.c (.int .i64 8))), o 48 (.pick (.t 45) (.t 47) (.c (.bool false))), o 4 (.mv (.t 42)), o 5 (.mv (.c (.bool true))), o 6 (.mv (.t 48))]
abbrev r06_Rows_p13 : List AG := [o 51 (.mv (.t 1)), o 52 (.call (.f n_r06_all) [(.c (.str [48])), (.t 51)]), o 53 (.lit 1 [(.str [])] [(0, (.t 52))]), o 54 (.mv (.t 1)), o 55 (.cmp .geq (.sc .int) (.t 54) (.c (.int .i64 2))), o 56 (.mv (.t 55)), oy 57 56 (.mv (.t 1)), oy 58 56 (.cmp .leq (.sc .int) (.t 57) (.c (.int .i64 8))), o 59 (.pick (.t 56) (.t 58) (.c (.bool false))), o 4 (.mv (.t 53)), o 5 (.mv (.c (.bool true))), o 6 (.mv (.t 59))]
abbrev r06_Rows_p14 : List AG := [o 62 (.mv (.t 1)), o 63 (.call (.f n_r06_all) [(.c (.str [48])), (.t 62)]), o 64 (.lit 1 [(.str [])] [(0, (.t 63))]), o 65 (.mv (.t 1)), o 66 (.cmp .geq (.sc .int) (.t 65) (.c (.int .i64 2))), o 67 (.mv (.t 66)), oy 68 67 (.mv (.t 1)), oy 69 67 (.cmp .leq (.sc .int) (.t 68) (.c (.int .i64 8))), o 70 (.pick (.t 67) (.t 69) (.c (.bool false))), o 4 (.mv (.t 64)), o 5 (.mv (.c (.bool false))), o 6 (.mv (.t 70))]
abbrev r06_Rows_p15 : ACode := (.seq (.reg r06_Rows_p14) .ret)
abbrev r06_Rows_p16 : List AG := [o 61 (.cmp .eql (.sc .int) (.t 7) (.c (.int .i64 7))), o 60 (.mv (.t 61))]
abbrev r06_Rows_p17 : ACode := (.seq (.reg r06_Rows_p13) .ret)
abbrev r06_Rows_p18 : ACode := (.seq (.reg r06_Rows_p16) (.cond (.t 60) r06_Rows_p15 .skip))
abbrev r06_Rows_p19 : List AG := [o 50 (.cmp .eql (.sc .int) (.t 7) (.c (.int .i64 6))), o 49 (.mv (.t 50))]
abbrev r06_Rows_p20 : ACode := (.seq (.reg r06_Rows_p12) .ret)
abbrev r06_Rows_p21 : ACode := (.seq (.reg r06_Rows_p19) (.cond (.t 49) r06_Rows_p17 r06_Rows_p18))
abbrev r06_Rows_p22 : List AG := [o 39 (.cmp .eql (.sc .int) (.t 7) (.c (.int .i64 5))), o 38 (.mv (.t 39))]
abbrev r06_Rows_p23 : ACode := (.seq (.reg r06_Rows_p11) .ret)
abbrev r06_Rows_p24 : ACode := (.seq (.reg r06_Rows_p22) (.cond (.t 38) r06_Rows_p20 r06_Rows_p21))
abbrev r06_Rows_p25 : List AG := [o 28 (.cmp .eql (.sc .int) (.t 7) (.c (.int .i64 4))), o 27 (.mv (.t 28))]
abbrev r06_Rows_p26 : ACode := (.seq (.reg r06_Rows_p10) .ret)
abbrev r06_Rows_p27 : ACode := (.seq (.reg r06_Rows_p25) (.cond (.t 27) r06_Rows_p23 r06_Rows_p24))
abbrev r06_Rows_p28 : List AG := [o 23 (.cmp .eql (.sc .int) (.t 7) (.c (.int .i64 3))), o 22 (.mv (.t 23))]
abbrev r06_Rows_p29 : ACode := (.seq (.reg r06_Rows_p9) .ret)
abbrev r06_Rows_p30 : ACode := (.seq (.reg r06_Rows_p28) (.cond (.t 22) r06_Rows_p26 r06_Rows_p27))
abbrev r06_Rows_p31 : List AG := [o 18 (.cmp .eql (.sc .int) (.t 7) (.c (.int .i64 2))), o 17 (.mv (.t 18))]
abbrev r06_Rows_p32 : ACode := (.seq (.reg r06_Rows_p8) .ret)
abbrev r06_Rows_p33 : ACode := (.seq (.reg r06_Rows_p31) (.cond (.t 17) r06_Rows_p29 r06_Rows_p30))
abbrev r06_Rows_p34 : List AG := [o 13 (.cmp .eql (.sc .int) (.t 7) (.c (.int .i64 1))), o 12 (.mv (.t 13))]
abbrev r06_Rows_p35 : ACode := (.seq (.reg r06_Rows_p7) .ret)
abbrev r06_Rows_p36 : ACode := (.seq (.reg r06_Rows_p34) (.cond (.t 12) r06_Rows_p32 r06_Rows_p33))
abbrev r06_Rows_p37 : List AG := [o 9 (.cmp .eql (.sc .int) (.t 7) (.c (.int .i64 0))), o 8 (.mv (.t 9))]
abbrev r06_Rows_p38 : ACode := (.seq (.reg r06_Rows_p37) (.cond (.t 8) r06_Rows_p35 r06_Rows_p36))
abbrev r06_Rows_p39 : List AG := [o 7 (.mv (.t 0))]
abbrev r06_Rows_p40 : List AG := [o 4 (.nilrow 1 t_string), o 5 (.mv (.c (.bool false))), o 6 (.mv (.c (.bool false)))]
abbrev r06_Rows : AFun := ⟨(.seq (.reg r06_Rows_p40) (.seq (.seq (.reg r06_Rows_p39) (.block 0 [] r06_Rows_p38)) (.seq (.seq (.reg r06_Rows_p6) (.cond (.t 76) r06_Rows_p5 .skip)) (.seq (.seq (.reg r06_Rows_p3) (.cond (.t 78) r06_Rows_p2 .skip)) (.seq (.reg r06_Rows_p0) .ret))))), 85, [.tmp 4, .tmp 5, .tmp 6]⟩
@[simp] theorem c_r06_Rows : cfun Tryd.prog n_r06_Rows = some r06_Rows := by kernel_rfl
@[simp] theorem e_r06_Rows : hasBody Tryd.prog n_r06_Rows = true := by kernel_rfl

/- w05_Texts: patchbay/patchbaylaw05.Texts -/
abbrev w05_Texts_p0 : List AG := [o 23 (.mv (.t 0)), o 24 (.len (.t 23)), o 25 (.mv (.t 1)), o 26 (.cmp .leq (.sc .int) (.t 24) (.t 25)), o 4 (.mv (.t 26))]
abbrev w05_Texts_m1 : List Bool := [I,I,O,O,O,I,O,O,O,O,O,O,O,O,O,O,O,O,O,O,O,O,O,O,O,O,O]
abbrev w05_Texts_x1 : List Bool := [I,I,O,O,O,O,O,O,O,O,O,O,O,O,O,O,O,O,O,O,O,O,O,O,O,O,O]
abbrev w05_Texts_p2 : List AG := [o 15 (.mv (.t 5)), o 16 (.ibin .add (.t 15) (.c (.int .i64 1))), o 5 (.mv (.t 16))]
abbrev w05_Texts_p3 : List AG := [o 4 (.mv (.c (.bool false)))]
abbrev w05_Texts_p4 : ACode := (.seq (.reg w05_Texts_p3) .ret)
abbrev w05_Texts_p5 : List AG := [o 17 (.mv (.t 0)), o 18 (.mv (.t 5)), o 19 (.ixAddr 1 (.t 17) (.t 18)), o 20 (.load false 1 (.t 19)), o 21 (.lenStr (.t 20)), o 22 (.cmp .gtr (.sc .int) (.t 21) (.c (.int .i64 60)))]
abbrev w05_Texts_p6 : ACode := (.seq (.reg w05_Texts_p5) (.cond (.t 22) w05_Texts_p4 .skip))
abbrev w05_Texts_p7 : List AG := [o 6 (.mv (.t 5)), o 7 (.mv (.t 0)), o 8 (.len (.t 7)), o 9 (.cmp .lss (.sc .int) (.t 6) (.t 8)), o 10 (.mv (.t 9)), oy 11 10 (.mv (.t 5)), oy 12 10 (.mv (.t 1)), oy 13 10 (.cmp .leq (.sc .int) (.t 11) (.t 12)), o 14 (.pick (.t 10) (.t 13) (.c (.bool false)))]
abbrev w05_Texts_b1 : ACode := (.seq (.seq (.reg w05_Texts_p7) (.cond (.t 14) .skip (.exit 0))) (.seq (.block 1 [] w05_Texts_p6) (.reg w05_Texts_p2)))
abbrev w05_Texts_p8 : List AG := [o 5 (.mv (.c (.int .i64 0)))]
abbrev w05_Texts_p9 : List AG := [o 4 (.mv (.c (.bool false)))]
abbrev w05_Texts : AFun := ⟨(.seq (.reg w05_Texts_p9) (.seq (.seq (.reg w05_Texts_p8) (.block 0 w05_Texts_x1 (.loop w05_Texts_m1 w05_Texts_b1))) (.seq (.reg w05_Texts_p0) .ret))), 27, [.tmp 4]⟩
abbrev w05_Texts_k1 : List It := [.code (.seq (.reg w05_Texts_p0) .ret)]
abbrev w05_Texts_L1 (x0 x1 x5 : AV) (h : List Ob) (e : Cx := cx) : Cfg := atC n_w05_Texts (.code w05_Texts_b1 :: .inLoop w05_Texts_m1 w05_Texts_b1 :: .inBlock 0 w05_Texts_x1 :: w05_Texts_k1) [x0,x1,U,U,U,x5,U,U,U,U,U,U,U,U,U,U,U,U,U,U,U,U,U,U,U,U,U] h e
abbrev w05_Texts_E1 (x0 x1 : AV) (h : List Ob) (e : Cx := cx) : Cfg := atC n_w05_Texts w05_Texts_k1 [x0,x1,U,U,U,U,U,U,U,U,U,U,U,U,U,U,U,U,U,U,U,U,U,U,U,U,U] h e
@[simp] theorem c_w05_Texts : cfun Tryd.prog n_w05_Texts = some w05_Texts := by kernel_rfl
@[simp] theorem e_w05_Texts : hasBody Tryd.prog n_w05_Texts = true := by kernel_rfl

/- net_Check_1: patchbay/net.Check$1 -/
abbrev net_Check_1_p0 : List AG := [o 10 (.off 0 (.t 2)), o 11 (.load false 1 (.t 10)), o 12 (.off 1 (.t 2)), o 13 (.load false 1 (.t 12)), q (.store 1 (.t 0) (.t 11)), q (.store 1 (.t 1) (.t 13))]
abbrev net_Check_1_p1 : List AG := [o 9 (.mv (.t 3))]
abbrev net_Check_1_p2 : List AG := [o 5 (.recover), o 6 (.tassert (.t 5) t_net_wrong (.agg [(.int .i64 0), (.str [])]) true), o 4 (.mv (.t 6)), o 7 (.extract (.t 4) 0), o 8 (.extract (.t 4) 1), o 2 (.alloc [(.int .i64 0), (.str [])]), q (.store 2 (.t 2) (.t 7)), o 3 (.mv (.t 8))]
abbrev net_Check_1 : AFun := ⟨(.seq (.reg net_Check_1_p2) (.seq (.reg net_Check_1_p1) (.cond (.t 9) (.dreg [O,O,O,I,O,O] [5,5,6,6,6,7] net_Check_1_p0) .skip))), 14, []⟩
@[simp] theorem c_net_Check_1 : cfun Tryd.prog n_net_Check_1 = some net_Check_1 := by kernel_rfl
@[simp] theorem e_net_Check_1 : hasBody Tryd.prog n_net_Check_1 = true := by kernel_rfl

/- net_Check_2: patchbay/net.Check$2 -/
abbrev net_Check_2_p0 : List AG := [o 3 (.off 2 (.t 1)), o 4 (.load false 1 (.t 3)), o 5 (.len (.t 4)), o 6 (.cmp .gtr (.sc .int) (.t 5) (.c (.int .i64 8))), o 7 (.mv (.t 6)), on 8 7 (.off 3 (.t 1)), on 9 7 (.load false 1 (.t 8)), on 10 7 (.len (.t 9)), on 11 7 (.cmp .gtr (.sc .int) (.t 10) (.c (.int .i64 128))), o 12 (.pick (.t 7) (.c (.bool true)) (.t 11)), o 2 (.mv (.t 12))]
abbrev net_Check_2_p1 : List AG := [o 1 (.box 5 (.t 0)), o 2 (.mv (.c (.bool false)))]
abbrev net_Check_2 : AFun := ⟨(.seq (.reg net_Check_2_p1) (.seq (.reg net_Check_2_p0) .ret)), 13, [.tmp 2]⟩
@[simp] theorem c_net_Check_2 : cfun Tryd.prog n_net_Check_2 = some net_Check_2 := by kernel_rfl
@[simp] theorem e_net_Check_2 : hasBody Tryd.prog n_net_Check_2 = true := by kernel_rfl

/- net_need: patchbay/net.need -/
abbrev net_need_p0 : List AG := [o 8 (.mv (.t 1)), o 9 (.mv (.t 2)), o 10 (.build [(.int .i64 0), (.str [])] [(0, 1, (.t 8)), (1, 1, (.t 9))]), o 11 (.mkIface t_net_wrong (.t 10)), q (.panic (.t 11))]
abbrev net_need_p1 : List AG := [o 6 (.mv (.t 0)), o 7 (.not (.t 6))]
abbrev net_need : AFun := ⟨(.seq (.reg net_need_p1) (.cond (.t 7) (.reg net_need_p0) .skip)), 12, []⟩
@[simp] theorem c_net_need : cfun Tryd.prog n_net_need = some net_need := by kernel_rfl
@[simp] theorem e_net_need : hasBody Tryd.prog n_net_need = true := by kernel_rfl

/- slices_ContainsFunc_api_Gate_api_Gate: slices.ContainsFunc[[]patchbay/api.Gate,patchbay/api.Gate] -/
abbrev slices_ContainsFunc_api_Gate_api_Gate_p0 : List AG := [o 5 (.mv (.t 0)), o 6 (.mv (.t 1)), o 7 (.call (.f n_slices_IndexFunc_api_Gate_api_Gate) [(.t 5), (.t 6)]), o 8 (.cmp .geq (.sc .int) (.t 7) (.c (.int .i64 0))), o 4 (.mv (.t 8))]
abbrev slices_ContainsFunc_api_Gate_api_Gate_p1 : List AG := [o 4 (.mv (.c (.bool false)))]
abbrev slices_ContainsFunc_api_Gate_api_Gate : AFun := ⟨(.seq (.reg slices_ContainsFunc_api_Gate_api_Gate_p1) (.seq (.reg slices_ContainsFunc_api_Gate_api_Gate_p0) .ret)), 9, [.tmp 4]⟩
@[simp] theorem c_slices_ContainsFunc_api_Gate_api_Gate : cfun Tryd.prog n_slices_ContainsFunc_api_Gate_api_Gate = some slices_ContainsFunc_api_Gate_api_Gate := by kernel_rfl
@[simp] theorem e_slices_ContainsFunc_api_Gate_api_Gate : hasBody Tryd.prog n_slices_ContainsFunc_api_Gate_api_Gate = true := by kernel_rfl

/- net_told: patchbay/net.told -/
abbrev net_told_p0 : List AG := [o 45 (.mv (.t 3)), o 2 (.mv (.t 45))]
abbrev net_told_m1 : List Bool := [O,O,O,I,O,O,O,O,O,O,O,O,O,O,O,O,O,O,O,O,O,O,O,O,O,O,O,O,O,O,I,I,I,O,O,O,O,O,O,O,O,O,O,O,O,O]
abbrev net_told_x1 : List Bool := [O,O,O,I,O,O,O,O,O,O,O,O,O,O,O,O,O,O,O,O,O,O,O,O,O,O,O,O,O,O,O,O,O,O,O,O,O,O,O,O,O,O,O,O,O,O]
abbrev net_told_p2 : List AG := [o 44 (.ibin .add (.t 32) (.c (.int .i64 1))), o 32 (.mv (.t 44))]
abbrev net_told_p3 : List AG := [o 36 (.mv (.t 3)), o 37 (.off 0 (.t 7)), o 38 (.load false 1 (.t 37)), o 39 (.lit 1 [(.str [])] [(0, (.t 38))]), o 40 (.append 1 t_string 16 (.t 36) (.t 39)), o 41 (.off 2 (.t 7)), o 42 (.load false 1 (.t 41)), o 43 (.append 1 t_string 16 (.t 40) (.t 42)), o 3 (.mv (.t 43))]
abbrev net_told_p4 : List AG := [o 34 (.ixAddr 5 (.t 30) (.t 32)), o 35 (.load true 5 (.t 34)), o 7 (.alloc [(.str []), (.int .i64 0), (.own 1 t_string []), (.own 1 t_string []), (.bool false)]), q (.store 5 (.t 7) (.t 35))]
abbrev net_told_p5 : ACode := (.seq (.reg net_told_p4) (.dreg [O,O,O,O,O,O,I,O,O] [5,4,4,5,8,8,8,10,10] net_told_p3))
abbrev net_told_p6 : List AG := [o 33 (.cmp .lss (.sc .int) (.t 32) (.t 31))]
abbrev net_told_b1 : ACode := (.seq (.reg net_told_p6) (.seq (.cond (.t 33) .skip (.exit 2)) (.seq (.block 3 [] net_told_p5) (.reg net_told_p2))))
abbrev net_told_p7 : List AG := [o 29 (.off 3 (.t 1)), o 30 (.load false 1 (.t 29)), o 31 (.len (.t 30)), o 32 (.mv (.c (.int .i64 0)))]
abbrev net_told_m8 : List Bool := [O,I,O,I,O,O,O,O,O,O,O,O,O,O,O,I,I,I,O,O,O,O,O,O,O,O,O,O,O,O,O,O,O,O,O,O,O,O,O,O,O,O,O,O,O,O]
abbrev net_told_x8 : List Bool := [O,I,O,I,O,O,O,O,O,O,O,O,O,O,O,O,O,O,O,O,O,O,O,O,O,O,O,O,O,O,O,O,O,O,O,O,O,O,O,O,O,O,O,O,O,O]
abbrev net_told_p9 : List AG := [o 28 (.ibin .add (.t 17) (.c (.int .i64 1))), o 17 (.mv (.t 28))]
abbrev net_told_p10 : List AG := [o 21 (.mv (.t 3)), o 22 (.off 0 (.t 5)), o 23 (.load false 1 (.t 22)), o 24 (.off 1 (.t 5)), o 25 (.load false 1 (.t 24)), o 26 (.lit 1 [(.str []), (.str [])] [(0, (.t 23)), (1, (.t 25))]), o 27 (.append 1 t_string 16 (.t 21) (.t 26)), o 3 (.mv (.t 27))]
abbrev net_told_p11 : List AG := [o 19 (.ixAddr 3 (.t 15) (.t 17)), o 20 (.load true 3 (.t 19)), o 5 (.alloc [(.str []), (.str []), (.int .i64 0)]), q (.store 3 (.t 5) (.t 20))]
abbrev net_told_p12 : ACode := (.seq (.reg net_told_p11) (.reg net_told_p10))
abbrev net_told_p13 : List AG := [o 18 (.cmp .lss (.sc .int) (.t 17) (.t 16))]
abbrev net_told_b8 : ACode := (.seq (.reg net_told_p13) (.seq (.cond (.t 18) .skip (.exit 0)) (.seq (.block 1 [] net_told_p12) (.reg net_told_p9))))
abbrev net_told_p14 : List AG := [o 14 (.off 2 (.t 1)), o 15 (.load false 1 (.t 14)), o 16 (.len (.t 15)), o 17 (.mv (.c (.int .i64 0)))]
abbrev net_told_p15 : List AG := [o 8 (.off 0 (.t 1)), o 9 (.load false 1 (.t 8)), o 10 (.off 1 (.t 1)), o 11 (.load false 1 (.t 10)), o 12 (.lit 1 [(.list true 0 []), (.list true 0 [])] [(0, (.t 9)), (1, (.t 11))]), o 13 (.call (.f n_slices_Concat_string_string) [(.t 12)]), o 3 (.mv (.t 13))]
abbrev net_told_p16 : List AG := [o 1 (.box 4 (.t 0)), o 2 (.nilrow 1 t_string)]
abbrev net_told : AFun := ⟨(.seq (.reg net_told_p16) (.seq (.reg net_told_p15) (.seq (.seq (.reg net_told_p14) (.block 0 net_told_x8 (.loop net_told_m8 net_told_b8))) (.seq (.seq (.reg net_told_p7) (.block 2 net_told_x1 (.loop net_told_m1 net_told_b1))) (.seq (.reg net_told_p0) .ret))))), 46, [.tmp 2]⟩
abbrev net_told_k1 : List It := [.code (.seq (.reg net_told_p0) .ret)]
abbrev net_told_L1 (x3 x30 x31 x32 : AV) (h : List Ob) (e : Cx := cx) : Cfg := atC n_net_told (.code net_told_b1 :: .inLoop net_told_m1 net_told_b1 :: .inBlock 2 net_told_x1 :: net_told_k1) [U,U,U,x3,U,U,U,U,U,U,U,U,U,U,U,U,U,U,U,U,U,U,U,U,U,U,U,U,U,U,x30,x31,x32,U,U,U,U,U,U,U,U,U,U,U,U,U] h e
abbrev net_told_E1 (x3 : AV) (h : List Ob) (e : Cx := cx) : Cfg := atC n_net_told net_told_k1 [U,U,U,x3,U,U,U,U,U,U,U,U,U,U,U,U,U,U,U,U,U,U,U,U,U,U,U,U,U,U,U,U,U,U,U,U,U,U,U,U,U,U,U,U,U,U] h e
abbrev net_told_k8 : List It := [.code (.seq (.seq (.reg net_told_p7) (.block 2 net_told_x1 (.loop net_told_m1 net_told_b1))) (.seq (.reg net_told_p0) .ret))]
abbrev net_told_L8 (x1 x3 x15 x16 x17 : AV) (h : List Ob) (e : Cx := cx) : Cfg := atC n_net_told (.code net_told_b8 :: .inLoop net_told_m8 net_told_b8 :: .inBlock 0 net_told_x8 :: net_told_k8) [U,x1,U,x3,U,U,U,U,U,U,U,U,U,U,U,x15,x16,x17,U,U,U,U,U,U,U,U,U,U,U,U,U,U,U,U,U,U,U,U,U,U,U,U,U,U,U,U] h e
abbrev net_told_E8 (x1 x3 : AV) (h : List Ob) (e : Cx := cx) : Cfg := atC n_net_told net_told_k8 [U,x1,U,x3,U,U,U,U,U,U,U,U,U,U,U,U,U,U,U,U,U,U,U,U,U,U,U,U,U,U,U,U,U,U,U,U,U,U,U,U,U,U,U,U,U,U] h e
@[simp] theorem c_net_told : cfun Tryd.prog n_net_told = some net_told := by kernel_rfl
@[simp] theorem e_net_told : hasBody Tryd.prog n_net_told = true := by kernel_rfl

/- ident_Name: patchbay/ident.Name -/
abbrev ident_Name_p0 : List AG := [o 3 (.mv (.t 0)), o 4 (.call (.f n_ident_name_plain) [(.t 3)]), o 2 (.mv (.t 4))]
abbrev ident_Name_p1 : List AG := [o 2 (.mv (.c (.bool false)))]
abbrev ident_Name : AFun := ⟨(.seq (.reg ident_Name_p1) (.seq (.reg ident_Name_p0) .ret)), 5, [.tmp 2]⟩
@[simp] theorem c_ident_Name : cfun Tryd.prog n_ident_Name = some ident_Name := by kernel_rfl
@[simp] theorem e_ident_Name : hasBody Tryd.prog n_ident_Name = true := by kernel_rfl

/- net_once: patchbay/net.once -/
abbrev net_once_p0 : List AG := [o 22 (.mv (.t 3)), o 2 (.mv (.t 22))]
abbrev net_once_m1 : List Bool := [O,O,O,I,O,O,O,I,I,I,O,O,O,O,O,O,O,O,O,O,O,O,O]
abbrev net_once_x1 : List Bool := [O,O,O,I,O,O,O,O,O,O,O,O,O,O,O,O,O,O,O,O,O,O,O]
abbrev net_once_p2 : List AG := [o 21 (.ibin .add (.t 9) (.c (.int .i64 1))), o 9 (.mv (.t 21))]
abbrev net_once_p3 : List AG := [o 19 (.mv (.t 3)), o 20 (.mv (.t 5)), q (.upd (.sc .str) (.t 19) (.t 20) (.c (.bool true)))]
abbrev net_once_p4 : List AG := [o 13 (.mv (.t 3)), o 14 (.mv (.t 5)), o 15 (.lookup (.sc .str) (.bool false) (.t 13) (.t 14) false), o 16 (.not (.t 15)), o 17 (.mv (.t 5)), o 18 (.call (.f n_net_need) [(.t 16), (.c (.int .i64 5)), (.t 17)])]
abbrev net_once_p5 : List AG := [o 11 (.ixAddr 1 (.t 7) (.t 9)), o 12 (.load false 1 (.t 11)), o 5 (.mv (.t 12))]
abbrev net_once_p6 : ACode := (.seq (.reg net_once_p5) (.seq (.reg net_once_p4) (.reg net_once_p3)))
abbrev net_once_p7 : List AG := [o 10 (.cmp .lss (.sc .int) (.t 9) (.t 8))]
abbrev net_once_b1 : ACode := (.seq (.reg net_once_p7) (.seq (.cond (.t 10) .skip (.exit 0)) (.seq (.block 1 [] net_once_p6) (.reg net_once_p2))))
abbrev net_once_p8 : List AG := [o 7 (.mv (.t 0)), o 8 (.len (.t 7)), o 9 (.mv (.c (.int .i64 0)))]
abbrev net_once_p9 : List AG := [o 6 (.mkMap), o 3 (.mv (.t 6))]
abbrev net_once_p10 : List AG := [o 2 (.mv (.c .nilm))]
abbrev net_once : AFun := ⟨(.seq (.reg net_once_p10) (.seq (.reg net_once_p9) (.seq (.seq (.reg net_once_p8) (.block 0 net_once_x1 (.loop net_once_m1 net_once_b1))) (.seq (.reg net_once_p0) .ret)))), 23, [.tmp 2]⟩
abbrev net_once_k1 : List It := [.code (.seq (.reg net_once_p0) .ret)]
abbrev net_once_L1 (x3 x7 x8 x9 : AV) (h : List Ob) (e : Cx := cx) : Cfg := atC n_net_once (.code net_once_b1 :: .inLoop net_once_m1 net_once_b1 :: .inBlock 0 net_once_x1 :: net_once_k1) [U,U,U,x3,U,U,U,x7,x8,x9,U,U,U,U,U,U,U,U,U,U,U,U,U] h e
abbrev net_once_E1 (x3 : AV) (h : List Ob) (e : Cx := cx) : Cfg := atC n_net_once net_once_k1 [U,U,U,x3,U,U,U,U,U,U,U,U,U,U,U,U,U,U,U,U,U,U,U] h e
@[simp] theorem c_net_once : cfun Tryd.prog n_net_once = some net_once := by kernel_rfl
@[simp] theorem e_net_once : hasBody Tryd.prog n_net_once = true := by kernel_rfl

/- net_used: patchbay/net.used -/
abbrev net_used_p0 : List AG := [o 36 (.mv (.t 3)), o 2 (.mv (.t 36))]
abbrev net_used_m1 : List Bool := [O,O,O,I,O,O,O,O,O,O,O,O,O,O,O,O,O,O,O,O,O,O,O,O,O,I,I,I,O,O,O,O,O,O,O,O,O]
abbrev net_used_x1 : List Bool := [O,O,O,I,O,O,O,O,O,O,O,O,O,O,O,O,O,O,O,O,O,O,O,O,O,O,O,O,O,O,O,O,O,O,O,O,O]
abbrev net_used_p2 : List AG := [o 35 (.ibin .add (.t 27) (.c (.int .i64 1))), o 27 (.mv (.t 35))]
abbrev net_used_p3 : List AG := [o 31 (.mv (.t 3)), o 32 (.off 2 (.t 7)), o 33 (.load false 1 (.t 32)), o 34 (.append 1 t_string 16 (.t 31) (.t 33)), o 3 (.mv (.t 34))]
abbrev net_used_p4 : List AG := [o 29 (.ixAddr 5 (.t 25) (.t 27)), o 30 (.load true 5 (.t 29)), o 7 (.alloc [(.str []), (.int .i64 0), (.own 1 t_string []), (.own 1 t_string []), (.bool false)]), q (.store 5 (.t 7) (.t 30))]
abbrev net_used_p5 : ACode := (.seq (.reg net_used_p4) (.reg net_used_p3))
abbrev net_used_p6 : List AG := [o 28 (.cmp .lss (.sc .int) (.t 27) (.t 26))]
abbrev net_used_b1 : ACode := (.seq (.reg net_used_p6) (.seq (.cond (.t 28) .skip (.exit 2)) (.seq (.block 3 [] net_used_p5) (.reg net_used_p2))))
abbrev net_used_p7 : List AG := [o 24 (.off 3 (.t 1)), o 25 (.load false 1 (.t 24)), o 26 (.len (.t 25)), o 27 (.mv (.c (.int .i64 0)))]
abbrev net_used_m8 : List Bool := [O,I,O,I,O,O,O,O,O,O,O,O,I,I,I,O,O,O,O,O,O,O,O,O,O,O,O,O,O,O,O,O,O,O,O,O,O]
abbrev net_used_x8 : List Bool := [O,I,O,I,O,O,O,O,O,O,O,O,O,O,O,O,O,O,O,O,O,O,O,O,O,O,O,O,O,O,O,O,O,O,O,O,O]
abbrev net_used_p9 : List AG := [o 23 (.ibin .add (.t 14) (.c (.int .i64 1))), o 14 (.mv (.t 23))]
abbrev net_used_p10 : List AG := [o 18 (.mv (.t 3)), o 19 (.off 1 (.t 5)), o 20 (.load false 1 (.t 19)), o 21 (.lit 1 [(.str [])] [(0, (.t 20))]), o 22 (.append 1 t_string 16 (.t 18) (.t 21)), o 3 (.mv (.t 22))]
abbrev net_used_p11 : List AG := [o 16 (.ixAddr 3 (.t 12) (.t 14)), o 17 (.load true 3 (.t 16)), o 5 (.alloc [(.str []), (.str []), (.int .i64 0)]), q (.store 3 (.t 5) (.t 17))]
abbrev net_used_p12 : ACode := (.seq (.reg net_used_p11) (.reg net_used_p10))
abbrev net_used_p13 : List AG := [o 15 (.cmp .lss (.sc .int) (.t 14) (.t 13))]
abbrev net_used_b8 : ACode := (.seq (.reg net_used_p13) (.seq (.cond (.t 15) .skip (.exit 0)) (.seq (.block 1 [] net_used_p12) (.reg net_used_p9))))
abbrev net_used_p14 : List AG := [o 11 (.off 2 (.t 1)), o 12 (.load false 1 (.t 11)), o 13 (.len (.t 12)), o 14 (.mv (.c (.int .i64 0)))]
abbrev net_used_p15 : List AG := [o 8 (.off 1 (.t 1)), o 9 (.load false 1 (.t 8)), o 10 (.call (.f n_slices_Clone_string_string) [(.t 9)]), o 3 (.mv (.t 10))]
abbrev net_used_p16 : List AG := [o 1 (.box 4 (.t 0)), o 2 (.nilrow 1 t_string)]
abbrev net_used : AFun := ⟨(.seq (.reg net_used_p16) (.seq (.reg net_used_p15) (.seq (.seq (.reg net_used_p14) (.block 0 net_used_x8 (.loop net_used_m8 net_used_b8))) (.seq (.seq (.reg net_used_p7) (.block 2 net_used_x1 (.loop net_used_m1 net_used_b1))) (.seq (.reg net_used_p0) .ret))))), 37, [.tmp 2]⟩
abbrev net_used_k1 : List It := [.code (.seq (.reg net_used_p0) .ret)]
abbrev net_used_L1 (x3 x25 x26 x27 : AV) (h : List Ob) (e : Cx := cx) : Cfg := atC n_net_used (.code net_used_b1 :: .inLoop net_used_m1 net_used_b1 :: .inBlock 2 net_used_x1 :: net_used_k1) [U,U,U,x3,U,U,U,U,U,U,U,U,U,U,U,U,U,U,U,U,U,U,U,U,U,x25,x26,x27,U,U,U,U,U,U,U,U,U] h e
abbrev net_used_E1 (x3 : AV) (h : List Ob) (e : Cx := cx) : Cfg := atC n_net_used net_used_k1 [U,U,U,x3,U,U,U,U,U,U,U,U,U,U,U,U,U,U,U,U,U,U,U,U,U,U,U,U,U,U,U,U,U,U,U,U,U] h e
abbrev net_used_k8 : List It := [.code (.seq (.seq (.reg net_used_p7) (.block 2 net_used_x1 (.loop net_used_m1 net_used_b1))) (.seq (.reg net_used_p0) .ret))]
abbrev net_used_L8 (x1 x3 x12 x13 x14 : AV) (h : List Ob) (e : Cx := cx) : Cfg := atC n_net_used (.code net_used_b8 :: .inLoop net_used_m8 net_used_b8 :: .inBlock 0 net_used_x8 :: net_used_k8) [U,x1,U,x3,U,U,U,U,U,U,U,U,x12,x13,x14,U,U,U,U,U,U,U,U,U,U,U,U,U,U,U,U,U,U,U,U,U,U] h e
abbrev net_used_E8 (x1 x3 : AV) (h : List Ob) (e : Cx := cx) : Cfg := atC n_net_used net_used_k8 [U,x1,U,x3,U,U,U,U,U,U,U,U,U,U,U,U,U,U,U,U,U,U,U,U,U,U,U,U,U,U,U,U,U,U,U,U,U] h e
@[simp] theorem c_net_used : cfun Tryd.prog n_net_used = some net_used := by kernel_rfl
@[simp] theorem e_net_used : hasBody Tryd.prog n_net_used = true := by kernel_rfl

/- r06_limit: patchbay/patchbayref06.limit -/
abbrev r06_limit_p0 : List AG := [o 29 (.off 0 (.t 1)), o 30 (.load false 1 (.t 29)), o 31 (.len (.t 30)), o 32 (.off 2 (.t 1)), o 33 (.load false 1 (.t 32)), o 34 (.len (.t 33)), o 35 (.ibin .add (.t 31) (.t 34)), o 36 (.off 3 (.t 1)), o 37 (.load false 1 (.t 36)), o 38 (.len (.t 37)), o 39 (.ibin .add (.t 35) (.t 38)), o 40 (.cmp .gtr (.sc .int) (.t 39) (.c (.int .i64 200))), o 41 (.mv (.t 40)), on 42 41 (.off 1 (.t 1)), on 43 41 (.load false 1 (.t 42)), on 44 41 (.len (.t 43)), on 45 41 (.cmp .gtr (.sc .int) (.t 44) (.c (.int .i64 200))), o 46 (.pick (.t 41) (.c (.bool true)) (.t 45)), o 2 (.mv (.t 46))]
abbrev r06_limit_m1 : List Bool := [O,I,O,I,O,O,O,O,O,O,O,O,O,O,O,O,O,O,O,O,O,O,O,O,O,O,O,O,O,O,O,O,O,O,O,O,O,O,O,O,O,O,O,O,O,O,O]
abbrev r06_limit_x1 : List Bool := [O,I,O,O,O,O,O,O,O,O,O,O,O,O,O,O,O,O,O,O,O,O,O,O,O,O,O,O,O,O,O,O,O,O,O,O,O,O,O,O,O,O,O,O,O,O,O]
abbrev r06_limit_p2 : List AG := [o 9 (.mv (.t 3)), o 10 (.ibin .add (.t 9) (.c (.int .i64 1))), o 3 (.mv (.t 10))]
abbrev r06_limit_p3 : List AG := [o 2 (.mv (.c (.bool true)))]
abbrev r06_limit_p4 : ACode := (.seq (.reg r06_limit_p3) .ret)
abbrev r06_limit_p5 : List AG := [o 11 (.off 3 (.t 1)), o 12 (.load false 1 (.t 11)), o 13 (.mv (.t 3)), o 14 (.ixAddr 5 (.t 12) (.t 13)), o 15 (.off 2 (.t 14)), o 16 (.load false 1 (.t 15)), o 17 (.len (.t 16)), o 18 (.cmp .gtr (.sc .int) (.t 17) (.c (.int .i64 8))), o 19 (.mv (.t 18)), on 20 19 (.off 3 (.t 1)), on 21 19 (.load false 1 (.t 20)), on 22 19 (.mv (.t 3)), on 23 19 (.ixAddr 5 (.t 21) (.t 22)), on 24 19 (.off 3 (.t 23)), on 25 19 (.load false 1 (.t 24)), on 26 19 (.len (.t 25)), on 27 19 (.cmp .gtr (.sc .int) (.t 26) (.c (.int .i64 128))), o 28 (.pick (.t 19) (.c (.bool true)) (.t 27))]
abbrev r06_limit_p6 : ACode := (.seq (.reg r06_limit_p5) (.cond (.t 28) r06_limit_p4 .skip))
abbrev r06_limit_p7 : List AG := [o 4 (.mv (.t 3)), o 5 (.off 3 (.t 1)), o 6 (.load false 1 (.t 5)), o 7 (.len (.t 6)), o 8 (.cmp .lss (.sc .int) (.t 4) (.t 7))]
abbrev r06_limit_b1 : ACode := (.seq (.seq (.reg r06_limit_p7) (.cond (.t 8) .skip (.exit 0))) (.seq (.block 1 [] r06_limit_p6) (.reg r06_limit_p2)))
abbrev r06_limit_p8 : List AG := [o 3 (.mv (.c (.int .i64 0)))]
abbrev r06_limit_p9 : List AG := [o 1 (.box 4 (.t 0)), o 2 (.mv (.c (.bool false)))]
abbrev r06_limit : AFun := ⟨(.seq (.reg r06_limit_p9) (.seq (.seq (.reg r06_limit_p8) (.block 0 r06_limit_x1 (.loop r06_limit_m1 r06_limit_b1))) (.seq (.reg r06_limit_p0) .ret))), 47, [.tmp 2]⟩
abbrev r06_limit_k1 : List It := [.code (.seq (.reg r06_limit_p0) .ret)]
abbrev r06_limit_L1 (x1 x3 : AV) (h : List Ob) (e : Cx := cx) : Cfg := atC n_r06_limit (.code r06_limit_b1 :: .inLoop r06_limit_m1 r06_limit_b1 :: .inBlock 0 r06_limit_x1 :: r06_limit_k1) [U,x1,U,x3,U,U,U,U,U,U,U,U,U,U,U,U,U,U,U,U,U,U,U,U,U,U,U,U,U,U,U,U,U,U,U,U,U,U,U,U,U,U,U,U,U,U,U] h e
abbrev r06_limit_E1 (x1 : AV) (h : List Ob) (e : Cx := cx) : Cfg := atC n_r06_limit r06_limit_k1 [U,x1,U,U,U,U,U,U,U,U,U,U,U,U,U,U,U,U,U,U,U,U,U,U,U,U,U,U,U,U,U,U,U,U,U,U,U,U,U,U,U,U,U,U,U,U,U] h e
@[simp] theorem c_r06_limit : cfun Tryd.prog n_r06_limit = some r06_limit := by kernel_rfl
@[simp] theorem e_r06_limit : hasBody Tryd.prog n_r06_limit = true := by kernel_rfl

/- r06_Told: patchbay/patchbayref06.Told -/
abbrev r06_Told_p0 : List AG := [o 60 (.mv (.t 3)), o 2 (.mv (.t 60))]
abbrev r06_Told_m1 : List Bool := [O,I,O,I,O,I,O,O,O,O,O,O,O,O,O,O,O,O,O,O,O,O,O,O,O,O,O,O,O,O,O,O,O,O,O,O,O,O,O,O,O,O,O,O,O,O,O,O,O,O,O,O,O,O,O,O,O,O,O,O,O]
abbrev r06_Told_x1 : List Bool := [O,O,O,I,O,O,O,O,O,O,O,O,O,O,O,O,O,O,O,O,O,O,O,O,O,O,O,O,O,O,O,O,O,O,O,O,O,O,O,O,O,O,O,O,O,O,O,O,O,O,O,O,O,O,O,O,O,O,O,O,O]
abbrev r06_Told_p2 : List AG := [o 41 (.mv (.t 5)), o 42 (.ibin .add (.t 41) (.c (.int .i64 1))), o 5 (.mv (.t 42))]
abbrev r06_Told_p3 : List AG := [o 52 (.mv (.t 3)), o 53 (.off 3 (.t 1)), o 54 (.load false 1 (.t 53)), o 55 (.mv (.t 5)), o 56 (.ixAddr 5 (.t 54) (.t 55)), o 57 (.off 2 (.t 56)), o 58 (.load false 1 (.t 57)), o 59 (.append 1 t_string 16 (.t 52) (.t 58)), o 3 (.mv (.t 59))]
abbrev r06_Told_p4 : List AG := [o 43 (.mv (.t 3)), o 44 (.off 3 (.t 1)), o 45 (.load false 1 (.t 44)), o 46 (.mv (.t 5)), o 47 (.ixAddr 5 (.t 45) (.t 46)), o 48 (.off 0 (.t 47)), o 49 (.load false 1 (.t 48)), o 50 (.lit 1 [(.str [])] [(0, (.t 49))]), o 51 (.append 1 t_string 16 (.t 43) (.t 50)), o 3 (.mv (.t 51))]
abbrev r06_Told_p5 : ACode := (.seq (.reg r06_Told_p4) (.reg r06_Told_p3))
abbrev r06_Told_p6 : List AG := [o 36 (.mv (.t 5)), o 37 (.off 3 (.t 1)), o 38 (.load false 1 (.t 37)), o 39 (.len (.t 38)), o 40 (.cmp .lss (.sc .int) (.t 36) (.t 39))]
abbrev r06_Told_b1 : ACode := (.seq (.seq (.reg r06_Told_p6) (.cond (.t 40) .skip (.exit 2))) (.seq (.block 3 [] r06_Told_p5) (.reg r06_Told_p2)))
abbrev r06_Told_p7 : List AG := [o 5 (.mv (.c (.int .i64 0)))]
abbrev r06_Told_m8 : List Bool := [O,I,O,I,I,O,O,O,O,O,O,O,O,O,O,O,O,O,O,O,O,O,O,O,O,O,O,O,O,O,O,O,O,O,O,O,O,O,O,O,O,O,O,O,O,O,O,O,O,O,O,O,O,O,O,O,O,O,O,O,O]
abbrev r06_Told_x8 : List Bool := [O,I,O,I,O,O,O,O,O,O,O,O,O,O,O,O,O,O,O,O,O,O,O,O,O,O,O,O,O,O,O,O,O,O,O,O,O,O,O,O,O,O,O,O,O,O,O,O,O,O,O,O,O,O,O,O,O,O,O,O,O]
abbrev r06_Told_p9 : List AG := [o 19 (.mv (.t 4)), o 20 (.ibin .add (.t 19) (.c (.int .i64 1))), o 4 (.mv (.t 20))]
abbrev r06_Told_p10 : List AG := [o 21 (.mv (.t 3)), o 22 (.off 2 (.t 1)), o 23 (.load false 1 (.t 22)), o 24 (.mv (.t 4)), o 25 (.ixAddr 3 (.t 23) (.t 24)), o 26 (.off 0 (.t 25)), o 27 (.load false 1 (.t 26)), o 28 (.off 2 (.t 1)), o 29 (.load false 1 (.t 28)), o 30 (.mv (.t 4)), o 31 (.ixAddr 3 (.t 29) (.t 30)), o 32 (.off 1 (.t 31)), o 33 (.load false 1 (.t 32)), o 34 (.lit 1 [(.str []), (.str [])] [(0, (.t 27)), (1, (.t 33))]), o 35 (.append 1 t_string 16 (.t 21) (.t 34)), o 3 (.mv (.t 35))]
abbrev r06_Told_p11 : List AG := [o 14 (.mv (.t 4)), o 15 (.off 2 (.t 1)), o 16 (.load false 1 (.t 15)), o 17 (.len (.t 16)), o 18 (.cmp .lss (.sc .int) (.t 14) (.t 17))]
abbrev r06_Told_b8 : ACode := (.seq (.seq (.reg r06_Told_p11) (.cond (.t 18) .skip (.exit 0))) (.seq (.block 1 [] (.dreg [O,O,O,O,O,O,O,O,O,O,O,O,O,O,O,O] [15,14,14,14,14,14,14,14,14,14,14,14,14,15,17,17] r06_Told_p10)) (.reg r06_Told_p9)))
abbrev r06_Told_p12 : List AG := [o 4 (.mv (.c (.int .i64 0)))]
abbrev r06_Told_p13 : List AG := [o 10 (.mv (.t 3)), o 11 (.off 1 (.t 1)), o 12 (.load false 1 (.t 11)), o 13 (.append 1 t_string 16 (.t 10) (.t 12)), o 3 (.mv (.t 13))]
abbrev r06_Told_p14 : List AG := [o 6 (.mv (.t 3)), o 7 (.off 0 (.t 1)), o 8 (.load false 1 (.t 7)), o 9 (.append 1 t_string 16 (.t 6) (.t 8)), o 3 (.mv (.t 9))]
abbrev r06_Told_p15 : List AG := [o 3 (.nilrow 1 t_string)]
abbrev r06_Told_p16 : List AG := [o 1 (.box 4 (.t 0)), o 2 (.nilrow 1 t_string)]
abbrev r06_Told : AFun := ⟨(.seq (.reg r06_Told_p16) (.seq (.reg r06_Told_p15) (.seq (.reg r06_Told_p14) (.seq (.reg r06_Told_p13) (.seq (.seq (.reg r06_Told_p12) (.block 0 r06_Told_x8 (.loop r06_Told_m8 r06_Told_b8))) (.seq (.seq (.reg r06_Told_p7) (.block 2 r06_Told_x1 (.loop r06_Told_m1 r06_Told_b1))) (.seq (.reg r06_Told_p0) .ret))))))), 61, [.tmp 2]⟩
abbrev r06_Told_k1 : List It := [.code (.seq (.reg r06_Told_p0) .ret)]
abbrev r06_Told_L1 (x1 x3 x5 : AV) (h : List Ob) (e : Cx := cx) : Cfg := atC n_r06_Told (.code r06_Told_b1 :: .inLoop r06_Told_m1 r06_Told_b1 :: .inBlock 2 r06_Told_x1 :: r06_Told_k1) [U,x1,U,x3,U,x5,U,U,U,U,U,U,U,U,U,U,U,U,U,U,U,U,U,U,U,U,U,U,U,U,U,U,U,U,U,U,U,U,U,U,U,U,U,U,U,U,U,U,U,U,U,U,U,U,U,U,U,U,U,U,U] h e
abbrev r06_Told_E1 (x3 : AV) (h : List Ob) (e : Cx := cx) : Cfg := atC n_r06_Told r06_Told_k1 [U,U,U,x3,U,U,U,U,U,U,U,U,U,U,U,U,U,U,U,U,U,U,U,U,U,U,U,U,U,U,U,U,U,U,U,U,U,U,U,U,U,U,U,U,U,U,U,U,U,U,U,U,U,U,U,U,U,U,U,U,U] h e
abbrev r06_Told_k8 : List It := [.code (.seq (.seq (.reg r06_Told_p7) (.block 2 r06_Told_x1 (.loop r06_Told_m1 r06_Told_b1))) (.seq (.reg r06_Told_p0) .ret))]
abbrev r06_Told_L8 (x1 x3 x4 : AV) (h : List Ob) (e : Cx := cx) : Cfg := atC n_r06_Told (.code r06_Told_b8 :: .inLoop r06_Told_m8 r06_Told_b8 :: .inBlock 0 r06_Told_x8 :: r06_Told_k8) [U,x1,U,x3,x4,U,U,U,U,U,U,U,U,U,U,U,U,U,U,U,U,U,U,U,U,U,U,U,U,U,U,U,U,U,U,U,U,U,U,U,U,U,U,U,U,U,U,U,U,U,U,U,U,U,U,U,U,U,U,U,U] h e
abbrev r06_Told_E8 (x1 x3 : AV) (h : List Ob) (e : Cx := cx) : Cfg := atC n_r06_Told r06_Told_k8 [U,x1,U,x3,U,U,U,U,U,U,U,U,U,U,U,U,U,U,U,U,U,U,U,U,U,U,U,U,U,U,U,U,U,U,U,U,U,U,U,U,U,U,U,U,U,U,U,U,U,U,U,U,U,U,U,U,U,U,U,U,U] h e
@[simp] theorem c_r06_Told : cfun Tryd.prog n_r06_Told = some r06_Told := by kernel_rfl
@[simp] theorem e_r06_Told : hasBody Tryd.prog n_r06_Told = true := by kernel_rfl

/- r04_Name: patchbay/patchbayref04.Name -/
abbrev r04_Name_p0 : List AG := [o 20 (.mv (.t 0)), o 21 (.lenStr (.t 20)), o 22 (.cmp .geq (.sc .int) (.t 21) (.c (.int .i64 1))), o 23 (.mv (.t 22)), oy 24 23 (.mv (.t 0)), oy 25 23 (.lenStr (.t 24)), oy 26 23 (.cmp .leq (.sc .int) (.t 25) (.c (.int .i64 40))), o 27 (.pick (.t 23) (.t 26) (.c (.bool false))), o 2 (.mv (.t 27))]
abbrev r04_Name_m1 : List Bool := [I,O,O,I,O,O,O,O,O,O,O,O,O,O,O,O,O,O,O,O,O,O,O,O,O,O,O,O]
abbrev r04_Name_x1 : List Bool := [I,O,O,O,O,O,O,O,O,O,O,O,O,O,O,O,O,O,O,O,O,O,O,O,O,O,O,O]
abbrev r04_Name_p2 : List AG := [o 8 (.mv (.t 3)), o 9 (.ibin .add (.t 8) (.c (.int .i64 1))), o 3 (.mv (.t 9))]
abbrev r04_Name_p3 : List AG := [o 2 (.mv (.c (.bool false)))]
abbrev r04_Name_p4 : ACode := (.seq (.reg r04_Name_p3) .ret)
abbrev r04_Name_p5 : List AG := [o 10 (.mv (.t 0)), o 11 (.mv (.t 3)), o 12 (.ixStr (.t 10) (.t 11)), o 13 (.cmp .lss (.sc .int) (.t 12) (.c (.int .u8 33))), o 14 (.mv (.t 13)), on 15 14 (.mv (.t 0)), on 16 14 (.mv (.t 3)), on 17 14 (.ixStr (.t 15) (.t 16)), on 18 14 (.cmp .gtr (.sc .int) (.t 17) (.c (.int .u8 126))), o 19 (.pick (.t 14) (.c (.bool true)) (.t 18))]
abbrev r04_Name_p6 : ACode := (.seq (.reg r04_Name_p5) (.cond (.t 19) r04_Name_p4 .skip))
abbrev r04_Name_p7 : List AG := [o 4 (.mv (.t 3)), o 5 (.mv (.t 0)), o 6 (.lenStr (.t 5)), o 7 (.cmp .lss (.sc .int) (.t 4) (.t 6))]
abbrev r04_Name_b1 : ACode := (.seq (.seq (.reg r04_Name_p7) (.cond (.t 7) .skip (.exit 0))) (.seq (.block 1 [] r04_Name_p6) (.reg r04_Name_p2)))
abbrev r04_Name_p8 : List AG := [o 3 (.mv (.c (.int .i64 0)))]
abbrev r04_Name_p9 : List AG := [o 2 (.mv (.c (.bool false)))]
abbrev r04_Name : AFun := ⟨(.seq (.reg r04_Name_p9) (.seq (.seq (.reg r04_Name_p8) (.block 0 r04_Name_x1 (.loop r04_Name_m1 r04_Name_b1))) (.seq (.reg r04_Name_p0) .ret))), 28, [.tmp 2]⟩
abbrev r04_Name_k1 : List It := [.code (.seq (.reg r04_Name_p0) .ret)]
abbrev r04_Name_L1 (x0 x3 : AV) (h : List Ob) (e : Cx := cx) : Cfg := atC n_r04_Name (.code r04_Name_b1 :: .inLoop r04_Name_m1 r04_Name_b1 :: .inBlock 0 r04_Name_x1 :: r04_Name_k1) [x0,U,U,x3,U,U,U,U,U,U,U,U,U,U,U,U,U,U,U,U,U,U,U,U,U,U,U,U] h e
abbrev r04_Name_E1 (x0 : AV) (h : List Ob) (e : Cx := cx) : Cfg := atC n_r04_Name r04_Name_k1 [x0,U,U,U,U,U,U,U,U,U,U,U,U,U,U,U,U,U,U,U,U,U,U,U,U,U,U,U] h e
@[simp] theorem c_r04_Name : cfun Tryd.prog n_r04_Name = some r04_Name := by kernel_rfl
@[simp] theorem e_r04_Name : hasBody Tryd.prog n_r04_Name = true := by kernel_rfl

/- r06_twice: patchbay/patchbayref06.twice -/
abbrev r06_twice_p0 : List AG := [o 2 (.mv (.c (.str []))), o 3 (.mv (.c (.bool false)))]
abbrev r06_twice_m1 : List Bool := [I,O,O,O,I,O,O,O,O,O,O,O,O,O,O,O,O,O,O,O,O,O,O]
abbrev r06_twice_x1 : List Bool := [O,O,O,O,O,O,O,O,O,O,O,O,O,O,O,O,O,O,O,O,O,O,O]
abbrev r06_twice_p2 : List AG := [o 9 (.mv (.t 4)), o 10 (.ibin .add (.t 9) (.c (.int .i64 1))), o 4 (.mv (.t 10))]
abbrev r06_twice_p3 : List AG := [o 19 (.mv (.t 0)), o 20 (.mv (.t 4)), o 21 (.ixAddr 1 (.t 19) (.t 20)), o 22 (.load false 1 (.t 21)), o 2 (.mv (.t 22)), o 3 (.mv (.c (.bool true)))]
abbrev r06_twice_p4 : ACode := (.seq (.reg r06_twice_p3) .ret)
abbrev r06_twice_p5 : List AG := [o 11 (.mv (.t 0)), o 12 (.mv (.t 4)), o 13 (.slice 1 (.t 11) none (some (.t 12))), o 14 (.mv (.t 0)), o 15 (.mv (.t 4)), o 16 (.ixAddr 1 (.t 14) (.t 15)), o 17 (.load false 1 (.t 16)), o 18 (.call (.f n_r01_Has) [(.t 13), (.t 17)])]
abbrev r06_twice_p6 : ACode := (.seq (.dreg [O,O,O,O,O,O,O,O] [8,8,8,8,8,8,8,9] r06_twice_p5) (.cond (.t 18) r06_twice_p4 .skip))
abbrev r06_twice_p7 : List AG := [o 5 (.mv (.t 4)), o 6 (.mv (.t 0)), o 7 (.len (.t 6)), o 8 (.cmp .lss (.sc .int) (.t 5) (.t 7))]
abbrev r06_twice_b1 : ACode := (.seq (.seq (.reg r06_twice_p7) (.cond (.t 8) .skip (.exit 0))) (.seq (.block 1 [] r06_twice_p6) (.reg r06_twice_p2)))
abbrev r06_twice_p8 : List AG := [o 4 (.mv (.c (.int .i64 0)))]
abbrev r06_twice_p9 : List AG := [o 2 (.mv (.c (.str []))), o 3 (.mv (.c (.bool false)))]
abbrev r06_twice : AFun := ⟨(.seq (.reg r06_twice_p9) (.seq (.seq (.reg r06_twice_p8) (.block 0 r06_twice_x1 (.loop r06_twice_m1 r06_twice_b1))) (.seq (.reg r06_twice_p0) .ret))), 23, [.tmp 2, .tmp 3]⟩
abbrev r06_twice_k1 : List It := [.code (.seq (.reg r06_twice_p0) .ret)]
abbrev r06_twice_L1 (x0 x4 : AV) (h : List Ob) (e : Cx := cx) : Cfg := atC n_r06_twice (.code r06_twice_b1 :: .inLoop r06_twice_m1 r06_twice_b1 :: .inBlock 0 r06_twice_x1 :: r06_twice_k1) [x0,U,U,U,x4,U,U,U,U,U,U,U,U,U,U,U,U,U,U,U,U,U,U] h e
abbrev r06_twice_E1 (h : List Ob) (e : Cx := cx) : Cfg := atC n_r06_twice r06_twice_k1 [U,U,U,U,U,U,U,U,U,U,U,U,U,U,U,U,U,U,U,U,U,U,U] h e
@[simp] theorem c_r06_twice : cfun Tryd.prog n_r06_twice = some r06_twice := by kernel_rfl
@[simp] theorem e_r06_twice : hasBody Tryd.prog n_r06_twice = true := by kernel_rfl

/- r06_Gate: patchbay/patchbayref06.Gate -/
abbrev r06_Gate_p0 : List AG := [o 66 (.off 1 (.t 1)), o 67 (.load false 1 (.t 66)), o 68 (.cmp .geq (.sc .int) (.t 67) (.c (.int .i64 4))), o 69 (.mv (.t 68)), oy 70 69 (.off 1 (.t 1)), oy 71 69 (.load false 1 (.t 70)), oy 72 69 (.cmp .leq (.sc .int) (.t 71) (.c (.int .i64 9))), o 73 (.pick (.t 69) (.t 72) (.c (.bool false))), o 74 (.mv (.t 73)), oy 75 74 (.mv (.t 3)), oy 76 74 (.cmp .geq (.sc .int) (.t 75) (.c (.int .i64 2))), o 77 (.pick (.t 74) (.t 76) (.c (.bool false))), o 78 (.mv (.t 77)), oy 79 78 (.mv (.t 3)), oy 80 78 (.cmp .leq (.sc .int) (.t 79) (.c (.int .i64 8))), o 81 (.pick (.t 78) (.t 80) (.c (.bool false))), o 2 (.mv (.t 81))]
abbrev r06_Gate_p1 : List AG := [o 64 (.mv (.t 3)), o 65 (.cmp .eql (.sc .int) (.t 64) (.c (.int .i64 1))), o 2 (.mv (.t 65))]
abbrev r06_Gate_p2 : ACode := (.seq (.reg r06_Gate_p1) .ret)
abbrev r06_Gate_p3 : List AG := [o 56 (.off 1 (.t 1)), o 57 (.load false 1 (.t 56)), o 58 (.cmp .eql (.sc .int) (.t 57) (.c (.int .i64 2))), o 59 (.mv (.t 58)), on 60 59 (.off 1 (.t 1)), on 61 59 (.load false 1 (.t 60)), on 62 59 (.cmp .eql (.sc .int) (.t 61) (.c (.int .i64 3))), o 63 (.pick (.t 59) (.c (.bool true)) (.t 62))]
abbrev r06_Gate_p4 : List AG := [o 54 (.mv (.t 3)), o 55 (.cmp .eql (.sc .int) (.t 54) (.c (.int .i64 0))), o 2 (.mv (.t 55))]
abbrev r06_Gate_p5 : ACode := (.seq (.reg r06_Gate_p4) .ret)
abbrev r06_Gate_p6 : List AG := [o 46 (.off 1 (.t 1)), o 47 (.load false 1 (.t 46)), o 48 (.cmp .eql (.sc .int) (.t 47) (.c (.int .i64 0))), o 49 (.mv (.t 48)), on 50 49 (.off 1 (.t 1)), on 51 49 (.load false 1 (.t 50)), on 52 49 (.cmp .eql (.sc .int) (.t 51) (.c (.int .i64 1))), o 53 (.pick (.t 49) (.c (.bool true)) (.t 52))]
abbrev r06_Gate_p7 : List AG := [o 2 (.mv (.c (.bool false)))]
abbrev r06_Gate_p8 : ACode := (.seq (.reg r06_Gate_p7) .ret)
abbrev r06_Gate_p9 : List AG := [o 38 (.off 3 (.t 1)), o 39 (.load false 1 (.t 38)), o 40 (.len (.t 39)), o 41 (.cmp .gtr (.sc .int) (.t 40) (.c (.int .i64 0))), o 42 (.mv (.t 41)), on 43 42 (.off 4 (.t 1)), on 44 42 (.load false 1 (.t 43)), o 45 (.pick (.t 42) (.c (.bool true)) (.t 44))]
abbrev r06_Gate_p10 : List AG := [o 30 (.mv (.t 3)), o 31 (.cmp .leq (.sc .int) (.t 30) (.c (.int .i64 8))), o 32 (.mv (.t 31)), oy 33 32 (.off 3 (.t 1)), oy 34 32 (.load false 1 (.t 33)), oy 35 32 (.len (.t 34)), oy 36 32 (.cmp .leq (.sc .int) (.t 35) (.c (.int .i64 128))), o 37 (.pick (.t 32) (.t 36) (.c (.bool false))), o 2 (.mv (.t 37))]
abbrev r06_Gate_m11 : List Bool := [O,I,O,I,I,O,O,O,O,O,O,O,O,O,O,O,O,O,O,O,O,O,O,O,O,O,O,O,O,O,O,O,O,O,O,O,O,O,O,O,O,O,O,O,O,O,O,O,O,O,O,O,O,O,O,O,O,O,O,O,O,O,O,O,O,O,O,O,O,O,O,O,O,O,O,O,O,O,O,O,O,O]
abbrev r06_Gate_x11 : List Bool := [O,I,O,I,O,O,O,O,O,O,O,O,O,O,O,O,O,O,O,O,O,O,O,O,O,O,O,O,O,O,O,O,O,O,O,O,O,O,O,O,O,O,O,O,O,O,O,O,O,O,O,O,O,O,O,O,O,O,O,O,O,O,O,O,O,O,O,O,O,O,O,O,O,O,O,O,O,O,O,O,O,O]
abbrev r06_Gate_p12 : List AG := [o 20 (.mv (.t 4)), o 21 (.ibin .add (.t 20) (.c (.int .i64 1))), o 4 (.mv (.t 21))]
abbrev r06_Gate_p13 : List AG := [o 2 (.mv (.c (.bool false)))]
abbrev r06_Gate_p14 : ACode := (.seq (.reg r06_Gate_p13) .ret)
abbrev r06_Gate_p15 : List AG := [o 22 (.off 3 (.t 1)), o 23 (.load false 1 (.t 22)), o 24 (.mv (.t 4)), o 25 (.ixAddr 1 (.t 23) (.t 24)), o 26 (.load false 1 (.t 25)), o 27 (.mv (.t 3)), o 28 (.call (.f n_r06_row) [(.t 26), (.t 27)]), o 29 (.not (.t 28))]
abbrev r06_Gate_p16 : ACode := (.seq (.reg r06_Gate_p15) (.cond (.t 29) r06_Gate_p14 .skip))
abbrev r06_Gate_p17 : List AG := [o 11 (.mv (.t 4)), o 12 (.off 3 (.t 1)), o 13 (.load false 1 (.t 12)), o 14 (.len (.t 13)), o 15 (.cmp .lss (.sc .int) (.t 11) (.t 14)), o 16 (.mv (.t 15)), oy 17 16 (.mv (.t 4)), oy 18 16 (.cmp .leq (.sc .int) (.t 17) (.c (.int .i64 128))), o 19 (.pick (.t 16) (.t 18) (.c (.bool false)))]
abbrev r06_Gate_b11 : ACode := (.seq (.seq (.reg r06_Gate_p17) (.cond (.t 19) .skip (.exit 0))) (.seq (.block 1 [] r06_Gate_p16) (.reg r06_Gate_p12)))
abbrev r06_Gate_p18 : List AG := [o 4 (.mv (.c (.int .i64 0)))]
abbrev r06_Gate_p19 : ACode := (.seq (.seq (.reg r06_Gate_p18) (.block 0 r06_Gate_x11 (.loop r06_Gate_m11 r06_Gate_b11))) (.seq (.reg r06_Gate_p10) .ret))
abbrev r06_Gate_p20 : List AG := [o 8 (.off 1 (.t 1)), o 9 (.load false 1 (.t 8)), o 10 (.cmp .eql (.sc .int) (.t 9) (.c (.int .i64 10)))]
abbrev r06_Gate_p21 : List AG := [o 5 (.off 2 (.t 1)), o 6 (.load false 1 (.t 5)), o 7 (.len (.t 6)), o 3 (.mv (.t 7))]
abbrev r06_Gate_p22 : List AG := [o 1 (.box 5 (.t 0)), o 2 (.mv (.c (.bool false)))]
abbrev r06_Gate : AFun := ⟨(.seq (.reg r06_Gate_p22) (.seq (.reg r06_Gate_p21) (.seq (.seq (.reg r06_Gate_p20) (.cond (.t 10) r06_Gate_p19 .skip)) (.seq (.seq (.reg r06_Gate_p9) (.cond (.t 45) r06_Gate_p8 .skip)) (.seq (.seq (.reg r06_Gate_p6) (.cond (.t 53) r06_Gate_p5 .skip)) (.seq (.seq (.reg r06_Gate_p3) (.cond (.t 63) r06_Gate_p2 .skip)) (.seq (.reg r06_Gate_p0) .ret))))))), 82, [.tmp 2]⟩
abbrev r06_Gate_k11 : List It := [.code (.seq (.reg r06_Gate_p10) .ret), .code (.seq (.seq (.reg r06_Gate_p9) (.cond (.t 45) r06_Gate_p8 .skip)) (.seq (.seq (.reg r06_Gate_p6) (.cond (.t 53) r06_Gate_p5 .skip)) (.seq (.seq (.reg r06_Gate_p3) (.cond (.t 63) r06_Gate_p2 .skip)) (.seq (.reg r06_Gate_p0) .ret))))]
abbrev r06_Gate_L11 (x1 x3 x4 : AV) (h : List Ob) (e : Cx := cx) : Cfg := atC n_r06_Gate (.code r06_Gate_b11 :: .inLoop r06_Gate_m11 r06_Gate_b11 :: .inBlock 0 r06_Gate_x11 :: r06_Gate_k11) [U,x1,U,x3,x4,U,U,U,U,U,U,U,U,U,U,U,U,U,U,U,U,U,U,U,U,U,U,U,U,U,U,U,U,U,U,U,U,U,U,U,U,U,U,U,U,U,U,U,U,U,U,U,U,U,U,U,U,U,U,U,U,U,U,U,U,U,U,U,U,U,U,U,U,U,U,U,U,U,U,U,U,U] h e
abbrev r06_Gate_E11 (x1 x3 : AV) (h : List Ob) (e : Cx := cx) : Cfg := atC n_r06_Gate r06_Gate_k11 [U,x1,U,x3,U,U,U,U,U,U,U,U,U,U,U,U,U,U,U,U,U,U,U,U,U,U,U,U,U,U,U,U,U,U,U,U,U,U,U,U,U,U,U,U,U,U,U,U,U,U,U,U,U,U,U,U,U,U,U,U,U,U,U,U,U,U,U,U,U,U,U,U,U,U,U,U,U,U,U,U,U,U] h e
@[simp] theorem c_r06_Gate : cfun Tryd.prog n_r06_Gate = some r06_Gate := by kernel_rfl
@[simp] theorem e_r06_Gate : hasBody Tryd.prog n_r06_Gate = true := by kernel_rfl

/- r06_Used: patchbay/patchbayref06.Used -/
abbrev r06_Used_p0 : List AG := [o 41 (.mv (.t 3)), o 2 (.mv (.t 41))]
abbrev r06_Used_m1 : List Bool := [O,I,O,I,O,I,O,O,O,O,O,O,O,O,O,O,O,O,O,O,O,O,O,O,O,O,O,O,O,O,O,O,O,O,O,O,O,O,O,O,O,O]
abbrev r06_Used_x1 : List Bool := [O,O,O,I,O,O,O,O,O,O,O,O,O,O,O,O,O,O,O,O,O,O,O,O,O,O,O,O,O,O,O,O,O,O,O,O,O,O,O,O,O,O]
abbrev r06_Used_p2 : List AG := [o 31 (.mv (.t 5)), o 32 (.ibin .add (.t 31) (.c (.int .i64 1))), o 5 (.mv (.t 32))]
abbrev r06_Used_p3 : List AG := [o 33 (.mv (.t 3)), o 34 (.off 3 (.t 1)), o 35 (.load false 1 (.t 34)), o 36 (.mv (.t 5)), o 37 (.ixAddr 5 (.t 35) (.t 36)), o 38 (.off 2 (.t 37)), o 39 (.load false 1 (.t 38)), o 40 (.append 1 t_string 16 (.t 33) (.t 39)), o 3 (.mv (.t 40))]
abbrev r06_Used_p4 : List AG := [o 26 (.mv (.t 5)), o 27 (.off 3 (.t 1)), o 28 (.load false 1 (.t 27)), o 29 (.len (.t 28)), o 30 (.cmp .lss (.sc .int) (.t 26) (.t 29))]
abbrev r06_Used_b1 : ACode := (.seq (.seq (.reg r06_Used_p4) (.cond (.t 30) .skip (.exit 2))) (.seq (.block 3 [] (.reg r06_Used_p3)) (.reg r06_Used_p2)))
abbrev r06_Used_p5 : List AG := [o 5 (.mv (.c (.int .i64 0)))]
abbrev r06_Used_m6 : List Bool := [O,I,O,I,I,O,O,O,O,O,O,O,O,O,O,O,O,O,O,O,O,O,O,O,O,O,O,O,O,O,O,O,O,O,O,O,O,O,O,O,O,O]
abbrev r06_Used_x6 : List Bool := [O,I,O,I,O,O,O,O,O,O,O,O,O,O,O,O,O,O,O,O,O,O,O,O,O,O,O,O,O,O,O,O,O,O,O,O,O,O,O,O,O,O]
abbrev r06_Used_p7 : List AG := [o 15 (.mv (.t 4)), o 16 (.ibin .add (.t 15) (.c (.int .i64 1))), o 4 (.mv (.t 16))]
abbrev r06_Used_p8 : List AG := [o 17 (.mv (.t 3)), o 18 (.off 2 (.t 1)), o 19 (.load false 1 (.t 18)), o 20 (.mv (.t 4)), o 21 (.ixAddr 3 (.t 19) (.t 20)), o 22 (.off 1 (.t 21)), o 23 (.load false 1 (.t 22)), o 24 (.lit 1 [(.str [])] [(0, (.t 23))]), o 25 (.append 1 t_string 16 (.t 17) (.t 24)), o 3 (.mv (.t 25))]
abbrev r06_Used_p9 : List AG := [o 10 (.mv (.t 4)), o 11 (.off 2 (.t 1)), o 12 (.load false 1 (.t 11)), o 13 (.len (.t 12)), o 14 (.cmp .lss (.sc .int) (.t 10) (.t 13))]
abbrev r06_Used_b6 : ACode := (.seq (.seq (.reg r06_Used_p9) (.cond (.t 14) .skip (.exit 0))) (.seq (.block 1 [] (.reg r06_Used_p8)) (.reg r06_Used_p7)))
abbrev r06_Used_p10 : List AG := [o 4 (.mv (.c (.int .i64 0)))]
abbrev r06_Used_p11 : List AG := [o 6 (.mv (.t 3)), o 7 (.off 1 (.t 1)), o 8 (.load false 1 (.t 7)), o 9 (.append 1 t_string 16 (.t 6) (.t 8)), o 3 (.mv (.t 9))]
abbrev r06_Used_p12 : List AG := [o 3 (.nilrow 1 t_string)]
abbrev r06_Used_p13 : List AG := [o 1 (.box 4 (.t 0)), o 2 (.nilrow 1 t_string)]
abbrev r06_Used : AFun := ⟨(.seq (.reg r06_Used_p13) (.seq (.reg r06_Used_p12) (.seq (.reg r06_Used_p11) (.seq (.seq (.reg r06_Used_p10) (.block 0 r06_Used_x6 (.loop r06_Used_m6 r06_Used_b6))) (.seq (.seq (.reg r06_Used_p5) (.block 2 r06_Used_x1 (.loop r06_Used_m1 r06_Used_b1))) (.seq (.reg r06_Used_p0) .ret)))))), 42, [.tmp 2]⟩
abbrev r06_Used_k1 : List It := [.code (.seq (.reg r06_Used_p0) .ret)]
abbrev r06_Used_L1 (x1 x3 x5 : AV) (h : List Ob) (e : Cx := cx) : Cfg := atC n_r06_Used (.code r06_Used_b1 :: .inLoop r06_Used_m1 r06_Used_b1 :: .inBlock 2 r06_Used_x1 :: r06_Used_k1) [U,x1,U,x3,U,x5,U,U,U,U,U,U,U,U,U,U,U,U,U,U,U,U,U,U,U,U,U,U,U,U,U,U,U,U,U,U,U,U,U,U,U,U] h e
abbrev r06_Used_E1 (x3 : AV) (h : List Ob) (e : Cx := cx) : Cfg := atC n_r06_Used r06_Used_k1 [U,U,U,x3,U,U,U,U,U,U,U,U,U,U,U,U,U,U,U,U,U,U,U,U,U,U,U,U,U,U,U,U,U,U,U,U,U,U,U,U,U,U] h e
abbrev r06_Used_k6 : List It := [.code (.seq (.seq (.reg r06_Used_p5) (.block 2 r06_Used_x1 (.loop r06_Used_m1 r06_Used_b1))) (.seq (.reg r06_Used_p0) .ret))]
abbrev r06_Used_L6 (x1 x3 x4 : AV) (h : List Ob) (e : Cx := cx) : Cfg := atC n_r06_Used (.code r06_Used_b6 :: .inLoop r06_Used_m6 r06_Used_b6 :: .inBlock 0 r06_Used_x6 :: r06_Used_k6) [U,x1,U,x3,x4,U,U,U,U,U,U,U,U,U,U,U,U,U,U,U,U,U,U,U,U,U,U,U,U,U,U,U,U,U,U,U,U,U,U,U,U,U] h e
abbrev r06_Used_E6 (x1 x3 : AV) (h : List Ob) (e : Cx := cx) : Cfg := atC n_r06_Used r06_Used_k6 [U,x1,U,x3,U,U,U,U,U,U,U,U,U,U,U,U,U,U,U,U,U,U,U,U,U,U,U,U,U,U,U,U,U,U,U,U,U,U,U,U,U,U] h e
@[simp] theorem c_r06_Used : cfun Tryd.prog n_r06_Used = some r06_Used := by kernel_rfl
@[simp] theorem e_r06_Used : hasBody Tryd.prog n_r06_Used = true := by kernel_rfl

/- r01_Has: patchbay/patchbayref01.Has -/
abbrev r01_Has_p0 : List AG := [o 4 (.mv (.c (.bool false)))]
abbrev r01_Has_m1 : List Bool := [I,I,O,O,O,I,O,O,O,O,O,O,O,O,O,O,O,O]
abbrev r01_Has_x1 : List Bool := [O,O,O,O,O,O,O,O,O,O,O,O,O,O,O,O,O,O]
abbrev r01_Has_p2 : List AG := [o 10 (.mv (.t 5)), o 11 (.ibin .add (.t 10) (.c (.int .i64 1))), o 5 (.mv (.t 11))]
abbrev r01_Has_p3 : List AG := [o 4 (.mv (.c (.bool true)))]
abbrev r01_Has_p4 : ACode := (.seq (.reg r01_Has_p3) .ret)
abbrev r01_Has_p5 : List AG := [o 12 (.mv (.t 0)), o 13 (.mv (.t 5)), o 14 (.ixAddr 1 (.t 12) (.t 13)), o 15 (.load false 1 (.t 14)), o 16 (.mv (.t 1)), o 17 (.cmp .eql (.sc .str) (.t 15) (.t 16))]
abbrev r01_Has_p6 : ACode := (.seq (.reg r01_Has_p5) (.cond (.t 17) r01_Has_p4 .skip))
abbrev r01_Has_p7 : List AG := [o 6 (.mv (.t 5)), o 7 (.mv (.t 0)), o 8 (.len (.t 7)), o 9 (.cmp .lss (.sc .int) (.t 6) (.t 8))]
abbrev r01_Has_b1 : ACode := (.seq (.seq (.reg r01_Has_p7) (.cond (.t 9) .skip (.exit 0))) (.seq (.block 1 [] r01_Has_p6) (.reg r01_Has_p2)))
abbrev r01_Has_p8 : List AG := [o 5 (.mv (.c (.int .i64 0)))]
abbrev r01_Has_p9 : List AG := [o 4 (.mv (.c (.bool false)))]
abbrev r01_Has : AFun := ⟨(.seq (.reg r01_Has_p9) (.seq (.seq (.reg r01_Has_p8) (.block 0 r01_Has_x1 (.loop r01_Has_m1 r01_Has_b1))) (.seq (.reg r01_Has_p0) .ret))), 18, [.tmp 4]⟩
abbrev r01_Has_k1 : List It := [.code (.seq (.reg r01_Has_p0) .ret)]
abbrev r01_Has_L1 (x0 x1 x5 : AV) (h : List Ob) (e : Cx := cx) : Cfg := atC n_r01_Has (.code r01_Has_b1 :: .inLoop r01_Has_m1 r01_Has_b1 :: .inBlock 0 r01_Has_x1 :: r01_Has_k1) [x0,x1,U,U,U,x5,U,U,U,U,U,U,U,U,U,U,U,U] h e
abbrev r01_Has_E1 (h : List Ob) (e : Cx := cx) : Cfg := atC n_r01_Has r01_Has_k1 [U,U,U,U,U,U,U,U,U,U,U,U,U,U,U,U,U,U] h e
@[simp] theorem c_r01_Has : cfun Tryd.prog n_r01_Has = some r01_Has := by kernel_rfl
@[simp] theorem e_r01_Has : hasBody Tryd.prog n_r01_Has = true := by kernel_rfl

/- slices_Clone_string_string: slices.Clone[[]string,string] -/
abbrev slices_Clone_string_string_p0 : List AG := [o 5 (.lit 1 [] []), o 6 (.mv (.t 0)), o 7 (.append 1 t_string 16 (.t 5) (.t 6)), o 2 (.mv (.t 7))]
abbrev slices_Clone_string_string_p1 : List AG := [o 2 (.nilrow 1 t_string)]
abbrev slices_Clone_string_string_p2 : ACode := (.seq (.reg slices_Clone_string_string_p1) .ret)
abbrev slices_Clone_string_string_p3 : List AG := [o 3 (.mv (.t 0)), o 4 (.isnil false (.t 3))]
abbrev slices_Clone_string_string_p4 : List AG := [o 2 (.nilrow 1 t_string)]
abbrev slices_Clone_string_string : AFun := ⟨(.seq (.reg slices_Clone_string_string_p4) (.seq (.seq (.reg slices_Clone_string_string_p3) (.cond (.t 4) slices_Clone_string_string_p2 .skip)) (.seq (.reg slices_Clone_string_string_p0) .ret))), 8, [.tmp 2]⟩
@[simp] theorem c_slices_Clone_string_string : cfun Tryd.prog n_slices_Clone_string_string = some slices_Clone_string_string := by kernel_rfl
@[simp] theorem e_slices_Clone_string_string : hasBody Tryd.prog n_slices_Clone_string_string = true := by kernel_rfl

/- slices_Index_string_string: slices.Index[[]string,string] -/
abbrev slices_Index_string_string_p0 : List AG := [o 4 (.mv (.c (.int .i64 (-1))))]
abbrev slices_Index_string_string_m1 : List Bool := [I,I,O,O,O,O,O,I,I,O,O,O,O,O,O,O,O,O,O]
abbrev slices_Index_string_string_x1 : List Bool := [O,O,O,O,O,O,O,O,O,O,O,O,O,O,O,O,O,O,O]
abbrev slices_Index_string_string_p2 : List AG := [o 18 (.ibin .add (.t 8) (.c (.int .i64 1))), o 8 (.mv (.t 18))]
abbrev slices_Index_string_string_p3 : List AG := [o 17 (.mv (.t 5)), o 4 (.mv (.t 17))]
abbrev slices_Index_string_string_p4 : ACode := (.seq (.reg slices_Index_string_string_p3) .ret)
abbrev slices_Index_string_string_p5 : List AG := [o 11 (.mv (.t 1)), o 12 (.mv (.t 0)), o 13 (.mv (.t 5)), o 14 (.ixAddr 1 (.t 12) (.t 13)), o 15 (.load false 1 (.t 14)), o 16 (.cmp .eql (.sc .str) (.t 11) (.t 15))]
abbrev slices_Index_string_string_p6 : List AG := [o 10 (.mv (.t 8)), o 5 (.mv (.t 10))]
abbrev slices_Index_string_string_p7 : ACode := (.seq (.reg slices_Index_string_string_p6) (.seq (.reg slices_Index_string_string_p5) (.cond (.t 16) slices_Index_string_string_p4 .skip)))
abbrev slices_Index_string_string_p8 : List AG := [o 9 (.cmp .lss (.sc .int) (.t 8) (.t 7))]
abbrev slices_Index_string_string_b1 : ACode := (.seq (.reg slices_Index_string_string_p8) (.seq (.cond (.t 9) .skip (.exit 0)) (.seq (.block 1 [] slices_Index_string_string_p7) (.reg slices_Index_string_string_p2))))
abbrev slices_Index_string_string_p9 : List AG := [o 6 (.mv (.t 0)), o 7 (.len (.t 6)), o 8 (.mv (.c (.int .i64 0)))]
abbrev slices_Index_string_string_p10 : List AG := [o 4 (.mv (.c (.int .i64 0)))]
abbrev slices_Index_string_string : AFun := ⟨(.seq (.reg slices_Index_string_string_p10) (.seq (.seq (.reg slices_Index_string_string_p9) (.block 0 slices_Index_string_string_x1 (.loop slices_Index_string_string_m1 slices_Index_string_string_b1))) (.seq (.reg slices_Index_string_string_p0) .ret))), 19, [.tmp 4]⟩
abbrev slices_Index_string_string_k1 : List It := [.code (.seq (.reg slices_Index_string_string_p0) .ret)]
abbrev slices_Index_string_string_L1 (x0 x1 x7 x8 : AV) (h : List Ob) (e : Cx := cx) : Cfg := atC n_slices_Index_string_string (.code slices_Index_string_string_b1 :: .inLoop slices_Index_string_string_m1 slices_Index_string_string_b1 :: .inBlock 0 slices_Index_string_string_x1 :: slices_Index_string_string_k1) [x0,x1,U,U,U,U,U,x7,x8,U,U,U,U,U,U,U,U,U,U] h e
abbrev slices_Index_string_string_E1 (h : List Ob) (e : Cx := cx) : Cfg := atC n_slices_Index_string_string slices_Index_string_string_k1 [U,U,U,U,U,U,U,U,U,U,U,U,U,U,U,U,U,U,U] h e
@[simp] theorem c_slices_Index_string_string : cfun Tryd.prog n_slices_Index_string_string = some slices_Index_string_string := by kernel_rfl
@[simp] theorem e_slices_Index_string_string : hasBody Tryd.prog n_slices_Index_string_string = true := by kernel_rfl

/- slices_Equal_string_string: slices.Equal[[]string,string] -/
abbrev slices_Equal_string_string_p0 : List AG := [o 4 (.mv (.c (.bool true)))]
abbrev slices_Equal_string_string_m1 : List Bool := [I,I,O,O,O,O,O,O,O,O,O,O,I,I,O,O,O,O,O,O,O,O,O,O,O,O]
abbrev slices_Equal_string_string_x1 : List Bool := [O,O,O,O,O,O,O,O,O,O,O,O,O,O,O,O,O,O,O,O,O,O,O,O,O,O]
abbrev slices_Equal_string_string_p2 : List AG := [o 25 (.ibin .add (.t 13) (.c (.int .i64 1))), o 13 (.mv (.t 25))]
abbrev slices_Equal_string_string_p3 : List AG := [o 4 (.mv (.c (.bool false)))]
abbrev slices_Equal_string_string_p4 : ACode := (.seq (.reg slices_Equal_string_string_p3) .ret)
abbrev slices_Equal_string_string_p5 : List AG := [o 16 (.mv (.t 0)), o 17 (.mv (.t 5)), o 18 (.ixAddr 1 (.t 16) (.t 17)), o 19 (.load false 1 (.t 18)), o 20 (.mv (.t 1)), o 21 (.mv (.t 5)), o 22 (.ixAddr 1 (.t 20) (.t 21)), o 23 (.load false 1 (.t 22)), o 24 (.cmp .neq (.sc .str) (.t 19) (.t 23))]
abbrev slices_Equal_string_string_p6 : List AG := [o 15 (.mv (.t 13)), o 5 (.mv (.t 15))]
abbrev slices_Equal_string_string_p7 : ACode := (.seq (.reg slices_Equal_string_string_p6) (.seq (.dreg [O,O,O,O,O,O,O,O,O] [10,10,10,10,10,10,10,10,10] slices_Equal_string_string_p5) (.cond (.t 24) slices_Equal_string_string_p4 .skip)))
abbrev slices_Equal_string_string_p8 : List AG := [o 14 (.cmp .lss (.sc .int) (.t 13) (.t 12))]
abbrev slices_Equal_string_string_b1 : ACode := (.seq (.reg slices_Equal_string_string_p8) (.seq (.cond (.t 14) .skip (.exit 0)) (.seq (.block 1 [] slices_Equal_string_string_p7) (.reg slices_Equal_string_string_p2))))
abbrev slices_Equal_string_string_p9 : List AG := [o 11 (.mv (.t 0)), o 12 (.len (.t 11)), o 13 (.mv (.c (.int .i64 0)))]
abbrev slices_Equal_string_string_p10 : List AG := [o 4 (.mv (.c (.bool false)))]
abbrev slices_Equal_string_string_p11 : ACode := (.seq (.reg slices_Equal_string_string_p10) .ret)
abbrev slices_Equal_string_string_p12 : List AG := [o 6 (.mv (.t 0)), o 7 (.len (.t 6)), o 8 (.mv (.t 1)), o 9 (.len (.t 8)), o 10 (.cmp .neq (.sc .int) (.t 7) (.t 9))]
abbrev slices_Equal_string_string_p13 : List AG := [o 4 (.mv (.c (.bool false)))]
abbrev slices_Equal_string_string : AFun := ⟨(.seq (.reg slices_Equal_string_string_p13) (.seq (.seq (.reg slices_Equal_string_string_p12) (.cond (.t 10) slices_Equal_string_string_p11 .skip)) (.seq (.seq (.reg slices_Equal_string_string_p9) (.block 0 slices_Equal_string_string_x1 (.loop slices_Equal_string_string_m1 slices_Equal_string_string_b1))) (.seq (.reg slices_Equal_string_string_p0) .ret)))), 26, [.tmp 4]⟩
abbrev slices_Equal_string_string_k1 : List It := [.code (.seq (.reg slices_Equal_string_string_p0) .ret)]
abbrev slices_Equal_string_string_L1 (x0 x1 x12 x13 : AV) (h : List Ob) (e : Cx := cx) : Cfg := atC n_slices_Equal_string_string (.code slices_Equal_string_string_b1 :: .inLoop slices_Equal_string_string_m1 slices_Equal_string_string_b1 :: .inBlock 0 slices_Equal_string_string_x1 :: slices_Equal_string_string_k1) [x0,x1,U,U,U,U,U,U,U,U,U,U,x12,x13,U,U,U,U,U,U,U,U,U,U,U,U] h e
abbrev slices_Equal_string_string_E1 (h : List Ob) (e : Cx := cx) : Cfg := atC n_slices_Equal_string_string slices_Equal_string_string_k1 [U,U,U,U,U,U,U,U,U,U,U,U,U,U,U,U,U,U,U,U,U,U,U,U,U,U] h e
@[simp] theorem c_slices_Equal_string_string : cfun Tryd.prog n_slices_Equal_string_string = some slices_Equal_string_string := by kernel_rfl
@[simp] theorem e_slices_Equal_string_string : hasBody Tryd.prog n_slices_Equal_string_string = true := by kernel_rfl

/- slices_Equal_api_Latch_api_Latch: slices.Equal[[]patchbay/api.Latch,patchbay/api.Latch] -/
abbrev slices_Equal_api_Latch_api_Latch_p0 : List AG := [o 4 (.mv (.c (.bool true)))]
abbrev slices_Equal_api_Latch_api_Latch_m1 : List Bool := [I,I,O,O,O,O,O,O,O,O,O,O,I,I,O,O,O,O,O,O,O,O,O,O,O,O]
abbrev slices_Equal_api_Latch_api_Latch_x1 : List Bool := [O,O,O,O,O,O,O,O,O,O,O,O,O,O,O,O,O,O,O,O,O,O,O,O,O,O]
abbrev slices_Equal_api_Latch_api_Latch_p2 : List AG := [o 25 (.ibin .add (.t 13) (.c (.int .i64 1))), o 13 (.mv (.t 25))]
abbrev slices_Equal_api_Latch_api_Latch_p3 : List AG := [o 4 (.mv (.c (.bool false)))]
abbrev slices_Equal_api_Latch_api_Latch_p4 : ACode := (.seq (.reg slices_Equal_api_Latch_api_Latch_p3) .ret)
abbrev slices_Equal_api_Latch_api_Latch_p5 : List AG := [o 16 (.mv (.t 0)), o 17 (.mv (.t 5)), o 18 (.ixAddr 3 (.t 16) (.t 17)), o 19 (.load true 3 (.t 18)), o 20 (.mv (.t 1)), o 21 (.mv (.t 5)), o 22 (.ixAddr 3 (.t 20) (.t 21)), o 23 (.load true 3 (.t 22)), o 24 (.cmp .neq (.strct [.str, .str, .int]) (.t 19) (.t 23))]
abbrev slices_Equal_api_Latch_api_Latch_p6 : List AG := [o 15 (.mv (.t 13)), o 5 (.mv (.t 15))]
abbrev slices_Equal_api_Latch_api_Latch_p7 : ACode := (.seq (.reg slices_Equal_api_Latch_api_Latch_p6) (.seq (.dreg [O,O,O,O,O,O,O,O,O] [10,10,10,10,10,10,10,10,10] slices_Equal_api_Latch_api_Latch_p5) (.cond (.t 24) slices_Equal_api_Latch_api_Latch_p4 .skip)))
abbrev slices_Equal_api_Latch_api_Latch_p8 : List AG := [o 14 (.cmp .lss (.sc .int) (.t 13) (.t 12))]
abbrev slices_Equal_api_Latch_api_Latch_b1 : ACode := (.seq (.reg slices_Equal_api_Latch_api_Latch_p8) (.seq (.cond (.t 14) .skip (.exit 0)) (.seq (.block 1 [] slices_Equal_api_Latch_api_Latch_p7) (.reg slices_Equal_api_Latch_api_Latch_p2))))
abbrev slices_Equal_api_Latch_api_Latch_p9 : List AG := [o 11 (.mv (.t 0)), o 12 (.len (.t 11)), o 13 (.mv (.c (.int .i64 0)))]
abbrev slices_Equal_api_Latch_api_Latch_p10 : List AG := [o 4 (.mv (.c (.bool false)))]
abbrev slices_Equal_api_Latch_api_Latch_p11 : ACode := (.seq (.reg slices_Equal_api_Latch_api_Latch_p10) .ret)
abbrev slices_Equal_api_Latch_api_Latch_p12 : List AG := [o 6 (.mv (.t 0)), o 7 (.len (.t 6)), o 8 (.mv (.t 1)), o 9 (.len (.t 8)), o 10 (.cmp .neq (.sc .int) (.t 7) (.t 9))]
abbrev slices_Equal_api_Latch_api_Latch_p13 : List AG := [o 4 (.mv (.c (.bool false)))]
abbrev slices_Equal_api_Latch_api_Latch : AFun := ⟨(.seq (.reg slices_Equal_api_Latch_api_Latch_p13) (.seq (.seq (.reg slices_Equal_api_Latch_api_Latch_p12) (.cond (.t 10) slices_Equal_api_Latch_api_Latch_p11 .skip)) (.seq (.seq (.reg slices_Equal_api_Latch_api_Latch_p9) (.block 0 slices_Equal_api_Latch_api_Latch_x1 (.loop slices_Equal_api_Latch_api_Latch_m1 slices_Equal_api_Latch_api_Latch_b1))) (.seq (.reg slices_Equal_api_Latch_api_Latch_p0) .ret)))), 26, [.tmp 4]⟩
abbrev slices_Equal_api_Latch_api_Latch_k1 : List It := [.code (.seq (.reg slices_Equal_api_Latch_api_Latch_p0) .ret)]
abbrev slices_Equal_api_Latch_api_Latch_L1 (x0 x1 x12 x13 : AV) (h : List Ob) (e : Cx := cx) : Cfg := atC n_slices_Equal_api_Latch_api_Latch (.code slices_Equal_api_Latch_api_Latch_b1 :: .inLoop slices_Equal_api_Latch_api_Latch_m1 slices_Equal_api_Latch_api_Latch_b1 :: .inBlock 0 slices_Equal_api_Latch_api_Latch_x1 :: slices_Equal_api_Latch_api_Latch_k1) [x0,x1,U,U,U,U,U,U,U,U,U,U,x12,x13,U,U,U,U,U,U,U,U,U,U,U,U] h e
abbrev slices_Equal_api_Latch_api_Latch_E1 (h : List Ob) (e : Cx := cx) : Cfg := atC n_slices_Equal_api_Latch_api_Latch slices_Equal_api_Latch_api_Latch_k1 [U,U,U,U,U,U,U,U,U,U,U,U,U,U,U,U,U,U,U,U,U,U,U,U,U,U] h e
@[simp] theorem c_slices_Equal_api_Latch_api_Latch : cfun Tryd.prog n_slices_Equal_api_Latch_api_Latch = some slices_Equal_api_Latch_api_Latch := by kernel_rfl
@[simp] theorem e_slices_Equal_api_Latch_api_Latch : hasBody Tryd.prog n_slices_Equal_api_Latch_api_Latch = true := by kernel_rfl

/- slices_EqualFunc_api_Gate_api_Gate_api_Gate_api_Gate: slices.EqualFunc[[]patchbay/api.Gate,[]patchbay/api.Gate,patchbay/api.Gate,patchbay/api.Gate] -/
abbrev slices_EqualFunc_api_Gate_api_Gate_api_Gate_api_Gate_p0 : List AG := [o 6 (.mv (.c (.bool true)))]
abbrev slices_EqualFunc_api_Gate_api_Gate_api_Gate_api_Gate_m1 : List Bool := [O,I,I,O,O,O,O,O,O,O,O,O,O,O,O,I,I,I,O,O,O,O,O,O,O,O,O,O,O,O,O,O]
abbrev slices_EqualFunc_api_Gate_api_Gate_api_Gate_api_Gate_x1 : List Bool := [O,O,O,O,O,O,O,O,O,O,O,O,O,O,O,O,O,O,O,O,O,O,O,O,O,O,O,O,O,O,O,O]
abbrev slices_EqualFunc_api_Gate_api_Gate_api_Gate_api_Gate_p2 : List AG := [o 31 (.ibin .add (.t 17) (.c (.int .i64 1))), o 17 (.mv (.t 31))]
abbrev slices_EqualFunc_api_Gate_api_Gate_api_Gate_api_Gate_p3 : List AG := [o 6 (.mv (.c (.bool false)))]
abbrev slices_EqualFunc_api_Gate_api_Gate_api_Gate_api_Gate_p4 : ACode := (.seq (.reg slices_EqualFunc_api_Gate_api_Gate_api_Gate_api_Gate_p3) .ret)
abbrev slices_EqualFunc_api_Gate_api_Gate_api_Gate_api_Gate_p5 : List AG := [o 26 (.mv (.t 2)), o 27 (.load true 5 (.t 8)), o 28 (.load true 5 (.t 9)), o 29 (.call (.t 26) [(.t 27), (.t 28)]), o 30 (.not (.t 29))]
abbrev slices_EqualFunc_api_Gate_api_Gate_api_Gate_api_Gate_p6 : List AG := [o 22 (.mv (.t 1)), o 23 (.mv (.t 7)), o 24 (.ixAddr 5 (.t 22) (.t 23)), o 25 (.load true 5 (.t 24)), o 9 (.alloc [(.str []), (.int .i64 0), (.own 1 t_string []), (.own 1 t_string []), (.bool false)]), q (.store 5 (.t 9) (.t 25))]
abbrev slices_EqualFunc_api_Gate_api_Gate_api_Gate_api_Gate_p7 : List AG := [o 19 (.mv (.t 17)), o 20 (.ixAddr 5 (.t 15) (.t 17)), o 21 (.load true 5 (.t 20)), o 8 (.alloc [(.str []), (.int .i64 0), (.own 1 t_string []), (.own 1 t_string []), (.bool false)]), o 7 (.mv (.t 19)), q (.store 5 (.t 8) (.t 21))]
abbrev slices_EqualFunc_api_Gate_api_Gate_api_Gate_api_Gate_p8 : ACode := (.seq (.reg slices_EqualFunc_api_Gate_api_Gate_api_Gate_api_Gate_p7) (.seq (.reg slices_EqualFunc_api_Gate_api_Gate_api_Gate_api_Gate_p6) (.seq (.reg slices_EqualFunc_api_Gate_api_Gate_api_Gate_api_Gate_p5) (.cond (.t 30) slices_EqualFunc_api_Gate_api_Gate_api_Gate_api_Gate_p4 .skip))))
abbrev slices_EqualFunc_api_Gate_api_Gate_api_Gate_api_Gate_p9 : List AG := [o 18 (.cmp .lss (.sc .int) (.t 17) (.t 16))]
abbrev slices_EqualFunc_api_Gate_api_Gate_api_Gate_api_Gate_b1 : ACode := (.seq (.reg slices_EqualFunc_api_Gate_api_Gate_api_Gate_api_Gate_p9) (.seq (.cond (.t 18) .skip (.exit 0)) (.seq (.block 1 [] slices_EqualFunc_api_Gate_api_Gate_api_Gate_api_Gate_p8) (.reg slices_EqualFunc_api_Gate_api_Gate_api_Gate_api_Gate_p2))))
abbrev slices_EqualFunc_api_Gate_api_Gate_api_Gate_api_Gate_p10 : List AG := [o 15 (.mv (.t 0)), o 16 (.len (.t 15)), o 17 (.mv (.c (.int .i64 0)))]
abbrev slices_EqualFunc_api_Gate_api_Gate_api_Gate_api_Gate_p11 : List AG := [o 6 (.mv (.c (.bool false)))]
abbrev slices_EqualFunc_api_Gate_api_Gate_api_Gate_api_Gate_p12 : ACode := (.seq (.reg slices_EqualFunc_api_Gate_api_Gate_api_Gate_api_Gate_p11) .ret)
abbrev slices_EqualFunc_api_Gate_api_Gate_api_Gate_api_Gate_p13 : List AG := [o 10 (.mv (.t 0)), o 11 (.len (.t 10)), o 12 (.mv (.t 1)), o 13 (.len (.t 12)), o 14 (.cmp .neq (.sc .int) (.t 11) (.t 13))]
abbrev slices_EqualFunc_api_Gate_api_Gate_api_Gate_api_Gate_p14 : List AG := [o 6 (.mv (.c (.bool false)))]
abbrev slices_EqualFunc_api_Gate_api_Gate_api_Gate_api_Gate : AFun := ⟨(.seq (.reg slices_EqualFunc_api_Gate_api_Gate_api_Gate_api_Gate_p14) (.seq (.seq (.reg slices_EqualFunc_api_Gate_api_Gate_api_Gate_api_Gate_p13) (.cond (.t 14) slices_EqualFunc_api_Gate_api_Gate_api_Gate_api_Gate_p12 .skip)) (.seq (.seq (.reg slices_EqualFunc_api_Gate_api_Gate_api_Gate_api_Gate_p10) (.block 0 slices_EqualFunc_api_Gate_api_Gate_api_Gate_api_Gate_x1 (.loop slices_EqualFunc_api_Gate_api_Gate_api_Gate_api_Gate_m1 slices_EqualFunc_api_Gate_api_Gate_api_Gate_api_Gate_b1))) (.seq (.reg slices_EqualFunc_api_Gate_api_Gate_api_Gate_api_Gate_p0) .ret)))), 32, [.tmp 6]⟩
abbrev slices_EqualFunc_api_Gate_api_Gate_api_Gate_api_Gate_k1 : List It := [.code (.seq (.reg slices_EqualFunc_api_Gate_api_Gate_api_Gate_api_Gate_p0) .ret)]
abbrev slices_EqualFunc_api_Gate_api_Gate_api_Gate_api_Gate_L1 (x1 x2 x15 x16 x17 : AV) (h : List Ob) (e : Cx := cx) : Cfg := atC n_slices_EqualFunc_api_Gate_api_Gate_api_Gate_api_Gate (.code slices_EqualFunc_api_Gate_api_Gate_api_Gate_api_Gate_b1 :: .inLoop slices_EqualFunc_api_Gate_api_Gate_api_Gate_api_Gate_m1 slices_EqualFunc_api_Gate_api_Gate_api_Gate_api_Gate_b1 :: .inBlock 0 slices_EqualFunc_api_Gate_api_Gate_api_Gate_api_Gate_x1 :: slices_EqualFunc_api_Gate_api_Gate_api_Gate_api_Gate_k1) [U,x1,x2,U,U,U,U,U,U,U,U,U,U,U,U,x15,x16,x17,U,U,U,U,U,U,U,U,U,U,U,U,U,U] h e
abbrev slices_EqualFunc_api_Gate_api_Gate_api_Gate_api_Gate_E1 (h : List Ob) (e : Cx := cx) : Cfg := atC n_slices_EqualFunc_api_Gate_api_Gate_api_Gate_api_Gate slices_EqualFunc_api_Gate_api_Gate_api_Gate_api_Gate_k1 [U,U,U,U,U,U,U,U,U,U,U,U,U,U,U,U,U,U,U,U,U,U,U,U,U,U,U,U,U,U,U,U] h e
@[simp] theorem c_slices_EqualFunc_api_Gate_api_Gate_api_Gate_api_Gate : cfun Tryd.prog n_slices_EqualFunc_api_Gate_api_Gate_api_Gate_api_Gate = some slices_EqualFunc_api_Gate_api_Gate_api_Gate_api_Gate := by kernel_rfl
@[simp] theorem e_slices_EqualFunc_api_Gate_api_Gate_api_Gate_api_Gate : hasBody Tryd.prog n_slices_EqualFunc_api_Gate_api_Gate_api_Gate_api_Gate = true := by kernel_rfl

/- net_same: patchbay/net.same -/
abbrev net_same_p0 : List AG := [o 5 (.off 0 (.t 2)), o 6 (.load false 1 (.t 5)), o 7 (.off 0 (.t 3)), o 8 (.load false 1 (.t 7)), o 9 (.cmp .eql (.sc .str) (.t 6) (.t 8)), o 10 (.mv (.t 9)), oy 11 10 (.off 1 (.t 2)), oy 12 10 (.load false 1 (.t 11)), oy 13 10 (.off 1 (.t 3)), oy 14 10 (.load false 1 (.t 13)), oy 15 10 (.cmp .eql (.sc .int) (.t 12) (.t 14)), o 16 (.pick (.t 10) (.t 15) (.c (.bool false))), o 17 (.mv (.t 16)), oy 18 17 (.off 4 (.t 2)), oy 19 17 (.load false 1 (.t 18)), oy 20 17 (.off 4 (.t 3)), oy 21 17 (.load false 1 (.t 20)), oy 22 17 (.cmp .eql (.sc .bool) (.t 19) (.t 21)), o 23 (.pick (.t 17) (.t 22) (.c (.bool false))), o 24 (.mv (.t 23)), oy 25 24 (.off 2 (.t 2)), oy 26 24 (.load false 1 (.t 25)), oy 27 24 (.off 2 (.t 3)), oy 28 24 (.load false 1 (.t 27)), oy 29 24 (.call (.f n_slices_Equal_string_string) [(.t 26), (.t 28)]), o 30 (.pick (.t 24) (.t 29) (.c (.bool false))), o 31 (.mv (.t 30)), oy 32 31 (.off 3 (.t 2)), oy 33 31 (.load false 1 (.t 32)), oy 34 31 (.off 3 (.t 3)), oy 35 31 (.load false 1 (.t 34)), oy 36 31 (.call (.f n_slices_Equal_string_string) [(.t 33), (.t 35)]), o 37 (.pick (.t 31) (.t 36) (.c (.bool false))), o 4 (.mv (.t 37))]
abbrev net_same_p1 : List AG := [o 2 (.box 5 (.t 0)), o 3 (.box 5 (.t 1)), o 4 (.mv (.c (.bool false)))]
abbrev net_same : AFun := ⟨(.seq (.reg net_same_p1) (.seq (.reg net_same_p0) .ret)), 38, [.tmp 4]⟩
@[simp] theorem c_net_same : cfun Tryd.prog n_net_same = some net_same := by kernel_rfl
@[simp] theorem e_net_same : hasBody Tryd.prog n_net_same = true := by kernel_rfl

/- net_has: patchbay/net.has -/
abbrev net_has_p0 : List AG := [o 13 (.mv (.t 6)), o 14 (.mv (.t 13)), oy 15 14 (.mv (.t 1)), oy 16 14 (.arrAddr 2 1 (.t 5) (.c (.int .i64 0))), oy 17 14 (.load false 1 (.t 16)), oy 18 14 (.cmp .geq (.sc .int) (.t 15) (.t 17)), o 19 (.pick (.t 14) (.t 18) (.c (.bool false))), o 20 (.mv (.t 19)), oy 21 20 (.mv (.t 1)), oy 22 20 (.arrAddr 2 1 (.t 5) (.c (.int .i64 1))), oy 23 20 (.load false 1 (.t 22)), oy 24 20 (.cmp .leq (.sc .int) (.t 21) (.t 23)), o 25 (.pick (.t 20) (.t 24) (.c (.bool false))), o 4 (.mv (.t 25))]
abbrev net_has_p1 : List AG := [o 8 (.load false 1 (.g 0)), o 9 (.mv (.t 0)), o 10 (.lookup (.sc .int) (.agg [(.int .i64 0), (.int .i64 0)]) (.t 8) (.t 9) true), o 7 (.mv (.t 10)), o 11 (.extract (.t 7) 0), o 12 (.extract (.t 7) 1), o 5 (.alloc [(.int .i64 0), (.int .i64 0)]), q (.store 2 (.t 5) (.t 11)), o 6 (.mv (.t 12))]
abbrev net_has_p2 : List AG := [o 4 (.mv (.c (.bool false)))]
abbrev net_has : AFun := ⟨(.seq (.reg net_has_p2) (.seq (.reg net_has_p1) (.seq (.reg net_has_p0) .ret))), 26, [.tmp 4]⟩
@[simp] theorem c_net_has : cfun Tryd.prog n_net_has = some net_has := by kernel_rfl
@[simp] theorem e_net_has : hasBody Tryd.prog n_net_has = true := by kernel_rfl

/- net_rows: patchbay/net.rows -/
abbrev net_rows_p0 : List AG := [o 45 (.load false 1 (.t 8)), o 4 (.mv (.t 45)), o 5 (.mv (.c (.bool false)))]
abbrev net_rows_p1 : List AG := [o 9 (.mv (.t 40))]
abbrev net_rows_p2 : List AG := [o 41 (.load false 1 (.t 8)), o 42 (.mv (.t 9)), o 43 (.lit 1 [(.str [])] [(0, (.t 42))]), o 44 (.append 1 t_string 16 (.t 41) (.t 43)), q (.store 1 (.t 8) (.t 44))]
abbrev net_rows_p3 : ACode := (.block 2 [] (.reg net_rows_p2))
abbrev net_rows_p4 : ACode := (.rangeFunc (.t 39) [40] [O,O,O,O,I,I,O,O,I,O,O,O,O,O,O,O,O,O,O,O,O,O,O,O,O,O,O,O,O,O,O,O,O,O,O,O,O,O,O,O,O,O,O,O,O,O] (.reg net_rows_p1) net_rows_p3)
abbrev net_rows_p5 : List AG := [o 36 (.mv (.t 1)), o 37 (.mv (.t 0)), o 38 (.cmp .eql (.sc .int) (.t 37) (.c (.int .i64 8))), o 39 (.call (.f n_net_parity) [(.t 36), (.t 38)])]
abbrev net_rows_p6 : List AG := [o 8 (.alloc [(.own 1 t_string [])])]
abbrev net_rows_p7 : List AG := [o 4 (.nilrow 1 t_string), o 5 (.mv (.c (.bool false)))]
abbrev net_rows_p8 : List AG := [o 21 (.mv (.t 6)), o 22 (.lit 1 [(.str [])] [(0, (.t 21))]), o 4 (.mv (.t 22)), o 5 (.mv (.c (.bool false)))]
abbrev net_rows_p9 : List AG := [o 26 (.mv (.t 7)), o 27 (.lit 1 [(.str [])] [(0, (.t 26))]), o 4 (.mv (.t 27)), o 5 (.mv (.c (.bool false)))]
abbrev net_rows_p10 : List AG := [o 30 (.mv (.t 6)), o 31 (.lit 1 [(.str [])] [(0, (.t 30))]), o 4 (.mv (.t 31)), o 5 (.mv (.c (.bool true)))]
abbrev net_rows_p11 : List AG := [o 34 (.mv (.t 7)), o 35 (.lit 1 [(.str [])] [(0, (.t 34))]), o 4 (.mv (.t 35)), o 5 (.mv (.c (.bool true)))]
abbrev net_rows_p12 : ACode := (.seq (.reg net_rows_p11) .ret)
abbrev net_rows_p13 : List AG := [o 33 (.cmp .eql (.sc .int) (.t 14) (.c (.int .i64 6))), o 32 (.mv (.t 33))]
abbrev net_rows_p14 : ACode := (.seq (.reg net_rows_p10) .ret)
abbrev net_rows_p15 : ACode := (.seq (.reg net_rows_p13) (.cond (.t 32) net_rows_p12 .skip))
abbrev net_rows_p16 : List AG := [o 29 (.cmp .eql (.sc .int) (.t 14) (.c (.int .i64 5))), o 28 (.mv (.t 29))]
abbrev net_rows_p17 : ACode := (.seq (.reg net_rows_p9) .ret)
abbrev net_rows_p18 : ACode := (.seq (.reg net_rows_p16) (.cond (.t 28) net_rows_p14 net_rows_p15))
abbrev net_rows_p19 : List AG := [o 25 (.cmp .eql (.sc .int) (.t 14) (.c (.int .i64 7))), o 23 (.mv (.t 25))]
abbrev net_rows_p20 : List AG := [o 24 (.cmp .eql (.sc .int) (.t 14) (.c (.int .i64 3))), o 23 (.mv (.t 24))]
abbrev net_rows_p21 : ACode := (.seq (.reg net_rows_p8) .ret)
abbrev net_rows_p22 : ACode := (.seq (.seq (.reg net_rows_p20) (.cond (.t 23) .skip (.reg net_rows_p19))) (.cond (.t 23) net_rows_p17 net_rows_p18))
abbrev net_rows_p23 : List AG := [o 20 (.cmp .eql (.sc .int) (.t 14) (.c (.int .i64 4))), o 17 (.mv (.t 20))]
abbrev net_rows_p24 : List AG := [o 19 (.cmp .eql (.sc .int) (.t 14) (.c (.int .i64 2))), o 17 (.mv (.t 19))]
abbrev net_rows_p25 : ACode := (.seq (.reg net_rows_p24) (.cond (.t 17) .skip (.reg net_rows_p23)))
abbrev net_rows_p26 : List AG := [o 18 (.cmp .eql (.sc .int) (.t 14) (.c (.int .i64 1))), o 17 (.mv (.t 18))]
abbrev net_rows_p27 : ACode := (.seq (.reg net_rows_p7) .ret)
abbrev net_rows_p28 : ACode := (.seq (.seq (.reg net_rows_p26) (.cond (.t 17) .skip net_rows_p25)) (.cond (.t 17) net_rows_p21 net_rows_p22))
abbrev net_rows_p29 : List AG := [o 16 (.cmp .eql (.sc .int) (.t 14) (.c (.int .i64 0))), o 15 (.mv (.t 16))]
abbrev net_rows_p30 : ACode := (.seq (.reg net_rows_p29) (.cond (.t 15) net_rows_p27 net_rows_p28))
abbrev net_rows_p31 : List AG := [o 14 (.mv (.t 0))]
abbrev net_rows_p32 : List AG := [o 10 (.mv (.t 1)), o 11 (.call (.f n_strings_Repeat) [(.c (.str [49])), (.t 10)]), o 12 (.mv (.t 1)), o 13 (.call (.f n_strings_Repeat) [(.c (.str [48])), (.t 12)]), o 6 (.mv (.t 11)), o 7 (.mv (.t 13))]
abbrev net_rows_p33 : List AG := [o 4 (.nilrow 1 t_string), o 5 (.mv (.c (.bool false)))]
abbrev net_rows : AFun := ⟨(.seq (.reg net_rows_p33) (.seq (.reg net_rows_p32) (.seq (.seq (.reg net_rows_p31) (.block 0 [] net_rows_p30)) (.seq (.reg net_rows_p6) (.seq (.seq (.reg net_rows_p5) (.block 1 [] net_rows_p4)) (.seq (.reg net_rows_p0) .ret)))))), 46, [.tmp 4, .tmp 5]⟩
@[simp] theorem c_net_rows : cfun Tryd.prog n_net_rows = some net_rows := by kernel_rfl
@[simp] theorem e_net_rows : hasBody Tryd.prog n_net_rows = true := by kernel_rfl

/- net_Gate_1: patchbay/net.Gate$1 -/
abbrev net_Gate_1_p0 : List AG := [o 4 (.mv (.t 0)), o 5 (.off 2 (.t 1)), o 6 (.load false 1 (.t 5)), o 7 (.len (.t 6)), o 8 (.call (.f n_net_row) [(.t 4), (.t 7)]), o 9 (.not (.t 8)), o 3 (.mv (.t 9))]
abbrev net_Gate_1_p1 : List AG := [o 3 (.mv (.c (.bool false)))]
abbrev net_Gate_1 : AFun := ⟨(.seq (.reg net_Gate_1_p1) (.seq (.reg net_Gate_1_p0) .ret)), 10, [.tmp 3]⟩
@[simp] theorem c_net_Gate_1 : cfun Tryd.prog n_net_Gate_1 = some net_Gate_1 := by kernel_rfl
@[simp] theorem e_net_Gate_1 : hasBody Tryd.prog n_net_Gate_1 = true := by kernel_rfl

/- net_row: patchbay/net.row -/
abbrev net_row_p0 : List AG := [o 5 (.mv (.t 0)), o 6 (.lenStr (.t 5)), o 7 (.mv (.t 1)), o 8 (.cmp .eql (.sc .int) (.t 6) (.t 7)), o 9 (.mv (.t 8)), oy 10 9 (.mv (.t 0)), oy 11 9 (.call (.f n_strings_Trim) [(.t 10), (.c (.str [48, 49, 45]))]), oy 12 9 (.cmp .eql (.sc .str) (.t 11) (.c (.str []))), o 13 (.pick (.t 9) (.t 12) (.c (.bool false))), o 4 (.mv (.t 13))]
abbrev net_row_p1 : List AG := [o 4 (.mv (.c (.bool false)))]
abbrev net_row : AFun := ⟨(.seq (.reg net_row_p1) (.seq (.reg net_row_p0) .ret)), 14, [.tmp 4]⟩
@[simp] theorem c_net_row : cfun Tryd.prog n_net_row = some net_row := by kernel_rfl
@[simp] theorem e_net_row : hasBody Tryd.prog n_net_row = true := by kernel_rfl

/- slices_ContainsFunc_string_string: slices.ContainsFunc[[]string,string] -/
abbrev slices_ContainsFunc_string_string_p0 : List AG := [o 5 (.mv (.t 0)), o 6 (.mv (.t 1)), o 7 (.call (.f n_slices_IndexFunc_string_string) [(.t 5), (.t 6)]), o 8 (.cmp .geq (.sc .int) (.t 7) (.c (.int .i64 0))), o 4 (.mv (.t 8))]
abbrev slices_ContainsFunc_string_string_p1 : List AG := [o 4 (.mv (.c (.bool false)))]
abbrev slices_ContainsFunc_string_string : AFun := ⟨(.seq (.reg slices_ContainsFunc_string_string_p1) (.seq (.reg slices_ContainsFunc_string_string_p0) .ret)), 9, [.tmp 4]⟩
@[simp] theorem c_slices_ContainsFunc_string_string : cfun Tryd.prog n_slices_ContainsFunc_string_string = some slices_ContainsFunc_string_string := by kernel_rfl
@[simp] theorem e_slices_ContainsFunc_string_string : hasBody Tryd.prog n_slices_ContainsFunc_string_string = true := by kernel_rfl

/- r06_all: patchbay/patchbayref06.all -/
abbrev r06_all_p0 : List AG := [o 15 (.mv (.t 5)), o 4 (.mv (.t 15))]
abbrev r06_all_m1 : List Bool := [I,I,O,O,O,I,I,O,O,O,O,O,O,O,O,O]
abbrev r06_all_x1 : List Bool := [O,O,O,O,O,I,O,O,O,O,O,O,O,O,O,O]
abbrev r06_all_p2 : List AG := [o 10 (.mv (.t 6)), o 11 (.ibin .add (.t 10) (.c (.int .i64 1))), o 6 (.mv (.t 11))]
abbrev r06_all_p3 : List AG := [o 12 (.mv (.t 5)), o 13 (.mv (.t 0)), o 14 (.concat (.t 12) (.t 13)), o 5 (.mv (.t 14))]
abbrev r06_all_p4 : List AG := [o 7 (.mv (.t 6)), o 8 (.mv (.t 1)), o 9 (.cmp .lss (.sc .int) (.t 7) (.t 8))]
abbrev r06_all_b1 : ACode := (.seq (.seq (.reg r06_all_p4) (.cond (.t 9) .skip (.exit 0))) (.seq (.block 1 [] (.reg r06_all_p3)) (.reg r06_all_p2)))
abbrev r06_all_p5 : List AG := [o 6 (.mv (.c (.int .i64 0)))]
abbrev r06_all_p6 : List AG := [o 5 (.mv (.c (.str [])))]
abbrev r06_all_p7 : List AG := [o 4 (.mv (.c (.str [])))]
abbrev r06_all : AFun := ⟨(.seq (.reg r06_all_p7) (.seq (.reg r06_all_p6) (.seq (.seq (.reg r06_all_p5) (.block 0 r06_all_x1 (.loop r06_all_m1 r06_all_b1))) (.seq (.reg r06_all_p0) .ret)))), 16, [.tmp 4]⟩
abbrev r06_all_k1 : List It := [.code (.seq (.reg r06_all_p0) .ret)]
abbrev r06_all_L1 (x0 x1 x5 x6 : AV) (h : List Ob) (e : Cx := cx) : Cfg := atC n_r06_all (.code r06_all_b1 :: .inLoop r06_all_m1 r06_all_b1 :: .inBlock 0 r06_all_x1 :: r06_all_k1) [x0,x1,U,U,U,x5,x6,U,U,U,U,U,U,U,U,U] h e
abbrev r06_all_E1 (x5 : AV) (h : List Ob) (e : Cx := cx) : Cfg := atC n_r06_all r06_all_k1 [U,U,U,U,U,x5,U,U,U,U,U,U,U,U,U,U] h e
@[simp] theorem c_r06_all : cfun Tryd.prog n_r06_all = some r06_all := by kernel_rfl
@[simp] theorem e_r06_all : hasBody Tryd.prog n_r06_all = true := by kernel_rfl

/- r06_odd: patchbay/patchbayref06.odd -/
abbrev r06_odd_p0 : List AG := [o 43 (.mv (.t 5)), o 4 (.mv (.t 43))]
abbrev r06_odd_m1 : List Bool := [I,I,O,O,O,I,I,O,O,O,O,O,O,O,O,O,O,O,O,O,O,O,O,O,O,O,O,O,O,O,O,O,O,O,O,O,O,O,O,O,O,O,O,O]
abbrev r06_odd_x1 : List Bool := [O,O,O,O,O,I,O,O,O,O,O,O,O,O,O,O,O,O,O,O,O,O,O,O,O,O,O,O,O,O,O,O,O,O,O,O,O,O,O,O,O,O,O,O]
abbrev r06_odd_p2 : List AG := [o 15 (.mv (.t 6)), o 16 (.ibin .add (.t 15) (.c (.int .i64 1))), o 6 (.mv (.t 16))]
abbrev r06_odd_p3 : List AG := [o 39 (.mv (.t 5)), o 40 (.mv (.t 7)), o 41 (.lit 1 [(.str [])] [(0, (.t 40))]), o 42 (.append 1 t_string 16 (.t 39) (.t 41)), o 5 (.mv (.t 42))]
abbrev r06_odd_p4 : List AG := [o 35 (.mv (.t 8)), o 36 (.ibin .rem (.t 35) (.c (.int .i64 2))), o 37 (.mv (.t 1)), o 38 (.cmp .eql (.sc .int) (.t 36) (.t 37))]
abbrev r06_odd_m5 : List Bool := [I,I,O,O,O,I,I,I,I,I,O,O,O,O,O,O,O,O,O,O,O,O,O,O,O,O,O,O,O,O,O,O,O,O,O,O,O,O,O,O,O,O,O,O]
abbrev r06_odd_x5 : List Bool := [I,I,O,O,O,I,I,I,I,O,O,O,O,O,O,O,O,O,O,O,O,O,O,O,O,O,O,O,O,O,O,O,O,O,O,O,O,O,O,O,O,O,O,O]
abbrev r06_odd_p6 : List AG := [o 21 (.mv (.t 9)), o 22 (.ibin .sub (.t 21) (.c (.int .i64 1))), o 9 (.mv (.t 22))]
abbrev r06_odd_p7 : List AG := [o 31 (.mv (.t 8)), o 32 (.ibin .add (.t 31) (.c (.int .i64 1))), o 8 (.mv (.t 32))]
abbrev r06_odd_p8 : List AG := [o 29 (.mv (.t 7)), o 30 (.concat (.t 29) (.c (.str [49]))), o 7 (.mv (.t 30))]
abbrev r06_odd_p9 : List AG := [o 33 (.mv (.t 7)), o 34 (.concat (.t 33) (.c (.str [48]))), o 7 (.mv (.t 34))]
abbrev r06_odd_p10 : ACode := (.seq (.reg r06_odd_p8) (.reg r06_odd_p7))
abbrev r06_odd_p11 : List AG := [o 23 (.mv (.t 6)), o 24 (.mv (.t 9)), o 25 (.conv .u64 (.t 24)), o 26 (.ibin .shr (.t 23) (.t 25)), o 27 (.ibin .rem (.t 26) (.c (.int .i64 2))), o 28 (.cmp .eql (.sc .int) (.t 27) (.c (.int .i64 1)))]
abbrev r06_odd_p12 : ACode := (.seq (.reg r06_odd_p11) (.cond (.t 28) r06_odd_p10 (.reg r06_odd_p9)))
abbrev r06_odd_p13 : List AG := [o 19 (.mv (.t 9)), o 20 (.cmp .geq (.sc .int) (.t 19) (.c (.int .i64 0)))]
abbrev r06_odd_b5 : ACode := (.seq (.seq (.reg r06_odd_p13) (.cond (.t 20) .skip (.exit 2))) (.seq (.block 3 [] r06_odd_p12) (.reg r06_odd_p6)))
abbrev r06_odd_p14 : List AG := [o 17 (.mv (.t 0)), o 18 (.ibin .sub (.t 17) (.c (.int .i64 1))), o 9 (.mv (.t 18))]
abbrev r06_odd_p15 : List AG := [o 8 (.mv (.c (.int .i64 0)))]
abbrev r06_odd_p16 : List AG := [o 7 (.mv (.c (.str [])))]
abbrev r06_odd_p17 : ACode := (.seq (.reg r06_odd_p16) (.seq (.reg r06_odd_p15) (.seq (.seq (.reg r06_odd_p14) (.block 2 r06_odd_x5 (.loop r06_odd_m5 r06_odd_b5))) (.seq (.reg r06_odd_p4) (.cond (.t 38) (.reg r06_odd_p3) .skip)))))
abbrev r06_odd_p18 : List AG := [o 10 (.mv (.t 6)), o 11 (.mv (.t 0)), o 12 (.conv .u64 (.t 11)), o 13 (.ibin .shl (.c (.int .i64 1)) (.t 12)), o 14 (.cmp .lss (.sc .int) (.t 10) (.t 13))]
abbrev r06_odd_b1 : ACode := (.seq (.seq (.reg r06_odd_p18) (.cond (.t 14) .skip (.exit 0))) (.seq (.block 1 [] r06_odd_p17) (.reg r06_odd_p2)))
abbrev r06_odd_p19 : List AG := [o 6 (.mv (.c (.int .i64 0)))]
abbrev r06_odd_p20 : List AG := [o 5 (.nilrow 1 t_string)]
abbrev r06_odd_p21 : List AG := [o 4 (.nilrow 1 t_string)]
abbrev r06_odd : AFun := ⟨(.seq (.reg r06_odd_p21) (.seq (.reg r06_odd_p20) (.seq (.seq (.reg r06_odd_p19) (.block 0 r06_odd_x1 (.loop r06_odd_m1 r06_odd_b1))) (.seq (.reg r06_odd_p0) .ret)))), 44, [.tmp 4]⟩
abbrev r06_odd_k5 : List It := [.code (.seq (.reg r06_odd_p4) (.cond (.t 38) (.reg r06_odd_p3) .skip)), .inBlock 1 [], .code (.reg r06_odd_p2), .inLoop r06_odd_m1 r06_odd_b1, .inBlock 0 r06_odd_x1, .code (.seq (.reg r06_odd_p0) .ret)]
abbrev r06_odd_L5 (x0 x1 x5 x6 x7 x8 x9 : AV) (h : List Ob) (e : Cx := cx) : Cfg := atC n_r06_odd (.code r06_odd_b5 :: .inLoop r06_odd_m5 r06_odd_b5 :: .inBlock 2 r06_odd_x5 :: r06_odd_k5) [x0,x1,U,U,U,x5,x6,x7,x8,x9,U,U,U,U,U,U,U,U,U,U,U,U,U,U,U,U,U,U,U,U,U,U,U,U,U,U,U,U,U,U,U,U,U,U] h e
abbrev r06_odd_E5 (x0 x1 x5 x6 x7 x8 : AV) (h : List Ob) (e : Cx := cx) : Cfg := atC n_r06_odd r06_odd_k5 [x0,x1,U,U,U,x5,x6,x7,x8,U,U,U,U,U,U,U,U,U,U,U,U,U,U,U,U,U,U,U,U,U,U,U,U,U,U,U,U,U,U,U,U,U,U,U] h e
abbrev r06_odd_k1 : List It := [.code (.seq (.reg r06_odd_p0) .ret)]
abbrev r06_odd_L1 (x0 x1 x5 x6 : AV) (h : List Ob) (e : Cx := cx) : Cfg := atC n_r06_odd (.code r06_odd_b1 :: .inLoop r06_odd_m1 r06_odd_b1 :: .inBlock 0 r06_odd_x1 :: r06_odd_k1) [x0,x1,U,U,U,x5,x6,U,U,U,U,U,U,U,U,U,U,U,U,U,U,U,U,U,U,U,U,U,U,U,U,U,U,U,U,U,U,U,U,U,U,U,U,U] h e
abbrev r06_odd_E1 (x5 : AV) (h : List Ob) (e : Cx := cx) : Cfg := atC n_r06_odd r06_odd_k1 [U,U,U,U,U,x5,U,U,U,U,U,U,U,U,U,U,U,U,U,U,U,U,U,U,U,U,U,U,U,U,U,U,U,U,U,U,U,U,U,U,U,U,U,U] h e
@[simp] theorem c_r06_odd : cfun Tryd.prog n_r06_odd = some r06_odd := by kernel_rfl
@[simp] theorem e_r06_odd : hasBody Tryd.prog n_r06_odd = true := by kernel_rfl

/- slices_IndexFunc_api_Gate_api_Gate: slices.IndexFunc[[]patchbay/api.Gate,patchbay/api.Gate] -/
abbrev slices_IndexFunc_api_Gate_api_Gate_p0 : List AG := [o 4 (.mv (.c (.int .i64 (-1))))]
abbrev slices_IndexFunc_api_Gate_api_Gate_m1 : List Bool := [I,I,O,O,O,O,O,I,I,O,O,O,O,O,O,O,O,O,O]
abbrev slices_IndexFunc_api_Gate_api_Gate_x1 : List Bool := [O,O,O,O,O,O,O,O,O,O,O,O,O,O,O,O,O,O,O]
abbrev slices_IndexFunc_api_Gate_api_Gate_p2 : List AG := [o 18 (.ibin .add (.t 8) (.c (.int .i64 1))), o 8 (.mv (.t 18))]
abbrev slices_IndexFunc_api_Gate_api_Gate_p3 : List AG := [o 17 (.mv (.t 5)), o 4 (.mv (.t 17))]
abbrev slices_IndexFunc_api_Gate_api_Gate_p4 : ACode := (.seq (.reg slices_IndexFunc_api_Gate_api_Gate_p3) .ret)
abbrev slices_IndexFunc_api_Gate_api_Gate_p5 : List AG := [o 11 (.mv (.t 1)), o 12 (.mv (.t 0)), o 13 (.mv (.t 5)), o 14 (.ixAddr 5 (.t 12) (.t 13)), o 15 (.load true 5 (.t 14)), o 16 (.call (.t 11) [(.t 15)])]
abbrev slices_IndexFunc_api_Gate_api_Gate_p6 : List AG := [o 10 (.mv (.t 8)), o 5 (.mv (.t 10))]
abbrev slices_IndexFunc_api_Gate_api_Gate_p7 : ACode := (.seq (.reg slices_IndexFunc_api_Gate_api_Gate_p6) (.seq (.reg slices_IndexFunc_api_Gate_api_Gate_p5) (.cond (.t 16) slices_IndexFunc_api_Gate_api_Gate_p4 .skip)))
abbrev slices_IndexFunc_api_Gate_api_Gate_p8 : List AG := [o 9 (.cmp .lss (.sc .int) (.t 8) (.t 7))]
abbrev slices_IndexFunc_api_Gate_api_Gate_b1 : ACode := (.seq (.reg slices_IndexFunc_api_Gate_api_Gate_p8) (.seq (.cond (.t 9) .skip (.exit 0)) (.seq (.block 1 [] slices_IndexFunc_api_Gate_api_Gate_p7) (.reg slices_IndexFunc_api_Gate_api_Gate_p2))))
abbrev slices_IndexFunc_api_Gate_api_Gate_p9 : List AG := [o 6 (.mv (.t 0)), o 7 (.len (.t 6)), o 8 (.mv (.c (.int .i64 0)))]
abbrev slices_IndexFunc_api_Gate_api_Gate_p10 : List AG := [o 4 (.mv (.c (.int .i64 0)))]
abbrev slices_IndexFunc_api_Gate_api_Gate : AFun := ⟨(.seq (.reg slices_IndexFunc_api_Gate_api_Gate_p10) (.seq (.seq (.reg slices_IndexFunc_api_Gate_api_Gate_p9) (.block 0 slices_IndexFunc_api_Gate_api_Gate_x1 (.loop slices_IndexFunc_api_Gate_api_Gate_m1 slices_IndexFunc_api_Gate_api_Gate_b1))) (.seq (.reg slices_IndexFunc_api_Gate_api_Gate_p0) .ret))), 19, [.tmp 4]⟩
abbrev slices_IndexFunc_api_Gate_api_Gate_k1 : List It := [.code (.seq (.reg slices_IndexFunc_api_Gate_api_Gate_p0) .ret)]
abbrev slices_IndexFunc_api_Gate_api_Gate_L1 (x0 x1 x7 x8 : AV) (h : List Ob) (e : Cx := cx) : Cfg := atC n_slices_IndexFunc_api_Gate_api_Gate (.code slices_IndexFunc_api_Gate_api_Gate_b1 :: .inLoop slices_IndexFunc_api_Gate_api_Gate_m1 slices_IndexFunc_api_Gate_api_Gate_b1 :: .inBlock 0 slices_IndexFunc_api_Gate_api_Gate_x1 :: slices_IndexFunc_api_Gate_api_Gate_k1) [x0,x1,U,U,U,U,U,x7,x8,U,U,U,U,U,U,U,U,U,U] h e
abbrev slices_IndexFunc_api_Gate_api_Gate_E1 (h : List Ob) (e : Cx := cx) : Cfg := atC n_slices_IndexFunc_api_Gate_api_Gate slices_IndexFunc_api_Gate_api_Gate_k1 [U,U,U,U,U,U,U,U,U,U,U,U,U,U,U,U,U,U,U] h e
@[simp] theorem c_slices_IndexFunc_api_Gate_api_Gate : cfun Tryd.prog n_slices_IndexFunc_api_Gate_api_Gate = some slices_IndexFunc_api_Gate_api_Gate := by kernel_rfl
@[simp] theorem e_slices_IndexFunc_api_Gate_api_Gate : hasBody Tryd.prog n_slices_IndexFunc_api_Gate_api_Gate = true := by kernel_rfl

/- slices_Concat_string_string: slices.Concat[[]string,string] -/
abbrev slices_Concat_string_string_p0 : List AG := [o 35 (.mv (.t 6)), o 2 (.mv (.t 35))]
abbrev slices_Concat_string_string_m1 : List Bool := [O,O,O,O,O,O,I,O,O,O,O,O,O,O,O,O,O,O,O,O,O,O,O,O,O,I,I,I,O,O,O,O,O,O,O,O]
abbrev slices_Concat_string_string_x1 : List Bool := [O,O,O,O,O,O,I,O,O,O,O,O,O,O,O,O,O,O,O,O,O,O,O,O,O,O,O,O,O,O,O,O,O,O,O,O]
abbrev slices_Concat_string_string_p2 : List AG := [o 34 (.ibin .add (.t 27) (.c (.int .i64 1))), o 27 (.mv (.t 34))]
abbrev slices_Concat_string_string_p3 : List AG := [o 31 (.mv (.t 6)), o 32 (.mv (.t 8)), o 33 (.append 1 t_string 16 (.t 31) (.t 32)), o 6 (.mv (.t 33))]
abbrev slices_Concat_string_string_p4 : List AG := [o 29 (.ixAddr 1 (.t 25) (.t 27)), o 30 (.load false 1 (.t 29)), o 8 (.mv (.t 30))]
abbrev slices_Concat_string_string_p5 : ACode := (.seq (.reg slices_Concat_string_string_p4) (.reg slices_Concat_string_string_p3))
abbrev slices_Concat_string_string_p6 : List AG := [o 28 (.cmp .lss (.sc .int) (.t 27) (.t 26))]
abbrev slices_Concat_string_string_b1 : ACode := (.seq (.reg slices_Concat_string_string_p6) (.seq (.cond (.t 28) .skip (.exit 2)) (.seq (.block 3 [] slices_Concat_string_string_p5) (.reg slices_Concat_string_string_p2))))
abbrev slices_Concat_string_string_p7 : List AG := [o 25 (.mv (.t 0)), o 26 (.len (.t 25)), o 27 (.mv (.c (.int .i64 0)))]
abbrev slices_Concat_string_string_p8 : List AG := [o 23 (.mv (.t 3)), o 24 (.call (.f n_slices_Grow_string_string) [(.c (.list true 0 [])), (.t 23)]), o 6 (.mv (.t 24))]
abbrev slices_Concat_string_string_m9 : List Bool := [I,O,O,I,O,O,O,O,O,I,I,I,O,O,O,O,O,O,O,O,O,O,O,O,O,O,O,O,O,O,O,O,O,O,O,O]
abbrev slices_Concat_string_string_x9 : List Bool := [I,O,O,I,O,O,O,O,O,O,O,O,O,O,O,O,O,O,O,O,O,O,O,O,O,O,O,O,O,O,O,O,O,O,O,O]
abbrev slices_Concat_string_string_p10 : List AG := [o 22 (.ibin .add (.t 11) (.c (.int .i64 1))), o 11 (.mv (.t 22))]
abbrev slices_Concat_string_string_p11 : List AG := [o 21 (.mkIface t_string (.c (.str [108, 101, 110, 32, 111, 117, 116, 32, 111, 102, 32, 114, 97, 110, 103, 101]))), q (.panic (.t 21))]
abbrev slices_Concat_string_string_p12 : List AG := [o 19 (.mv (.t 3)), o 20 (.cmp .lss (.sc .int) (.t 19) (.c (.int .i64 0)))]
abbrev slices_Concat_string_string_p13 : List AG := [o 15 (.mv (.t 3)), o 16 (.mv (.t 5)), o 17 (.len (.t 16)), o 18 (.ibin .add (.t 15) (.t 17)), o 3 (.mv (.t 18))]
abbrev slices_Concat_string_string_p14 : List AG := [o 13 (.ixAddr 1 (.t 9) (.t 11)), o 14 (.load false 1 (.t 13)), o 5 (.mv (.t 14))]
abbrev slices_Concat_string_string_p15 : ACode := (.seq (.reg slices_Concat_string_string_p14) (.seq (.reg slices_Concat_string_string_p13) (.seq (.reg slices_Concat_string_string_p12) (.cond (.t 20) (.reg slices_Concat_string_string_p11) .skip))))
abbrev slices_Concat_string_string_p16 : List AG := [o 12 (.cmp .lss (.sc .int) (.t 11) (.t 10))]
abbrev slices_Concat_string_string_b9 : ACode := (.seq (.reg slices_Concat_string_string_p16) (.seq (.cond (.t 12) .skip (.exit 0)) (.seq (.block 1 [] slices_Concat_string_string_p15) (.reg slices_Concat_string_string_p10))))
abbrev slices_Concat_string_string_p17 : List AG := [o 9 (.mv (.t 0)), o 10 (.len (.t 9)), o 11 (.mv (.c (.int .i64 0)))]
abbrev slices_Concat_string_string_p18 : List AG := [o 3 (.mv (.c (.int .i64 0)))]
abbrev slices_Concat_string_string_p19 : List AG := [o 2 (.nilrow 1 t_string)]
abbrev slices_Concat_string_string : AFun := ⟨(.seq (.reg slices_Concat_string_string_p19) (.seq (.reg slices_Concat_string_string_p18) (.seq (.seq (.reg slices_Concat_string_string_p17) (.block 0 slices_Concat_string_string_x9 (.loop slices_Concat_string_string_m9 slices_Concat_string_string_b9))) (.seq (.reg slices_Concat_string_string_p8) (.seq (.seq (.reg slices_Concat_string_string_p7) (.block 2 slices_Concat_string_string_x1 (.loop slices_Concat_string_string_m1 slices_Concat_string_string_b1))) (.seq (.reg slices_Concat_string_string_p0) .ret)))))), 36, [.tmp 2]⟩
abbrev slices_Concat_string_string_k1 : List It := [.code (.seq (.reg slices_Concat_string_string_p0) .ret)]
abbrev slices_Concat_string_string_L1 (x6 x25 x26 x27 : AV) (h : List Ob) (e : Cx := cx) : Cfg := atC n_slices_Concat_string_string (.code slices_Concat_string_string_b1 :: .inLoop slices_Concat_string_string_m1 slices_Concat_string_string_b1 :: .inBlock 2 slices_Concat_string_string_x1 :: slices_Concat_string_string_k1) [U,U,U,U,U,U,x6,U,U,U,U,U,U,U,U,U,U,U,U,U,U,U,U,U,U,x25,x26,x27,U,U,U,U,U,U,U,U] h e
abbrev slices_Concat_string_string_E1 (x6 : AV) (h : List Ob) (e : Cx := cx) : Cfg := atC n_slices_Concat_string_string slices_Concat_string_string_k1 [U,U,U,U,U,U,x6,U,U,U,U,U,U,U,U,U,U,U,U,U,U,U,U,U,U,U,U,U,U,U,U,U,U,U,U,U] h e
abbrev slices_Concat_string_string_k9 : List It := [.code (.seq (.reg slices_Concat_string_string_p8) (.seq (.seq (.reg slices_Concat_string_string_p7) (.block 2 slices_Concat_string_string_x1 (.loop slices_Concat_string_string_m1 slices_Concat_string_string_b1))) (.seq (.reg slices_Concat_string_string_p0) .ret)))]
abbrev slices_Concat_string_string_L9 (x0 x3 x9 x10 x11 : AV) (h : List Ob) (e : Cx := cx) : Cfg := atC n_slices_Concat_string_string (.code slices_Concat_string_string_b9 :: .inLoop slices_Concat_string_string_m9 slices_Concat_string_string_b9 :: .inBlock 0 slices_Concat_string_string_x9 :: slices_Concat_string_string_k9) [x0,U,U,x3,U,U,U,U,U,x9,x10,x11,U,U,U,U,U,U,U,U,U,U,U,U,U,U,U,U,U,U,U,U,U,U,U,U] h e
abbrev slices_Concat_string_string_E9 (x0 x3 : AV) (h : List Ob) (e : Cx := cx) : Cfg := atC n_slices_Concat_string_string slices_Concat_string_string_k9 [x0,U,U,x3,U,U,U,U,U,U,U,U,U,U,U,U,U,U,U,U,U,U,U,U,U,U,U,U,U,U,U,U,U,U,U,U] h e
@[simp] theorem c_slices_Concat_string_string : cfun Tryd.prog n_slices_Concat_string_string = some slices_Concat_string_string := by kernel_rfl
@[simp] theorem e_slices_Concat_string_string : hasBody Tryd.prog n_slices_Concat_string_string = true := by kernel_rfl

/- ident_name_plain: (patchbay/ident.name).plain -/
abbrev ident_name_plain_p0 : List AG := [o 4 (.mv (.t 0)), o 5 (.cmp .neq (.sc .str) (.t 4) (.c (.str []))), o 6 (.mv (.t 5)), oy 7 6 (.mv (.t 0)), oy 8 6 (.lenStr (.t 7)), oy 9 6 (.cmp .leq (.sc .int) (.t 8) (.c (.int .i64 40))), o 10 (.pick (.t 6) (.t 9) (.c (.bool false))), o 11 (.mv (.t 10)), oy 12 11 (.mv (.t 0)), oy 13 11 (.mv (.t 3)), oy 14 11 (.call (.f n_strings_IndexFunc) [(.t 12), (.t 13)]), oy 15 11 (.cmp .lss (.sc .int) (.t 14) (.c (.int .i64 0))), o 16 (.pick (.t 11) (.t 15) (.c (.bool false))), o 2 (.mv (.t 16))]
abbrev ident_name_plain_p1 : List AG := [o 3 (.mv (.f n_ident_name_plain_1))]
abbrev ident_name_plain_p2 : List AG := [o 2 (.mv (.c (.bool false)))]
abbrev ident_name_plain : AFun := ⟨(.seq (.reg ident_name_plain_p2) (.seq (.reg ident_name_plain_p1) (.seq (.reg ident_name_plain_p0) .ret))), 17, [.tmp 2]⟩
@[simp] theorem c_ident_name_plain : cfun Tryd.prog n_ident_name_plain = some ident_name_plain := by kernel_rfl
@[simp] theorem e_ident_name_plain : hasBody Tryd.prog n_ident_name_plain = true := by kernel_rfl

/- r06_row: patchbay/patchbayref06.row -/
abbrev r06_row_p0 : List AG := [o 28 (.mv (.t 0)), o 29 (.lenStr (.t 28)), o 30 (.mv (.t 1)), o 31 (.cmp .eql (.sc .int) (.t 29) (.t 30)), o 4 (.mv (.t 31))]
abbrev r06_row_m1 : List Bool := [I,I,O,O,O,I,O,O,O,O,O,O,O,O,O,O,O,O,O,O,O,O,O,O,O,O,O,O,O,O,O,O]
abbrev r06_row_x1 : List Bool := [I,I,O,O,O,O,O,O,O,O,O,O,O,O,O,O,O,O,O,O,O,O,O,O,O,O,O,O,O,O,O,O]
abbrev r06_row_p2 : List AG := [o 10 (.mv (.t 5)), o 11 (.ibin .add (.t 10) (.c (.int .i64 1))), o 5 (.mv (.t 11))]
abbrev r06_row_p3 : List AG := [o 4 (.mv (.c (.bool false)))]
abbrev r06_row_p4 : ACode := (.seq (.reg r06_row_p3) .ret)
abbrev r06_row_p5 : List AG := [o 12 (.mv (.t 0)), o 13 (.mv (.t 5)), o 14 (.ixStr (.t 12) (.t 13)), o 15 (.cmp .neq (.sc .int) (.t 14) (.c (.int .u8 48))), o 16 (.mv (.t 15)), oy 17 16 (.mv (.t 0)), oy 18 16 (.mv (.t 5)), oy 19 16 (.ixStr (.t 17) (.t 18)), oy 20 16 (.cmp .neq (.sc .int) (.t 19) (.c (.int .u8 49))), o 21 (.pick (.t 16) (.t 20) (.c (.bool false))), o 22 (.mv (.t 21)), oy 23 22 (.mv (.t 0)), oy 24 22 (.mv (.t 5)), oy 25 22 (.ixStr (.t 23) (.t 24)), oy 26 22 (.cmp .neq (.sc .int) (.t 25) (.c (.int .u8 45))), o 27 (.pick (.t 22) (.t 26) (.c (.bool false)))]
abbrev r06_row_p6 : ACode := (.seq (.reg r06_row_p5) (.cond (.t 27) r06_row_p4 .skip))
abbrev r06_row_p7 : List AG := [o 6 (.mv (.t 5)), o 7 (.mv (.t 0)), o 8 (.lenStr (.t 7)), o 9 (.cmp .lss (.sc .int) (.t 6) (.t 8))]
abbrev r06_row_b1 : ACode := (.seq (.seq (.reg r06_row_p7) (.cond (.t 9) .skip (.exit 0))) (.seq (.block 1 [] r06_row_p6) (.reg r06_row_p2)))
abbrev r06_row_p8 : List AG := [o 5 (.mv (.c (.int .i64 0)))]
abbrev r06_row_p9 : List AG := [o 4 (.mv (.c (.bool false)))]
abbrev r06_row : AFun := ⟨(.seq (.reg r06_row_p9) (.seq (.seq (.reg r06_row_p8) (.block 0 r06_row_x1 (.loop r06_row_m1 r06_row_b1))) (.seq (.reg r06_row_p0) .ret))), 32, [.tmp 4]⟩
abbrev r06_row_k1 : List It := [.code (.seq (.reg r06_row_p0) .ret)]
abbrev r06_row_L1 (x0 x1 x5 : AV) (h : List Ob) (e : Cx := cx) : Cfg := atC n_r06_row (.code r06_row_b1 :: .inLoop r06_row_m1 r06_row_b1 :: .inBlock 0 r06_row_x1 :: r06_row_k1) [x0,x1,U,U,U,x5,U,U,U,U,U,U,U,U,U,U,U,U,U,U,U,U,U,U,U,U,U,U,U,U,U,U] h e
abbrev r06_row_E1 (x0 x1 : AV) (h : List Ob) (e : Cx := cx) : Cfg := atC n_r06_row r06_row_k1 [x0,x1,U,U,U,U,U,U,U,U,U,U,U,U,U,U,U,U,U,U,U,U,U,U,U,U,U,U,U,U,U,U] h e
@[simp] theorem c_r06_row : cfun Tryd.prog n_r06_row = some r06_row := by kernel_rfl
@[simp] theorem e_r06_row : hasBody Tryd.prog n_r06_row = true := by kernel_rfl

/- strings_Repeat: strings.Repeat -/
@[simp] theorem e_strings_Repeat : hasBody Tryd.prog n_strings_Repeat = true := by kernel_rfl

/- net_parity: patchbay/net.parity -/
abbrev net_parity_p0 : List AG := [o 5 (.mkFunc (.func n_net_parity_1) [] [(.t 2), (.t 3)]), o 4 (.mv (.t 5))]
abbrev net_parity_p1 : List AG := [o 2 (.box 1 (.t 0)), o 3 (.box 1 (.t 1)), o 4 (.mv (.c .nilf))]
abbrev net_parity : AFun := ⟨(.seq (.reg net_parity_p1) (.seq (.reg net_parity_p0) .ret)), 6, [.tmp 4]⟩
@[simp] theorem c_net_parity : cfun Tryd.prog n_net_parity = some net_parity := by kernel_rfl
@[simp] theorem e_net_parity : hasBody Tryd.prog n_net_parity = true := by kernel_rfl

/- strings_Trim: strings.Trim -/
@[simp] theorem e_strings_Trim : hasBody Tryd.prog n_strings_Trim = true := by kernel_rfl

/- slices_IndexFunc_string_string: slices.IndexFunc[[]string,string] -/
abbrev slices_IndexFunc_string_string_p0 : List AG := [o 4 (.mv (.c (.int .i64 (-1))))]
abbrev slices_IndexFunc_string_string_m1 : List Bool := [I,I,O,O,O,O,O,I,I,O,O,O,O,O,O,O,O,O,O]
abbrev slices_IndexFunc_string_string_x1 : List Bool := [O,O,O,O,O,O,O,O,O,O,O,O,O,O,O,O,O,O,O]
abbrev slices_IndexFunc_string_string_p2 : List AG := [o 18 (.ibin .add (.t 8) (.c (.int .i64 1))), o 8 (.mv (.t 18))]
abbrev slices_IndexFunc_string_string_p3 : List AG := [o 17 (.mv (.t 5)), o 4 (.mv (.t 17))]
abbrev slices_IndexFunc_string_string_p4 : ACode := (.seq (.reg slices_IndexFunc_string_string_p3) .ret)
abbrev slices_IndexFunc_string_string_p5 : List AG := [o 11 (.mv (.t 1)), o 12 (.mv (.t 0)), o 13 (.mv (.t 5)), o 14 (.ixAddr 1 (.t 12) (.t 13)), o 15 (.load false 1 (.t 14)), o 16 (.call (.t 11) [(.t 15)])]
abbrev slices_IndexFunc_string_string_p6 : List AG := [o 10 (.mv (.t 8)), o 5 (.mv (.t 10))]
abbrev slices_IndexFunc_string_string_p7 : ACode := (.seq (.reg slices_IndexFunc_string_string_p6) (.seq (.reg slices_IndexFunc_string_string_p5) (.cond (.t 16) slices_IndexFunc_string_string_p4 .skip)))
abbrev slices_IndexFunc_string_string_p8 : List AG := [o 9 (.cmp .lss (.sc .int) (.t 8) (.t 7))]
abbrev slices_IndexFunc_string_string_b1 : ACode := (.seq (.reg slices_IndexFunc_string_string_p8) (.seq (.cond (.t 9) .skip (.exit 0)) (.seq (.block 1 [] slices_IndexFunc_string_string_p7) (.reg slices_IndexFunc_string_string_p2))))
abbrev slices_IndexFunc_string_string_p9 : List AG := [o 6 (.mv (.t 0)), o 7 (.len (.t 6)), o 8 (.mv (.c (.int .i64 0)))]
abbrev slices_IndexFunc_string_string_p10 : List AG := [o 4 (.mv (.c (.int .i64 0)))]
abbrev slices_IndexFunc_string_string : AFun := ⟨(.seq (.reg slices_IndexFunc_string_string_p10) (.seq (.seq (.reg slices_IndexFunc_string_string_p9) (.block 0 slices_IndexFunc_string_string_x1 (.loop slices_IndexFunc_string_string_m1 slices_IndexFunc_string_string_b1))) (.seq (.reg slices_IndexFunc_string_string_p0) .ret))), 19, [.tmp 4]⟩
abbrev slices_IndexFunc_string_string_k1 : List It := [.code (.seq (.reg slices_IndexFunc_string_string_p0) .ret)]
abbrev slices_IndexFunc_string_string_L1 (x0 x1 x7 x8 : AV) (h : List Ob) (e : Cx := cx) : Cfg := atC n_slices_IndexFunc_string_string (.code slices_IndexFunc_string_string_b1 :: .inLoop slices_IndexFunc_string_string_m1 slices_IndexFunc_string_string_b1 :: .inBlock 0 slices_IndexFunc_string_string_x1 :: slices_IndexFunc_string_string_k1) [x0,x1,U,U,U,U,U,x7,x8,U,U,U,U,U,U,U,U,U,U] h e
abbrev slices_IndexFunc_string_string_E1 (h : List Ob) (e : Cx := cx) : Cfg := atC n_slices_IndexFunc_string_string slices_IndexFunc_string_string_k1 [U,U,U,U,U,U,U,U,U,U,U,U,U,U,U,U,U,U,U] h e
@[simp] theorem c_slices_IndexFunc_string_string : cfun Tryd.prog n_slices_IndexFunc_string_string = some slices_IndexFunc_string_string := by kernel_rfl
@[simp] theorem e_slices_IndexFunc_string_string : hasBody Tryd.prog n_slices_IndexFunc_string_string = true := by kernel_rfl

/- slices_Grow_string_string: slices.Grow[[]string,string] -/
abbrev slices_Grow_string_string_p0 : List AG := [o 26 (.mv (.t 0)), o 4 (.mv (.t 26))]
abbrev slices_Grow_string_string_p1 : List AG := [o 17 (.mv (.t 0)), o 18 (.mv (.t 0)), o 19 (.cap (.t 18)), o 20 (.slice 1 (.t 17) none (some (.t 19))), o 21 (.mv (.t 1)), o 22 (.appendZ 1 t_string 16 (.str []) (.t 20) (.t 21)), o 23 (.mv (.t 0)), o 24 (.len (.t 23)), o 25 (.slice 1 (.t 22) none (some (.t 24))), o 0 (.mv (.t 25))]
abbrev slices_Grow_string_string_p2 : List AG := [o 15 (.mv (.t 1)), o 16 (.cmp .gtr (.sc .int) (.t 15) (.c (.int .i64 0)))]
abbrev slices_Grow_string_string_p3 : List AG := [o 8 (.mv (.t 1)), o 9 (.mv (.t 0)), o 10 (.cap (.t 9)), o 11 (.mv (.t 0)), o 12 (.len (.t 11)), o 13 (.ibin .sub (.t 10) (.t 12)), o 14 (.ibin .sub (.t 8) (.t 13)), o 1 (.mv (.t 14))]
abbrev slices_Grow_string_string_p4 : List AG := [o 7 (.mkIface t_string (.c (.str [99, 97, 110, 110, 111, 116, 32, 98, 101, 32, 110, 101, 103, 97, 116, 105, 118, 101]))), q (.panic (.t 7))]
abbrev slices_Grow_string_string_p5 : List AG := [o 5 (.mv (.t 1)), o 6 (.cmp .lss (.sc .int) (.t 5) (.c (.int .i64 0)))]
abbrev slices_Grow_string_string_p6 : List AG := [o 4 (.nilrow 1 t_string)]
abbrev slices_Grow_string_string : AFun := ⟨(.seq (.reg slices_Grow_string_string_p6) (.seq (.seq (.reg slices_Grow_string_string_p5) (.cond (.t 6) (.reg slices_Grow_string_string_p4) .skip)) (.seq (.seq (.reg slices_Grow_string_string_p3) (.seq (.reg slices_Grow_string_string_p2) (.cond (.t 16) (.reg slices_Grow_string_string_p1) .skip))) (.seq (.reg slices_Grow_string_string_p0) .ret)))), 27, [.tmp 4]⟩
@[simp] theorem c_slices_Grow_string_string : cfun Tryd.prog n_slices_Grow_string_string = some slices_Grow_string_string := by kernel_rfl
@[simp] theorem e_slices_Grow_string_string : hasBody Tryd.prog n_slices_Grow_string_string = true := by kernel_rfl

/- ident_name_plain_1: (patchbay/ident.name).plain$1 -/
abbrev ident_name_plain_1_p0 : List AG := [o 3 (.mv (.t 0)), o 4 (.cmp .leq (.sc .int) (.t 3) (.c (.int .i32 32))), o 5 (.mv (.t 4)), on 6 5 (.mv (.t 0)), on 7 5 (.cmp .gtr (.sc .int) (.t 6) (.c (.int .i32 126))), o 8 (.pick (.t 5) (.c (.bool true)) (.t 7)), o 2 (.mv (.t 8))]
abbrev ident_name_plain_1_p1 : List AG := [o 2 (.mv (.c (.bool false)))]
abbrev ident_name_plain_1 : AFun := ⟨(.seq (.reg ident_name_plain_1_p1) (.seq (.reg ident_name_plain_1_p0) .ret)), 9, [.tmp 2]⟩
@[simp] theorem c_ident_name_plain_1 : cfun Tryd.prog n_ident_name_plain_1 = some ident_name_plain_1 := by kernel_rfl
@[simp] theorem e_ident_name_plain_1 : hasBody Tryd.prog n_ident_name_plain_1 = true := by kernel_rfl

/- strings_IndexFunc: strings.IndexFunc -/
abbrev strings_IndexFunc_p0 : List AG := [o 5 (.mv (.t 0)), o 6 (.mv (.t 1)), o 7 (.call (.f n_strings_indexFunc) [(.t 5), (.t 6), (.c (.bool true))]), o 4 (.mv (.t 7))]
abbrev strings_IndexFunc_p1 : List AG := [o 4 (.mv (.c (.int .i64 0)))]
abbrev strings_IndexFunc : AFun := ⟨(.seq (.reg strings_IndexFunc_p1) (.seq (.reg strings_IndexFunc_p0) .ret)), 8, [.tmp 4]⟩
@[simp] theorem c_strings_IndexFunc : cfun Tryd.prog n_strings_IndexFunc = some strings_IndexFunc := by kernel_rfl
@[simp] theorem e_strings_IndexFunc : hasBody Tryd.prog n_strings_IndexFunc = true := by kernel_rfl

/- math_bits_Mul: math/bits.Mul -/
@[simp] theorem e_math_bits_Mul : hasBody Tryd.prog n_math_bits_Mul = true := by kernel_rfl

/- strings_HasPrefix: strings.HasPrefix -/
@[simp] theorem e_strings_HasPrefix : hasBody Tryd.prog n_strings_HasPrefix = true := by kernel_rfl

/- strings_Builder_Grow: (*strings.Builder).Grow -/
@[simp] theorem e_strings_Builder_Grow : hasBody Tryd.prog n_strings_Builder_Grow = true := by kernel_rfl

/- strings_Builder_WriteString: (*strings.Builder).WriteString -/
@[simp] theorem e_strings_Builder_WriteString : hasBody Tryd.prog n_strings_Builder_WriteString = true := by kernel_rfl

/- strings_Builder_Len: (*strings.Builder).Len -/
@[simp] theorem e_strings_Builder_Len : hasBody Tryd.prog n_strings_Builder_Len = true := by kernel_rfl

/- strings_Builder_String: (*strings.Builder).String HAS BAD -/
@[simp] theorem e_strings_Builder_String : hasBody Tryd.prog n_strings_Builder_String = true := by kernel_rfl

/- net_parity_1: patchbay/net.parity$1 -/
abbrev net_parity_1_m0 : List Bool := [I,I,I,O,O,O,O,O,I,I,O,O,O,O,O,O,O,O,O,O,O,O,O,O,O,O,O,O,O,O,O,O,O,O,O,O,O,O,O,O,O,O,O,O,O]
abbrev net_parity_1_x0 : List Bool := [O,O,O,O,O,O,O,O,O,O,O,O,O,O,O,O,O,O,O,O,O,O,O,O,O,O,O,O,O,O,O,O,O,O,O,O,O,O,O,O,O,O,O,O,O]
abbrev net_parity_1_p1 : List AG := [o 44 (.ibin .add (.t 9) (.c (.int .i64 1))), o 9 (.mv (.t 44))]
abbrev net_parity_1_p2 : List AG := [o 39 (.mv (.t 0)), o 40 (.mv (.t 5)), o 41 (.toStr (.t 40)), o 42 (.call (.t 39) [(.t 41)]), o 43 (.not (.t 42))]
abbrev net_parity_1_m3 : List Bool := [I,I,I,O,I,I,O,O,I,I,O,O,O,O,O,O,O,O,O,O,O,O,I,I,O,O,O,O,O,O,O,O,O,O,O,O,O,O,O,O,O,O,O,O,O]
abbrev net_parity_1_x3 : List Bool := [I,I,I,O,O,I,O,O,I,I,O,O,O,O,O,O,O,O,O,O,O,O,O,O,O,O,O,O,O,O,O,O,O,O,O,O,O,O,O,O,O,O,O,O,O]
abbrev net_parity_1_p4 : List AG := [o 38 (.ibin .add (.t 23) (.c (.int .i64 1))), o 23 (.mv (.t 38))]
abbrev net_parity_1_p5 : List AG := [o 26 (.mv (.t 5)), o 27 (.mv (.t 6)), o 28 (.mv (.t 4)), o 29 (.load false 1 (.t 1)), o 30 (.ibin .sub (.t 29) (.c (.int .i64 1))), o 31 (.mv (.t 6)), o 32 (.ibin .sub (.t 30) (.t 31)), o 33 (.ibin .shr (.t 28) (.t 32)), o 34 (.ibin .and (.t 33) (.c (.int .i64 1))), o 35 (.conv .u8 (.t 34)), o 36 (.ibin .add (.c (.int .u8 48)) (.t 35)), o 37 (.ixAddr 1 (.t 26) (.t 27)), q (.store 1 (.t 37) (.t 36))]
abbrev net_parity_1_p6 : List AG := [o 25 (.mv (.t 23)), o 6 (.mv (.t 25))]
abbrev net_parity_1_p7 : ACode := (.seq (.reg net_parity_1_p6) (.reg net_parity_1_p5))
abbrev net_parity_1_p8 : List AG := [o 24 (.cmp .lss (.sc .int) (.t 23) (.t 22))]
abbrev net_parity_1_b3 : ACode := (.seq (.reg net_parity_1_p8) (.seq (.cond (.t 24) .skip (.exit 2)) (.seq (.block 3 [] net_parity_1_p7) (.reg net_parity_1_p4))))
abbrev net_parity_1_p9 : List AG := [o 21 (.mv (.t 5)), o 22 (.len (.t 21)), o 23 (.mv (.c (.int .i64 0)))]
abbrev net_parity_1_p10 : List AG := [o 19 (.load false 1 (.t 1)), o 20 (.mkSlice 1 t_uint8 1 (.int .u8 0) (.t 19) (.t 19)), o 5 (.mv (.t 20))]
abbrev net_parity_1_p11 : List AG := [o 12 (.mv (.t 4)), o 13 (.conv .u64 (.t 12)), o 14 (.call (.f n_math_bits_OnesCount) [(.t 13)]), o 15 (.ibin .rem (.t 14) (.c (.int .i64 2))), o 16 (.cmp .eql (.sc .int) (.t 15) (.c (.int .i64 1))), o 17 (.load false 1 (.t 2)), o 18 (.cmp .neq (.sc .bool) (.t 16) (.t 17))]
abbrev net_parity_1_p12 : List AG := [o 11 (.mv (.t 9)), o 4 (.mv (.t 11))]
abbrev net_parity_1_p13 : ACode := (.seq (.reg net_parity_1_p12) (.seq (.seq (.dreg [O,O,O,O,O,I,O] [3,3,8,8,8,8,8] net_parity_1_p11) (.cond (.t 18) (.exit 1) .skip)) (.seq (.reg net_parity_1_p10) (.seq (.seq (.reg net_parity_1_p9) (.block 2 net_parity_1_x3 (.loop net_parity_1_m3 net_parity_1_b3))) (.seq (.reg net_parity_1_p2) (.cond (.t 43) .ret .skip))))))
abbrev net_parity_1_p14 : List AG := [o 10 (.cmp .lss (.sc .int) (.t 9) (.t 8))]
abbrev net_parity_1_b0 : ACode := (.seq (.reg net_parity_1_p14) (.seq (.cond (.t 10) .skip (.exit 0)) (.seq (.block 1 [] net_parity_1_p13) (.reg net_parity_1_p1))))
abbrev net_parity_1_p15 : List AG := [o 7 (.load false 1 (.t 1)), o 8 (.ibin .shl (.c (.int .i64 1)) (.t 7)), o 9 (.mv (.c (.int .i64 0)))]
abbrev net_parity_1 : AFun := ⟨(.seq (.reg net_parity_1_p15) (.block 0 net_parity_1_x0 (.loop net_parity_1_m0 net_parity_1_b0))), 45, []⟩
abbrev net_parity_1_k3 : List It := [.code (.seq (.reg net_parity_1_p2) (.cond (.t 43) .ret .skip)), .inBlock 1 [], .code (.reg net_parity_1_p1), .inLoop net_parity_1_m0 net_parity_1_b0, .inBlock 0 net_parity_1_x0]
abbrev net_parity_1_L3 (x0 x1 x2 x4 x5 x8 x9 x22 x23 : AV) (h : List Ob) (e : Cx := cx) : Cfg := atC n_net_parity_1 (.code net_parity_1_b3 :: .inLoop net_parity_1_m3 net_parity_1_b3 :: .inBlock 2 net_parity_1_x3 :: net_parity_1_k3) [x0,x1,x2,U,x4,x5,U,U,x8,x9,U,U,U,U,U,U,U,U,U,U,U,U,x22,x23,U,U,U,U,U,U,U,U,U,U,U,U,U,U,U,U,U,U,U,U,U] h e
abbrev net_parity_1_E3 (x0 x1 x2 x5 x8 x9 : AV) (h : List Ob) (e : Cx := cx) : Cfg := atC n_net_parity_1 net_parity_1_k3 [x0,x1,x2,U,U,x5,U,U,x8,x9,U,U,U,U,U,U,U,U,U,U,U,U,U,U,U,U,U,U,U,U,U,U,U,U,U,U,U,U,U,U,U,U,U,U,U] h e
abbrev net_parity_1_k0 : List It := []
abbrev net_parity_1_L0 (x0 x1 x2 x8 x9 : AV) (h : List Ob) (e : Cx := cx) : Cfg := atC n_net_parity_1 (.code net_parity_1_b0 :: .inLoop net_parity_1_m0 net_parity_1_b0 :: .inBlock 0 net_parity_1_x0 :: net_parity_1_k0) [x0,x1,x2,U,U,U,U,U,x8,x9,U,U,U,U,U,U,U,U,U,U,U,U,U,U,U,U,U,U,U,U,U,U,U,U,U,U,U,U,U,U,U,U,U,U,U] h e
abbrev net_parity_1_E0 (h : List Ob) (e : Cx := cx) : Cfg := atC n_net_parity_1 net_parity_1_k0 [U,U,U,U,U,U,U,U,U,U,U,U,U,U,U,U,U,U,U,U,U,U,U,U,U,U,U,U,U,U,U,U,U,U,U,U,U,U,U,U,U,U,U,U,U] h e
@[simp] theorem c_net_parity_1 : cfun Tryd.prog n_net_parity_1 = some net_parity_1 := by kernel_rfl
@[simp] theorem e_net_parity_1 : hasBody Tryd.prog n_net_parity_1 = true := by kernel_rfl

/- math_bits_OnesCount: math/bits.OnesCount -/
abbrev math_bits_OnesCount_p0 : List AG := [o 6 (.mv (.t 0)), o 7 (.call (.f n_math_bits_OnesCount64) [(.t 6)]), o 2 (.mv (.t 7))]
abbrev math_bits_OnesCount_p1 : List AG := [o 3 (.mv (.t 0)), o 4 (.conv .u32 (.t 3)), o 5 (.call (.f n_math_bits_OnesCount32) [(.t 4)]), o 2 (.mv (.t 5))]
abbrev math_bits_OnesCount_p2 : ACode := (.seq (.reg math_bits_OnesCount_p1) .ret)
abbrev math_bits_OnesCount_p3 : List AG := [o 2 (.mv (.c (.int .i64 0)))]
abbrev math_bits_OnesCount : AFun := ⟨(.seq (.reg math_bits_OnesCount_p3) (.seq (.cond (.c (.bool false)) math_bits_OnesCount_p2 .skip) (.seq (.reg math_bits_OnesCount_p0) .ret))), 8, [.tmp 2]⟩
@[simp] theorem c_math_bits_OnesCount : cfun Tryd.prog n_math_bits_OnesCount = some math_bits_OnesCount := by kernel_rfl
@[simp] theorem e_math_bits_OnesCount : hasBody Tryd.prog n_math_bits_OnesCount = true := by kernel_rfl

/- strings_trimLeftByte: strings.trimLeftByte -/
@[simp] theorem e_strings_trimLeftByte : hasBody Tryd.prog n_strings_trimLeftByte = true := by kernel_rfl

/- strings_trimRightByte: strings.trimRightByte -/
@[simp] theorem e_strings_trimRightByte : hasBody Tryd.prog n_strings_trimRightByte = true := by kernel_rfl

/- strings_makeASCIISet: strings.makeASCIISet -/
@[simp] theorem e_strings_makeASCIISet : hasBody Tryd.prog n_strings_makeASCIISet = true := by kernel_rfl

/- strings_trimLeftASCII: strings.trimLeftASCII -/
@[simp] theorem e_strings_trimLeftASCII : hasBody Tryd.prog n_strings_trimLeftASCII = true := by kernel_rfl

/- strings_trimRightASCII: strings.trimRightASCII -/
@[simp] theorem e_strings_trimRightASCII : hasBody Tryd.prog n_strings_trimRightASCII = true := by kernel_rfl

/- strings_trimLeftUnicode: strings.trimLeftUnicode -/
@[simp] theorem e_strings_trimLeftUnicode : hasBody Tryd.prog n_strings_trimLeftUnicode = true := by kernel_rfl

/- strings_trimRightUnicode: strings.trimRightUnicode -/
@[simp] theorem e_strings_trimRightUnicode : hasBody Tryd.prog n_strings_trimRightUnicode = true := by kernel_rfl

/- strings_indexFunc: strings.indexFunc -/
abbrev strings_indexFunc_p0 : List AG := [o 6 (.mv (.c (.int .i64 (-1))))]
abbrev strings_indexFunc_m1 : List Bool := [O,I,I,O,O,O,O,O,O,O,I,O,O,O,O,O,O,O,O,O,O]
abbrev strings_indexFunc_x1 : List Bool := [O,O,O,O,O,O,O,O,O,O,O,O,O,O,O,O,O,O,O,O,O]
abbrev strings_indexFunc_p2 : List AG := [o 20 (.mv (.t 7)), o 6 (.mv (.t 20))]
abbrev strings_indexFunc_p3 : ACode := (.seq (.reg strings_indexFunc_p2) .ret)
abbrev strings_indexFunc_p4 : List AG := [o 15 (.mv (.t 1)), o 16 (.mv (.t 8)), o 17 (.call (.t 15) [(.t 16)]), o 18 (.mv (.t 2)), o 19 (.cmp .eql (.sc .bool) (.t 17) (.t 18))]
abbrev strings_indexFunc_p5 : List AG := [o 13 (.extract (.t 11) 1), o 14 (.extract (.t 11) 2), o 7 (.mv (.t 13)), o 8 (.mv (.t 14))]
abbrev strings_indexFunc_p6 : ACode := (.seq (.reg strings_indexFunc_p5) (.seq (.reg strings_indexFunc_p4) (.cond (.t 19) strings_indexFunc_p3 .skip)))
abbrev strings_indexFunc_p7 : List AG := [o 11 (.next (.t 10)), o 12 (.extract (.t 11) 0)]
abbrev strings_indexFunc_b1 : ACode := (.seq (.reg strings_indexFunc_p7) (.seq (.cond (.t 12) .skip (.exit 0)) (.block 1 [] strings_indexFunc_p6)))
abbrev strings_indexFunc_p8 : List AG := [o 9 (.mv (.t 0)), o 10 (.range (.t 9))]
abbrev strings_indexFunc_p9 : List AG := [o 6 (.mv (.c (.int .i64 0)))]
abbrev strings_indexFunc : AFun := ⟨(.seq (.reg strings_indexFunc_p9) (.seq (.seq (.reg strings_indexFunc_p8) (.block 0 strings_indexFunc_x1 (.loop strings_indexFunc_m1 strings_indexFunc_b1))) (.seq (.reg strings_indexFunc_p0) .ret))), 21, [.tmp 6]⟩
abbrev strings_indexFunc_k1 : List It := [.code (.seq (.reg strings_indexFunc_p0) .ret)]
abbrev strings_indexFunc_L1 (x1 x2 x10 : AV) (h : List Ob) (e : Cx := cx) : Cfg := atC n_strings_indexFunc (.code strings_indexFunc_b1 :: .inLoop strings_indexFunc_m1 strings_indexFunc_b1 :: .inBlock 0 strings_indexFunc_x1 :: strings_indexFunc_k1) [U,x1,x2,U,U,U,U,U,U,U,x10,U,U,U,U,U,U,U,U,U,U] h e
abbrev strings_indexFunc_E1 (h : List Ob) (e : Cx := cx) : Cfg := atC n_strings_indexFunc strings_indexFunc_k1 [U,U,U,U,U,U,U,U,U,U,U,U,U,U,U,U,U,U,U,U,U] h e
@[simp] theorem c_strings_indexFunc : cfun Tryd.prog n_strings_indexFunc = some strings_indexFunc := by kernel_rfl
@[simp] theorem e_strings_indexFunc : hasBody Tryd.prog n_strings_indexFunc = true := by kernel_rfl

/- math_bits_Mul32: math/bits.Mul32 -/
@[simp] theorem e_math_bits_Mul32 : hasBody Tryd.prog n_math_bits_Mul32 = true := by kernel_rfl

/- math_bits_Mul64: math/bits.Mul64 -/
@[simp] theorem e_math_bits_Mul64 : hasBody Tryd.prog n_math_bits_Mul64 = true := by kernel_rfl

/- stringslite_HasPrefix: internal/stringslite.HasPrefix -/
@[simp] theorem e_stringslite_HasPrefix : hasBody Tryd.prog n_stringslite_HasPrefix = true := by kernel_rfl

/- strings_Builder_copyCheck: (*strings.Builder).copyCheck HAS BAD -/
@[simp] theorem e_strings_Builder_copyCheck : hasBody Tryd.prog n_strings_Builder_copyCheck = true := by kernel_rfl

/- strings_Builder_grow: (*strings.Builder).grow HAS BAD -/
@[simp] theorem e_strings_Builder_grow : hasBody Tryd.prog n_strings_Builder_grow = true := by kernel_rfl

/- math_bits_OnesCount32: math/bits.OnesCount32 -/
@[simp] theorem e_math_bits_OnesCount32 : hasBody Tryd.prog n_math_bits_OnesCount32 = true := by kernel_rfl

/- math_bits_OnesCount64: math/bits.OnesCount64 -/
abbrev math_bits_OnesCount64_p0 : List AG := [o 32 (.mv (.t 0)), o 33 (.conv .i64 (.t 32)), o 34 (.ibin .and (.t 33) (.c (.int .i64 127))), o 2 (.mv (.t 34))]
abbrev math_bits_OnesCount64_p1 : List AG := [o 28 (.mv (.t 0)), o 29 (.mv (.t 0)), o 30 (.ibin .shr (.t 29) (.c (.int .u64 32))), o 31 (.ibin .add (.t 28) (.t 30)), o 0 (.mv (.t 31))]
abbrev math_bits_OnesCount64_p2 : List AG := [o 24 (.mv (.t 0)), o 25 (.mv (.t 0)), o 26 (.ibin .shr (.t 25) (.c (.int .u64 16))), o 27 (.ibin .add (.t 24) (.t 26)), o 0 (.mv (.t 27))]
abbrev math_bits_OnesCount64_p3 : List AG := [o 20 (.mv (.t 0)), o 21 (.mv (.t 0)), o 22 (.ibin .shr (.t 21) (.c (.int .u64 8))), o 23 (.ibin .add (.t 20) (.t 22)), o 0 (.mv (.t 23))]
abbrev math_bits_OnesCount64_p4 : List AG := [o 15 (.mv (.t 0)), o 16 (.ibin .shr (.t 15) (.c (.int .u64 4))), o 17 (.mv (.t 0)), o 18 (.ibin .add (.t 16) (.t 17)), o 19 (.ibin .and (.t 18) (.c (.int .u64 1085102592571150095))), o 0 (.mv (.t 19))]
abbrev math_bits_OnesCount64_p5 : List AG := [o 9 (.mv (.t 0)), o 10 (.ibin .shr (.t 9) (.c (.int .u64 2))), o 11 (.ibin .and (.t 10) (.c (.int .u64 3689348814741910323))), o 12 (.mv (.t 0)), o 13 (.ibin .and (.t 12) (.c (.int .u64 3689348814741910323))), o 14 (.ibin .add (.t 11) (.t 13)), o 0 (.mv (.t 14))]
abbrev math_bits_OnesCount64_p6 : List AG := [o 3 (.mv (.t 0)), o 4 (.ibin .shr (.t 3) (.c (.int .u64 1))), o 5 (.ibin .and (.t 4) (.c (.int .u64 6148914691236517205))), o 6 (.mv (.t 0)), o 7 (.ibin .and (.t 6) (.c (.int .u64 6148914691236517205))), o 8 (.ibin .add (.t 5) (.t 7)), o 0 (.mv (.t 8))]
abbrev math_bits_OnesCount64_p7 : List AG := [o 2 (.mv (.c (.int .i64 0)))]
abbrev math_bits_OnesCount64 : AFun := ⟨(.seq (.reg math_bits_OnesCount64_p7) (.seq (.reg math_bits_OnesCount64_p6) (.seq (.reg math_bits_OnesCount64_p5) (.seq (.reg math_bits_OnesCount64_p4) (.seq (.reg math_bits_OnesCount64_p3) (.seq (.reg math_bits_OnesCount64_p2) (.seq (.reg math_bits_OnesCount64_p1) (.seq (.reg math_bits_OnesCount64_p0) .ret)))))))), 35, [.tmp 2]⟩
@[simp] theorem c_math_bits_OnesCount64 : cfun Tryd.prog n_math_bits_OnesCount64 = some math_bits_OnesCount64 := by kernel_rfl
@[simp] theorem e_math_bits_OnesCount64 : hasBody Tryd.prog n_math_bits_OnesCount64 = true := by kernel_rfl

/- strings_asciiSet_contains: (*strings.asciiSet).contains -/
@[simp] theorem e_strings_asciiSet_contains : hasBody Tryd.prog n_strings_asciiSet_contains = true := by kernel_rfl

/- unicode_utf8_DecodeRuneInString: unicode/utf8.DecodeRuneInString -/
@[simp] theorem e_unicode_utf8_DecodeRuneInString : hasBody Tryd.prog n_unicode_utf8_DecodeRuneInString = true := by kernel_rfl

/- strings_ContainsRune: strings.ContainsRune -/
@[simp] theorem e_strings_ContainsRune : hasBody Tryd.prog n_strings_ContainsRune = true := by kernel_rfl

/- unicode_utf8_DecodeLastRuneInString: unicode/utf8.DecodeLastRuneInString -/
@[simp] theorem e_unicode_utf8_DecodeLastRuneInString : hasBody Tryd.prog n_unicode_utf8_DecodeLastRuneInString = true := by kernel_rfl

/- unicode_utf8_decodeRuneInStringSlow: unicode/utf8.decodeRuneInStringSlow -/
@[simp] theorem e_unicode_utf8_decodeRuneInStringSlow : hasBody Tryd.prog n_unicode_utf8_decodeRuneInStringSlow = true := by kernel_rfl

/- strings_IndexRune: strings.IndexRune HAS BAD -/
@[simp] theorem e_strings_IndexRune : hasBody Tryd.prog n_strings_IndexRune = true := by kernel_rfl

/- unicode_utf8_RuneStart: unicode/utf8.RuneStart -/
@[simp] theorem e_unicode_utf8_RuneStart : hasBody Tryd.prog n_unicode_utf8_RuneStart = true := by kernel_rfl

/- strings_IndexByte: strings.IndexByte -/
@[simp] theorem e_strings_IndexByte : hasBody Tryd.prog n_strings_IndexByte = true := by kernel_rfl

/- unicode_utf8_ValidRune: unicode/utf8.ValidRune -/
@[simp] theorem e_unicode_utf8_ValidRune : hasBody Tryd.prog n_unicode_utf8_ValidRune = true := by kernel_rfl

/- bytealg_Cutover: internal/bytealg.Cutover -/
@[simp] theorem e_bytealg_Cutover : hasBody Tryd.prog n_bytealg_Cutover = true := by kernel_rfl

/- stringslite_IndexByte: internal/stringslite.IndexByte -/
@[simp] theorem e_stringslite_IndexByte : hasBody Tryd.prog n_stringslite_IndexByte = true := by kernel_rfl

/- gosem_cut_vars: gosem.cut.vars -/
abbrev gosem_cut_vars_p0 : List AG := [o 27 (.load false 1 (.g 0)), o 28 (.build [(.int .i64 0), (.int .i64 0)] [(0, 1, (.c (.int .i64 0))), (1, 1, (.c (.int .i64 8)))]), q (.upd (.sc .int) (.t 27) (.c (.int .i64 10)) (.t 28))]
abbrev gosem_cut_vars_p1 : List AG := [o 25 (.load false 1 (.g 0)), o 26 (.build [(.int .i64 0), (.int .i64 0)] [(0, 1, (.c (.int .i64 2))), (1, 1, (.c (.int .i64 8)))]), q (.upd (.sc .int) (.t 25) (.c (.int .i64 9)) (.t 26))]
abbrev gosem_cut_vars_p2 : List AG := [o 23 (.load false 1 (.g 0)), o 24 (.build [(.int .i64 0), (.int .i64 0)] [(0, 1, (.c (.int .i64 2))), (1, 1, (.c (.int .i64 8)))]), q (.upd (.sc .int) (.t 23) (.c (.int .i64 8)) (.t 24))]
abbrev gosem_cut_vars_p3 : List AG := [o 21 (.load false 1 (.g 0)), o 22 (.build [(.int .i64 0), (.int .i64 0)] [(0, 1, (.c (.int .i64 2))), (1, 1, (.c (.int .i64 8)))]), q (.upd (.sc .int) (.t 21) (.c (.int .i64 7)) (.t 22))]
abbrev gosem_cut_vars_p4 : List AG := [o 19 (.load false 1 (.g 0)), o 20 (.build [(.int .i64 0), (.int .i64 0)] [(0, 1, (.c (.int .i64 2))), (1, 1, (.c (.int .i64 8)))]), q (.upd (.sc .int) (.t 19) (.c (.int .i64 6)) (.t 20))]
abbrev gosem_cut_vars_p5 : List AG := [o 17 (.load false 1 (.g 0)), o 18 (.build [(.int .i64 0), (.int .i64 0)] [(0, 1, (.c (.int .i64 2))), (1, 1, (.c (.int .i64 8)))]), q (.upd (.sc .int) (.t 17) (.c (.int .i64 5)) (.t 18))]
abbrev gosem_cut_vars_p6 : List AG := [o 15 (.load false 1 (.g 0)), o 16 (.build [(.int .i64 0), (.int .i64 0)] [(0, 1, (.c (.int .i64 2))), (1, 1, (.c (.int .i64 8)))]), q (.upd (.sc .int) (.t 15) (.c (.int .i64 4)) (.t 16))]
abbrev gosem_cut_vars_p7 : List AG := [o 13 (.load false 1 (.g 0)), o 14 (.build [(.int .i64 0), (.int .i64 0)] [(0, 1, (.c (.int .i64 1))), (1, 1, (.c (.int .i64 1)))]), q (.upd (.sc .int) (.t 13) (.c (.int .i64 3)) (.t 14))]
abbrev gosem_cut_vars_p8 : List AG := [o 11 (.load false 1 (.g 0)), o 12 (.build [(.int .i64 0), (.int .i64 0)] [(0, 1, (.c (.int .i64 1))), (1, 1, (.c (.int .i64 1)))]), q (.upd (.sc .int) (.t 11) (.c (.int .i64 2)) (.t 12))]
abbrev gosem_cut_vars_p9 : List AG := [o 9 (.load false 1 (.g 0)), o 10 (.build [(.int .i64 0), (.int .i64 0)] [(0, 1, (.c (.int .i64 0))), (1, 1, (.c (.int .i64 0)))]), q (.upd (.sc .int) (.t 9) (.c (.int .i64 1)) (.t 10))]
abbrev gosem_cut_vars_p10 : List AG := [o 7 (.load false 1 (.g 0)), o 8 (.build [(.int .i64 0), (.int .i64 0)] [(0, 1, (.c (.int .i64 0))), (1, 1, (.c (.int .i64 0)))]), q (.upd (.sc .int) (.t 7) (.c (.int .i64 0)) (.t 8))]
abbrev gosem_cut_vars_p11 : List AG := [o 6 (.mkMap), q (.store 1 (.g 0) (.t 6))]
abbrev gosem_cut_vars_p12 : List AG := [o 0 (.build [(.int .u8 0), (.int .u8 0)] [(0, 1, (.c (.int .u8 128))), (1, 1, (.c (.int .u8 191)))]), o 1 (.build [(.int .u8 0), (.int .u8 0)] [(0, 1, (.c (.int .u8 160))), (1, 1, (.c (.int .u8 191)))]), o 2 (.build [(.int .u8 0), (.int .u8 0)] [(0, 1, (.c (.int .u8 128))), (1, 1, (.c (.int .u8 159)))]), o 3 (.build [(.int .u8 0), (.int .u8 0)] [(0, 1, (.c (.int .u8 144))), (1, 1, (.c (.int .u8 191)))]), o 4 (.build [(.int .u8 0), (.int .u8 0)] [(0, 1, (.c (.int .u8 128))), (1, 1, (.c (.int .u8 143)))]), o 5 (.build [(.int .u8 0), (.int .u8 0), (.int .u8 0), (.int .u8 0), (.int .u8 0), (.int .u8 0), (.int .u8 0), (.int .u8 0), (.int .u8 0), (.int .u8 0), (.int .u8 0), (.int .u8 0), (.int .u8 0), (.int .u8 0), (.int .u8 0), (.int .u8 0), (.int .u8 0), (.int .u8 0), (.int .u8 0), (.int .u8 0), (.int .u8 0), (.int .u8 0), (.int .u8 0), (.int .u8 0), (.int .u8 0), (.int .u8 0), (.int .u8 0), (.int .u8 0), (.int .u8 0), (.int .u8 0), (.int .u8 0), (.int .u8 0)] [(0, 2, (.t 0)), (2, 2, (.t 1)), (4, 2, (.t 2)), (6, 2, (.t 3)), (8, 2, (.t 4))]), q (.store 32 (.g 3) (.t 5))]
abbrev gosem_cut_vars : AFun := ⟨(.seq (.reg gosem_cut_vars_p12) (.seq (.reg gosem_cut_vars_p11) (.seq (.reg gosem_cut_vars_p10) (.seq (.reg gosem_cut_vars_p9) (.seq (.reg gosem_cut_vars_p8) (.seq (.reg gosem_cut_vars_p7) (.seq (.reg gosem_cut_vars_p6) (.seq (.reg gosem_cut_vars_p5) (.seq (.reg gosem_cut_vars_p4) (.seq (.reg gosem_cut_vars_p3) (.seq (.reg gosem_cut_vars_p2) (.seq (.reg gosem_cut_vars_p1) (.reg gosem_cut_vars_p0))))))))))))), 29, []⟩
@[simp] theorem c_gosem_cut_vars : cfun Tryd.prog n_gosem_cut_vars = some gosem_cut_vars := by kernel_rfl
@[simp] theorem e_gosem_cut_vars : hasBody Tryd.prog n_gosem_cut_vars = true := by kernel_rfl

end Go.Proofs.YtdodijoconoeeaaDoor
