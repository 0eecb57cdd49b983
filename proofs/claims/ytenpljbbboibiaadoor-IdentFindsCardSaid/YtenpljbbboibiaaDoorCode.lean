/- The functions, as the abstract machine has them. Printed by a program. -/
import Derived.Test.YtenpljbbboibiaaDoorAMd
import Derived.Test.YtenpljbbboibiaaDoorChecked
import Derived.KernelRfl
set_option linter.unusedSimpArgs false
set_option linter.unusedVariables false
namespace Go.Proofs.YtenpljbbboibiaaDoor
open Go.AM Go.Proofs
abbrev n_gosem_cut : FuncId := 1
abbrev n_gosem_cut_init : FuncId := 2
abbrev n_w04_IdentWords : FuncId := 3
abbrev n_w04_IdentOnly : FuncId := 4
abbrev n_w04_IdentReads : FuncId := 5
abbrev n_w04_IdentFresh : FuncId := 6
abbrev n_w04_IdentBack : FuncId := 7
abbrev n_w04_IdentFinds : FuncId := 8
abbrev n_w04_works : FuncId := 9
abbrev n_ident_Word : FuncId := 10
abbrev n_r04_Word : FuncId := 11
abbrev n_r04_Fresh : FuncId := 12
abbrev n_ident_Fresh : FuncId := 13
abbrev n_ident_Spell : FuncId := 14
abbrev n_ident_Read : FuncId := 15
abbrev n_ident_Legal : FuncId := 16
abbrev n_ident_Name : FuncId := 17
abbrev n_r01_Has : FuncId := 18
abbrev n_token_Blif : FuncId := 19
abbrev n_token_Bench : FuncId := 20
abbrev n_token_Verilog : FuncId := 21
abbrev n_r04_Find : FuncId := 22
abbrev n_w04_Of : FuncId := 23
abbrev n_ident_Find : FuncId := 24
abbrev n_r04_Legal : FuncId := 25
abbrev n_r04_Read : FuncId := 26
abbrev n_r02_Put : FuncId := 27
abbrev n_ident_names : FuncId := 28
abbrev n_slices_Contains_string_string : FuncId := 29
abbrev n_ident_known : FuncId := 30
abbrev n_strings_HasPrefix : FuncId := 31
abbrev n_ident_spelled : FuncId := 32
abbrev n_ident_unspelled : FuncId := 33
abbrev n_ident_name_plain : FuncId := 34
abbrev n_ident_name_blif : FuncId := 35
abbrev n_ident_name_bench : FuncId := 36
abbrev n_ident_name_verilog : FuncId := 37
abbrev n_token_all : FuncId := 38
abbrev n_slices_IndexFunc_token_Token_token_Token : FuncId := 39
abbrev n_ident_Find_1 : FuncId := 40
abbrev n_r04_Name : FuncId := 41
abbrev n_r04_without : FuncId := 42
abbrev n_r04_letter : FuncId := 43
abbrev n_r02_Digit : FuncId := 44
abbrev n_r04_known : FuncId := 45
abbrev n_r04_unhex : FuncId := 46
abbrev n_r04_Spell : FuncId := 47
abbrev n_ident_names_1 : FuncId := 48
abbrev n_strconv_Itoa : FuncId := 49
abbrev n_slices_Index_string_string : FuncId := 50
abbrev n_stringslite_HasPrefix : FuncId := 51
abbrev n_strings_CutPrefix : FuncId := 52
abbrev n_strings_IndexByte : FuncId := 53
abbrev n_ident_name_plain_1 : FuncId := 54
abbrev n_strings_IndexFunc : FuncId := 55
abbrev n_strings_ContainsAny : FuncId := 56
abbrev n_token_all_1 : FuncId := 57
abbrev n_r04_digit : FuncId := 58
abbrev n_r04_Hex : FuncId := 59
abbrev n_strconv_Itoa_2 : FuncId := 60
abbrev n_stringslite_CutPrefix : FuncId := 61
abbrev n_stringslite_IndexByte : FuncId := 62
abbrev n_strings_indexFunc : FuncId := 63
abbrev n_strings_IndexAny : FuncId := 64
abbrev n_strconv_FormatInt : FuncId := 65
abbrev n_bytealg_IndexByteString : FuncId := 66
abbrev n_strings_IndexRune : FuncId := 67
abbrev n_strings_shouldUseASCIISet : FuncId := 68
abbrev n_strings_makeASCIISet : FuncId := 69
abbrev n_strings_asciiSet_contains : FuncId := 70
abbrev n_strconv_small : FuncId := 71
abbrev n_strconv_numDigits : FuncId := 72
abbrev n_strconv_formatBase10 : FuncId := 73
abbrev n_strconv_formatBits : FuncId := 74
abbrev n_unicode_utf8_ValidRune : FuncId := 75
abbrev n_bytealg_Cutover : FuncId := 76
abbrev n_bytealg_IndexString : FuncId := 77
abbrev n_strconv_log10Pow2 : FuncId := 78
abbrev n_math_bits_Len64 : FuncId := 79
abbrev n_strconv_bool2_int : FuncId := 80
abbrev n_strconv_isPowerOfTwo : FuncId := 81
abbrev n_math_bits_TrailingZeros : FuncId := 82
abbrev n_math_bits_TrailingZeros32 : FuncId := 83
abbrev n_math_bits_TrailingZeros64 : FuncId := 84
abbrev n_token_blif_read : FuncId := 101
abbrev n_token_none : FuncId := 102
abbrev n_token_line : FuncId := 103
abbrev n_token_one : FuncId := 104
abbrev n_token_run : FuncId := 105
abbrev n_token_blif_read_1 : FuncId := 106
abbrev n_token_line_1 : FuncId := 107
abbrev n_token_bench_read : FuncId := 108
abbrev n_token_bench_read_1 : FuncId := 109
abbrev n_token_graph : FuncId := 110
abbrev n_token_verilog_read : FuncId := 111
abbrev n_strings_Index : FuncId := 112
abbrev n_token_named : FuncId := 113
abbrev n_stringslite_Index : FuncId := 114
abbrev n_bytealg_IndexRabinKarp_string : FuncId := 115
abbrev n_bytealg_hashStr_string : FuncId := 116
abbrev n_gosem_cut_vars : FuncId := 124
def s_patchbay_token_read : String := String.ofList [Char.ofNat 112, Char.ofNat 97, Char.ofNat 116, Char.ofNat 99, Char.ofNat 104, Char.ofNat 98, Char.ofNat 97, Char.ofNat 121, Char.ofNat 47, Char.ofNat 116, Char.ofNat 111, Char.ofNat 107, Char.ofNat 101, Char.ofNat 110, Char.ofNat 46, Char.ofNat 114, Char.ofNat 101, Char.ofNat 97, Char.ofNat 100]
abbrev t_uint8 : TypeId := 5
abbrev t_string : TypeId := 9
abbrev t_token_Token : TypeId := 23
abbrev t_r03_Token : TypeId := 31
abbrev t_token_blif : TypeId := 60
@[simp] theorem m_token_blif_patchbay_token_read : cmeth Tryd.prog t_token_blif s_patchbay_token_read = some (n_token_blif_read, none) := by kernel_rfl
abbrev t_token_bench : TypeId := 61
@[simp] theorem m_token_bench_patchbay_token_read : cmeth Tryd.prog t_token_bench s_patchbay_token_read = some (n_token_bench_read, none) := by kernel_rfl
abbrev t_token_verilog : TypeId := 62
@[simp] theorem m_token_verilog_patchbay_token_read : cmeth Tryd.prog t_token_verilog s_patchbay_token_read = some (n_token_verilog_read, none) := by kernel_rfl
abbrev t_token_odd : TypeId := 80
/- w04_IdentWords: patchbay/patchbaylaw04.IdentWords -/
abbrev w04_IdentWords_p0 : List AG := [o 68 (.mv (.t 9)), o 69 (.mv (.t 68)), oy 70 69 (.mv (.t 11)), oy 71 69 (.mv (.t 13)), oy 72 69 (.cmp .eql (.sc .str) (.t 70) (.t 71)), o 73 (.pick (.t 69) (.t 72) (.c (.bool false))), o 74 (.mv (.t 73)), oy 75 74 (.mv (.t 12)), oy 76 74 (.mv (.t 14)), oy 77 74 (.cmp .eql (.sc .int) (.t 75) (.t 76)), o 78 (.pick (.t 74) (.t 77) (.c (.bool false))), o 79 (.mv (.t 78)), oy 80 79 (.mv (.t 2)), oy 81 79 (.mv (.t 3)), oy 82 79 (.call (.f n_ident_Fresh) [(.t 80), (.t 81)]), oy 83 79 (.mv (.t 15)), oy 84 79 (.cmp .eql (.sc .str) (.t 82) (.t 83)), o 85 (.pick (.t 79) (.t 84) (.c (.bool false))), o 8 (.mv (.t 85))]
abbrev w04_IdentWords_p1 : List AG := [o 65 (.mv (.t 2)), o 66 (.mv (.t 3)), o 67 (.call (.f n_r04_Fresh) [(.t 65), (.t 66)]), o 15 (.mv (.t 67))]
abbrev w04_IdentWords_p2 : List AG := [o 54 (.mv (.t 0)), o 55 (.off 0 (.t 5)), o 56 (.load false 1 (.t 55)), o 57 (.off 1 (.t 5)), o 58 (.load false 1 (.t 57)), o 59 (.off 2 (.t 5)), o 60 (.load false 1 (.t 59)), o 61 (.build [(.int .i64 0), (.str []), (.int .i64 0)] [(0, 1, (.t 56)), (1, 1, (.t 58)), (2, 1, (.t 60))]), o 62 (.call (.f n_r04_Word) [(.t 54), (.t 61)]), o 53 (.mv (.t 62)), o 63 (.extract (.t 53) 0), o 64 (.extract (.t 53) 1), o 13 (.mv (.t 63)), o 14 (.mv (.t 64))]
abbrev w04_IdentWords_p3 : List AG := [o 48 (.mv (.t 0)), o 49 (.load true 3 (.t 5)), o 50 (.call (.f n_ident_Word) [(.t 48), (.t 49)]), o 47 (.mv (.t 50)), o 51 (.extract (.t 47) 0), o 52 (.extract (.t 47) 1), o 11 (.mv (.t 51)), o 12 (.mv (.t 52))]
abbrev w04_IdentWords_m4 : List Bool := [I,O,I,I,O,I,O,O,O,I,I,O,O,O,O,O,O,O,O,O,O,O,O,O,O,O,O,O,O,O,O,O,O,O,O,O,O,O,O,O,O,O,O,O,O,O,O,O,O,O,O,O,O,O,O,O,O,O,O,O,O,O,O,O,O,O,O,O,O,O,O,O,O,O,O,O,O,O,O,O,O,O,O,O,O,O]
abbrev w04_IdentWords_x4 : List Bool := [I,O,I,I,O,I,O,O,O,I,O,O,O,O,O,O,O,O,O,O,O,O,O,O,O,O,O,O,O,O,O,O,O,O,O,O,O,O,O,O,O,O,O,O,O,O,O,O,O,O,O,O,O,O,O,O,O,O,O,O,O,O,O,O,O,O,O,O,O,O,O,O,O,O,O,O,O,O,O,O,O,O,O,O,O,O]
abbrev w04_IdentWords_p5 : List AG := [o 38 (.mv (.t 10)), o 39 (.ibin .add (.t 38) (.c (.int .i64 1))), o 10 (.mv (.t 39))]
abbrev w04_IdentWords_p6 : List AG := [o 46 (.mv (.t 9)), o 8 (.mv (.t 46))]
abbrev w04_IdentWords_p7 : ACode := (.seq (.reg w04_IdentWords_p6) .ret)
abbrev w04_IdentWords_p8 : List AG := [o 40 (.mv (.t 2)), o 41 (.mv (.t 10)), o 42 (.ixAddr 1 (.t 40) (.t 41)), o 43 (.load false 1 (.t 42)), o 44 (.lenStr (.t 43)), o 45 (.cmp .gtr (.sc .int) (.t 44) (.c (.int .i64 120)))]
abbrev w04_IdentWords_p9 : ACode := (.seq (.reg w04_IdentWords_p8) (.cond (.t 45) w04_IdentWords_p7 .skip))
abbrev w04_IdentWords_p10 : List AG := [o 34 (.mv (.t 10)), o 35 (.mv (.t 2)), o 36 (.len (.t 35)), o 37 (.cmp .lss (.sc .int) (.t 34) (.t 36))]
abbrev w04_IdentWords_b4 : ACode := (.seq (.seq (.reg w04_IdentWords_p10) (.cond (.t 37) .skip (.exit 0))) (.seq (.block 1 [] w04_IdentWords_p9) (.reg w04_IdentWords_p5)))
abbrev w04_IdentWords_p11 : List AG := [o 10 (.mv (.c (.int .i64 0)))]
abbrev w04_IdentWords_p12 : List AG := [o 33 (.mv (.t 9)), o 8 (.mv (.t 33))]
abbrev w04_IdentWords_p13 : ACode := (.seq (.reg w04_IdentWords_p12) .ret)
abbrev w04_IdentWords_p14 : List AG := [o 19 (.off 1 (.t 5)), o 20 (.load false 1 (.t 19)), o 21 (.lenStr (.t 20)), o 22 (.cmp .gtr (.sc .int) (.t 21) (.c (.int .i64 120))), o 23 (.mv (.t 22)), on 24 23 (.mv (.t 2)), on 25 23 (.len (.t 24)), on 26 23 (.cmp .gtr (.sc .int) (.t 25) (.c (.int .i64 30))), o 27 (.pick (.t 23) (.c (.bool true)) (.t 26)), o 28 (.mv (.t 27)), on 29 28 (.mv (.t 3)), on 30 28 (.lenStr (.t 29)), on 31 28 (.cmp .gtr (.sc .int) (.t 30) (.c (.int .i64 120))), o 32 (.pick (.t 28) (.c (.bool true)) (.t 31))]
abbrev w04_IdentWords_p15 : List AG := [o 8 (.mv (.c (.bool false)))]
abbrev w04_IdentWords_p16 : ACode := (.seq (.reg w04_IdentWords_p15) .ret)
abbrev w04_IdentWords_p17 : List AG := [o 17 (.mv (.t 9)), o 18 (.not (.t 17))]
abbrev w04_IdentWords_p18 : List AG := [o 16 (.call (.f n_w04_works) []), o 9 (.mv (.t 16))]
abbrev w04_IdentWords_p19 : List AG := [o 5 (.box 3 (.t 1)), o 8 (.mv (.c (.bool false)))]
abbrev w04_IdentWords : AFun := ⟨(.seq (.reg w04_IdentWords_p19) (.seq (.reg w04_IdentWords_p18) (.seq (.seq (.reg w04_IdentWords_p17) (.cond (.t 18) w04_IdentWords_p16 .skip)) (.seq (.seq (.reg w04_IdentWords_p14) (.cond (.t 32) w04_IdentWords_p13 .skip)) (.seq (.seq (.reg w04_IdentWords_p11) (.block 0 w04_IdentWords_x4 (.loop w04_IdentWords_m4 w04_IdentWords_b4))) (.seq (.reg w04_IdentWords_p3) (.seq (.reg w04_IdentWords_p2) (.seq (.reg w04_IdentWords_p1) (.seq (.reg w04_IdentWords_p0) .ret))))))))), 86, [.tmp 8]⟩
abbrev w04_IdentWords_k4 : List It := [.code (.seq (.reg w04_IdentWords_p3) (.seq (.reg w04_IdentWords_p2) (.seq (.reg w04_IdentWords_p1) (.seq (.reg w04_IdentWords_p0) .ret))))]
abbrev w04_IdentWords_L4 (x0 x2 x3 x5 x9 x10 : AV) (h : List Ob) (e : Cx := cx) : Cfg := atC n_w04_IdentWords (.code w04_IdentWords_b4 :: .inLoop w04_IdentWords_m4 w04_IdentWords_b4 :: .inBlock 0 w04_IdentWords_x4 :: w04_IdentWords_k4) [x0,U,x2,x3,U,x5,U,U,U,x9,x10,U,U,U,U,U,U,U,U,U,U,U,U,U,U,U,U,U,U,U,U,U,U,U,U,U,U,U,U,U,U,U,U,U,U,U,U,U,U,U,U,U,U,U,U,U,U,U,U,U,U,U,U,U,U,U,U,U,U,U,U,U,U,U,U,U,U,U,U,U,U,U,U,U,U,U] h e
abbrev w04_IdentWords_E4 (x0 x2 x3 x5 x9 : AV) (h : List Ob) (e : Cx := cx) : Cfg := atC n_w04_IdentWords w04_IdentWords_k4 [x0,U,x2,x3,U,x5,U,U,U,x9,U,U,U,U,U,U,U,U,U,U,U,U,U,U,U,U,U,U,U,U,U,U,U,U,U,U,U,U,U,U,U,U,U,U,U,U,U,U,U,U,U,U,U,U,U,U,U,U,U,U,U,U,U,U,U,U,U,U,U,U,U,U,U,U,U,U,U,U,U,U,U,U,U,U,U,U] h e
@[simp] theorem c_w04_IdentWords : cfun Tryd.prog n_w04_IdentWords = some w04_IdentWords := by kernel_rfl
@[simp] theorem e_w04_IdentWords : hasBody Tryd.prog n_w04_IdentWords = true := by kernel_rfl

/- w04_IdentOnly: patchbay/patchbaylaw04.IdentOnly -/
abbrev w04_IdentOnly_p0 : List AG := [o 59 (.mv (.t 7)), o 60 (.mv (.t 59)), oy 61 60 (.mv (.t 8)), oy 62 60 (.mv (.t 10)), oy 63 60 (.cmp .eql (.sc .str) (.t 61) (.t 62)), oy 64 60 (.mv (.t 1)), oy 65 60 (.mv (.t 2)), oy 66 60 (.cmp .eql (.sc .str) (.t 64) (.t 65)), oy 67 60 (.cmp .eql (.sc .bool) (.t 63) (.t 66)), o 68 (.pick (.t 60) (.t 67) (.c (.bool false))), o 69 (.mv (.t 68)), oy 70 69 (.mv (.t 8)), oy 71 69 (.lenStr (.t 70)), oy 72 69 (.mv (.t 1)), oy 73 69 (.lenStr (.t 72)), oy 74 69 (.ibin .mul (.c (.int .i64 2)) (.t 73)), oy 75 69 (.ibin .add (.t 74) (.c (.int .i64 3))), oy 76 69 (.cmp .leq (.sc .int) (.t 71) (.t 75)), o 77 (.pick (.t 69) (.t 76) (.c (.bool false))), o 6 (.mv (.t 77))]
abbrev w04_IdentOnly_p1 : List AG := [o 42 (.mv (.t 7)), o 43 (.mv (.t 42)), oy 44 43 (.mv (.t 9)), oy 45 43 (.cmp .eql (.sc .int) (.t 44) (.c (.int .i64 0))), oy 46 43 (.mv (.t 45)), on 47 46 (.mv (.t 8)), on 48 46 (.cmp .eql (.sc .str) (.t 47) (.c (.str []))), oy 49 43 (.pick (.t 46) (.c (.bool true)) (.t 48)), o 50 (.pick (.t 43) (.t 49) (.c (.bool false))), o 51 (.mv (.t 50)), oy 52 51 (.mv (.t 11)), oy 53 51 (.cmp .eql (.sc .int) (.t 52) (.c (.int .i64 0))), oy 54 51 (.mv (.t 53)), on 55 54 (.mv (.t 10)), on 56 54 (.cmp .eql (.sc .str) (.t 55) (.c (.str []))), oy 57 51 (.pick (.t 54) (.c (.bool true)) (.t 56)), o 58 (.pick (.t 51) (.t 57) (.c (.bool false))), o 6 (.mv (.t 58))]
abbrev w04_IdentOnly_p2 : ACode := (.seq (.reg w04_IdentOnly_p1) .ret)
abbrev w04_IdentOnly_p3 : List AG := [o 36 (.mv (.t 9)), o 37 (.cmp .neq (.sc .int) (.t 36) (.c (.int .i64 0))), o 38 (.mv (.t 37)), on 39 38 (.mv (.t 11)), on 40 38 (.cmp .neq (.sc .int) (.t 39) (.c (.int .i64 0))), o 41 (.pick (.t 38) (.c (.bool true)) (.t 40))]
abbrev w04_IdentOnly_p4 : List AG := [o 31 (.mv (.t 0)), o 32 (.mv (.t 2)), o 33 (.call (.f n_ident_Spell) [(.t 31), (.t 32)]), o 30 (.mv (.t 33)), o 34 (.extract (.t 30) 0), o 35 (.extract (.t 30) 1), o 10 (.mv (.t 34)), o 11 (.mv (.t 35))]
abbrev w04_IdentOnly_p5 : List AG := [o 25 (.mv (.t 0)), o 26 (.mv (.t 1)), o 27 (.call (.f n_ident_Spell) [(.t 25), (.t 26)]), o 24 (.mv (.t 27)), o 28 (.extract (.t 24) 0), o 29 (.extract (.t 24) 1), o 8 (.mv (.t 28)), o 9 (.mv (.t 29))]
abbrev w04_IdentOnly_p6 : List AG := [o 23 (.mv (.t 7)), o 6 (.mv (.t 23))]
abbrev w04_IdentOnly_p7 : ACode := (.seq (.reg w04_IdentOnly_p6) .ret)
abbrev w04_IdentOnly_p8 : List AG := [o 15 (.mv (.t 1)), o 16 (.lenStr (.t 15)), o 17 (.cmp .gtr (.sc .int) (.t 16) (.c (.int .i64 120))), o 18 (.mv (.t 17)), on 19 18 (.mv (.t 2)), on 20 18 (.lenStr (.t 19)), on 21 18 (.cmp .gtr (.sc .int) (.t 20) (.c (.int .i64 120))), o 22 (.pick (.t 18) (.c (.bool true)) (.t 21))]
abbrev w04_IdentOnly_p9 : List AG := [o 6 (.mv (.c (.bool false)))]
abbrev w04_IdentOnly_p10 : ACode := (.seq (.reg w04_IdentOnly_p9) .ret)
abbrev w04_IdentOnly_p11 : List AG := [o 13 (.mv (.t 7)), o 14 (.not (.t 13))]
abbrev w04_IdentOnly_p12 : List AG := [o 12 (.call (.f n_w04_works) []), o 7 (.mv (.t 12))]
abbrev w04_IdentOnly_p13 : List AG := [o 6 (.mv (.c (.bool false)))]
abbrev w04_IdentOnly : AFun := ⟨(.seq (.reg w04_IdentOnly_p13) (.seq (.reg w04_IdentOnly_p12) (.seq (.seq (.reg w04_IdentOnly_p11) (.cond (.t 14) w04_IdentOnly_p10 .skip)) (.seq (.seq (.reg w04_IdentOnly_p8) (.cond (.t 22) w04_IdentOnly_p7 .skip)) (.seq (.reg w04_IdentOnly_p5) (.seq (.reg w04_IdentOnly_p4) (.seq (.seq (.reg w04_IdentOnly_p3) (.cond (.t 41) w04_IdentOnly_p2 .skip)) (.seq (.reg w04_IdentOnly_p0) .ret)))))))), 78, [.tmp 6]⟩
@[simp] theorem c_w04_IdentOnly : cfun Tryd.prog n_w04_IdentOnly = some w04_IdentOnly := by kernel_rfl
@[simp] theorem e_w04_IdentOnly : hasBody Tryd.prog n_w04_IdentOnly = true := by kernel_rfl

/- w04_IdentReads: patchbay/patchbaylaw04.IdentReads -/
abbrev w04_IdentReads_p0 : List AG := [o 98 (.mv (.t 5)), o 99 (.mv (.t 98)), oy 100 99 (.mv (.t 13)), oy 101 99 (.cmp .eql (.sc .int) (.t 100) (.c (.int .i64 0))), o 102 (.pick (.t 99) (.t 101) (.c (.bool false))), o 103 (.mv (.t 102)), oy 104 103 (.mv (.t 12)), oy 105 103 (.mv (.t 7)), oy 106 103 (.cmp .eql (.sc .str) (.t 104) (.t 105)), o 107 (.pick (.t 103) (.t 106) (.c (.bool false))), o 4 (.mv (.t 107))]
abbrev w04_IdentReads_p1 : List AG := [o 93 (.mv (.t 6)), o 94 (.mv (.t 9)), o 95 (.call (.f n_ident_Read) [(.t 93), (.t 94)]), o 92 (.mv (.t 95)), o 96 (.extract (.t 92) 0), o 97 (.extract (.t 92) 1), o 12 (.mv (.t 96)), o 13 (.mv (.t 97))]
abbrev w04_IdentReads_p2 : List AG := [o 86 (.mv (.t 5)), o 87 (.mv (.t 86)), oy 88 87 (.mv (.t 7)), oy 89 87 (.mv (.t 1)), oy 90 87 (.cmp .eql (.sc .str) (.t 88) (.t 89)), o 91 (.pick (.t 87) (.t 90) (.c (.bool false))), o 4 (.mv (.t 91))]
abbrev w04_IdentReads_p3 : ACode := (.seq (.reg w04_IdentReads_p2) .ret)
abbrev w04_IdentReads_p4 : List AG := [o 84 (.mv (.t 6)), o 85 (.cmp .eql (.sc .int) (.t 84) (.c (.int .i64 4)))]
abbrev w04_IdentReads_p5 : List AG := [o 4 (.mv (.c (.bool false)))]
abbrev w04_IdentReads_p6 : ACode := (.seq (.reg w04_IdentReads_p5) .ret)
abbrev w04_IdentReads_p7 : List AG := [o 63 (.mv (.t 10)), o 64 (.cmp .neq (.sc .int) (.t 63) (.c (.int .i64 0))), o 65 (.mv (.t 64)), on 66 65 (.mv (.t 7)), on 67 65 (.call (.f n_ident_Name) [(.t 66)]), on 68 65 (.not (.t 67)), o 69 (.pick (.t 65) (.c (.bool true)) (.t 68)), o 70 (.mv (.t 69)), on 71 70 (.mv (.t 6)), on 72 70 (.mv (.t 1)), on 73 70 (.call (.f n_ident_Legal) [(.t 71), (.t 72)]), on 74 70 (.mv (.t 73)), oy 75 74 (.mv (.t 11)), oy 76 74 (.not (.t 75)), on 77 70 (.pick (.t 74) (.t 76) (.c (.bool false))), on 78 70 (.mv (.t 77)), oy 79 78 (.mv (.t 7)), oy 80 78 (.mv (.t 1)), oy 81 78 (.cmp .neq (.sc .str) (.t 79) (.t 80)), on 82 70 (.pick (.t 78) (.t 81) (.c (.bool false))), o 83 (.pick (.t 70) (.c (.bool true)) (.t 82))]
abbrev w04_IdentReads_p8 : List AG := [o 55 (.mv (.t 1)), o 56 (.lenStr (.t 55)), o 57 (.cmp .geq (.sc .int) (.t 56) (.c (.int .i64 3))), o 58 (.mv (.t 57)), oy 59 58 (.mv (.t 1)), oy 60 58 (.sliceStr (.t 59) none (some (.c (.int .i64 3)))), oy 61 58 (.cmp .eql (.sc .str) (.t 60) (.c (.str [120, 95, 95]))), o 62 (.pick (.t 58) (.t 61) (.c (.bool false))), o 11 (.mv (.t 62))]
abbrev w04_IdentReads_p9 : List AG := [o 50 (.mv (.t 6)), o 51 (.mv (.t 7)), o 52 (.call (.f n_ident_Spell) [(.t 50), (.t 51)]), o 49 (.mv (.t 52)), o 53 (.extract (.t 49) 0), o 54 (.extract (.t 49) 1), o 9 (.mv (.t 53)), o 10 (.mv (.t 54))]
abbrev w04_IdentReads_p10 : List AG := [o 30 (.mv (.t 5)), o 31 (.mv (.t 30)), oy 32 31 (.mv (.t 7)), oy 33 31 (.cmp .eql (.sc .str) (.t 32) (.c (.str []))), o 34 (.pick (.t 31) (.t 33) (.c (.bool false))), o 35 (.mv (.t 34)), oy 36 35 (.mv (.t 6)), oy 37 35 (.mv (.t 1)), oy 38 35 (.call (.f n_ident_Legal) [(.t 36), (.t 37)]), oy 39 35 (.not (.t 38)), oy 40 35 (.mv (.t 39)), on 41 40 (.mv (.t 0)), on 42 40 (.cmp .lss (.sc .int) (.t 41) (.c (.int .i64 0))), oy 43 35 (.pick (.t 40) (.c (.bool true)) (.t 42)), oy 44 35 (.mv (.t 43)), on 45 44 (.mv (.t 0)), on 46 44 (.cmp .gtr (.sc .int) (.t 45) (.c (.int .i64 4))), oy 47 35 (.pick (.t 44) (.c (.bool true)) (.t 46)), o 48 (.pick (.t 35) (.t 47) (.c (.bool false))), o 4 (.mv (.t 48))]
abbrev w04_IdentReads_p11 : ACode := (.seq (.reg w04_IdentReads_p10) .ret)
abbrev w04_IdentReads_p12 : List AG := [o 28 (.mv (.t 8)), o 29 (.cmp .neq (.sc .int) (.t 28) (.c (.int .i64 0)))]
abbrev w04_IdentReads_p13 : List AG := [o 23 (.mv (.t 6)), o 24 (.mv (.t 1)), o 25 (.call (.f n_ident_Read) [(.t 23), (.t 24)]), o 22 (.mv (.t 25)), o 26 (.extract (.t 22) 0), o 27 (.extract (.t 22) 1), o 7 (.mv (.t 26)), o 8 (.mv (.t 27))]
abbrev w04_IdentReads_p14 : List AG := [o 21 (.mv (.t 0)), o 6 (.mv (.t 21))]
abbrev w04_IdentReads_p15 : List AG := [o 20 (.mv (.t 5)), o 4 (.mv (.t 20))]
abbrev w04_IdentReads_p16 : ACode := (.seq (.reg w04_IdentReads_p15) .ret)
abbrev w04_IdentReads_p17 : List AG := [o 17 (.mv (.t 1)), o 18 (.lenStr (.t 17)), o 19 (.cmp .gtr (.sc .int) (.t 18) (.c (.int .i64 120)))]
abbrev w04_IdentReads_p18 : List AG := [o 4 (.mv (.c (.bool false)))]
abbrev w04_IdentReads_p19 : ACode := (.seq (.reg w04_IdentReads_p18) .ret)
abbrev w04_IdentReads_p20 : List AG := [o 15 (.mv (.t 5)), o 16 (.not (.t 15))]
abbrev w04_IdentReads_p21 : List AG := [o 14 (.call (.f n_w04_works) []), o 5 (.mv (.t 14))]
abbrev w04_IdentReads_p22 : List AG := [o 4 (.mv (.c (.bool false)))]
abbrev w04_IdentReads : AFun := ⟨(.seq (.reg w04_IdentReads_p22) (.seq (.reg w04_IdentReads_p21) (.seq (.seq (.reg w04_IdentReads_p20) (.cond (.t 16) w04_IdentReads_p19 .skip)) (.seq (.seq (.reg w04_IdentReads_p17) (.cond (.t 19) w04_IdentReads_p16 .skip)) (.seq (.reg w04_IdentReads_p14) (.seq (.reg w04_IdentReads_p13) (.seq (.seq (.reg w04_IdentReads_p12) (.cond (.t 29) w04_IdentReads_p11 .skip)) (.seq (.reg w04_IdentReads_p9) (.seq (.reg w04_IdentReads_p8) (.seq (.seq (.reg w04_IdentReads_p7) (.cond (.t 83) w04_IdentReads_p6 .skip)) (.seq (.seq (.reg w04_IdentReads_p4) (.cond (.t 85) w04_IdentReads_p3 .skip)) (.seq (.reg w04_IdentReads_p1) (.seq (.reg w04_IdentReads_p0) .ret))))))))))))), 108, [.tmp 4]⟩
@[simp] theorem c_w04_IdentReads : cfun Tryd.prog n_w04_IdentReads = some w04_IdentReads := by kernel_rfl
@[simp] theorem e_w04_IdentReads : hasBody Tryd.prog n_w04_IdentReads = true := by kernel_rfl

/- w04_IdentFresh: patchbay/patchbaylaw04.IdentFresh -/
abbrev w04_IdentFresh_p0 : List AG := [o 61 (.mv (.t 7)), o 62 (.mv (.t 61)), oy 63 62 (.mv (.t 12)), oy 64 62 (.not (.t 63)), o 65 (.pick (.t 62) (.t 64) (.c (.bool false))), o 66 (.mv (.t 65)), oy 67 66 (.mv (.t 9)), oy 68 66 (.mv (.t 8)), oy 69 66 (.cmp .neq (.sc .str) (.t 67) (.t 68)), o 70 (.pick (.t 66) (.t 69) (.c (.bool false))), o 71 (.mv (.t 70)), oy 72 71 (.mv (.t 8)), oy 73 71 (.lenStr (.t 72)), oy 74 71 (.mv (.t 1)), oy 75 71 (.lenStr (.t 74)), oy 76 71 (.cmp .gtr (.sc .int) (.t 73) (.t 75)), o 77 (.pick (.t 71) (.t 76) (.c (.bool false))), o 78 (.mv (.t 77)), oy 79 78 (.mv (.t 8)), oy 80 78 (.mv (.t 1)), oy 81 78 (.lenStr (.t 80)), oy 82 78 (.sliceStr (.t 79) none (some (.t 81))), oy 83 78 (.mv (.t 1)), oy 84 78 (.cmp .eql (.sc .str) (.t 82) (.t 83)), o 85 (.pick (.t 78) (.t 84) (.c (.bool false))), o 6 (.mv (.t 85))]
abbrev w04_IdentFresh_p1 : List AG := [o 53 (.mv (.t 0)), o 54 (.mv (.t 8)), o 55 (.call (.f n_r01_Has) [(.t 53), (.t 54)]), o 56 (.mv (.t 55)), on 57 56 (.mv (.t 11)), on 58 56 (.mv (.t 10)), on 59 56 (.call (.f n_r01_Has) [(.t 57), (.t 58)]), o 60 (.pick (.t 56) (.c (.bool true)) (.t 59)), o 12 (.mv (.t 60))]
abbrev w04_IdentFresh_p2 : List AG := [o 48 (.lit 1 [] []), o 49 (.mv (.t 0)), o 50 (.append 1 t_string 16 (.t 48) (.t 49)), o 51 (.mv (.t 2)), o 52 (.append 1 t_string 16 (.t 50) (.t 51)), o 11 (.mv (.t 52))]
abbrev w04_IdentFresh_p3 : List AG := [o 41 (.lit 1 [] []), o 42 (.mv (.t 0)), o 43 (.append 1 t_string 16 (.t 41) (.t 42)), o 44 (.mv (.t 2)), o 45 (.append 1 t_string 16 (.t 43) (.t 44)), o 46 (.mv (.t 1)), o 47 (.call (.f n_ident_Fresh) [(.t 45), (.t 46)]), o 10 (.mv (.t 47))]
abbrev w04_IdentFresh_p4 : List AG := [o 33 (.lit 1 [] []), o 34 (.mv (.t 0)), o 35 (.append 1 t_string 16 (.t 33) (.t 34)), o 36 (.mv (.t 8)), o 37 (.lit 1 [(.str [])] [(0, (.t 36))]), o 38 (.append 1 t_string 16 (.t 35) (.t 37)), o 39 (.mv (.t 1)), o 40 (.call (.f n_ident_Fresh) [(.t 38), (.t 39)]), o 9 (.mv (.t 40))]
abbrev w04_IdentFresh_p5 : List AG := [o 30 (.mv (.t 0)), o 31 (.mv (.t 1)), o 32 (.call (.f n_ident_Fresh) [(.t 30), (.t 31)]), o 8 (.mv (.t 32))]
abbrev w04_IdentFresh_p6 : List AG := [o 29 (.mv (.t 7)), o 6 (.mv (.t 29))]
abbrev w04_IdentFresh_p7 : ACode := (.seq (.reg w04_IdentFresh_p6) .ret)
abbrev w04_IdentFresh_p8 : List AG := [o 16 (.mv (.t 0)), o 17 (.len (.t 16)), o 18 (.cmp .gtr (.sc .int) (.t 17) (.c (.int .i64 30))), o 19 (.mv (.t 18)), on 20 19 (.mv (.t 2)), on 21 19 (.len (.t 20)), on 22 19 (.cmp .gtr (.sc .int) (.t 21) (.c (.int .i64 30))), o 23 (.pick (.t 19) (.c (.bool true)) (.t 22)), o 24 (.mv (.t 23)), on 25 24 (.mv (.t 1)), on 26 24 (.lenStr (.t 25)), on 27 24 (.cmp .gtr (.sc .int) (.t 26) (.c (.int .i64 120))), o 28 (.pick (.t 24) (.c (.bool true)) (.t 27))]
abbrev w04_IdentFresh_p9 : List AG := [o 6 (.mv (.c (.bool false)))]
abbrev w04_IdentFresh_p10 : ACode := (.seq (.reg w04_IdentFresh_p9) .ret)
abbrev w04_IdentFresh_p11 : List AG := [o 14 (.mv (.t 7)), o 15 (.not (.t 14))]
abbrev w04_IdentFresh_p12 : List AG := [o 13 (.call (.f n_w04_works) []), o 7 (.mv (.t 13))]
abbrev w04_IdentFresh_p13 : List AG := [o 6 (.mv (.c (.bool false)))]
abbrev w04_IdentFresh : AFun := ⟨(.seq (.reg w04_IdentFresh_p13) (.seq (.reg w04_IdentFresh_p12) (.seq (.seq (.reg w04_IdentFresh_p11) (.cond (.t 15) w04_IdentFresh_p10 .skip)) (.seq (.seq (.reg w04_IdentFresh_p8) (.cond (.t 28) w04_IdentFresh_p7 .skip)) (.seq (.reg w04_IdentFresh_p5) (.seq (.reg w04_IdentFresh_p4) (.seq (.reg w04_IdentFresh_p3) (.seq (.reg w04_IdentFresh_p2) (.seq (.reg w04_IdentFresh_p1) (.seq (.reg w04_IdentFresh_p0) .ret)))))))))), 86, [.tmp 6]⟩
@[simp] theorem c_w04_IdentFresh : cfun Tryd.prog n_w04_IdentFresh = some w04_IdentFresh := by kernel_rfl
@[simp] theorem e_w04_IdentFresh : hasBody Tryd.prog n_w04_IdentFresh = true := by kernel_rfl

/- w04_IdentBack: patchbay/patchbaylaw04.IdentBack -/
abbrev w04_IdentBack_p0 : List AG := [o 150 (.mv (.t 3)), o 151 (.mv (.t 150)), oy 152 151 (.mv (.t 23)), oy 153 151 (.cmp .eql (.sc .int) (.t 152) (.c (.int .i64 0))), o 154 (.pick (.t 151) (.t 153) (.c (.bool false))), o 155 (.mv (.t 154)), oy 156 155 (.mv (.t 25)), oy 157 155 (.cmp .eql (.sc .int) (.t 156) (.c (.int .i64 0))), o 158 (.pick (.t 155) (.t 157) (.c (.bool false))), o 159 (.mv (.t 158)), oy 160 159 (.mv (.t 27)), oy 161 159 (.cmp .eql (.sc .int) (.t 160) (.c (.int .i64 0))), o 162 (.pick (.t 159) (.t 161) (.c (.bool false))), o 163 (.mv (.t 162)), oy 164 163 (.mv (.t 22)), oy 165 163 (.mv (.t 0)), oy 166 163 (.cmp .eql (.sc .str) (.t 164) (.t 165)), o 167 (.pick (.t 163) (.t 166) (.c (.bool false))), o 168 (.mv (.t 167)), oy 169 168 (.mv (.t 24)), oy 170 168 (.mv (.t 0)), oy 171 168 (.cmp .eql (.sc .str) (.t 169) (.t 170)), o 172 (.pick (.t 168) (.t 171) (.c (.bool false))), o 173 (.mv (.t 172)), oy 174 173 (.mv (.t 26)), oy 175 173 (.mv (.t 0)), oy 176 173 (.cmp .eql (.sc .str) (.t 174) (.t 175)), o 177 (.pick (.t 173) (.t 176) (.c (.bool false))), o 2 (.mv (.t 177))]
abbrev w04_IdentBack_p1 : List AG := [o 144 (.mv (.t 19)), o 145 (.ixAddr 3 (.t 144) (.c (.int .i64 0))), o 146 (.load true 3 (.t 145)), o 147 (.call (.f n_ident_Word) [(.c (.int .i64 4)), (.t 146)]), o 143 (.mv (.t 147)), o 148 (.extract (.t 143) 0), o 149 (.extract (.t 143) 1), o 26 (.mv (.t 148)), o 27 (.mv (.t 149))]
abbrev w04_IdentBack_p2 : List AG := [o 137 (.mv (.t 16)), o 138 (.ixAddr 3 (.t 137) (.c (.int .i64 0))), o 139 (.load true 3 (.t 138)), o 140 (.call (.f n_ident_Word) [(.c (.int .i64 3)), (.t 139)]), o 136 (.mv (.t 140)), o 141 (.extract (.t 136) 0), o 142 (.extract (.t 136) 1), o 24 (.mv (.t 141)), o 25 (.mv (.t 142))]
abbrev w04_IdentBack_p3 : List AG := [o 130 (.mv (.t 15)), o 131 (.ixAddr 3 (.t 130) (.c (.int .i64 0))), o 132 (.load true 3 (.t 131)), o 133 (.call (.f n_ident_Word) [(.c (.int .i64 2)), (.t 132)]), o 129 (.mv (.t 133)), o 134 (.extract (.t 129) 0), o 135 (.extract (.t 129) 1), o 22 (.mv (.t 134)), o 23 (.mv (.t 135))]
abbrev w04_IdentBack_p4 : List AG := [o 2 (.mv (.c (.bool false)))]
abbrev w04_IdentBack_p5 : ACode := (.seq (.reg w04_IdentBack_p4) .ret)
abbrev w04_IdentBack_p6 : List AG := [o 96 (.mv (.t 10)), o 97 (.cmp .neq (.sc .int) (.t 96) (.c (.int .i64 0))), o 98 (.mv (.t 97)), on 99 98 (.mv (.t 12)), on 100 98 (.cmp .neq (.sc .int) (.t 99) (.c (.int .i64 0))), o 101 (.pick (.t 98) (.c (.bool true)) (.t 100)), o 102 (.mv (.t 101)), on 103 102 (.mv (.t 14)), on 104 102 (.cmp .neq (.sc .int) (.t 103) (.c (.int .i64 0))), o 105 (.pick (.t 102) (.c (.bool true)) (.t 104)), o 106 (.mv (.t 105)), on 107 106 (.mv (.t 18)), on 108 106 (.cmp .neq (.sc .int) (.t 107) (.c (.int .i64 0))), o 109 (.pick (.t 106) (.c (.bool true)) (.t 108)), o 110 (.mv (.t 109)), on 111 110 (.mv (.t 21)), on 112 110 (.cmp .neq (.sc .int) (.t 111) (.c (.int .i64 0))), o 113 (.pick (.t 110) (.c (.bool true)) (.t 112)), o 114 (.mv (.t 113)), on 115 114 (.mv (.t 15)), on 116 114 (.len (.t 115)), on 117 114 (.cmp .neq (.sc .int) (.t 116) (.c (.int .i64 2))), o 118 (.pick (.t 114) (.c (.bool true)) (.t 117)), o 119 (.mv (.t 118)), on 120 119 (.mv (.t 16)), on 121 119 (.len (.t 120)), on 122 119 (.cmp .neq (.sc .int) (.t 121) (.c (.int .i64 1))), o 123 (.pick (.t 119) (.c (.bool true)) (.t 122)), o 124 (.mv (.t 123)), on 125 124 (.mv (.t 19)), on 126 124 (.len (.t 125)), on 127 124 (.cmp .neq (.sc .int) (.t 126) (.c (.int .i64 1))), o 128 (.pick (.t 124) (.c (.bool true)) (.t 127))]
abbrev w04_IdentBack_p7 : List AG := [o 91 (.mv (.t 13)), o 92 (.call (.f n_token_Verilog) [(.t 91)]), o 90 (.mv (.t 92)), o 93 (.extract (.t 90) 0), o 94 (.extract (.t 90) 1), o 95 (.extract (.t 90) 2), o 19 (.mv (.t 93)), o 20 (.mv (.t 94)), o 21 (.mv (.t 95))]
abbrev w04_IdentBack_p8 : List AG := [o 85 (.mv (.t 11)), o 86 (.call (.f n_token_Bench) [(.t 85)]), o 84 (.mv (.t 86)), o 87 (.extract (.t 84) 0), o 88 (.extract (.t 84) 1), o 89 (.extract (.t 84) 2), o 16 (.mv (.t 87)), o 17 (.mv (.t 88)), o 18 (.mv (.t 89))]
abbrev w04_IdentBack_p9 : List AG := [o 82 (.mv (.t 9)), o 83 (.call (.f n_token_Blif) [(.t 82)]), o 15 (.mv (.t 83))]
abbrev w04_IdentBack_p10 : List AG := [o 78 (.mv (.t 0)), o 79 (.call (.f n_ident_Spell) [(.c (.int .i64 4)), (.t 78)]), o 77 (.mv (.t 79)), o 80 (.extract (.t 77) 0), o 81 (.extract (.t 77) 1), o 13 (.mv (.t 80)), o 14 (.mv (.t 81))]
abbrev w04_IdentBack_p11 : List AG := [o 73 (.mv (.t 0)), o 74 (.call (.f n_ident_Spell) [(.c (.int .i64 3)), (.t 73)]), o 72 (.mv (.t 74)), o 75 (.extract (.t 72) 0), o 76 (.extract (.t 72) 1), o 11 (.mv (.t 75)), o 12 (.mv (.t 76))]
abbrev w04_IdentBack_p12 : List AG := [o 68 (.mv (.t 0)), o 69 (.call (.f n_ident_Spell) [(.c (.int .i64 2)), (.t 68)]), o 67 (.mv (.t 69)), o 70 (.extract (.t 67) 0), o 71 (.extract (.t 67) 1), o 9 (.mv (.t 70)), o 10 (.mv (.t 71))]
abbrev w04_IdentBack_m13 : List Bool := [I,O,O,I,I,O,O,O,O,O,O,O,O,O,O,O,O,O,O,O,O,O,O,O,O,O,O,O,O,O,O,O,O,O,O,O,O,O,O,O,O,O,O,O,O,O,O,O,O,O,O,O,O,O,O,O,O,O,O,O,O,O,O,O,O,O,O,O,O,O,O,O,O,O,O,O,O,O,O,O,O,O,O,O,O,O,O,O,O,O,O,O,O,O,O,O,O,O,O,O,O,O,O,O,O,O,O,O,O,O,O,O,O,O,O,O,O,O,O,O,O,O,O,O,O,O,O,O,O,O,O,O,O,O,O,O,O,O,O,O,O,O,O,O,O,O,O,O,O,O,O,O,O,O,O,O,O,O,O,O,O,O,O,O,O,O,O,O,O,O,O,O,O,O,O,O,O,O]
abbrev w04_IdentBack_x13 : List Bool := [I,O,O,I,O,O,O,O,O,O,O,O,O,O,O,O,O,O,O,O,O,O,O,O,O,O,O,O,O,O,O,O,O,O,O,O,O,O,O,O,O,O,O,O,O,O,O,O,O,O,O,O,O,O,O,O,O,O,O,O,O,O,O,O,O,O,O,O,O,O,O,O,O,O,O,O,O,O,O,O,O,O,O,O,O,O,O,O,O,O,O,O,O,O,O,O,O,O,O,O,O,O,O,O,O,O,O,O,O,O,O,O,O,O,O,O,O,O,O,O,O,O,O,O,O,O,O,O,O,O,O,O,O,O,O,O,O,O,O,O,O,O,O,O,O,O,O,O,O,O,O,O,O,O,O,O,O,O,O,O,O,O,O,O,O,O,O,O,O,O,O,O,O,O,O,O,O,O]
abbrev w04_IdentBack_p14 : List AG := [o 37 (.mv (.t 4)), o 38 (.ibin .add (.t 37) (.c (.int .i64 1))), o 4 (.mv (.t 38))]
abbrev w04_IdentBack_p15 : List AG := [o 2 (.mv (.c (.bool false)))]
abbrev w04_IdentBack_p16 : ACode := (.seq (.reg w04_IdentBack_p15) .ret)
abbrev w04_IdentBack_p17 : List AG := [o 51 (.mv (.t 6)), o 52 (.cmp .neq (.sc .int) (.t 51) (.c (.int .i64 0))), o 53 (.mv (.t 52)), on 54 53 (.mv (.t 8)), on 55 53 (.cmp .neq (.sc .int) (.t 54) (.c (.int .i64 0))), o 56 (.pick (.t 53) (.c (.bool true)) (.t 55)), o 57 (.mv (.t 56)), on 58 57 (.mv (.t 7)), on 59 57 (.mv (.t 0)), on 60 57 (.cmp .neq (.sc .str) (.t 58) (.t 59)), o 61 (.pick (.t 57) (.c (.bool true)) (.t 60)), o 62 (.mv (.t 61)), on 63 62 (.mv (.t 5)), on 64 62 (.mv (.t 0)), on 65 62 (.cmp .neq (.sc .str) (.t 63) (.t 64)), o 66 (.pick (.t 62) (.c (.bool true)) (.t 65))]
abbrev w04_IdentBack_p18 : List AG := [o 46 (.mv (.t 4)), o 47 (.mv (.t 5)), o 48 (.call (.f n_ident_Read) [(.t 46), (.t 47)]), o 45 (.mv (.t 48)), o 49 (.extract (.t 45) 0), o 50 (.extract (.t 45) 1), o 7 (.mv (.t 49)), o 8 (.mv (.t 50))]
abbrev w04_IdentBack_p19 : List AG := [o 40 (.mv (.t 4)), o 41 (.mv (.t 0)), o 42 (.call (.f n_ident_Spell) [(.t 40), (.t 41)]), o 39 (.mv (.t 42)), o 43 (.extract (.t 39) 0), o 44 (.extract (.t 39) 1), o 5 (.mv (.t 43)), o 6 (.mv (.t 44))]
abbrev w04_IdentBack_p20 : ACode := (.seq (.reg w04_IdentBack_p19) (.seq (.reg w04_IdentBack_p18) (.seq (.reg w04_IdentBack_p17) (.cond (.t 66) w04_IdentBack_p16 .skip))))
abbrev w04_IdentBack_p21 : List AG := [o 35 (.mv (.t 4)), o 36 (.cmp .leq (.sc .int) (.t 35) (.c (.int .i64 1)))]
abbrev w04_IdentBack_b13 : ACode := (.seq (.seq (.reg w04_IdentBack_p21) (.cond (.t 36) .skip (.exit 0))) (.seq (.block 1 [] w04_IdentBack_p20) (.reg w04_IdentBack_p14)))
abbrev w04_IdentBack_p22 : List AG := [o 4 (.mv (.c (.int .i64 0)))]
abbrev w04_IdentBack_p23 : List AG := [o 34 (.mv (.t 3)), o 2 (.mv (.t 34))]
abbrev w04_IdentBack_p24 : ACode := (.seq (.reg w04_IdentBack_p23) .ret)
abbrev w04_IdentBack_p25 : List AG := [o 31 (.mv (.t 0)), o 32 (.call (.f n_ident_Name) [(.t 31)]), o 33 (.not (.t 32))]
abbrev w04_IdentBack_p26 : List AG := [o 2 (.mv (.c (.bool false)))]
abbrev w04_IdentBack_p27 : ACode := (.seq (.reg w04_IdentBack_p26) .ret)
abbrev w04_IdentBack_p28 : List AG := [o 29 (.mv (.t 3)), o 30 (.not (.t 29))]
abbrev w04_IdentBack_p29 : List AG := [o 28 (.call (.f n_w04_works) []), o 3 (.mv (.t 28))]
abbrev w04_IdentBack_p30 : List AG := [o 2 (.mv (.c (.bool false)))]
abbrev w04_IdentBack : AFun := ⟨(.seq (.reg w04_IdentBack_p30) (.seq (.reg w04_IdentBack_p29) (.seq (.seq (.reg w04_IdentBack_p28) (.cond (.t 30) w04_IdentBack_p27 .skip)) (.seq (.seq (.reg w04_IdentBack_p25) (.cond (.t 33) w04_IdentBack_p24 .skip)) (.seq (.seq (.reg w04_IdentBack_p22) (.block 0 w04_IdentBack_x13 (.loop w04_IdentBack_m13 w04_IdentBack_b13))) (.seq (.reg w04_IdentBack_p12) (.seq (.reg w04_IdentBack_p11) (.seq (.reg w04_IdentBack_p10) (.seq (.reg w04_IdentBack_p9) (.seq (.reg w04_IdentBack_p8) (.seq (.reg w04_IdentBack_p7) (.seq (.seq (.reg w04_IdentBack_p6) (.cond (.t 128) w04_IdentBack_p5 .skip)) (.seq (.reg w04_IdentBack_p3) (.seq (.reg w04_IdentBack_p2) (.seq (.reg w04_IdentBack_p1) (.seq (.reg w04_IdentBack_p0) .ret)))))))))))))))), 178, [.tmp 2]⟩
abbrev w04_IdentBack_k13 : List It := [.code (.seq (.reg w04_IdentBack_p12) (.seq (.reg w04_IdentBack_p11) (.seq (.reg w04_IdentBack_p10) (.seq (.reg w04_IdentBack_p9) (.seq (.reg w04_IdentBack_p8) (.seq (.reg w04_IdentBack_p7) (.seq (.seq (.reg w04_IdentBack_p6) (.cond (.t 128) w04_IdentBack_p5 .skip)) (.seq (.reg w04_IdentBack_p3) (.seq (.reg w04_IdentBack_p2) (.seq (.reg w04_IdentBack_p1) (.seq (.reg w04_IdentBack_p0) .ret)))))))))))]
abbrev w04_IdentBack_L13 (x0 x3 x4 : AV) (h : List Ob) (e : Cx := cx) : Cfg := atC n_w04_IdentBack (.code w04_IdentBack_b13 :: .inLoop w04_IdentBack_m13 w04_IdentBack_b13 :: .inBlock 0 w04_IdentBack_x13 :: w04_IdentBack_k13) [x0,U,U,x3,x4,U,U,U,U,U,U,U,U,U,U,U,U,U,U,U,U,U,U,U,U,U,U,U,U,U,U,U,U,U,U,U,U,U,U,U,U,U,U,U,U,U,U,U,U,U,U,U,U,U,U,U,U,U,U,U,U,U,U,U,U,U,U,U,U,U,U,U,U,U,U,U,U,U,U,U,U,U,U,U,U,U,U,U,U,U,U,U,U,U,U,U,U,U,U,U,U,U,U,U,U,U,U,U,U,U,U,U,U,U,U,U,U,U,U,U,U,U,U,U,U,U,U,U,U,U,U,U,U,U,U,U,U,U,U,U,U,U,U,U,U,U,U,U,U,U,U,U,U,U,U,U,U,U,U,U,U,U,U,U,U,U,U,U,U,U,U,U,U,U,U,U,U,U] h e
abbrev w04_IdentBack_E13 (x0 x3 : AV) (h : List Ob) (e : Cx := cx) : Cfg := atC n_w04_IdentBack w04_IdentBack_k13 [x0,U,U,x3,U,U,U,U,U,U,U,U,U,U,U,U,U,U,U,U,U,U,U,U,U,U,U,U,U,U,U,U,U,U,U,U,U,U,U,U,U,U,U,U,U,U,U,U,U,U,U,U,U,U,U,U,U,U,U,U,U,U,U,U,U,U,U,U,U,U,U,U,U,U,U,U,U,U,U,U,U,U,U,U,U,U,U,U,U,U,U,U,U,U,U,U,U,U,U,U,U,U,U,U,U,U,U,U,U,U,U,U,U,U,U,U,U,U,U,U,U,U,U,U,U,U,U,U,U,U,U,U,U,U,U,U,U,U,U,U,U,U,U,U,U,U,U,U,U,U,U,U,U,U,U,U,U,U,U,U,U,U,U,U,U,U,U,U,U,U,U,U,U,U,U,U,U,U] h e
@[simp] theorem c_w04_IdentBack : cfun Tryd.prog n_w04_IdentBack = some w04_IdentBack := by kernel_rfl
@[simp] theorem e_w04_IdentBack : hasBody Tryd.prog n_w04_IdentBack = true := by kernel_rfl

/- w04_IdentFinds: patchbay/patchbaylaw04.IdentFinds -/
abbrev w04_IdentFinds_p0 : List AG := [o 56 (.mv (.t 9)), o 57 (.mv (.t 56)), oy 58 57 (.mv (.t 0)), oy 59 57 (.mv (.t 1)), oy 60 57 (.mv (.t 2)), oy 61 57 (.call (.f n_ident_Find) [(.t 58), (.t 59), (.t 60)]), oy 62 57 (.mv (.t 11)), oy 63 57 (.cmp .eql (.sc .int) (.t 61) (.t 62)), o 64 (.pick (.t 57) (.t 63) (.c (.bool false))), o 65 (.mv (.t 64)), oy 66 65 (.mv (.t 12)), oy 67 65 (.mv (.t 2)), oy 68 65 (.call (.f n_ident_Find) [(.c (.int .i64 2)), (.t 66), (.t 67)]), oy 69 65 (.mv (.t 13)), oy 70 65 (.cmp .eql (.sc .int) (.t 68) (.t 69)), o 71 (.pick (.t 65) (.t 70) (.c (.bool false))), o 8 (.mv (.t 71))]
abbrev w04_IdentFinds_p1 : List AG := [o 52 (.mv (.t 12)), o 53 (.call (.f n_w04_Of) [(.t 52)]), o 54 (.mv (.t 2)), o 55 (.call (.f n_r04_Find) [(.c (.int .i64 2)), (.t 53), (.t 54)]), o 13 (.mv (.t 55))]
abbrev w04_IdentFinds_p2 : List AG := [o 50 (.mv (.t 3)), o 51 (.call (.f n_token_Blif) [(.t 50)]), o 12 (.mv (.t 51))]
abbrev w04_IdentFinds_p3 : List AG := [o 45 (.mv (.t 0)), o 46 (.mv (.t 1)), o 47 (.call (.f n_w04_Of) [(.t 46)]), o 48 (.mv (.t 2)), o 49 (.call (.f n_r04_Find) [(.t 45), (.t 47), (.t 48)]), o 11 (.mv (.t 49))]
abbrev w04_IdentFinds_m4 : List Bool := [I,I,I,I,O,O,O,O,O,I,I,O,O,O,O,O,O,O,O,O,O,O,O,O,O,O,O,O,O,O,O,O,O,O,O,O,O,O,O,O,O,O,O,O,O,O,O,O,O,O,O,O,O,O,O,O,O,O,O,O,O,O,O,O,O,O,O,O,O,O,O,O]
abbrev w04_IdentFinds_x4 : List Bool := [I,I,I,I,O,O,O,O,O,I,O,O,O,O,O,O,O,O,O,O,O,O,O,O,O,O,O,O,O,O,O,O,O,O,O,O,O,O,O,O,O,O,O,O,O,O,O,O,O,O,O,O,O,O,O,O,O,O,O,O,O,O,O,O,O,O,O,O,O,O,O,O]
abbrev w04_IdentFinds_p5 : List AG := [o 35 (.mv (.t 10)), o 36 (.ibin .add (.t 35) (.c (.int .i64 1))), o 10 (.mv (.t 36))]
abbrev w04_IdentFinds_p6 : List AG := [o 44 (.mv (.t 9)), o 8 (.mv (.t 44))]
abbrev w04_IdentFinds_p7 : ACode := (.seq (.reg w04_IdentFinds_p6) .ret)
abbrev w04_IdentFinds_p8 : List AG := [o 37 (.mv (.t 1)), o 38 (.mv (.t 10)), o 39 (.ixAddr 3 (.t 37) (.t 38)), o 40 (.off 1 (.t 39)), o 41 (.load false 1 (.t 40)), o 42 (.lenStr (.t 41)), o 43 (.cmp .gtr (.sc .int) (.t 42) (.c (.int .i64 120)))]
abbrev w04_IdentFinds_p9 : ACode := (.seq (.reg w04_IdentFinds_p8) (.cond (.t 43) w04_IdentFinds_p7 .skip))
abbrev w04_IdentFinds_p10 : List AG := [o 31 (.mv (.t 10)), o 32 (.mv (.t 1)), o 33 (.len (.t 32)), o 34 (.cmp .lss (.sc .int) (.t 31) (.t 33))]
abbrev w04_IdentFinds_b4 : ACode := (.seq (.seq (.reg w04_IdentFinds_p10) (.cond (.t 34) .skip (.exit 0))) (.seq (.block 1 [] w04_IdentFinds_p9) (.reg w04_IdentFinds_p5)))
abbrev w04_IdentFinds_p11 : List AG := [o 10 (.mv (.c (.int .i64 0)))]
abbrev w04_IdentFinds_p12 : List AG := [o 30 (.mv (.t 9)), o 8 (.mv (.t 30))]
abbrev w04_IdentFinds_p13 : ACode := (.seq (.reg w04_IdentFinds_p12) .ret)
abbrev w04_IdentFinds_p14 : List AG := [o 17 (.mv (.t 1)), o 18 (.len (.t 17)), o 19 (.cmp .gtr (.sc .int) (.t 18) (.c (.int .i64 30))), o 20 (.mv (.t 19)), on 21 20 (.mv (.t 2)), on 22 20 (.lenStr (.t 21)), on 23 20 (.cmp .gtr (.sc .int) (.t 22) (.c (.int .i64 120))), o 24 (.pick (.t 20) (.c (.bool true)) (.t 23)), o 25 (.mv (.t 24)), on 26 25 (.mv (.t 3)), on 27 25 (.lenStr (.t 26)), on 28 25 (.cmp .gtr (.sc .int) (.t 27) (.c (.int .i64 300))), o 29 (.pick (.t 25) (.c (.bool true)) (.t 28))]
abbrev w04_IdentFinds_p15 : List AG := [o 8 (.mv (.c (.bool false)))]
abbrev w04_IdentFinds_p16 : ACode := (.seq (.reg w04_IdentFinds_p15) .ret)
abbrev w04_IdentFinds_p17 : List AG := [o 15 (.mv (.t 9)), o 16 (.not (.t 15))]
abbrev w04_IdentFinds_p18 : List AG := [o 14 (.call (.f n_w04_works) []), o 9 (.mv (.t 14))]
abbrev w04_IdentFinds_p19 : List AG := [o 8 (.mv (.c (.bool false)))]
abbrev w04_IdentFinds : AFun := ⟨(.seq (.reg w04_IdentFinds_p19) (.seq (.reg w04_IdentFinds_p18) (.seq (.seq (.reg w04_IdentFinds_p17) (.cond (.t 16) w04_IdentFinds_p16 .skip)) (.seq (.seq (.reg w04_IdentFinds_p14) (.cond (.t 29) w04_IdentFinds_p13 .skip)) (.seq (.seq (.reg w04_IdentFinds_p11) (.block 0 w04_IdentFinds_x4 (.loop w04_IdentFinds_m4 w04_IdentFinds_b4))) (.seq (.reg w04_IdentFinds_p3) (.seq (.reg w04_IdentFinds_p2) (.seq (.reg w04_IdentFinds_p1) (.seq (.reg w04_IdentFinds_p0) .ret))))))))), 72, [.tmp 8]⟩
abbrev w04_IdentFinds_k4 : List It := [.code (.seq (.reg w04_IdentFinds_p3) (.seq (.reg w04_IdentFinds_p2) (.seq (.reg w04_IdentFinds_p1) (.seq (.reg w04_IdentFinds_p0) .ret))))]
abbrev w04_IdentFinds_L4 (x0 x1 x2 x3 x9 x10 : AV) (h : List Ob) (e : Cx := cx) : Cfg := atC n_w04_IdentFinds (.code w04_IdentFinds_b4 :: .inLoop w04_IdentFinds_m4 w04_IdentFinds_b4 :: .inBlock 0 w04_IdentFinds_x4 :: w04_IdentFinds_k4) [x0,x1,x2,x3,U,U,U,U,U,x9,x10,U,U,U,U,U,U,U,U,U,U,U,U,U,U,U,U,U,U,U,U,U,U,U,U,U,U,U,U,U,U,U,U,U,U,U,U,U,U,U,U,U,U,U,U,U,U,U,U,U,U,U,U,U,U,U,U,U,U,U,U,U] h e
abbrev w04_IdentFinds_E4 (x0 x1 x2 x3 x9 : AV) (h : List Ob) (e : Cx := cx) : Cfg := atC n_w04_IdentFinds w04_IdentFinds_k4 [x0,x1,x2,x3,U,U,U,U,U,x9,U,U,U,U,U,U,U,U,U,U,U,U,U,U,U,U,U,U,U,U,U,U,U,U,U,U,U,U,U,U,U,U,U,U,U,U,U,U,U,U,U,U,U,U,U,U,U,U,U,U,U,U,U,U,U,U,U,U,U,U,U,U] h e
@[simp] theorem c_w04_IdentFinds : cfun Tryd.prog n_w04_IdentFinds = some w04_IdentFinds := by kernel_rfl
@[simp] theorem e_w04_IdentFinds : hasBody Tryd.prog n_w04_IdentFinds = true := by kernel_rfl

/- w04_works: patchbay/patchbaylaw04.works -/
abbrev w04_works_p0 : List AG := [o 40 (.mv (.t 1)), o 41 (.cmp .eql (.sc .str) (.t 40) (.c (.str [120, 95, 95, 54, 49, 50, 56, 51, 49, 50, 57]))), o 42 (.mv (.t 41)), oy 43 42 (.mv (.t 2)), oy 44 42 (.cmp .eql (.sc .int) (.t 43) (.c (.int .i64 0))), o 45 (.pick (.t 42) (.t 44) (.c (.bool false))), o 46 (.mv (.t 45)), oy 47 46 (.mv (.t 3)), oy 48 46 (.cmp .eql (.sc .str) (.t 47) (.c (.str [97, 40, 49, 41]))), o 49 (.pick (.t 46) (.t 48) (.c (.bool false))), o 50 (.mv (.t 49)), oy 51 50 (.mv (.t 4)), oy 52 50 (.cmp .eql (.sc .int) (.t 51) (.c (.int .i64 0))), o 53 (.pick (.t 50) (.t 52) (.c (.bool false))), o 54 (.mv (.t 53)), oy 55 54 (.mv (.t 5)), oy 56 54 (.cmp .eql (.sc .str) (.t 55) (.c (.str [92, 97, 110, 100, 32]))), o 57 (.pick (.t 54) (.t 56) (.c (.bool false))), o 58 (.mv (.t 57)), oy 59 58 (.mv (.t 6)), oy 60 58 (.cmp .eql (.sc .int) (.t 59) (.c (.int .i64 0))), o 61 (.pick (.t 58) (.t 60) (.c (.bool false))), o 62 (.mv (.t 61)), oy 63 62 (.mv (.t 7)), oy 64 62 (.cmp .eql (.sc .str) (.t 63) (.c (.str [97, 110, 100]))), o 65 (.pick (.t 62) (.t 64) (.c (.bool false))), o 66 (.mv (.t 65)), oy 67 66 (.mv (.t 8)), oy 68 66 (.cmp .eql (.sc .int) (.t 67) (.c (.int .i64 0))), o 69 (.pick (.t 66) (.t 68) (.c (.bool false))), o 70 (.mv (.t 69)), oy 71 70 (.mv (.t 10)), oy 72 70 (.cmp .eql (.sc .int) (.t 71) (.c (.int .i64 4))), o 73 (.pick (.t 70) (.t 72) (.c (.bool false))), o 74 (.mv (.t 73)), oy 75 74 (.mv (.t 12)), oy 76 74 (.cmp .eql (.sc .int) (.t 75) (.c (.int .i64 9))), o 77 (.pick (.t 74) (.t 76) (.c (.bool false))), o 78 (.mv (.t 77)), oy 79 78 (.call (.f n_ident_Name) [(.c (.str [97, 40, 49, 41]))]), o 80 (.pick (.t 78) (.t 79) (.c (.bool false))), o 81 (.mv (.t 80)), oy 82 81 (.call (.f n_ident_Name) [(.c (.str [97, 32, 98]))]), oy 83 81 (.not (.t 82)), o 84 (.pick (.t 81) (.t 83) (.c (.bool false))), o 85 (.mv (.t 84)), oy 86 85 (.call (.f n_ident_Legal) [(.c (.int .i64 2)), (.c (.str [97, 40, 49, 41]))]), o 87 (.pick (.t 85) (.t 86) (.c (.bool false))), o 88 (.mv (.t 87)), oy 89 88 (.call (.f n_ident_Legal) [(.c (.int .i64 3)), (.c (.str [97, 40, 49, 41]))]), oy 90 88 (.not (.t 89)), o 91 (.pick (.t 88) (.t 90) (.c (.bool false))), o 92 (.mv (.t 91)), oy 93 92 (.lit 1 [(.str []), (.str [])] [(0, (.c (.str [110, 50]))), (1, (.c (.str [110, 49])))]), oy 94 92 (.call (.f n_ident_Fresh) [(.t 93), (.c (.str [110]))]), oy 95 92 (.cmp .eql (.sc .str) (.t 94) (.c (.str [110, 51]))), o 96 (.pick (.t 92) (.t 95) (.c (.bool false))), o 0 (.mv (.t 96))]
abbrev w04_works_p1 : List AG := [o 37 (.call (.f n_ident_Spell) [(.c (.int .i64 7)), (.c (.str [97]))]), o 36 (.mv (.t 37)), o 38 (.extract (.t 36) 0), o 39 (.extract (.t 36) 1), o 11 (.mv (.t 38)), o 12 (.mv (.t 39))]
abbrev w04_works_p2 : List AG := [o 32 (.build [(.int .i64 0), (.str []), (.int .i64 0)] [(1, 1, (.c (.str [97, 110, 100])))]), o 33 (.call (.f n_ident_Word) [(.c (.int .i64 4)), (.t 32)]), o 31 (.mv (.t 33)), o 34 (.extract (.t 31) 0), o 35 (.extract (.t 31) 1), o 9 (.mv (.t 34)), o 10 (.mv (.t 35))]
abbrev w04_works_p3 : List AG := [o 27 (.build [(.int .i64 0), (.str []), (.int .i64 0)] [(0, 1, (.c (.int .i64 2))), (1, 1, (.c (.str [97, 110, 100])))]), o 28 (.call (.f n_ident_Word) [(.c (.int .i64 4)), (.t 27)]), o 26 (.mv (.t 28)), o 29 (.extract (.t 26) 0), o 30 (.extract (.t 26) 1), o 7 (.mv (.t 29)), o 8 (.mv (.t 30))]
abbrev w04_works_p4 : List AG := [o 23 (.call (.f n_ident_Spell) [(.c (.int .i64 4)), (.c (.str [97, 110, 100]))]), o 22 (.mv (.t 23)), o 24 (.extract (.t 22) 0), o 25 (.extract (.t 22) 1), o 5 (.mv (.t 24)), o 6 (.mv (.t 25))]
abbrev w04_works_p5 : List AG := [o 18 (.mv (.t 1)), o 19 (.call (.f n_ident_Read) [(.c (.int .i64 3)), (.t 18)]), o 17 (.mv (.t 19)), o 20 (.extract (.t 17) 0), o 21 (.extract (.t 17) 1), o 3 (.mv (.t 20)), o 4 (.mv (.t 21))]
abbrev w04_works_p6 : List AG := [o 14 (.call (.f n_ident_Spell) [(.c (.int .i64 3)), (.c (.str [97, 40, 49, 41]))]), o 13 (.mv (.t 14)), o 15 (.extract (.t 13) 0), o 16 (.extract (.t 13) 1), o 1 (.mv (.t 15)), o 2 (.mv (.t 16))]
abbrev w04_works_p7 : List AG := [o 0 (.mv (.c (.bool false)))]
abbrev w04_works : AFun := ⟨(.seq (.reg w04_works_p7) (.seq (.reg w04_works_p6) (.seq (.reg w04_works_p5) (.seq (.reg w04_works_p4) (.seq (.reg w04_works_p3) (.seq (.reg w04_works_p2) (.seq (.reg w04_works_p1) (.seq (.reg w04_works_p0) .ret)))))))), 97, [.tmp 0]⟩
@[simp] theorem c_w04_works : cfun Tryd.prog n_w04_works = some w04_works := by kernel_rfl
@[simp] theorem e_w04_works : hasBody Tryd.prog n_w04_works = true := by kernel_rfl

/- ident_Word: patchbay/ident.Word -/
abbrev ident_Word_p0 : List AG := [o 27 (.mv (.t 0)), o 28 (.off 1 (.t 3)), o 29 (.load false 1 (.t 28)), o 30 (.call (.f n_ident_Read) [(.t 27), (.t 29)]), o 31 (.extract (.t 30) 0), o 32 (.extract (.t 30) 1), o 4 (.mv (.t 31)), o 5 (.mv (.t 32))]
abbrev ident_Word_p1 : List AG := [o 4 (.mv (.c (.str []))), o 5 (.mv (.c (.int .i64 4)))]
abbrev ident_Word_p2 : ACode := (.seq (.reg ident_Word_p1) .ret)
abbrev ident_Word_p3 : List AG := [o 18 (.mv (.t 0)), o 19 (.cmp .eql (.sc .int) (.t 18) (.c (.int .i64 4))), o 20 (.mv (.t 19)), oy 21 20 (.mv (.t 0)), oy 22 20 (.off 1 (.t 3)), oy 23 20 (.load false 1 (.t 22)), oy 24 20 (.call (.f n_ident_Legal) [(.t 21), (.t 23)]), oy 25 20 (.not (.t 24)), o 26 (.pick (.t 20) (.t 25) (.c (.bool false))), o 14 (.mv (.t 26))]
abbrev ident_Word_p4 : List AG := [o 15 (.off 0 (.t 3)), o 16 (.load false 1 (.t 15)), o 17 (.cmp .neq (.sc .int) (.t 16) (.c (.int .i64 0))), o 14 (.mv (.t 17))]
abbrev ident_Word_p5 : ACode := (.seq (.seq (.reg ident_Word_p4) (.cond (.t 14) .skip (.reg ident_Word_p3))) (.cond (.t 14) ident_Word_p2 .skip))
abbrev ident_Word_p6 : List AG := [o 7 (.off 0 (.t 3)), o 8 (.load false 1 (.t 7)), o 9 (.cmp .eql (.sc .int) (.t 8) (.c (.int .i64 2))), o 10 (.mv (.t 9)), oy 11 10 (.mv (.t 0)), oy 12 10 (.cmp .eql (.sc .int) (.t 11) (.c (.int .i64 4))), o 13 (.pick (.t 10) (.t 12) (.c (.bool false))), o 6 (.mv (.t 13))]
abbrev ident_Word_p7 : ACode := (.seq (.reg ident_Word_p6) (.cond (.t 6) .skip ident_Word_p5))
abbrev ident_Word_p8 : List AG := [o 3 (.box 3 (.t 1)), o 4 (.mv (.c (.str []))), o 5 (.mv (.c (.int .i64 0)))]
abbrev ident_Word : AFun := ⟨(.seq (.reg ident_Word_p8) (.seq (.block 0 [] ident_Word_p7) (.seq (.reg ident_Word_p0) .ret))), 33, [.tmp 4, .tmp 5]⟩
@[simp] theorem c_ident_Word : cfun Tryd.prog n_ident_Word = some ident_Word := by kernel_rfl
@[simp] theorem e_ident_Word : hasBody Tryd.prog n_ident_Word = true := by kernel_rfl

/- r04_Word: patchbay/patchbayref04.Word -/
abbrev r04_Word_p0 : List AG := [o 32 (.mv (.t 0)), o 33 (.off 1 (.t 3)), o 34 (.load false 1 (.t 33)), o 35 (.call (.f n_r04_Read) [(.t 32), (.t 34)]), o 36 (.extract (.t 35) 0), o 37 (.extract (.t 35) 1), o 4 (.mv (.t 36)), o 5 (.mv (.t 37))]
abbrev r04_Word_p1 : List AG := [o 4 (.mv (.c (.str []))), o 5 (.mv (.c (.int .i64 4)))]
abbrev r04_Word_p2 : ACode := (.seq (.reg r04_Word_p1) .ret)
abbrev r04_Word_p3 : List AG := [o 18 (.mv (.t 0)), o 19 (.cmp .eql (.sc .int) (.t 18) (.c (.int .i64 4))), o 20 (.mv (.t 19)), oy 21 20 (.off 0 (.t 3)), oy 22 20 (.load false 1 (.t 21)), oy 23 20 (.cmp .eql (.sc .int) (.t 22) (.c (.int .i64 0))), o 24 (.pick (.t 20) (.t 23) (.c (.bool false))), o 25 (.mv (.t 24)), oy 26 25 (.mv (.t 0)), oy 27 25 (.off 1 (.t 3)), oy 28 25 (.load false 1 (.t 27)), oy 29 25 (.call (.f n_r04_Legal) [(.t 26), (.t 28)]), oy 30 25 (.not (.t 29)), o 31 (.pick (.t 25) (.t 30) (.c (.bool false)))]
abbrev r04_Word_p4 : List AG := [o 4 (.mv (.c (.str []))), o 5 (.mv (.c (.int .i64 4)))]
abbrev r04_Word_p5 : ACode := (.seq (.reg r04_Word_p4) .ret)
abbrev r04_Word_p6 : List AG := [o 6 (.off 0 (.t 3)), o 7 (.load false 1 (.t 6)), o 8 (.cmp .neq (.sc .int) (.t 7) (.c (.int .i64 0))), o 9 (.mv (.t 8)), oy 10 9 (.off 0 (.t 3)), oy 11 9 (.load false 1 (.t 10)), oy 12 9 (.cmp .neq (.sc .int) (.t 11) (.c (.int .i64 2))), oy 13 9 (.mv (.t 12)), on 14 13 (.mv (.t 0)), on 15 13 (.cmp .neq (.sc .int) (.t 14) (.c (.int .i64 4))), oy 16 9 (.pick (.t 13) (.c (.bool true)) (.t 15)), o 17 (.pick (.t 9) (.t 16) (.c (.bool false)))]
abbrev r04_Word_p7 : List AG := [o 3 (.box 3 (.t 1)), o 4 (.mv (.c (.str []))), o 5 (.mv (.c (.int .i64 0)))]
abbrev r04_Word : AFun := ⟨(.seq (.reg r04_Word_p7) (.seq (.seq (.reg r04_Word_p6) (.cond (.t 17) r04_Word_p5 .skip)) (.seq (.seq (.reg r04_Word_p3) (.cond (.t 31) r04_Word_p2 .skip)) (.seq (.reg r04_Word_p0) .ret)))), 38, [.tmp 4, .tmp 5]⟩
@[simp] theorem c_r04_Word : cfun Tryd.prog n_r04_Word = some r04_Word := by kernel_rfl
@[simp] theorem e_r04_Word : hasBody Tryd.prog n_r04_Word = true := by kernel_rfl

/- r04_Fresh: patchbay/patchbayref04.Fresh -/
abbrev r04_Fresh_p0 : List AG := [o 37 (.mv (.t 1)), o 38 (.mv (.t 8)), o 39 (.concat (.t 37) (.t 38)), o 4 (.mv (.t 39))]
abbrev r04_Fresh_p1 : List AG := [o 31 (.mv (.t 0)), o 32 (.len (.t 31)), o 33 (.ibin .add (.t 32) (.c (.int .i64 1))), o 34 (.call (.f n_r02_Put) [(.t 33)]), o 30 (.mv (.t 34)), o 35 (.extract (.t 30) 0), o 36 (.extract (.t 30) 1), o 8 (.mv (.t 35)), o 9 (.mv (.t 36))]
abbrev r04_Fresh_m2 : List Bool := [I,I,O,O,O,I,O,O,O,O,O,O,O,O,O,O,O,O,O,O,O,O,O,O,O,O,O,O,O,O,O,O,O,O,O,O,O,O,O,O]
abbrev r04_Fresh_x2 : List Bool := [I,I,O,O,O,O,O,O,O,O,O,O,O,O,O,O,O,O,O,O,O,O,O,O,O,O,O,O,O,O,O,O,O,O,O,O,O,O,O,O]
abbrev r04_Fresh_p3 : List AG := [o 14 (.mv (.t 5)), o 15 (.ibin .add (.t 14) (.c (.int .i64 1))), o 5 (.mv (.t 15))]
abbrev r04_Fresh_p4 : List AG := [o 27 (.mv (.t 1)), o 28 (.mv (.t 6)), o 29 (.concat (.t 27) (.t 28)), o 4 (.mv (.t 29))]
abbrev r04_Fresh_p5 : ACode := (.seq (.reg r04_Fresh_p4) .ret)
abbrev r04_Fresh_p6 : List AG := [o 21 (.mv (.t 0)), o 22 (.mv (.t 1)), o 23 (.mv (.t 6)), o 24 (.concat (.t 22) (.t 23)), o 25 (.call (.f n_r01_Has) [(.t 21), (.t 24)]), o 26 (.not (.t 25))]
abbrev r04_Fresh_p7 : List AG := [o 17 (.mv (.t 5)), o 18 (.call (.f n_r02_Put) [(.t 17)]), o 16 (.mv (.t 18)), o 19 (.extract (.t 16) 0), o 20 (.extract (.t 16) 1), o 6 (.mv (.t 19)), o 7 (.mv (.t 20))]
abbrev r04_Fresh_p8 : ACode := (.seq (.reg r04_Fresh_p7) (.seq (.reg r04_Fresh_p6) (.cond (.t 26) r04_Fresh_p5 .skip)))
abbrev r04_Fresh_p9 : List AG := [o 10 (.mv (.t 5)), o 11 (.mv (.t 0)), o 12 (.len (.t 11)), o 13 (.cmp .leq (.sc .int) (.t 10) (.t 12))]
abbrev r04_Fresh_b2 : ACode := (.seq (.seq (.reg r04_Fresh_p9) (.cond (.t 13) .skip (.exit 0))) (.seq (.block 1 [] r04_Fresh_p8) (.reg r04_Fresh_p3)))
abbrev r04_Fresh_p10 : List AG := [o 5 (.mv (.c (.int .i64 1)))]
abbrev r04_Fresh_p11 : List AG := [o 4 (.mv (.c (.str [])))]
abbrev r04_Fresh : AFun := ⟨(.seq (.reg r04_Fresh_p11) (.seq (.seq (.reg r04_Fresh_p10) (.block 0 r04_Fresh_x2 (.loop r04_Fresh_m2 r04_Fresh_b2))) (.seq (.reg r04_Fresh_p1) (.seq (.reg r04_Fresh_p0) .ret)))), 40, [.tmp 4]⟩
abbrev r04_Fresh_k2 : List It := [.code (.seq (.reg r04_Fresh_p1) (.seq (.reg r04_Fresh_p0) .ret))]
abbrev r04_Fresh_L2 (x0 x1 x5 : AV) (h : List Ob) (e : Cx := cx) : Cfg := atC n_r04_Fresh (.code r04_Fresh_b2 :: .inLoop r04_Fresh_m2 r04_Fresh_b2 :: .inBlock 0 r04_Fresh_x2 :: r04_Fresh_k2) [x0,x1,U,U,U,x5,U,U,U,U,U,U,U,U,U,U,U,U,U,U,U,U,U,U,U,U,U,U,U,U,U,U,U,U,U,U,U,U,U,U] h e
abbrev r04_Fresh_E2 (x0 x1 : AV) (h : List Ob) (e : Cx := cx) : Cfg := atC n_r04_Fresh r04_Fresh_k2 [x0,x1,U,U,U,U,U,U,U,U,U,U,U,U,U,U,U,U,U,U,U,U,U,U,U,U,U,U,U,U,U,U,U,U,U,U,U,U,U,U] h e
@[simp] theorem c_r04_Fresh : cfun Tryd.prog n_r04_Fresh = some r04_Fresh := by kernel_rfl
@[simp] theorem e_r04_Fresh : hasBody Tryd.prog n_r04_Fresh = true := by kernel_rfl

/- ident_Fresh: patchbay/ident.Fresh -/
abbrev ident_Fresh_p0 : List AG := [o 16 (.load false 1 (.t 5)), o 4 (.mv (.t 16))]
abbrev ident_Fresh_p1 : List AG := [o 6 (.mv (.t 10))]
abbrev ident_Fresh_p2 : List AG := [o 15 (.mv (.t 6)), q (.store 1 (.t 5) (.t 15))]
abbrev ident_Fresh_p3 : ACode := (.seq (.reg ident_Fresh_p2) (.exit 0))
abbrev ident_Fresh_p4 : List AG := [o 11 (.load false 1 (.t 2)), o 12 (.mv (.t 6)), o 13 (.call (.f n_slices_Contains_string_string) [(.t 11), (.t 12)]), o 14 (.not (.t 13))]
abbrev ident_Fresh_p5 : ACode := (.seq (.reg ident_Fresh_p4) (.cond (.t 14) ident_Fresh_p3 .skip))
abbrev ident_Fresh_p6 : ACode := (.block 1 [] ident_Fresh_p5)
abbrev ident_Fresh_p7 : ACode := (.rangeFunc (.t 9) [10] [O,O,I,O,I,I,O,O,O,O,O,O,O,O,O,O,O] (.reg ident_Fresh_p1) ident_Fresh_p6)
abbrev ident_Fresh_p8 : List AG := [o 8 (.mv (.t 1)), o 9 (.call (.f n_ident_names) [(.t 8)])]
abbrev ident_Fresh_p9 : List AG := [o 7 (.mv (.t 1)), o 5 (.alloc [(.str [])]), q (.store 1 (.t 5) (.t 7))]
abbrev ident_Fresh_p10 : List AG := [o 2 (.box 1 (.t 0)), o 4 (.mv (.c (.str [])))]
abbrev ident_Fresh : AFun := ⟨(.seq (.reg ident_Fresh_p10) (.seq (.reg ident_Fresh_p9) (.seq (.seq (.reg ident_Fresh_p8) (.block 0 [] ident_Fresh_p7)) (.seq (.reg ident_Fresh_p0) .ret)))), 17, [.tmp 4]⟩
@[simp] theorem c_ident_Fresh : cfun Tryd.prog n_ident_Fresh = some ident_Fresh := by kernel_rfl
@[simp] theorem e_ident_Fresh : hasBody Tryd.prog n_ident_Fresh = true := by kernel_rfl

/- ident_Spell: patchbay/ident.Spell -/
abbrev ident_Spell_p0 : List AG := [o 47 (.mv (.t 1)), o 4 (.mv (.t 47)), o 5 (.mv (.c (.int .i64 0)))]
abbrev ident_Spell_p1 : List AG := [o 4 (.mv (.c (.str []))), o 5 (.mv (.c (.int .i64 4)))]
abbrev ident_Spell_p2 : List AG := [o 4 (.mv (.c (.str []))), o 5 (.mv (.c (.int .i64 9)))]
abbrev ident_Spell_p3 : List AG := [o 19 (.mv (.t 1)), o 4 (.mv (.t 19)), o 5 (.mv (.c (.int .i64 0)))]
abbrev ident_Spell_p4 : List AG := [o 29 (.mv (.t 1)), o 30 (.concat (.c (.str [92])) (.t 29)), o 31 (.concat (.t 30) (.c (.str [32]))), o 4 (.mv (.t 31)), o 5 (.mv (.c (.int .i64 0)))]
abbrev ident_Spell_p5 : List AG := [o 45 (.mv (.t 1)), o 46 (.call (.f n_ident_spelled) [(.t 45)]), o 4 (.mv (.t 46)), o 5 (.mv (.c (.int .i64 0)))]
abbrev ident_Spell_p6 : ACode := (.seq (.reg ident_Spell_p5) .ret)
abbrev ident_Spell_p7 : List AG := [o 33 (.mv (.t 0)), o 34 (.cmp .neq (.sc .int) (.t 33) (.c (.int .i64 4))), o 35 (.mv (.t 34)), oy 36 35 (.mv (.t 1)), oy 37 35 (.call (.f n_strings_HasPrefix) [(.t 36), (.c (.str [120, 95, 95]))]), oy 38 35 (.mv (.t 37)), on 39 38 (.mv (.t 0)), on 40 38 (.mv (.t 1)), on 41 38 (.call (.f n_ident_Legal) [(.t 39), (.t 40)]), on 42 38 (.not (.t 41)), oy 43 35 (.pick (.t 38) (.c (.bool true)) (.t 42)), o 44 (.pick (.t 35) (.t 43) (.c (.bool false))), o 32 (.mv (.t 44))]
abbrev ident_Spell_p8 : ACode := (.seq (.reg ident_Spell_p4) .ret)
abbrev ident_Spell_p9 : ACode := (.seq (.reg ident_Spell_p7) (.cond (.t 32) ident_Spell_p6 .skip))
abbrev ident_Spell_p10 : List AG := [o 21 (.mv (.t 0)), o 22 (.cmp .eql (.sc .int) (.t 21) (.c (.int .i64 4))), o 23 (.mv (.t 22)), oy 24 23 (.mv (.t 0)), oy 25 23 (.mv (.t 1)), oy 26 23 (.call (.f n_ident_Legal) [(.t 24), (.t 25)]), oy 27 23 (.not (.t 26)), o 28 (.pick (.t 23) (.t 27) (.c (.bool false))), o 20 (.mv (.t 28))]
abbrev ident_Spell_p11 : ACode := (.seq (.reg ident_Spell_p3) .ret)
abbrev ident_Spell_p12 : ACode := (.seq (.reg ident_Spell_p10) (.cond (.t 20) ident_Spell_p8 ident_Spell_p9))
abbrev ident_Spell_p13 : List AG := [o 17 (.mv (.t 0)), o 18 (.cmp .eql (.sc .int) (.t 17) (.c (.int .i64 1))), o 14 (.mv (.t 18))]
abbrev ident_Spell_p14 : List AG := [o 15 (.mv (.t 0)), o 16 (.cmp .eql (.sc .int) (.t 15) (.c (.int .i64 0))), o 14 (.mv (.t 16))]
abbrev ident_Spell_p15 : ACode := (.seq (.reg ident_Spell_p2) .ret)
abbrev ident_Spell_p16 : ACode := (.seq (.seq (.reg ident_Spell_p14) (.cond (.t 14) .skip (.reg ident_Spell_p13))) (.cond (.t 14) ident_Spell_p11 ident_Spell_p12))
abbrev ident_Spell_p17 : List AG := [o 11 (.mv (.t 0)), o 12 (.call (.f n_ident_known) [(.t 11)]), o 13 (.not (.t 12)), o 10 (.mv (.t 13))]
abbrev ident_Spell_p18 : ACode := (.seq (.reg ident_Spell_p1) .ret)
abbrev ident_Spell_p19 : ACode := (.seq (.reg ident_Spell_p17) (.cond (.t 10) ident_Spell_p15 ident_Spell_p16))
abbrev ident_Spell_p20 : List AG := [o 7 (.mv (.t 1)), o 8 (.call (.f n_ident_Name) [(.t 7)]), o 9 (.not (.t 8)), o 6 (.mv (.t 9))]
abbrev ident_Spell_p21 : ACode := (.seq (.reg ident_Spell_p20) (.cond (.t 6) ident_Spell_p18 ident_Spell_p19))
abbrev ident_Spell_p22 : List AG := [o 4 (.mv (.c (.str []))), o 5 (.mv (.c (.int .i64 0)))]
abbrev ident_Spell : AFun := ⟨(.seq (.reg ident_Spell_p22) (.seq (.block 0 [] ident_Spell_p21) (.seq (.reg ident_Spell_p0) .ret))), 48, [.tmp 4, .tmp 5]⟩
@[simp] theorem c_ident_Spell : cfun Tryd.prog n_ident_Spell = some ident_Spell := by kernel_rfl
@[simp] theorem e_ident_Spell : hasBody Tryd.prog n_ident_Spell = true := by kernel_rfl

/- ident_Read: patchbay/ident.Read -/
abbrev ident_Read_p0 : List AG := [o 43 (.mv (.t 1)), o 4 (.mv (.t 43)), o 5 (.mv (.c (.int .i64 0)))]
abbrev ident_Read_p1 : List AG := [o 4 (.mv (.c (.str []))), o 5 (.mv (.c (.int .i64 4)))]
abbrev ident_Read_p2 : ACode := (.seq (.reg ident_Read_p1) .ret)
abbrev ident_Read_p3 : List AG := [o 40 (.mv (.t 1)), o 41 (.call (.f n_ident_Name) [(.t 40)]), o 42 (.not (.t 41))]
abbrev ident_Read_p4 : List AG := [o 4 (.mv (.c (.str []))), o 5 (.mv (.c (.int .i64 4)))]
abbrev ident_Read_p5 : ACode := (.seq (.reg ident_Read_p4) .ret)
abbrev ident_Read_p6 : List AG := [o 36 (.mv (.t 0)), o 37 (.mv (.t 1)), o 38 (.call (.f n_ident_Legal) [(.t 36), (.t 37)]), o 39 (.not (.t 38))]
abbrev ident_Read_p7 : List AG := [o 35 (.mv (.t 6)), o 4 (.mv (.t 35)), o 5 (.mv (.c (.int .i64 0)))]
abbrev ident_Read_p8 : ACode := (.seq (.reg ident_Read_p7) .ret)
abbrev ident_Read_p9 : List AG := [o 28 (.mv (.t 8)), o 29 (.cmp .eql (.sc .int) (.t 28) (.c (.int .i64 0))), o 30 (.mv (.t 29)), oy 31 30 (.mv (.t 7)), oy 32 30 (.mv (.t 1)), oy 33 30 (.cmp .eql (.sc .str) (.t 31) (.t 32)), o 34 (.pick (.t 30) (.t 33) (.c (.bool false)))]
abbrev ident_Read_p10 : List AG := [o 23 (.mv (.t 0)), o 24 (.mv (.t 6)), o 25 (.call (.f n_ident_Spell) [(.t 23), (.t 24)]), o 22 (.mv (.t 25)), o 26 (.extract (.t 22) 0), o 27 (.extract (.t 22) 1), o 7 (.mv (.t 26)), o 8 (.mv (.t 27))]
abbrev ident_Read_p11 : ACode := (.seq (.reg ident_Read_p10) (.seq (.reg ident_Read_p9) (.cond (.t 34) ident_Read_p8 .skip)))
abbrev ident_Read_p12 : List AG := [o 20 (.mv (.t 6)), o 21 (.cmp .neq (.sc .str) (.t 20) (.c (.str [])))]
abbrev ident_Read_p13 : List AG := [o 18 (.mv (.t 1)), o 19 (.call (.f n_ident_unspelled) [(.t 18)]), o 6 (.mv (.t 19))]
abbrev ident_Read_p14 : ACode := (.seq (.seq (.reg ident_Read_p13) (.seq (.reg ident_Read_p12) (.cond (.t 21) ident_Read_p11 .skip))) (.seq (.reg ident_Read_p6) (.cond (.t 39) ident_Read_p5 .skip)))
abbrev ident_Read_p15 : List AG := [o 12 (.mv (.t 0)), o 13 (.cmp .eql (.sc .int) (.t 12) (.c (.int .i64 2))), o 14 (.mv (.t 13)), on 15 14 (.mv (.t 0)), on 16 14 (.cmp .eql (.sc .int) (.t 15) (.c (.int .i64 3))), o 17 (.pick (.t 14) (.c (.bool true)) (.t 16))]
abbrev ident_Read_p16 : List AG := [o 4 (.mv (.c (.str []))), o 5 (.mv (.c (.int .i64 9)))]
abbrev ident_Read_p17 : ACode := (.seq (.reg ident_Read_p16) .ret)
abbrev ident_Read_p18 : List AG := [o 9 (.mv (.t 0)), o 10 (.call (.f n_ident_known) [(.t 9)]), o 11 (.not (.t 10))]
abbrev ident_Read_p19 : List AG := [o 4 (.mv (.c (.str []))), o 5 (.mv (.c (.int .i64 0)))]
abbrev ident_Read : AFun := ⟨(.seq (.reg ident_Read_p19) (.seq (.seq (.reg ident_Read_p18) (.cond (.t 11) ident_Read_p17 .skip)) (.seq (.seq (.reg ident_Read_p15) (.cond (.t 17) ident_Read_p14 .skip)) (.seq (.seq (.reg ident_Read_p3) (.cond (.t 42) ident_Read_p2 .skip)) (.seq (.reg ident_Read_p0) .ret))))), 44, [.tmp 4, .tmp 5]⟩
@[simp] theorem c_ident_Read : cfun Tryd.prog n_ident_Read = some ident_Read := by kernel_rfl
@[simp] theorem e_ident_Read : hasBody Tryd.prog n_ident_Read = true := by kernel_rfl

/- ident_Legal: patchbay/ident.Legal -/
abbrev ident_Legal_p0 : List AG := [o 15 (.mv (.t 5)), o 16 (.mkFunc (.func n_ident_name_plain) [(.t 15)] []), o 17 (.mv (.t 5)), o 18 (.mkFunc (.func n_ident_name_plain) [(.t 17)] []), o 19 (.mv (.t 5)), o 20 (.mkFunc (.func n_ident_name_blif) [(.t 19)] []), o 21 (.mv (.t 5)), o 22 (.mkFunc (.func n_ident_name_bench) [(.t 21)] []), o 23 (.mv (.t 5)), o 24 (.mkFunc (.func n_ident_name_verilog) [(.t 23)] []), o 25 (.build [.nilf, .nilf, .nilf, .nilf, .nilf] [(0, 1, (.t 16)), (1, 1, (.t 18)), (2, 1, (.t 20)), (3, 1, (.t 22)), (4, 1, (.t 24))]), o 26 (.mv (.t 0)), o 27 (.ixArr 5 false 1 (.t 25) (.t 26)), o 28 (.call (.t 27) []), o 4 (.mv (.t 28))]
abbrev ident_Legal_p1 : List AG := [o 14 (.mv (.t 1)), o 5 (.mv (.t 14))]
abbrev ident_Legal_p2 : List AG := [o 4 (.mv (.c (.bool false)))]
abbrev ident_Legal_p3 : ACode := (.seq (.reg ident_Legal_p2) .ret)
abbrev ident_Legal_p4 : List AG := [o 6 (.mv (.t 0)), o 7 (.call (.f n_ident_known) [(.t 6)]), o 8 (.not (.t 7)), o 9 (.mv (.t 8)), on 10 9 (.mv (.t 1)), on 11 9 (.call (.f n_ident_Name) [(.t 10)]), on 12 9 (.not (.t 11)), o 13 (.pick (.t 9) (.c (.bool true)) (.t 12))]
abbrev ident_Legal_p5 : List AG := [o 4 (.mv (.c (.bool false)))]
abbrev ident_Legal : AFun := ⟨(.seq (.reg ident_Legal_p5) (.seq (.seq (.reg ident_Legal_p4) (.cond (.t 13) ident_Legal_p3 .skip)) (.seq (.reg ident_Legal_p1) (.seq (.reg ident_Legal_p0) .ret)))), 29, [.tmp 4]⟩
@[simp] theorem c_ident_Legal : cfun Tryd.prog n_ident_Legal = some ident_Legal := by kernel_rfl
@[simp] theorem e_ident_Legal : hasBody Tryd.prog n_ident_Legal = true := by kernel_rfl

/- ident_Name: patchbay/ident.Name -/
abbrev ident_Name_p0 : List AG := [o 3 (.mv (.t 0)), o 4 (.call (.f n_ident_name_plain) [(.t 3)]), o 2 (.mv (.t 4))]
abbrev ident_Name_p1 : List AG := [o 2 (.mv (.c (.bool false)))]
abbrev ident_Name : AFun := ⟨(.seq (.reg ident_Name_p1) (.seq (.reg ident_Name_p0) .ret)), 5, [.tmp 2]⟩
@[simp] theorem c_ident_Name : cfun Tryd.prog n_ident_Name = some ident_Name := by kernel_rfl
@[simp] theorem e_ident_Name : hasBody Tryd.prog n_ident_Name = true := by kernel_rfl

/- r01_Has: patchbay/patchbayref01.Has -/
abbrev r01_Has_p0 : List AG := [o 4 (.mv (.c (.bool false)))]
abbrev r01_Has_m1 : List Bool := [I,I,O,O,O,I,O,O,O,O,O,O,O,O,O,O,O,O]
abbrev r01_Has_x1 : List Bool := [O,O,O,O,O,O,O,O,O,O,O,O,O,O,O,O,O,O]
abbrev r01_Has_p2 : List AG := [o 10 (.mv (.t 5)), o 11 (.ibin .add (.t 10) (.c (.int .i64 1))), o 5 (.mv (.t 11))]
abbrev r01_Has_p3 : List AG := [o 4 (.mv (.c (.bool true)))]
abbrev r01_Has_p4 : ACode := (.seq (.reg r01_Has_p3) .ret)
abbrev r01_Has_p5 : List AG := [o 12 (.mv (.t 0)), o 13 (.mv (.t 5)), o 14 (.ixAddr 1 (.t 12) (.t 13)), o 15 (.load false 1 (.t 14)), o 16 (.mv (.t 1)), o 17 (.cmp .eql (.sc .str) (.t 15) (.t 16))]
abbrev r01_Has_p6 : ACode := (.seq (.reg r01_Has_p5) (.cond (.t 17) r01_Has_p4 .skip))
abbrev r01_Has_p7 : List AG := [o 6 (.mv (.t 5)), o 7 (.mv (.t 0)), o 8 (.len (.t 7)), o 9 (.cmp .lss (.sc .int) (.t 6) (.t 8))]
abbrev r01_Has_b1 : ACode := (.seq (.seq (.reg r01_Has_p7) (.cond (.t 9) .skip (.exit 0))) (.seq (.block 1 [] r01_Has_p6) (.reg r01_Has_p2)))
abbrev r01_Has_p8 : List AG := [o 5 (.mv (.c (.int .i64 0)))]
abbrev r01_Has_p9 : List AG := [o 4 (.mv (.c (.bool false)))]
abbrev r01_Has : AFun := ⟨(.seq (.reg r01_Has_p9) (.seq (.seq (.reg r01_Has_p8) (.block 0 r01_Has_x1 (.loop r01_Has_m1 r01_Has_b1))) (.seq (.reg r01_Has_p0) .ret))), 18, [.tmp 4]⟩
abbrev r01_Has_k1 : List It := [.code (.seq (.reg r01_Has_p0) .ret)]
abbrev r01_Has_L1 (x0 x1 x5 : AV) (h : List Ob) (e : Cx := cx) : Cfg := atC n_r01_Has (.code r01_Has_b1 :: .inLoop r01_Has_m1 r01_Has_b1 :: .inBlock 0 r01_Has_x1 :: r01_Has_k1) [x0,x1,U,U,U,x5,U,U,U,U,U,U,U,U,U,U,U,U] h e
abbrev r01_Has_E1 (h : List Ob) (e : Cx := cx) : Cfg := atC n_r01_Has r01_Has_k1 [U,U,U,U,U,U,U,U,U,U,U,U,U,U,U,U,U,U] h e
@[simp] theorem c_r01_Has : cfun Tryd.prog n_r01_Has = some r01_Has := by kernel_rfl
@[simp] theorem e_r01_Has : hasBody Tryd.prog n_r01_Has = true := by kernel_rfl

/- token_Blif: patchbay/token.Blif -/
abbrev token_Blif_p0 : List AG := [o 51 (.mv (.t 6)), o 2 (.mv (.t 51))]
abbrev token_Blif_m1 : List Bool := [O,O,O,I,O,O,I,O,O,O,O,O,O,O,O,O,O,O,O,O,O,O,O,I,I,I,O,O,O,O,O,O,O,O,O,O,O,O,O,O,O,O,O,O,O,O,O,O,O,O,O,O]
abbrev token_Blif_x1 : List Bool := [O,O,O,O,O,O,I,O,O,O,O,O,O,O,O,O,O,O,O,O,O,O,O,O,O,O,O,O,O,O,O,O,O,O,O,O,O,O,O,O,O,O,O,O,O,O,O,O,O,O,O,O]
abbrev token_Blif_p2 : List AG := [o 50 (.ibin .add (.t 25) (.c (.int .i64 1))), o 25 (.mv (.t 50))]
abbrev token_Blif_p3 : List AG := [o 46 (.mv (.t 6)), o 47 (.load true 3 (.t 8)), o 48 (.lit 3 [(.agg [(.int .i64 0), (.str []), (.int .i64 0)])] [(0, (.t 47))]), o 49 (.append 3 t_token_Token 32 (.t 46) (.t 48)), o 6 (.mv (.t 49))]
abbrev token_Blif_p4 : List AG := [o 30 (.off 0 (.t 8)), o 31 (.load false 1 (.t 30)), o 32 (.cmp .neq (.sc .int) (.t 31) (.c (.int .i64 3))), o 33 (.mv (.t 32)), on 34 33 (.mv (.t 7)), on 35 33 (.cmp .gtr (.sc .int) (.t 34) (.c (.int .i64 0))), on 36 33 (.mv (.t 35)), oy 37 36 (.mv (.t 3)), oy 38 36 (.mv (.t 7)), oy 39 36 (.ibin .sub (.t 38) (.c (.int .i64 1))), oy 40 36 (.ixAddr 3 (.t 37) (.t 39)), oy 41 36 (.off 0 (.t 40)), oy 42 36 (.load false 1 (.t 41)), oy 43 36 (.cmp .neq (.sc .int) (.t 42) (.c (.int .i64 3))), on 44 33 (.pick (.t 36) (.t 43) (.c (.bool false))), o 45 (.pick (.t 33) (.c (.bool true)) (.t 44))]
abbrev token_Blif_p5 : List AG := [o 27 (.mv (.t 25)), o 28 (.ixAddr 3 (.t 23) (.t 25)), o 29 (.load true 3 (.t 28)), o 8 (.alloc [(.int .i64 0), (.str []), (.int .i64 0)]), o 7 (.mv (.t 27)), q (.store 3 (.t 8) (.t 29))]
abbrev token_Blif_p6 : ACode := (.seq (.reg token_Blif_p5) (.seq (.reg token_Blif_p4) (.cond (.t 45) (.reg token_Blif_p3) .skip)))
abbrev token_Blif_p7 : List AG := [o 26 (.cmp .lss (.sc .int) (.t 25) (.t 24))]
abbrev token_Blif_b1 : ACode := (.seq (.reg token_Blif_p7) (.seq (.cond (.t 26) .skip (.exit 0)) (.seq (.block 1 [] token_Blif_p6) (.reg token_Blif_p2))))
abbrev token_Blif_p8 : List AG := [o 23 (.mv (.t 3)), o 24 (.len (.t 23)), o 25 (.mv (.c (.int .i64 0)))]
abbrev token_Blif_p9 : List AG := [o 6 (.nilrow 3 t_token_Token)]
abbrev token_Blif_p10 : List AG := [o 17 (.mv (.t 3)), o 18 (.mv (.t 0)), o 19 (.lenStr (.t 18)), o 20 (.build [(.int .i64 0), (.str []), (.int .i64 0)] [(0, 1, (.c (.int .i64 3))), (2, 1, (.t 19))]), o 21 (.lit 3 [(.agg [(.int .i64 0), (.str []), (.int .i64 0)])] [(0, (.t 20))]), o 22 (.append 3 t_token_Token 32 (.t 17) (.t 21)), o 3 (.mv (.t 22))]
abbrev token_Blif_p11 : List AG := [o 10 (.build [] []), o 11 (.mkIface t_token_blif (.t 10)), o 12 (.mv (.t 0)), o 13 (.call (.f n_token_all) [(.t 11), (.t 12)]), o 9 (.mv (.t 13)), o 14 (.extract (.t 9) 0), o 15 (.extract (.t 9) 1), o 16 (.extract (.t 9) 2), o 3 (.mv (.t 14)), o 4 (.mv (.t 15)), o 5 (.mv (.t 16))]
abbrev token_Blif_p12 : List AG := [o 2 (.nilrow 3 t_token_Token)]
abbrev token_Blif : AFun := ⟨(.seq (.reg token_Blif_p12) (.seq (.reg token_Blif_p11) (.seq (.reg token_Blif_p10) (.seq (.reg token_Blif_p9) (.seq (.seq (.reg token_Blif_p8) (.block 0 token_Blif_x1 (.loop token_Blif_m1 token_Blif_b1))) (.seq (.reg token_Blif_p0) .ret)))))), 52, [.tmp 2]⟩
abbrev token_Blif_k1 : List It := [.code (.seq (.reg token_Blif_p0) .ret)]
abbrev token_Blif_L1 (x3 x6 x23 x24 x25 : AV) (h : List Ob) (e : Cx := cx) : Cfg := atC n_token_Blif (.code token_Blif_b1 :: .inLoop token_Blif_m1 token_Blif_b1 :: .inBlock 0 token_Blif_x1 :: token_Blif_k1) [U,U,U,x3,U,U,x6,U,U,U,U,U,U,U,U,U,U,U,U,U,U,U,U,x23,x24,x25,U,U,U,U,U,U,U,U,U,U,U,U,U,U,U,U,U,U,U,U,U,U,U,U,U,U] h e
abbrev token_Blif_E1 (x6 : AV) (h : List Ob) (e : Cx := cx) : Cfg := atC n_token_Blif token_Blif_k1 [U,U,U,U,U,U,x6,U,U,U,U,U,U,U,U,U,U,U,U,U,U,U,U,U,U,U,U,U,U,U,U,U,U,U,U,U,U,U,U,U,U,U,U,U,U,U,U,U,U,U,U,U] h e
@[simp] theorem c_token_Blif : cfun Tryd.prog n_token_Blif = some token_Blif := by kernel_rfl
@[simp] theorem e_token_Blif : hasBody Tryd.prog n_token_Blif = true := by kernel_rfl

/- token_Bench: patchbay/token.Bench -/
abbrev token_Bench_p0 : List AG := [o 5 (.build [] []), o 6 (.mkIface t_token_bench (.t 5)), o 7 (.mv (.t 0)), o 8 (.call (.f n_token_all) [(.t 6), (.t 7)]), o 9 (.extract (.t 8) 0), o 10 (.extract (.t 8) 1), o 11 (.extract (.t 8) 2), o 2 (.mv (.t 9)), o 3 (.mv (.t 10)), o 4 (.mv (.t 11))]
abbrev token_Bench_p1 : List AG := [o 2 (.nilrow 3 t_token_Token), o 3 (.mv (.c (.int .i64 0))), o 4 (.mv (.c (.int .i64 0)))]
abbrev token_Bench : AFun := ⟨(.seq (.reg token_Bench_p1) (.seq (.reg token_Bench_p0) .ret)), 12, [.tmp 2, .tmp 3, .tmp 4]⟩
@[simp] theorem c_token_Bench : cfun Tryd.prog n_token_Bench = some token_Bench := by kernel_rfl
@[simp] theorem e_token_Bench : hasBody Tryd.prog n_token_Bench = true := by kernel_rfl

/- token_Verilog: patchbay/token.Verilog -/
abbrev token_Verilog_p0 : List AG := [o 5 (.build [] []), o 6 (.mkIface t_token_verilog (.t 5)), o 7 (.mv (.t 0)), o 8 (.call (.f n_token_all) [(.t 6), (.t 7)]), o 9 (.extract (.t 8) 0), o 10 (.extract (.t 8) 1), o 11 (.extract (.t 8) 2), o 2 (.mv (.t 9)), o 3 (.mv (.t 10)), o 4 (.mv (.t 11))]
abbrev token_Verilog_p1 : List AG := [o 2 (.nilrow 3 t_token_Token), o 3 (.mv (.c (.int .i64 0))), o 4 (.mv (.c (.int .i64 0)))]
abbrev token_Verilog : AFun := ⟨(.seq (.reg token_Verilog_p1) (.seq (.reg token_Verilog_p0) .ret)), 12, [.tmp 2, .tmp 3, .tmp 4]⟩
@[simp] theorem c_token_Verilog : cfun Tryd.prog n_token_Verilog = some token_Verilog := by kernel_rfl
@[simp] theorem e_token_Verilog : hasBody Tryd.prog n_token_Verilog = true := by kernel_rfl

/- r04_Find: patchbay/patchbayref04.Find -/
abbrev r04_Find_p0 : List AG := [o 6 (.mv (.c (.int .i64 0)))]
abbrev r04_Find_m1 : List Bool := [I,I,I,O,O,O,O,I,O,O,O,O,O,O,O,O,O,O,O,O,O,O,O,O,O,O,O,O,O,O,O,O,O,O,O,O,O]
abbrev r04_Find_x1 : List Bool := [O,O,O,O,O,O,O,O,O,O,O,O,O,O,O,O,O,O,O,O,O,O,O,O,O,O,O,O,O,O,O,O,O,O,O,O,O]
abbrev r04_Find_p2 : List AG := [o 14 (.mv (.t 7)), o 15 (.ibin .add (.t 14) (.c (.int .i64 1))), o 7 (.mv (.t 15))]
abbrev r04_Find_p3 : List AG := [o 32 (.mv (.t 1)), o 33 (.mv (.t 7)), o 34 (.ixAddr 3 (.t 32) (.t 33)), o 35 (.off 2 (.t 34)), o 36 (.load false 1 (.t 35)), o 6 (.mv (.t 36))]
abbrev r04_Find_p4 : ACode := (.seq (.reg r04_Find_p3) .ret)
abbrev r04_Find_p5 : List AG := [o 25 (.mv (.t 9)), o 26 (.cmp .eql (.sc .int) (.t 25) (.c (.int .i64 0))), o 27 (.mv (.t 26)), oy 28 27 (.mv (.t 8)), oy 29 27 (.mv (.t 2)), oy 30 27 (.cmp .eql (.sc .str) (.t 28) (.t 29)), o 31 (.pick (.t 27) (.t 30) (.c (.bool false)))]
abbrev r04_Find_p6 : List AG := [o 17 (.mv (.t 0)), o 18 (.mv (.t 1)), o 19 (.mv (.t 7)), o 20 (.ixAddr 3 (.t 18) (.t 19)), o 21 (.load true 3 (.t 20)), o 22 (.call (.f n_r04_Word) [(.t 17), (.t 21)]), o 16 (.mv (.t 22)), o 23 (.extract (.t 16) 0), o 24 (.extract (.t 16) 1), o 8 (.mv (.t 23)), o 9 (.mv (.t 24))]
abbrev r04_Find_p7 : ACode := (.seq (.reg r04_Find_p6) (.seq (.reg r04_Find_p5) (.cond (.t 31) r04_Find_p4 .skip)))
abbrev r04_Find_p8 : List AG := [o 10 (.mv (.t 7)), o 11 (.mv (.t 1)), o 12 (.len (.t 11)), o 13 (.cmp .lss (.sc .int) (.t 10) (.t 12))]
abbrev r04_Find_b1 : ACode := (.seq (.seq (.reg r04_Find_p8) (.cond (.t 13) .skip (.exit 0))) (.seq (.block 1 [] r04_Find_p7) (.reg r04_Find_p2)))
abbrev r04_Find_p9 : List AG := [o 7 (.mv (.c (.int .i64 0)))]
abbrev r04_Find_p10 : List AG := [o 6 (.mv (.c (.int .i64 0)))]
abbrev r04_Find : AFun := ⟨(.seq (.reg r04_Find_p10) (.seq (.seq (.reg r04_Find_p9) (.block 0 r04_Find_x1 (.loop r04_Find_m1 r04_Find_b1))) (.seq (.reg r04_Find_p0) .ret))), 37, [.tmp 6]⟩
abbrev r04_Find_k1 : List It := [.code (.seq (.reg r04_Find_p0) .ret)]
abbrev r04_Find_L1 (x0 x1 x2 x7 : AV) (h : List Ob) (e : Cx := cx) : Cfg := atC n_r04_Find (.code r04_Find_b1 :: .inLoop r04_Find_m1 r04_Find_b1 :: .inBlock 0 r04_Find_x1 :: r04_Find_k1) [x0,x1,x2,U,U,U,U,x7,U,U,U,U,U,U,U,U,U,U,U,U,U,U,U,U,U,U,U,U,U,U,U,U,U,U,U,U,U] h e
abbrev r04_Find_E1 (h : List Ob) (e : Cx := cx) : Cfg := atC n_r04_Find r04_Find_k1 [U,U,U,U,U,U,U,U,U,U,U,U,U,U,U,U,U,U,U,U,U,U,U,U,U,U,U,U,U,U,U,U,U,U,U,U,U] h e
@[simp] theorem c_r04_Find : cfun Tryd.prog n_r04_Find = some r04_Find := by kernel_rfl
@[simp] theorem e_r04_Find : hasBody Tryd.prog n_r04_Find = true := by kernel_rfl

/- w04_Of: patchbay/patchbaylaw04.Of -/
abbrev w04_Of_p0 : List AG := [o 30 (.mv (.t 3)), o 2 (.mv (.t 30))]
abbrev w04_Of_m1 : List Bool := [I,O,O,I,I,O,O,O,O,O,O,O,O,O,O,O,O,O,O,O,O,O,O,O,O,O,O,O,O,O,O]
abbrev w04_Of_x1 : List Bool := [O,O,O,I,O,O,O,O,O,O,O,O,O,O,O,O,O,O,O,O,O,O,O,O,O,O,O,O,O,O,O]
abbrev w04_Of_p2 : List AG := [o 9 (.mv (.t 4)), o 10 (.ibin .add (.t 9) (.c (.int .i64 1))), o 4 (.mv (.t 10))]
abbrev w04_Of_p3 : List AG := [o 11 (.mv (.t 3)), o 12 (.mv (.t 0)), o 13 (.mv (.t 4)), o 14 (.ixAddr 3 (.t 12) (.t 13)), o 15 (.off 0 (.t 14)), o 16 (.load false 1 (.t 15)), o 17 (.mv (.t 0)), o 18 (.mv (.t 4)), o 19 (.ixAddr 3 (.t 17) (.t 18)), o 20 (.off 1 (.t 19)), o 21 (.load false 1 (.t 20)), o 22 (.mv (.t 0)), o 23 (.mv (.t 4)), o 24 (.ixAddr 3 (.t 22) (.t 23)), o 25 (.off 2 (.t 24)), o 26 (.load false 1 (.t 25)), o 27 (.build [(.int .i64 0), (.str []), (.int .i64 0)] [(0, 1, (.t 16)), (1, 1, (.t 21)), (2, 1, (.t 26))]), o 28 (.lit 3 [(.agg [(.int .i64 0), (.str []), (.int .i64 0)])] [(0, (.t 27))]), o 29 (.append 3 t_r03_Token 32 (.t 11) (.t 28)), o 3 (.mv (.t 29))]
abbrev w04_Of_p4 : List AG := [o 5 (.mv (.t 4)), o 6 (.mv (.t 0)), o 7 (.len (.t 6)), o 8 (.cmp .lss (.sc .int) (.t 5) (.t 7))]
abbrev w04_Of_b1 : ACode := (.seq (.seq (.reg w04_Of_p4) (.cond (.t 8) .skip (.exit 0))) (.seq (.block 1 [] (.dreg [O,O,O,O,O,O,O,O,O,O,O,O,O,O,O,O,O,O,O,O] [19,18,18,18,18,18,18,18,18,18,18,18,18,18,18,18,18,19,21,21] w04_Of_p3)) (.reg w04_Of_p2)))
abbrev w04_Of_p5 : List AG := [o 4 (.mv (.c (.int .i64 0)))]
abbrev w04_Of_p6 : List AG := [o 3 (.nilrow 3 t_r03_Token)]
abbrev w04_Of_p7 : List AG := [o 2 (.nilrow 3 t_r03_Token)]
abbrev w04_Of : AFun := ⟨(.seq (.reg w04_Of_p7) (.seq (.reg w04_Of_p6) (.seq (.seq (.reg w04_Of_p5) (.block 0 w04_Of_x1 (.loop w04_Of_m1 w04_Of_b1))) (.seq (.reg w04_Of_p0) .ret)))), 31, [.tmp 2]⟩
abbrev w04_Of_k1 : List It := [.code (.seq (.reg w04_Of_p0) .ret)]
abbrev w04_Of_L1 (x0 x3 x4 : AV) (h : List Ob) (e : Cx := cx) : Cfg := atC n_w04_Of (.code w04_Of_b1 :: .inLoop w04_Of_m1 w04_Of_b1 :: .inBlock 0 w04_Of_x1 :: w04_Of_k1) [x0,U,U,x3,x4,U,U,U,U,U,U,U,U,U,U,U,U,U,U,U,U,U,U,U,U,U,U,U,U,U,U] h e
abbrev w04_Of_E1 (x3 : AV) (h : List Ob) (e : Cx := cx) : Cfg := atC n_w04_Of w04_Of_k1 [U,U,U,x3,U,U,U,U,U,U,U,U,U,U,U,U,U,U,U,U,U,U,U,U,U,U,U,U,U,U,U] h e
@[simp] theorem c_w04_Of : cfun Tryd.prog n_w04_Of = some w04_Of := by kernel_rfl
@[simp] theorem e_w04_Of : hasBody Tryd.prog n_w04_Of = true := by kernel_rfl

/- ident_Find: patchbay/ident.Find -/
abbrev ident_Find_p0 : List AG := [o 13 (.mv (.t 1)), o 14 (.mv (.t 7)), o 15 (.ixAddr 3 (.t 13) (.t 14)), o 16 (.off 2 (.t 15)), o 17 (.load false 1 (.t 16)), o 6 (.mv (.t 17))]
abbrev ident_Find_p1 : List AG := [o 6 (.mv (.c (.int .i64 0)))]
abbrev ident_Find_p2 : ACode := (.seq (.reg ident_Find_p1) .ret)
abbrev ident_Find_p3 : List AG := [o 11 (.mv (.t 7)), o 12 (.cmp .lss (.sc .int) (.t 11) (.c (.int .i64 0)))]
abbrev ident_Find_p4 : List AG := [o 8 (.mv (.t 1)), o 9 (.mkFunc (.func n_ident_Find_1) [] [(.t 3), (.t 5)]), o 10 (.call (.f n_slices_IndexFunc_token_Token_token_Token) [(.t 8), (.t 9)]), o 7 (.mv (.t 10))]
abbrev ident_Find_p5 : List AG := [o 3 (.box 1 (.t 0)), o 5 (.box 1 (.t 2)), o 6 (.mv (.c (.int .i64 0)))]
abbrev ident_Find : AFun := ⟨(.seq (.reg ident_Find_p5) (.seq (.reg ident_Find_p4) (.seq (.seq (.reg ident_Find_p3) (.cond (.t 12) ident_Find_p2 .skip)) (.seq (.reg ident_Find_p0) .ret)))), 18, [.tmp 6]⟩
@[simp] theorem c_ident_Find : cfun Tryd.prog n_ident_Find = some ident_Find := by kernel_rfl
@[simp] theorem e_ident_Find : hasBody Tryd.prog n_ident_Find = true := by kernel_rfl

/- r04_Legal: patchbay/patchbayref04.Legal -/
abbrev r04_Legal_p0 : List AG := [o 4 (.mv (.c (.bool false)))]
abbrev r04_Legal_p1 : List AG := [o 4 (.mv (.c (.bool true)))]
abbrev r04_Legal_p2 : List AG := [o 15 (.mv (.t 1)), o 16 (.ixStr (.t 15) (.c (.int .i64 0))), o 17 (.cmp .neq (.sc .int) (.t 16) (.c (.int .u8 46))), o 18 (.mv (.t 17)), oy 19 18 (.mv (.t 1)), oy 20 18 (.call (.f n_r04_without) [(.t 19), (.c (.str [35, 92]))]), o 21 (.pick (.t 18) (.t 20) (.c (.bool false))), o 4 (.mv (.t 21))]
abbrev r04_Legal_p3 : List AG := [o 24 (.mv (.t 1)), o 25 (.call (.f n_r04_without) [(.t 24), (.c (.str [61, 40, 41, 44, 35]))]), o 4 (.mv (.t 25))]
abbrev r04_Legal_p4 : List AG := [o 56 (.lit 1 [(.str []), (.str []), (.str []), (.str []), (.str []), (.str []), (.str []), (.str []), (.str []), (.str []), (.str []), (.str []), (.str []), (.str []), (.str []), (.str []), (.str [])] [(0, (.c (.str [109, 111, 100, 117, 108, 101]))), (1, (.c (.str [101, 110, 100, 109, 111, 100, 117, 108, 101]))), (2, (.c (.str [105, 110, 112, 117, 116]))), (3, (.c (.str [111, 117, 116, 112, 117, 116]))), (4, (.c (.str [119, 105, 114, 101]))), (5, (.c (.str [97, 115, 115, 105, 103, 110]))), (6, (.c (.str [98, 117, 102]))), (7, (.c (.str [110, 111, 116]))), (8, (.c (.str [97, 110, 100]))), (9, (.c (.str [110, 97, 110, 100]))), (10, (.c (.str [111, 114]))), (11, (.c (.str [110, 111, 114]))), (12, (.c (.str [120, 111, 114]))), (13, (.c (.str [120, 110, 111, 114]))), (14, (.c (.str [100, 102, 102, 48]))), (15, (.c (.str [100, 102, 102, 49]))), (16, (.c (.str [100, 102, 102, 120])))]), o 57 (.mv (.t 1)), o 58 (.call (.f n_r01_Has) [(.t 56), (.t 57)]), o 59 (.not (.t 58)), o 4 (.mv (.t 59))]
abbrev r04_Legal_m5 : List Bool := [O,I,O,O,O,I,O,O,O,O,O,O,O,O,O,O,O,O,O,O,O,O,O,O,O,O,O,O,O,O,O,O,O,O,O,O,O,O,O,O,O,O,O,O,O,O,O,O,O,O,O,O,O,O,O,O,O,O,O,O]
abbrev r04_Legal_x5 : List Bool := [O,I,O,O,O,O,O,O,O,O,O,O,O,O,O,O,O,O,O,O,O,O,O,O,O,O,O,O,O,O,O,O,O,O,O,O,O,O,O,O,O,O,O,O,O,O,O,O,O,O,O,O,O,O,O,O,O,O,O,O]
abbrev r04_Legal_p6 : List AG := [o 32 (.mv (.t 5)), o 33 (.ibin .add (.t 32) (.c (.int .i64 1))), o 5 (.mv (.t 33))]
abbrev r04_Legal_p7 : List AG := [o 4 (.mv (.c (.bool false)))]
abbrev r04_Legal_p8 : ACode := (.seq (.reg r04_Legal_p7) .ret)
abbrev r04_Legal_p9 : List AG := [o 34 (.mv (.t 1)), o 35 (.mv (.t 5)), o 36 (.ixStr (.t 34) (.t 35)), o 37 (.call (.f n_r04_letter) [(.t 36)]), o 38 (.not (.t 37)), o 39 (.mv (.t 38)), oy 40 39 (.mv (.t 5)), oy 41 39 (.cmp .eql (.sc .int) (.t 40) (.c (.int .i64 0))), oy 42 39 (.mv (.t 41)), on 43 42 (.mv (.t 1)), on 44 42 (.mv (.t 5)), on 45 42 (.ixStr (.t 43) (.t 44)), on 46 42 (.call (.f n_r02_Digit) [(.t 45)]), on 47 42 (.not (.t 46)), on 48 42 (.mv (.t 47)), oy 49 48 (.mv (.t 1)), oy 50 48 (.mv (.t 5)), oy 51 48 (.ixStr (.t 49) (.t 50)), oy 52 48 (.cmp .neq (.sc .int) (.t 51) (.c (.int .u8 36))), on 53 42 (.pick (.t 48) (.t 52) (.c (.bool false))), oy 54 39 (.pick (.t 42) (.c (.bool true)) (.t 53)), o 55 (.pick (.t 39) (.t 54) (.c (.bool false)))]
abbrev r04_Legal_p10 : ACode := (.seq (.reg r04_Legal_p9) (.cond (.t 55) r04_Legal_p8 .skip))
abbrev r04_Legal_p11 : List AG := [o 28 (.mv (.t 5)), o 29 (.mv (.t 1)), o 30 (.lenStr (.t 29)), o 31 (.cmp .lss (.sc .int) (.t 28) (.t 30))]
abbrev r04_Legal_b5 : ACode := (.seq (.seq (.reg r04_Legal_p11) (.cond (.t 31) .skip (.exit 1))) (.seq (.block 2 [] r04_Legal_p10) (.reg r04_Legal_p6)))
abbrev r04_Legal_p12 : List AG := [o 5 (.mv (.c (.int .i64 0)))]
abbrev r04_Legal_p13 : ACode := (.seq (.seq (.reg r04_Legal_p12) (.block 1 r04_Legal_x5 (.loop r04_Legal_m5 r04_Legal_b5))) (.seq (.reg r04_Legal_p4) .ret))
abbrev r04_Legal_p14 : List AG := [o 27 (.cmp .eql (.sc .int) (.t 9) (.c (.int .i64 4))), o 26 (.mv (.t 27))]
abbrev r04_Legal_p15 : ACode := (.seq (.reg r04_Legal_p3) .ret)
abbrev r04_Legal_p16 : ACode := (.seq (.reg r04_Legal_p14) (.cond (.t 26) r04_Legal_p13 .skip))
abbrev r04_Legal_p17 : List AG := [o 23 (.cmp .eql (.sc .int) (.t 9) (.c (.int .i64 3))), o 22 (.mv (.t 23))]
abbrev r04_Legal_p18 : ACode := (.seq (.reg r04_Legal_p2) .ret)
abbrev r04_Legal_p19 : ACode := (.seq (.reg r04_Legal_p17) (.cond (.t 22) r04_Legal_p15 r04_Legal_p16))
abbrev r04_Legal_p20 : List AG := [o 14 (.cmp .eql (.sc .int) (.t 9) (.c (.int .i64 2))), o 13 (.mv (.t 14))]
abbrev r04_Legal_p21 : ACode := (.seq (.reg r04_Legal_p1) .ret)
abbrev r04_Legal_p22 : ACode := (.seq (.reg r04_Legal_p20) (.cond (.t 13) r04_Legal_p18 r04_Legal_p19))
abbrev r04_Legal_p23 : List AG := [o 12 (.cmp .eql (.sc .int) (.t 9) (.c (.int .i64 1))), o 10 (.mv (.t 12))]
abbrev r04_Legal_p24 : List AG := [o 11 (.cmp .eql (.sc .int) (.t 9) (.c (.int .i64 0))), o 10 (.mv (.t 11))]
abbrev r04_Legal_p25 : ACode := (.seq (.seq (.reg r04_Legal_p24) (.cond (.t 10) .skip (.reg r04_Legal_p23))) (.cond (.t 10) r04_Legal_p21 r04_Legal_p22))
abbrev r04_Legal_p26 : List AG := [o 9 (.mv (.t 0))]
abbrev r04_Legal_p27 : List AG := [o 4 (.mv (.c (.bool false)))]
abbrev r04_Legal_p28 : ACode := (.seq (.reg r04_Legal_p27) .ret)
abbrev r04_Legal_p29 : List AG := [o 6 (.mv (.t 1)), o 7 (.call (.f n_r04_Name) [(.t 6)]), o 8 (.not (.t 7))]
abbrev r04_Legal_p30 : List AG := [o 4 (.mv (.c (.bool false)))]
abbrev r04_Legal : AFun := ⟨(.seq (.reg r04_Legal_p30) (.seq (.seq (.reg r04_Legal_p29) (.cond (.t 8) r04_Legal_p28 .skip)) (.seq (.seq (.reg r04_Legal_p26) (.block 0 [] r04_Legal_p25)) (.seq (.reg r04_Legal_p0) .ret)))), 60, [.tmp 4]⟩
abbrev r04_Legal_k5 : List It := [.code (.seq (.reg r04_Legal_p4) .ret), .inBlock 0 [], .code (.seq (.reg r04_Legal_p0) .ret)]
abbrev r04_Legal_L5 (x1 x5 : AV) (h : List Ob) (e : Cx := cx) : Cfg := atC n_r04_Legal (.code r04_Legal_b5 :: .inLoop r04_Legal_m5 r04_Legal_b5 :: .inBlock 1 r04_Legal_x5 :: r04_Legal_k5) [U,x1,U,U,U,x5,U,U,U,U,U,U,U,U,U,U,U,U,U,U,U,U,U,U,U,U,U,U,U,U,U,U,U,U,U,U,U,U,U,U,U,U,U,U,U,U,U,U,U,U,U,U,U,U,U,U,U,U,U,U] h e
abbrev r04_Legal_E5 (x1 : AV) (h : List Ob) (e : Cx := cx) : Cfg := atC n_r04_Legal r04_Legal_k5 [U,x1,U,U,U,U,U,U,U,U,U,U,U,U,U,U,U,U,U,U,U,U,U,U,U,U,U,U,U,U,U,U,U,U,U,U,U,U,U,U,U,U,U,U,U,U,U,U,U,U,U,U,U,U,U,U,U,U,U,U] h e
@[simp] theorem c_r04_Legal : cfun Tryd.prog n_r04_Legal = some r04_Legal := by kernel_rfl
@[simp] theorem e_r04_Legal : hasBody Tryd.prog n_r04_Legal = true := by kernel_rfl

/- r04_Read: patchbay/patchbayref04.Read -/
abbrev r04_Read_p0 : List AG := [o 57 (.mv (.t 1)), o 4 (.mv (.t 57)), o 5 (.mv (.c (.int .i64 0)))]
abbrev r04_Read_p1 : List AG := [o 4 (.mv (.c (.str []))), o 5 (.mv (.c (.int .i64 4)))]
abbrev r04_Read_p2 : ACode := (.seq (.reg r04_Read_p1) .ret)
abbrev r04_Read_p3 : List AG := [o 53 (.mv (.t 0)), o 54 (.mv (.t 1)), o 55 (.call (.f n_r04_Legal) [(.t 53), (.t 54)]), o 56 (.not (.t 55))]
abbrev r04_Read_p4 : List AG := [o 52 (.mv (.t 6)), o 4 (.mv (.t 52)), o 5 (.mv (.c (.int .i64 0)))]
abbrev r04_Read_p5 : ACode := (.seq (.reg r04_Read_p4) .ret)
abbrev r04_Read_p6 : List AG := [o 42 (.mv (.t 7)), o 43 (.mv (.t 42)), oy 44 43 (.mv (.t 9)), oy 45 43 (.cmp .eql (.sc .int) (.t 44) (.c (.int .i64 0))), o 46 (.pick (.t 43) (.t 45) (.c (.bool false))), o 47 (.mv (.t 46)), oy 48 47 (.mv (.t 8)), oy 49 47 (.mv (.t 1)), oy 50 47 (.cmp .eql (.sc .str) (.t 48) (.t 49)), o 51 (.pick (.t 47) (.t 50) (.c (.bool false)))]
abbrev r04_Read_p7 : List AG := [o 37 (.mv (.t 0)), o 38 (.mv (.t 6)), o 39 (.call (.f n_r04_Spell) [(.t 37), (.t 38)]), o 36 (.mv (.t 39)), o 40 (.extract (.t 36) 0), o 41 (.extract (.t 36) 1), o 8 (.mv (.t 40)), o 9 (.mv (.t 41))]
abbrev r04_Read_p8 : List AG := [o 31 (.mv (.t 1)), o 32 (.sliceStr (.t 31) (some (.c (.int .i64 3))) none), o 33 (.call (.f n_r04_unhex) [(.t 32)]), o 30 (.mv (.t 33)), o 34 (.extract (.t 30) 0), o 35 (.extract (.t 30) 1), o 6 (.mv (.t 34)), o 7 (.mv (.t 35))]
abbrev r04_Read_p9 : ACode := (.seq (.reg r04_Read_p8) (.seq (.reg r04_Read_p7) (.seq (.reg r04_Read_p6) (.cond (.t 51) r04_Read_p5 .skip))))
abbrev r04_Read_p10 : List AG := [o 27 (.mv (.t 1)), o 28 (.lenStr (.t 27)), o 29 (.cmp .gtr (.sc .int) (.t 28) (.c (.int .i64 3)))]
abbrev r04_Read_p11 : List AG := [o 26 (.mv (.t 1)), o 4 (.mv (.t 26)), o 5 (.mv (.c (.int .i64 0)))]
abbrev r04_Read_p12 : List AG := [o 4 (.mv (.c (.str []))), o 5 (.mv (.c (.int .i64 4)))]
abbrev r04_Read_p13 : ACode := (.seq (.reg r04_Read_p12) .ret)
abbrev r04_Read_p14 : List AG := [o 23 (.mv (.t 1)), o 24 (.call (.f n_r04_Name) [(.t 23)]), o 25 (.not (.t 24))]
abbrev r04_Read_p15 : ACode := (.seq (.seq (.reg r04_Read_p14) (.cond (.t 25) r04_Read_p13 .skip)) (.seq (.reg r04_Read_p11) .ret))
abbrev r04_Read_p16 : List AG := [o 13 (.mv (.t 0)), o 14 (.cmp .eql (.sc .int) (.t 13) (.c (.int .i64 4))), o 15 (.mv (.t 14)), on 16 15 (.mv (.t 0)), on 17 15 (.cmp .eql (.sc .int) (.t 16) (.c (.int .i64 0))), o 18 (.pick (.t 15) (.c (.bool true)) (.t 17)), o 19 (.mv (.t 18)), on 20 19 (.mv (.t 0)), on 21 19 (.cmp .eql (.sc .int) (.t 20) (.c (.int .i64 1))), o 22 (.pick (.t 19) (.c (.bool true)) (.t 21))]
abbrev r04_Read_p17 : List AG := [o 4 (.mv (.c (.str []))), o 5 (.mv (.c (.int .i64 9)))]
abbrev r04_Read_p18 : ACode := (.seq (.reg r04_Read_p17) .ret)
abbrev r04_Read_p19 : List AG := [o 10 (.mv (.t 0)), o 11 (.call (.f n_r04_known) [(.t 10)]), o 12 (.not (.t 11))]
abbrev r04_Read_p20 : List AG := [o 4 (.mv (.c (.str []))), o 5 (.mv (.c (.int .i64 0)))]
abbrev r04_Read : AFun := ⟨(.seq (.reg r04_Read_p20) (.seq (.seq (.reg r04_Read_p19) (.cond (.t 12) r04_Read_p18 .skip)) (.seq (.seq (.reg r04_Read_p16) (.cond (.t 22) r04_Read_p15 .skip)) (.seq (.seq (.reg r04_Read_p10) (.cond (.t 29) r04_Read_p9 .skip)) (.seq (.seq (.reg r04_Read_p3) (.cond (.t 56) r04_Read_p2 .skip)) (.seq (.reg r04_Read_p0) .ret)))))), 58, [.tmp 4, .tmp 5]⟩
@[simp] theorem c_r04_Read : cfun Tryd.prog n_r04_Read = some r04_Read := by kernel_rfl
@[simp] theorem e_r04_Read : hasBody Tryd.prog n_r04_Read = true := by kernel_rfl

/- r02_Put: patchbay/patchbayref02.Put -/
abbrev r02_Put_p0 : List AG := [o 31 (.mv (.t 4)), o 2 (.mv (.t 31)), o 3 (.mv (.c (.int .i64 0)))]
abbrev r02_Put_m1 : List Bool := [I,O,O,O,I,O,O,O,O,O,O,O,O,O,O,O,O,O,O,O,O,O,O,O,O,O,O,O,O,O,O,O]
abbrev r02_Put_x1 : List Bool := [O,O,O,O,I,O,O,O,O,O,O,O,O,O,O,O,O,O,O,O,O,O,O,O,O,O,O,O,O,O,O,O]
abbrev r02_Put_p2 : List AG := [o 21 (.mv (.t 0)), o 22 (.ibin .quo (.t 21) (.c (.int .i64 10))), o 0 (.mv (.t 22))]
abbrev r02_Put_p3 : List AG := [o 23 (.mv (.t 0)), o 24 (.ibin .rem (.t 23) (.c (.int .i64 10))), o 25 (.ibin .add (.c (.int .i64 48)) (.t 24)), o 26 (.conv .u8 (.t 25)), o 27 (.lit 1 [(.int .u8 0)] [(0, (.t 26))]), o 28 (.toStr (.t 27)), o 29 (.mv (.t 4)), o 30 (.concat (.t 28) (.t 29)), o 4 (.mv (.t 30))]
abbrev r02_Put_p4 : List AG := [o 19 (.mv (.t 0)), o 20 (.cmp .gtr (.sc .int) (.t 19) (.c (.int .i64 0)))]
abbrev r02_Put_b1 : ACode := (.seq (.seq (.reg r02_Put_p4) (.cond (.t 20) .skip (.exit 0))) (.seq (.block 1 [] (.reg r02_Put_p3)) (.reg r02_Put_p2)))
abbrev r02_Put_p5 : List AG := [o 17 (.mv (.t 0)), o 18 (.ibin .quo (.t 17) (.c (.int .i64 10))), o 0 (.mv (.t 18))]
abbrev r02_Put_p6 : List AG := [o 11 (.mv (.t 0)), o 12 (.ibin .rem (.t 11) (.c (.int .i64 10))), o 13 (.ibin .add (.c (.int .i64 48)) (.t 12)), o 14 (.conv .u8 (.t 13)), o 15 (.lit 1 [(.int .u8 0)] [(0, (.t 14))]), o 16 (.toStr (.t 15)), o 4 (.mv (.t 16))]
abbrev r02_Put_p7 : List AG := [o 2 (.mv (.c (.str []))), o 3 (.mv (.c (.int .i64 3)))]
abbrev r02_Put_p8 : ACode := (.seq (.reg r02_Put_p7) .ret)
abbrev r02_Put_p9 : List AG := [o 5 (.mv (.t 0)), o 6 (.cmp .lss (.sc .int) (.t 5) (.c (.int .i64 0))), o 7 (.mv (.t 6)), on 8 7 (.mv (.t 0)), on 9 7 (.cmp .gtr (.sc .int) (.t 8) (.c (.int .i64 2147483647))), o 10 (.pick (.t 7) (.c (.bool true)) (.t 9))]
abbrev r02_Put_p10 : List AG := [o 2 (.mv (.c (.str []))), o 3 (.mv (.c (.int .i64 0)))]
abbrev r02_Put : AFun := ⟨(.seq (.reg r02_Put_p10) (.seq (.seq (.reg r02_Put_p9) (.cond (.t 10) r02_Put_p8 .skip)) (.seq (.reg r02_Put_p6) (.seq (.seq (.reg r02_Put_p5) (.block 0 r02_Put_x1 (.loop r02_Put_m1 r02_Put_b1))) (.seq (.reg r02_Put_p0) .ret))))), 32, [.tmp 2, .tmp 3]⟩
abbrev r02_Put_k1 : List It := [.code (.seq (.reg r02_Put_p0) .ret)]
abbrev r02_Put_L1 (x0 x4 : AV) (h : List Ob) (e : Cx := cx) : Cfg := atC n_r02_Put (.code r02_Put_b1 :: .inLoop r02_Put_m1 r02_Put_b1 :: .inBlock 0 r02_Put_x1 :: r02_Put_k1) [x0,U,U,U,x4,U,U,U,U,U,U,U,U,U,U,U,U,U,U,U,U,U,U,U,U,U,U,U,U,U,U,U] h e
abbrev r02_Put_E1 (x4 : AV) (h : List Ob) (e : Cx := cx) : Cfg := atC n_r02_Put r02_Put_k1 [U,U,U,U,x4,U,U,U,U,U,U,U,U,U,U,U,U,U,U,U,U,U,U,U,U,U,U,U,U,U,U,U] h e
@[simp] theorem c_r02_Put : cfun Tryd.prog n_r02_Put = some r02_Put := by kernel_rfl
@[simp] theorem e_r02_Put : hasBody Tryd.prog n_r02_Put = true := by kernel_rfl

/- ident_names: patchbay/ident.names -/
abbrev ident_names_p0 : List AG := [o 3 (.mkFunc (.func n_ident_names_1) [] [(.t 1)]), o 2 (.mv (.t 3))]
abbrev ident_names_p1 : List AG := [o 1 (.box 1 (.t 0)), o 2 (.mv (.c .nilf))]
abbrev ident_names : AFun := ⟨(.seq (.reg ident_names_p1) (.seq (.reg ident_names_p0) .ret)), 4, [.tmp 2]⟩
@[simp] theorem c_ident_names : cfun Tryd.prog n_ident_names = some ident_names := by kernel_rfl
@[simp] theorem e_ident_names : hasBody Tryd.prog n_ident_names = true := by kernel_rfl

/- slices_Contains_string_string: slices.Contains[[]string,string] -/
abbrev slices_Contains_string_string_p0 : List AG := [o 5 (.mv (.t 0)), o 6 (.mv (.t 1)), o 7 (.call (.f n_slices_Index_string_string) [(.t 5), (.t 6)]), o 8 (.cmp .geq (.sc .int) (.t 7) (.c (.int .i64 0))), o 4 (.mv (.t 8))]
abbrev slices_Contains_string_string_p1 : List AG := [o 4 (.mv (.c (.bool false)))]
abbrev slices_Contains_string_string : AFun := ⟨(.seq (.reg slices_Contains_string_string_p1) (.seq (.reg slices_Contains_string_string_p0) .ret)), 9, [.tmp 4]⟩
@[simp] theorem c_slices_Contains_string_string : cfun Tryd.prog n_slices_Contains_string_string = some slices_Contains_string_string := by kernel_rfl
@[simp] theorem e_slices_Contains_string_string : hasBody Tryd.prog n_slices_Contains_string_string = true := by kernel_rfl

/- ident_known: patchbay/ident.known -/
abbrev ident_known_p0 : List AG := [o 3 (.mv (.t 0)), o 4 (.cmp .geq (.sc .int) (.t 3) (.c (.int .i64 0))), o 5 (.mv (.t 4)), oy 6 5 (.mv (.t 0)), oy 7 5 (.cmp .leq (.sc .int) (.t 6) (.c (.int .i64 4))), o 8 (.pick (.t 5) (.t 7) (.c (.bool false))), o 2 (.mv (.t 8))]
abbrev ident_known_p1 : List AG := [o 2 (.mv (.c (.bool false)))]
abbrev ident_known : AFun := ⟨(.seq (.reg ident_known_p1) (.seq (.reg ident_known_p0) .ret)), 9, [.tmp 2]⟩
@[simp] theorem c_ident_known : cfun Tryd.prog n_ident_known = some ident_known := by kernel_rfl
@[simp] theorem e_ident_known : hasBody Tryd.prog n_ident_known = true := by kernel_rfl

/- strings_HasPrefix: strings.HasPrefix -/
abbrev strings_HasPrefix_p0 : List AG := [o 5 (.mv (.t 0)), o 6 (.mv (.t 1)), o 7 (.call (.f n_stringslite_HasPrefix) [(.t 5), (.t 6)]), o 4 (.mv (.t 7))]
abbrev strings_HasPrefix_p1 : List AG := [o 4 (.mv (.c (.bool false)))]
abbrev strings_HasPrefix : AFun := ⟨(.seq (.reg strings_HasPrefix_p1) (.seq (.reg strings_HasPrefix_p0) .ret)), 8, [.tmp 4]⟩
@[simp] theorem c_strings_HasPrefix : cfun Tryd.prog n_strings_HasPrefix = some strings_HasPrefix := by kernel_rfl
@[simp] theorem e_strings_HasPrefix : hasBody Tryd.prog n_strings_HasPrefix = true := by kernel_rfl

/- ident_spelled: patchbay/ident.spelled -/
abbrev ident_spelled_p0 : List AG := [o 26 (.mv (.t 3)), o 27 (.toStr (.t 26)), o 2 (.mv (.t 27))]
abbrev ident_spelled_m1 : List Bool := [I,O,O,I,O,O,O,O,I,I,O,O,O,O,O,O,O,O,O,O,O,O,O,O,O,O,O,O]
abbrev ident_spelled_x1 : List Bool := [O,O,O,I,O,O,O,O,O,O,O,O,O,O,O,O,O,O,O,O,O,O,O,O,O,O,O,O]
abbrev ident_spelled_p2 : List AG := [o 25 (.ibin .add (.t 9) (.c (.int .i64 1))), o 9 (.mv (.t 25))]
abbrev ident_spelled_p3 : List AG := [o 12 (.mv (.t 3)), o 13 (.mv (.t 0)), o 14 (.mv (.t 4)), o 15 (.ixStr (.t 13) (.t 14)), o 16 (.ibin .shr (.t 15) (.c (.int .u64 4))), o 17 (.ixStr (.c (.str [48, 49, 50, 51, 52, 53, 54, 55, 56, 57, 97, 98, 99, 100, 101, 102])) (.t 16)), o 18 (.mv (.t 0)), o 19 (.mv (.t 4)), o 20 (.ixStr (.t 18) (.t 19)), o 21 (.ibin .and (.t 20) (.c (.int .u8 15))), o 22 (.ixStr (.c (.str [48, 49, 50, 51, 52, 53, 54, 55, 56, 57, 97, 98, 99, 100, 101, 102])) (.t 21)), o 23 (.lit 1 [(.int .u8 0), (.int .u8 0)] [(0, (.t 17)), (1, (.t 22))]), o 24 (.append 1 t_uint8 1 (.t 12) (.t 23)), o 3 (.mv (.t 24))]
abbrev ident_spelled_p4 : List AG := [o 11 (.mv (.t 9)), o 4 (.mv (.t 11))]
abbrev ident_spelled_p5 : ACode := (.seq (.reg ident_spelled_p4) (.dreg [O,O,O,O,O,O,O,O,O,O,O,O,O,O] [13,12,12,12,12,12,12,12,12,12,12,13,15,15] ident_spelled_p3))
abbrev ident_spelled_p6 : List AG := [o 10 (.cmp .lss (.sc .int) (.t 9) (.t 8))]
abbrev ident_spelled_b1 : ACode := (.seq (.reg ident_spelled_p6) (.seq (.cond (.t 10) .skip (.exit 0)) (.seq (.block 1 [] ident_spelled_p5) (.reg ident_spelled_p2))))
abbrev ident_spelled_p7 : List AG := [o 7 (.mv (.t 0)), o 8 (.lenStr (.t 7)), o 9 (.mv (.c (.int .i64 0)))]
abbrev ident_spelled_p8 : List AG := [o 5 (.lit 1 [(.int .u8 0), (.int .u8 0), (.int .u8 0)] [(0, (.c (.int .u8 120))), (1, (.c (.int .u8 95))), (2, (.c (.int .u8 95)))]), o 6 (.mark (.t 5)), o 3 (.mv (.t 6))]
abbrev ident_spelled_p9 : List AG := [o 2 (.mv (.c (.str [])))]
abbrev ident_spelled : AFun := ⟨(.seq (.reg ident_spelled_p9) (.seq (.reg ident_spelled_p8) (.seq (.seq (.reg ident_spelled_p7) (.block 0 ident_spelled_x1 (.loop ident_spelled_m1 ident_spelled_b1))) (.seq (.reg ident_spelled_p0) .ret)))), 28, [.tmp 2]⟩
abbrev ident_spelled_k1 : List It := [.code (.seq (.reg ident_spelled_p0) .ret)]
abbrev ident_spelled_L1 (x0 x3 x8 x9 : AV) (h : List Ob) (e : Cx := cx) : Cfg := atC n_ident_spelled (.code ident_spelled_b1 :: .inLoop ident_spelled_m1 ident_spelled_b1 :: .inBlock 0 ident_spelled_x1 :: ident_spelled_k1) [x0,U,U,x3,U,U,U,U,x8,x9,U,U,U,U,U,U,U,U,U,U,U,U,U,U,U,U,U,U] h e
abbrev ident_spelled_E1 (x3 : AV) (h : List Ob) (e : Cx := cx) : Cfg := atC n_ident_spelled ident_spelled_k1 [U,U,U,x3,U,U,U,U,U,U,U,U,U,U,U,U,U,U,U,U,U,U,U,U,U,U,U,U] h e
@[simp] theorem c_ident_spelled : cfun Tryd.prog n_ident_spelled = some ident_spelled := by kernel_rfl
@[simp] theorem e_ident_spelled : hasBody Tryd.prog n_ident_spelled = true := by kernel_rfl

/- ident_unspelled: patchbay/ident.unspelled -/
abbrev ident_unspelled_p0 : List AG := [o 30 (.mv (.t 3)), o 31 (.toStr (.t 30)), o 2 (.mv (.t 31))]
abbrev ident_unspelled_m1 : List Bool := [O,O,O,I,I,O,O,O,O,O,O,O,O,O,O,O,O,O,O,O,O,O,O,O,O,O,O,O,O,O,O,O]
abbrev ident_unspelled_x1 : List Bool := [O,O,O,I,O,O,O,O,O,O,O,O,O,O,O,O,O,O,O,O,O,O,O,O,O,O,O,O,O,O,O,O]
abbrev ident_unspelled_p2 : List AG := [o 15 (.mv (.t 4)), o 16 (.sliceStr (.t 15) (some (.c (.int .i64 2))) none), o 4 (.mv (.t 16))]
abbrev ident_unspelled_p3 : List AG := [o 25 (.mv (.t 3)), o 26 (.mv (.t 6)), o 27 (.conv .u8 (.t 26)), o 28 (.lit 1 [(.int .u8 0)] [(0, (.t 27))]), o 29 (.append 1 t_uint8 1 (.t 25) (.t 28)), o 3 (.mv (.t 29))]
abbrev ident_unspelled_p4 : List AG := [o 17 (.mv (.t 4)), o 18 (.ixStr (.t 17) (.c (.int .i64 0))), o 19 (.call (.f n_strings_IndexByte) [(.c (.str [48, 49, 50, 51, 52, 53, 54, 55, 56, 57, 97, 98, 99, 100, 101, 102])), (.t 18)]), o 20 (.ibin .mul (.t 19) (.c (.int .i64 16))), o 21 (.mv (.t 4)), o 22 (.ixStr (.t 21) (.c (.int .i64 1))), o 23 (.call (.f n_strings_IndexByte) [(.c (.str [48, 49, 50, 51, 52, 53, 54, 55, 56, 57, 97, 98, 99, 100, 101, 102])), (.t 22)]), o 24 (.ibin .add (.t 20) (.t 23)), o 6 (.mv (.t 24))]
abbrev ident_unspelled_p5 : ACode := (.seq (.dreg [O,O,O,O,O,O,O,O,O] [3,3,7,10,7,7,10,10,10] ident_unspelled_p4) (.reg ident_unspelled_p3))
abbrev ident_unspelled_p6 : List AG := [o 12 (.mv (.t 4)), o 13 (.lenStr (.t 12)), o 14 (.cmp .geq (.sc .int) (.t 13) (.c (.int .i64 2)))]
abbrev ident_unspelled_b1 : ACode := (.seq (.seq (.reg ident_unspelled_p6) (.cond (.t 14) .skip (.exit 0))) (.seq (.block 1 [] ident_unspelled_p5) (.reg ident_unspelled_p2)))
abbrev ident_unspelled_p7 : List AG := [o 8 (.mv (.t 0)), o 9 (.call (.f n_strings_CutPrefix) [(.t 8), (.c (.str [120, 95, 95]))]), o 7 (.mv (.t 9)), o 10 (.extract (.t 7) 0), o 11 (.extract (.t 7) 1), o 4 (.mv (.t 10)), o 5 (.mv (.t 11))]
abbrev ident_unspelled_p8 : List AG := [o 3 (.nilrow 1 t_uint8)]
abbrev ident_unspelled_p9 : List AG := [o 2 (.mv (.c (.str [])))]
abbrev ident_unspelled : AFun := ⟨(.seq (.reg ident_unspelled_p9) (.seq (.reg ident_unspelled_p8) (.seq (.reg ident_unspelled_p7) (.seq (.block 0 ident_unspelled_x1 (.loop ident_unspelled_m1 ident_unspelled_b1)) (.seq (.reg ident_unspelled_p0) .ret))))), 32, [.tmp 2]⟩
abbrev ident_unspelled_k1 : List It := [.code (.seq (.reg ident_unspelled_p0) .ret)]
abbrev ident_unspelled_L1 (x3 x4 : AV) (h : List Ob) (e : Cx := cx) : Cfg := atC n_ident_unspelled (.code ident_unspelled_b1 :: .inLoop ident_unspelled_m1 ident_unspelled_b1 :: .inBlock 0 ident_unspelled_x1 :: ident_unspelled_k1) [U,U,U,x3,x4,U,U,U,U,U,U,U,U,U,U,U,U,U,U,U,U,U,U,U,U,U,U,U,U,U,U,U] h e
abbrev ident_unspelled_E1 (x3 : AV) (h : List Ob) (e : Cx := cx) : Cfg := atC n_ident_unspelled ident_unspelled_k1 [U,U,U,x3,U,U,U,U,U,U,U,U,U,U,U,U,U,U,U,U,U,U,U,U,U,U,U,U,U,U,U,U] h e
@[simp] theorem c_ident_unspelled : cfun Tryd.prog n_ident_unspelled = some ident_unspelled := by kernel_rfl
@[simp] theorem e_ident_unspelled : hasBody Tryd.prog n_ident_unspelled = true := by kernel_rfl

/- ident_name_plain: (patchbay/ident.name).plain -/
abbrev ident_name_plain_p0 : List AG := [o 4 (.mv (.t 0)), o 5 (.cmp .neq (.sc .str) (.t 4) (.c (.str []))), o 6 (.mv (.t 5)), oy 7 6 (.mv (.t 0)), oy 8 6 (.lenStr (.t 7)), oy 9 6 (.cmp .leq (.sc .int) (.t 8) (.c (.int .i64 40))), o 10 (.pick (.t 6) (.t 9) (.c (.bool false))), o 11 (.mv (.t 10)), oy 12 11 (.mv (.t 0)), oy 13 11 (.mv (.t 3)), oy 14 11 (.call (.f n_strings_IndexFunc) [(.t 12), (.t 13)]), oy 15 11 (.cmp .lss (.sc .int) (.t 14) (.c (.int .i64 0))), o 16 (.pick (.t 11) (.t 15) (.c (.bool false))), o 2 (.mv (.t 16))]
abbrev ident_name_plain_p1 : List AG := [o 3 (.mv (.f n_ident_name_plain_1))]
abbrev ident_name_plain_p2 : List AG := [o 2 (.mv (.c (.bool false)))]
abbrev ident_name_plain : AFun := ⟨(.seq (.reg ident_name_plain_p2) (.seq (.reg ident_name_plain_p1) (.seq (.reg ident_name_plain_p0) .ret))), 17, [.tmp 2]⟩
@[simp] theorem c_ident_name_plain : cfun Tryd.prog n_ident_name_plain = some ident_name_plain := by kernel_rfl
@[simp] theorem e_ident_name_plain : hasBody Tryd.prog n_ident_name_plain = true := by kernel_rfl

/- ident_name_blif: (patchbay/ident.name).blif -/
abbrev ident_name_blif_p0 : List AG := [o 3 (.mv (.t 0)), o 4 (.ixStr (.t 3) (.c (.int .i64 0))), o 5 (.cmp .neq (.sc .int) (.t 4) (.c (.int .u8 46))), o 6 (.mv (.t 5)), oy 7 6 (.mv (.t 0)), oy 8 6 (.call (.f n_strings_ContainsAny) [(.t 7), (.c (.str [35, 92]))]), oy 9 6 (.not (.t 8)), o 10 (.pick (.t 6) (.t 9) (.c (.bool false))), o 2 (.mv (.t 10))]
abbrev ident_name_blif_p1 : List AG := [o 2 (.mv (.c (.bool false)))]
abbrev ident_name_blif : AFun := ⟨(.seq (.reg ident_name_blif_p1) (.seq (.reg ident_name_blif_p0) .ret)), 11, [.tmp 2]⟩
@[simp] theorem c_ident_name_blif : cfun Tryd.prog n_ident_name_blif = some ident_name_blif := by kernel_rfl
@[simp] theorem e_ident_name_blif : hasBody Tryd.prog n_ident_name_blif = true := by kernel_rfl

/- ident_name_bench: (patchbay/ident.name).bench -/
abbrev ident_name_bench_p0 : List AG := [o 3 (.mv (.t 0)), o 4 (.call (.f n_strings_ContainsAny) [(.t 3), (.c (.str [61, 40, 41, 44, 35]))]), o 5 (.not (.t 4)), o 2 (.mv (.t 5))]
abbrev ident_name_bench_p1 : List AG := [o 2 (.mv (.c (.bool false)))]
abbrev ident_name_bench : AFun := ⟨(.seq (.reg ident_name_bench_p1) (.seq (.reg ident_name_bench_p0) .ret)), 6, [.tmp 2]⟩
@[simp] theorem c_ident_name_bench : cfun Tryd.prog n_ident_name_bench = some ident_name_bench := by kernel_rfl
@[simp] theorem e_ident_name_bench : hasBody Tryd.prog n_ident_name_bench = true := by kernel_rfl

/- ident_name_verilog: (patchbay/ident.name).verilog -/
abbrev ident_name_verilog_p0 : List AG := [o 44 (.load false 1 (.g 0)), o 45 (.mv (.t 0)), o 46 (.lookup (.sc .str) (.bool false) (.t 44) (.t 45) false), o 47 (.not (.t 46)), o 2 (.mv (.t 47))]
abbrev ident_name_verilog_m1 : List Bool := [I,O,O,O,O,O,I,I,O,O,O,O,O,O,O,O,O,O,O,O,O,O,O,O,O,O,O,O,O,O,O,O,O,O,O,O,O,O,O,O,O,O,O,O,O,O,O,O]
abbrev ident_name_verilog_x1 : List Bool := [I,O,O,O,O,O,O,O,O,O,O,O,O,O,O,O,O,O,O,O,O,O,O,O,O,O,O,O,O,O,O,O,O,O,O,O,O,O,O,O,O,O,O,O,O,O,O,O]
abbrev ident_name_verilog_p2 : List AG := [o 43 (.ibin .add (.t 7) (.c (.int .i64 1))), o 7 (.mv (.t 43))]
abbrev ident_name_verilog_p3 : List AG := [o 2 (.mv (.c (.bool false)))]
abbrev ident_name_verilog_p4 : ACode := (.seq (.reg ident_name_verilog_p3) .ret)
abbrev ident_name_verilog_p5 : List AG := [o 29 (.mv (.t 3)), o 30 (.cmp .gtr (.sc .int) (.t 29) (.c (.int .i64 0))), o 31 (.mv (.t 30)), oy 32 31 (.mv (.t 4)), oy 33 31 (.cmp .geq (.sc .int) (.t 32) (.c (.int .u8 48))), oy 34 31 (.mv (.t 33)), oy 35 34 (.mv (.t 4)), oy 36 34 (.cmp .leq (.sc .int) (.t 35) (.c (.int .u8 57))), oy 37 31 (.pick (.t 34) (.t 36) (.c (.bool false))), oy 38 31 (.mv (.t 37)), on 39 38 (.mv (.t 4)), on 40 38 (.cmp .eql (.sc .int) (.t 39) (.c (.int .u8 36))), oy 41 31 (.pick (.t 38) (.c (.bool true)) (.t 40)), o 42 (.pick (.t 31) (.t 41) (.c (.bool false))), o 28 (.mv (.t 42))]
abbrev ident_name_verilog_p6 : ACode := (.seq (.reg ident_name_verilog_p5) (.cond (.t 28) .skip ident_name_verilog_p4))
abbrev ident_name_verilog_p7 : List AG := [o 26 (.mv (.t 4)), o 27 (.cmp .eql (.sc .int) (.t 26) (.c (.int .u8 95))), o 13 (.mv (.t 27))]
abbrev ident_name_verilog_p8 : List AG := [o 20 (.mv (.t 4)), o 21 (.cmp .geq (.sc .int) (.t 20) (.c (.int .u8 65))), o 22 (.mv (.t 21)), oy 23 22 (.mv (.t 4)), oy 24 22 (.cmp .leq (.sc .int) (.t 23) (.c (.int .u8 90))), o 25 (.pick (.t 22) (.t 24) (.c (.bool false))), o 13 (.mv (.t 25))]
abbrev ident_name_verilog_p9 : ACode := (.seq (.reg ident_name_verilog_p8) (.cond (.t 13) .skip (.reg ident_name_verilog_p7)))
abbrev ident_name_verilog_p10 : List AG := [o 14 (.mv (.t 4)), o 15 (.cmp .geq (.sc .int) (.t 14) (.c (.int .u8 97))), o 16 (.mv (.t 15)), oy 17 16 (.mv (.t 4)), oy 18 16 (.cmp .leq (.sc .int) (.t 17) (.c (.int .u8 122))), o 19 (.pick (.t 16) (.t 18) (.c (.bool false))), o 13 (.mv (.t 19))]
abbrev ident_name_verilog_p11 : ACode := (.seq (.seq (.reg ident_name_verilog_p10) (.cond (.t 13) .skip ident_name_verilog_p9)) (.cond (.t 13) .skip ident_name_verilog_p6))
abbrev ident_name_verilog_p12 : List AG := [o 10 (.mv (.t 0)), o 11 (.mv (.t 3)), o 12 (.ixStr (.t 10) (.t 11)), o 4 (.mv (.t 12))]
abbrev ident_name_verilog_p13 : List AG := [o 9 (.mv (.t 7)), o 3 (.mv (.t 9))]
abbrev ident_name_verilog_p14 : ACode := (.seq (.reg ident_name_verilog_p13) (.seq (.reg ident_name_verilog_p12) (.block 2 [] ident_name_verilog_p11)))
abbrev ident_name_verilog_p15 : List AG := [o 8 (.cmp .lss (.sc .int) (.t 7) (.t 6))]
abbrev ident_name_verilog_b1 : ACode := (.seq (.reg ident_name_verilog_p15) (.seq (.cond (.t 8) .skip (.exit 0)) (.seq (.block 1 [] ident_name_verilog_p14) (.reg ident_name_verilog_p2))))
abbrev ident_name_verilog_p16 : List AG := [o 5 (.mv (.t 0)), o 6 (.lenStr (.t 5)), o 7 (.mv (.c (.int .i64 0)))]
abbrev ident_name_verilog_p17 : List AG := [o 2 (.mv (.c (.bool false)))]
abbrev ident_name_verilog : AFun := ⟨(.seq (.reg ident_name_verilog_p17) (.seq (.seq (.reg ident_name_verilog_p16) (.block 0 ident_name_verilog_x1 (.loop ident_name_verilog_m1 ident_name_verilog_b1))) (.seq (.reg ident_name_verilog_p0) .ret))), 48, [.tmp 2]⟩
abbrev ident_name_verilog_k1 : List It := [.code (.seq (.reg ident_name_verilog_p0) .ret)]
abbrev ident_name_verilog_L1 (x0 x6 x7 : AV) (h : List Ob) (e : Cx := cx) : Cfg := atC n_ident_name_verilog (.code ident_name_verilog_b1 :: .inLoop ident_name_verilog_m1 ident_name_verilog_b1 :: .inBlock 0 ident_name_verilog_x1 :: ident_name_verilog_k1) [x0,U,U,U,U,U,x6,x7,U,U,U,U,U,U,U,U,U,U,U,U,U,U,U,U,U,U,U,U,U,U,U,U,U,U,U,U,U,U,U,U,U,U,U,U,U,U,U,U] h e
abbrev ident_name_verilog_E1 (x0 : AV) (h : List Ob) (e : Cx := cx) : Cfg := atC n_ident_name_verilog ident_name_verilog_k1 [x0,U,U,U,U,U,U,U,U,U,U,U,U,U,U,U,U,U,U,U,U,U,U,U,U,U,U,U,U,U,U,U,U,U,U,U,U,U,U,U,U,U,U,U,U,U,U,U] h e
@[simp] theorem c_ident_name_verilog : cfun Tryd.prog n_ident_name_verilog = some ident_name_verilog := by kernel_rfl
@[simp] theorem e_ident_name_verilog : hasBody Tryd.prog n_ident_name_verilog = true := by kernel_rfl

/- token_all: patchbay/token.all -/
abbrev token_all_p0 : List AG := [o 32 (.load false 1 (.t 4)), q (.store 1 (.t 4) (.t 32)), q (.store 1 (.t 5) (.c (.int .i64 0))), q (.store 1 (.t 6) (.c (.int .i64 0)))]
abbrev token_all_m1 : List Bool := [I,I,O,O,I,I,I,I,O,O,O,O,O,O,O,O,O,O,O,O,O,O,O,O,O,O,O,O,O,O,O,O,O]
abbrev token_all_x1 : List Bool := [O,O,O,O,I,I,I,O,O,O,O,O,O,O,O,O,O,O,O,O,O,O,O,O,O,O,O,O,O,O,O,O,O]
abbrev token_all_p2 : List AG := [o 29 (.mv (.t 7)), o 30 (.mv (.t 9)), o 31 (.ibin .add (.t 29) (.t 30)), o 7 (.mv (.t 31))]
abbrev token_all_p3 : List AG := [o 25 (.load false 1 (.t 4)), o 26 (.load true 3 (.t 8)), o 27 (.lit 3 [(.agg [(.int .i64 0), (.str []), (.int .i64 0)])] [(0, (.t 26))]), o 28 (.append 3 t_token_Token 32 (.t 25) (.t 27)), q (.store 1 (.t 4) (.t 28))]
abbrev token_all_p4 : List AG := [o 22 (.off 0 (.t 8)), o 23 (.load false 1 (.t 22)), o 24 (.cmp .geq (.sc .int) (.t 23) (.c (.int .i64 0)))]
abbrev token_all_p5 : List AG := [o 16 (.mv (.t 0)), o 17 (.mv (.t 1)), o 18 (.mv (.t 7)), o 19 (.invoke (.t 16) s_patchbay_token_read [(.t 17), (.t 18)]), o 15 (.mv (.t 19)), o 20 (.extract (.t 15) 0), o 21 (.extract (.t 15) 1), o 8 (.alloc [(.int .i64 0), (.str []), (.int .i64 0)]), q (.store 3 (.t 8) (.t 20)), o 9 (.mv (.t 21))]
abbrev token_all_p6 : ACode := (.seq (.reg token_all_p5) (.seq (.seq (.reg token_all_p4) (.cond (.t 24) (.reg token_all_p3) .skip)) (.reg token_all_p2)))
abbrev token_all_p7 : List AG := [o 11 (.mv (.t 7)), o 12 (.mv (.t 1)), o 13 (.lenStr (.t 12)), o 14 (.cmp .lss (.sc .int) (.t 11) (.t 13))]
abbrev token_all_b1 : ACode := (.seq (.seq (.reg token_all_p7) (.cond (.t 14) .skip (.exit 0))) (.block 1 [] token_all_p6))
abbrev token_all_p8 : List AG := [o 7 (.mv (.c (.int .i64 0)))]
abbrev token_all_p9 : List AG := [o 10 (.mkFunc (.func n_token_all_1) [] [(.t 4), (.t 5), (.t 6)]), q (.defer (.t 10) [])]
abbrev token_all_p10 : List AG := [o 4 (.alloc [(.own 3 t_token_Token [])]), o 5 (.alloc [(.int .i64 0)]), o 6 (.alloc [(.int .i64 0)])]
abbrev token_all : AFun := ⟨(.seq (.reg token_all_p10) (.seq (.reg token_all_p9) (.seq (.seq (.reg token_all_p8) (.block 0 token_all_x1 (.loop token_all_m1 token_all_b1))) (.seq (.reg token_all_p0) .ret)))), 33, [.cell 4 false 1, .cell 5 false 1, .cell 6 false 1]⟩
abbrev token_all_k1 : List It := [.code (.seq (.reg token_all_p0) .ret)]
abbrev token_all_L1 (x0 x1 x4 x5 x6 x7 : AV) (h : List Ob) (e : Cx := cx) : Cfg := atC n_token_all (.code token_all_b1 :: .inLoop token_all_m1 token_all_b1 :: .inBlock 0 token_all_x1 :: token_all_k1) [x0,x1,U,U,x4,x5,x6,x7,U,U,U,U,U,U,U,U,U,U,U,U,U,U,U,U,U,U,U,U,U,U,U,U,U] h e
abbrev token_all_E1 (x4 x5 x6 : AV) (h : List Ob) (e : Cx := cx) : Cfg := atC n_token_all token_all_k1 [U,U,U,U,x4,x5,x6,U,U,U,U,U,U,U,U,U,U,U,U,U,U,U,U,U,U,U,U,U,U,U,U,U,U] h e
@[simp] theorem c_token_all : cfun Tryd.prog n_token_all = some token_all := by kernel_rfl
@[simp] theorem e_token_all : hasBody Tryd.prog n_token_all = true := by kernel_rfl

/- slices_IndexFunc_token_Token_token_Token: slices.IndexFunc[[]patchbay/token.Token,patchbay/token.Token] -/
abbrev slices_IndexFunc_token_Token_token_Token_p0 : List AG := [o 4 (.mv (.c (.int .i64 (-1))))]
abbrev slices_IndexFunc_token_Token_token_Token_m1 : List Bool := [I,I,O,O,O,O,O,I,I,O,O,O,O,O,O,O,O,O,O]
abbrev slices_IndexFunc_token_Token_token_Token_x1 : List Bool := [O,O,O,O,O,O,O,O,O,O,O,O,O,O,O,O,O,O,O]
abbrev slices_IndexFunc_token_Token_token_Token_p2 : List AG := [o 18 (.ibin .add (.t 8) (.c (.int .i64 1))), o 8 (.mv (.t 18))]
abbrev slices_IndexFunc_token_Token_token_Token_p3 : List AG := [o 17 (.mv (.t 5)), o 4 (.mv (.t 17))]
abbrev slices_IndexFunc_token_Token_token_Token_p4 : ACode := (.seq (.reg slices_IndexFunc_token_Token_token_Token_p3) .ret)
abbrev slices_IndexFunc_token_Token_token_Token_p5 : List AG := [o 11 (.mv (.t 1)), o 12 (.mv (.t 0)), o 13 (.mv (.t 5)), o 14 (.ixAddr 3 (.t 12) (.t 13)), o 15 (.load true 3 (.t 14)), o 16 (.call (.t 11) [(.t 15)])]
abbrev slices_IndexFunc_token_Token_token_Token_p6 : List AG := [o 10 (.mv (.t 8)), o 5 (.mv (.t 10))]
abbrev slices_IndexFunc_token_Token_token_Token_p7 : ACode := (.seq (.reg slices_IndexFunc_token_Token_token_Token_p6) (.seq (.reg slices_IndexFunc_token_Token_token_Token_p5) (.cond (.t 16) slices_IndexFunc_token_Token_token_Token_p4 .skip)))
abbrev slices_IndexFunc_token_Token_token_Token_p8 : List AG := [o 9 (.cmp .lss (.sc .int) (.t 8) (.t 7))]
abbrev slices_IndexFunc_token_Token_token_Token_b1 : ACode := (.seq (.reg slices_IndexFunc_token_Token_token_Token_p8) (.seq (.cond (.t 9) .skip (.exit 0)) (.seq (.block 1 [] slices_IndexFunc_token_Token_token_Token_p7) (.reg slices_IndexFunc_token_Token_token_Token_p2))))
abbrev slices_IndexFunc_token_Token_token_Token_p9 : List AG := [o 6 (.mv (.t 0)), o 7 (.len (.t 6)), o 8 (.mv (.c (.int .i64 0)))]
abbrev slices_IndexFunc_token_Token_token_Token_p10 : List AG := [o 4 (.mv (.c (.int .i64 0)))]
abbrev slices_IndexFunc_token_Token_token_Token : AFun := ⟨(.seq (.reg slices_IndexFunc_token_Token_token_Token_p10) (.seq (.seq (.reg slices_IndexFunc_token_Token_token_Token_p9) (.block 0 slices_IndexFunc_token_Token_token_Token_x1 (.loop slices_IndexFunc_token_Token_token_Token_m1 slices_IndexFunc_token_Token_token_Token_b1))) (.seq (.reg slices_IndexFunc_token_Token_token_Token_p0) .ret))), 19, [.tmp 4]⟩
abbrev slices_IndexFunc_token_Token_token_Token_k1 : List It := [.code (.seq (.reg slices_IndexFunc_token_Token_token_Token_p0) .ret)]
abbrev slices_IndexFunc_token_Token_token_Token_L1 (x0 x1 x7 x8 : AV) (h : List Ob) (e : Cx := cx) : Cfg := atC n_slices_IndexFunc_token_Token_token_Token (.code slices_IndexFunc_token_Token_token_Token_b1 :: .inLoop slices_IndexFunc_token_Token_token_Token_m1 slices_IndexFunc_token_Token_token_Token_b1 :: .inBlock 0 slices_IndexFunc_token_Token_token_Token_x1 :: slices_IndexFunc_token_Token_token_Token_k1) [x0,x1,U,U,U,U,U,x7,x8,U,U,U,U,U,U,U,U,U,U] h e
abbrev slices_IndexFunc_token_Token_token_Token_E1 (h : List Ob) (e : Cx := cx) : Cfg := atC n_slices_IndexFunc_token_Token_token_Token slices_IndexFunc_token_Token_token_Token_k1 [U,U,U,U,U,U,U,U,U,U,U,U,U,U,U,U,U,U,U] h e
@[simp] theorem c_slices_IndexFunc_token_Token_token_Token : cfun Tryd.prog n_slices_IndexFunc_token_Token_token_Token = some slices_IndexFunc_token_Token_token_Token := by kernel_rfl
@[simp] theorem e_slices_IndexFunc_token_Token_token_Token : hasBody Tryd.prog n_slices_IndexFunc_token_Token_token_Token = true := by kernel_rfl

/- ident_Find_1: patchbay/ident.Find$1 -/
abbrev ident_Find_1_p0 : List AG := [o 13 (.mv (.t 6)), o 14 (.cmp .eql (.sc .int) (.t 13) (.c (.int .i64 0))), o 15 (.mv (.t 14)), oy 16 15 (.mv (.t 5)), oy 17 15 (.load false 1 (.t 2)), oy 18 15 (.cmp .eql (.sc .str) (.t 16) (.t 17)), o 19 (.pick (.t 15) (.t 18) (.c (.bool false))), o 4 (.mv (.t 19))]
abbrev ident_Find_1_p1 : List AG := [o 8 (.load false 1 (.t 1)), o 9 (.load true 3 (.t 3)), o 10 (.call (.f n_ident_Word) [(.t 8), (.t 9)]), o 7 (.mv (.t 10)), o 11 (.extract (.t 7) 0), o 12 (.extract (.t 7) 1), o 5 (.mv (.t 11)), o 6 (.mv (.t 12))]
abbrev ident_Find_1_p2 : List AG := [o 3 (.box 3 (.t 0)), o 4 (.mv (.c (.bool false)))]
abbrev ident_Find_1 : AFun := ⟨(.seq (.reg ident_Find_1_p2) (.seq (.reg ident_Find_1_p1) (.seq (.reg ident_Find_1_p0) .ret))), 20, [.tmp 4]⟩
@[simp] theorem c_ident_Find_1 : cfun Tryd.prog n_ident_Find_1 = some ident_Find_1 := by kernel_rfl
@[simp] theorem e_ident_Find_1 : hasBody Tryd.prog n_ident_Find_1 = true := by kernel_rfl

/- r04_Name: patchbay/patchbayref04.Name -/
abbrev r04_Name_p0 : List AG := [o 20 (.mv (.t 0)), o 21 (.lenStr (.t 20)), o 22 (.cmp .geq (.sc .int) (.t 21) (.c (.int .i64 1))), o 23 (.mv (.t 22)), oy 24 23 (.mv (.t 0)), oy 25 23 (.lenStr (.t 24)), oy 26 23 (.cmp .leq (.sc .int) (.t 25) (.c (.int .i64 40))), o 27 (.pick (.t 23) (.t 26) (.c (.bool false))), o 2 (.mv (.t 27))]
abbrev r04_Name_m1 : List Bool := [I,O,O,I,O,O,O,O,O,O,O,O,O,O,O,O,O,O,O,O,O,O,O,O,O,O,O,O]
abbrev r04_Name_x1 : List Bool := [I,O,O,O,O,O,O,O,O,O,O,O,O,O,O,O,O,O,O,O,O,O,O,O,O,O,O,O]
abbrev r04_Name_p2 : List AG := [o 8 (.mv (.t 3)), o 9 (.ibin .add (.t 8) (.c (.int .i64 1))), o 3 (.mv (.t 9))]
abbrev r04_Name_p3 : List AG := [o 2 (.mv (.c (.bool false)))]
abbrev r04_Name_p4 : ACode := (.seq (.reg r04_Name_p3) .ret)
abbrev r04_Name_p5 : List AG := [o 10 (.mv (.t 0)), o 11 (.mv (.t 3)), o 12 (.ixStr (.t 10) (.t 11)), o 13 (.cmp .lss (.sc .int) (.t 12) (.c (.int .u8 33))), o 14 (.mv (.t 13)), on 15 14 (.mv (.t 0)), on 16 14 (.mv (.t 3)), on 17 14 (.ixStr (.t 15) (.t 16)), on 18 14 (.cmp .gtr (.sc .int) (.t 17) (.c (.int .u8 126))), o 19 (.pick (.t 14) (.c (.bool true)) (.t 18))]
abbrev r04_Name_p6 : ACode := (.seq (.reg r04_Name_p5) (.cond (.t 19) r04_Name_p4 .skip))
abbrev r04_Name_p7 : List AG := [o 4 (.mv (.t 3)), o 5 (.mv (.t 0)), o 6 (.lenStr (.t 5)), o 7 (.cmp .lss (.sc .int) (.t 4) (.t 6))]
abbrev r04_Name_b1 : ACode := (.seq (.seq (.reg r04_Name_p7) (.cond (.t 7) .skip (.exit 0))) (.seq (.block 1 [] r04_Name_p6) (.reg r04_Name_p2)))
abbrev r04_Name_p8 : List AG := [o 3 (.mv (.c (.int .i64 0)))]
abbrev r04_Name_p9 : List AG := [o 2 (.mv (.c (.bool false)))]
abbrev r04_Name : AFun := ⟨(.seq (.reg r04_Name_p9) (.seq (.seq (.reg r04_Name_p8) (.block 0 r04_Name_x1 (.loop r04_Name_m1 r04_Name_b1))) (.seq (.reg r04_Name_p0) .ret))), 28, [.tmp 2]⟩
abbrev r04_Name_k1 : List It := [.code (.seq (.reg r04_Name_p0) .ret)]
abbrev r04_Name_L1 (x0 x3 : AV) (h : List Ob) (e : Cx := cx) : Cfg := atC n_r04_Name (.code r04_Name_b1 :: .inLoop r04_Name_m1 r04_Name_b1 :: .inBlock 0 r04_Name_x1 :: r04_Name_k1) [x0,U,U,x3,U,U,U,U,U,U,U,U,U,U,U,U,U,U,U,U,U,U,U,U,U,U,U,U] h e
abbrev r04_Name_E1 (x0 : AV) (h : List Ob) (e : Cx := cx) : Cfg := atC n_r04_Name r04_Name_k1 [x0,U,U,U,U,U,U,U,U,U,U,U,U,U,U,U,U,U,U,U,U,U,U,U,U,U,U,U] h e
@[simp] theorem c_r04_Name : cfun Tryd.prog n_r04_Name = some r04_Name := by kernel_rfl
@[simp] theorem e_r04_Name : hasBody Tryd.prog n_r04_Name = true := by kernel_rfl

/- r04_without: patchbay/patchbayref04.without -/
abbrev r04_without_p0 : List AG := [o 4 (.mv (.c (.bool true)))]
abbrev r04_without_m1 : List Bool := [I,I,O,O,O,I,O,O,O,O,O,O,O,O,O,O,O,O,O,O,O,O,O,O,O,O]
abbrev r04_without_x1 : List Bool := [O,O,O,O,O,O,O,O,O,O,O,O,O,O,O,O,O,O,O,O,O,O,O,O,O,O]
abbrev r04_without_p2 : List AG := [o 11 (.mv (.t 5)), o 12 (.ibin .add (.t 11) (.c (.int .i64 1))), o 5 (.mv (.t 12))]
abbrev r04_without_m3 : List Bool := [I,I,O,O,O,I,I,O,O,O,O,O,O,O,O,O,O,O,O,O,O,O,O,O,O,O]
abbrev r04_without_x3 : List Bool := [I,I,O,O,O,I,O,O,O,O,O,O,O,O,O,O,O,O,O,O,O,O,O,O,O,O]
abbrev r04_without_p4 : List AG := [o 17 (.mv (.t 6)), o 18 (.ibin .add (.t 17) (.c (.int .i64 1))), o 6 (.mv (.t 18))]
abbrev r04_without_p5 : List AG := [o 4 (.mv (.c (.bool false)))]
abbrev r04_without_p6 : ACode := (.seq (.reg r04_without_p5) .ret)
abbrev r04_without_p7 : List AG := [o 19 (.mv (.t 0)), o 20 (.mv (.t 5)), o 21 (.ixStr (.t 19) (.t 20)), o 22 (.mv (.t 1)), o 23 (.mv (.t 6)), o 24 (.ixStr (.t 22) (.t 23)), o 25 (.cmp .eql (.sc .int) (.t 21) (.t 24))]
abbrev r04_without_p8 : ACode := (.seq (.dreg [O,O,O,O,O,O,O] [8,8,8,8,8,8,8] r04_without_p7) (.cond (.t 25) r04_without_p6 .skip))
abbrev r04_without_p9 : List AG := [o 13 (.mv (.t 6)), o 14 (.mv (.t 1)), o 15 (.lenStr (.t 14)), o 16 (.cmp .lss (.sc .int) (.t 13) (.t 15))]
abbrev r04_without_b3 : ACode := (.seq (.seq (.reg r04_without_p9) (.cond (.t 16) .skip (.exit 2))) (.seq (.block 3 [] r04_without_p8) (.reg r04_without_p4)))
abbrev r04_without_p10 : List AG := [o 6 (.mv (.c (.int .i64 0)))]
abbrev r04_without_p11 : ACode := (.seq (.reg r04_without_p10) (.block 2 r04_without_x3 (.loop r04_without_m3 r04_without_b3)))
abbrev r04_without_p12 : List AG := [o 7 (.mv (.t 5)), o 8 (.mv (.t 0)), o 9 (.lenStr (.t 8)), o 10 (.cmp .lss (.sc .int) (.t 7) (.t 9))]
abbrev r04_without_b1 : ACode := (.seq (.seq (.reg r04_without_p12) (.cond (.t 10) .skip (.exit 0))) (.seq (.block 1 [] r04_without_p11) (.reg r04_without_p2)))
abbrev r04_without_p13 : List AG := [o 5 (.mv (.c (.int .i64 0)))]
abbrev r04_without_p14 : List AG := [o 4 (.mv (.c (.bool false)))]
abbrev r04_without : AFun := ⟨(.seq (.reg r04_without_p14) (.seq (.seq (.reg r04_without_p13) (.block 0 r04_without_x1 (.loop r04_without_m1 r04_without_b1))) (.seq (.reg r04_without_p0) .ret))), 26, [.tmp 4]⟩
abbrev r04_without_k3 : List It := [.inBlock 1 [], .code (.reg r04_without_p2), .inLoop r04_without_m1 r04_without_b1, .inBlock 0 r04_without_x1, .code (.seq (.reg r04_without_p0) .ret)]
abbrev r04_without_L3 (x0 x1 x5 x6 : AV) (h : List Ob) (e : Cx := cx) : Cfg := atC n_r04_without (.code r04_without_b3 :: .inLoop r04_without_m3 r04_without_b3 :: .inBlock 2 r04_without_x3 :: r04_without_k3) [x0,x1,U,U,U,x5,x6,U,U,U,U,U,U,U,U,U,U,U,U,U,U,U,U,U,U,U] h e
abbrev r04_without_E3 (x0 x1 x5 : AV) (h : List Ob) (e : Cx := cx) : Cfg := atC n_r04_without r04_without_k3 [x0,x1,U,U,U,x5,U,U,U,U,U,U,U,U,U,U,U,U,U,U,U,U,U,U,U,U] h e
abbrev r04_without_k1 : List It := [.code (.seq (.reg r04_without_p0) .ret)]
abbrev r04_without_L1 (x0 x1 x5 : AV) (h : List Ob) (e : Cx := cx) : Cfg := atC n_r04_without (.code r04_without_b1 :: .inLoop r04_without_m1 r04_without_b1 :: .inBlock 0 r04_without_x1 :: r04_without_k1) [x0,x1,U,U,U,x5,U,U,U,U,U,U,U,U,U,U,U,U,U,U,U,U,U,U,U,U] h e
abbrev r04_without_E1 (h : List Ob) (e : Cx := cx) : Cfg := atC n_r04_without r04_without_k1 [U,U,U,U,U,U,U,U,U,U,U,U,U,U,U,U,U,U,U,U,U,U,U,U,U,U] h e
@[simp] theorem c_r04_without : cfun Tryd.prog n_r04_without = some r04_without := by kernel_rfl
@[simp] theorem e_r04_without : hasBody Tryd.prog n_r04_without = true := by kernel_rfl

/- r04_letter: patchbay/patchbayref04.letter -/
abbrev r04_letter_p0 : List AG := [o 3 (.mv (.t 0)), o 4 (.cmp .geq (.sc .int) (.t 3) (.c (.int .u8 97))), o 5 (.mv (.t 4)), oy 6 5 (.mv (.t 0)), oy 7 5 (.cmp .leq (.sc .int) (.t 6) (.c (.int .u8 122))), o 8 (.pick (.t 5) (.t 7) (.c (.bool false))), o 9 (.mv (.t 8)), on 10 9 (.mv (.t 0)), on 11 9 (.cmp .geq (.sc .int) (.t 10) (.c (.int .u8 65))), on 12 9 (.mv (.t 11)), oy 13 12 (.mv (.t 0)), oy 14 12 (.cmp .leq (.sc .int) (.t 13) (.c (.int .u8 90))), on 15 9 (.pick (.t 12) (.t 14) (.c (.bool false))), o 16 (.pick (.t 9) (.c (.bool true)) (.t 15)), o 17 (.mv (.t 16)), on 18 17 (.mv (.t 0)), on 19 17 (.cmp .eql (.sc .int) (.t 18) (.c (.int .u8 95))), o 20 (.pick (.t 17) (.c (.bool true)) (.t 19)), o 2 (.mv (.t 20))]
abbrev r04_letter_p1 : List AG := [o 2 (.mv (.c (.bool false)))]
abbrev r04_letter : AFun := ⟨(.seq (.reg r04_letter_p1) (.seq (.reg r04_letter_p0) .ret)), 21, [.tmp 2]⟩
@[simp] theorem c_r04_letter : cfun Tryd.prog n_r04_letter = some r04_letter := by kernel_rfl
@[simp] theorem e_r04_letter : hasBody Tryd.prog n_r04_letter = true := by kernel_rfl

/- r02_Digit: patchbay/patchbayref02.Digit -/
abbrev r02_Digit_p0 : List AG := [o 3 (.mv (.t 0)), o 4 (.cmp .geq (.sc .int) (.t 3) (.c (.int .u8 48))), o 5 (.mv (.t 4)), oy 6 5 (.mv (.t 0)), oy 7 5 (.cmp .leq (.sc .int) (.t 6) (.c (.int .u8 57))), o 8 (.pick (.t 5) (.t 7) (.c (.bool false))), o 2 (.mv (.t 8))]
abbrev r02_Digit_p1 : List AG := [o 2 (.mv (.c (.bool false)))]
abbrev r02_Digit : AFun := ⟨(.seq (.reg r02_Digit_p1) (.seq (.reg r02_Digit_p0) .ret)), 9, [.tmp 2]⟩
@[simp] theorem c_r02_Digit : cfun Tryd.prog n_r02_Digit = some r02_Digit := by kernel_rfl
@[simp] theorem e_r02_Digit : hasBody Tryd.prog n_r02_Digit = true := by kernel_rfl

/- r04_known: patchbay/patchbayref04.known -/
abbrev r04_known_p0 : List AG := [o 3 (.mv (.t 0)), o 4 (.cmp .geq (.sc .int) (.t 3) (.c (.int .i64 0))), o 5 (.mv (.t 4)), oy 6 5 (.mv (.t 0)), oy 7 5 (.cmp .leq (.sc .int) (.t 6) (.c (.int .i64 4))), o 8 (.pick (.t 5) (.t 7) (.c (.bool false))), o 2 (.mv (.t 8))]
abbrev r04_known_p1 : List AG := [o 2 (.mv (.c (.bool false)))]
abbrev r04_known : AFun := ⟨(.seq (.reg r04_known_p1) (.seq (.reg r04_known_p0) .ret)), 9, [.tmp 2]⟩
@[simp] theorem c_r04_known : cfun Tryd.prog n_r04_known = some r04_known := by kernel_rfl
@[simp] theorem e_r04_known : hasBody Tryd.prog n_r04_known = true := by kernel_rfl

/- r04_unhex: patchbay/patchbayref04.unhex -/
abbrev r04_unhex_p0 : List AG := [o 42 (.mv (.t 4)), o 43 (.mv (.t 0)), o 44 (.lenStr (.t 43)), o 45 (.ibin .rem (.t 44) (.c (.int .i64 2))), o 46 (.cmp .eql (.sc .int) (.t 45) (.c (.int .i64 0))), o 2 (.mv (.t 42)), o 3 (.mv (.t 46))]
abbrev r04_unhex_m1 : List Bool := [I,O,O,O,I,I,O,O,O,O,O,O,O,O,O,O,O,O,O,O,O,O,O,O,O,O,O,O,O,O,O,O,O,O,O,O,O,O,O,O,O,O,O,O,O,O,O]
abbrev r04_unhex_x1 : List Bool := [I,O,O,O,I,O,O,O,O,O,O,O,O,O,O,O,O,O,O,O,O,O,O,O,O,O,O,O,O,O,O,O,O,O,O,O,O,O,O,O,O,O,O,O,O,O,O]
abbrev r04_unhex_p2 : List AG := [o 11 (.mv (.t 5)), o 12 (.ibin .add (.t 11) (.c (.int .i64 2))), o 5 (.mv (.t 12))]
abbrev r04_unhex_p3 : List AG := [o 26 (.mv (.t 4)), o 27 (.mv (.t 0)), o 28 (.mv (.t 5)), o 29 (.ixStr (.t 27) (.t 28)), o 30 (.call (.f n_r04_digit) [(.t 29)]), o 31 (.ibin .mul (.c (.int .i64 16)) (.t 30)), o 32 (.mv (.t 0)), o 33 (.mv (.t 5)), o 34 (.ibin .add (.t 33) (.c (.int .i64 1))), o 35 (.ixStr (.t 32) (.t 34)), o 36 (.call (.f n_r04_digit) [(.t 35)]), o 37 (.ibin .add (.t 31) (.t 36)), o 38 (.conv .u8 (.t 37)), o 39 (.lit 1 [(.int .u8 0)] [(0, (.t 38))]), o 40 (.toStr (.t 39)), o 41 (.concat (.t 26) (.t 40)), o 4 (.mv (.t 41))]
abbrev r04_unhex_p4 : List AG := [o 2 (.mv (.c (.str []))), o 3 (.mv (.c (.bool false)))]
abbrev r04_unhex_p5 : ACode := (.seq (.reg r04_unhex_p4) .ret)
abbrev r04_unhex_p6 : List AG := [o 13 (.mv (.t 0)), o 14 (.mv (.t 5)), o 15 (.ixStr (.t 13) (.t 14)), o 16 (.call (.f n_r04_digit) [(.t 15)]), o 17 (.cmp .lss (.sc .int) (.t 16) (.c (.int .i64 0))), o 18 (.mv (.t 17)), on 19 18 (.mv (.t 0)), on 20 18 (.mv (.t 5)), on 21 18 (.ibin .add (.t 20) (.c (.int .i64 1))), on 22 18 (.ixStr (.t 19) (.t 21)), on 23 18 (.call (.f n_r04_digit) [(.t 22)]), on 24 18 (.cmp .lss (.sc .int) (.t 23) (.c (.int .i64 0))), o 25 (.pick (.t 18) (.c (.bool true)) (.t 24))]
abbrev r04_unhex_p7 : ACode := (.seq (.seq (.reg r04_unhex_p6) (.cond (.t 25) r04_unhex_p5 .skip)) (.dreg [O,O,O,O,O,O,O,O,O,O,O,O,O,O,O,O,O] [18,5,5,5,11,14,11,11,11,11,14,14,14,18,18,18,18] r04_unhex_p3))
abbrev r04_unhex_p8 : List AG := [o 6 (.mv (.t 5)), o 7 (.ibin .add (.t 6) (.c (.int .i64 1))), o 8 (.mv (.t 0)), o 9 (.lenStr (.t 8)), o 10 (.cmp .lss (.sc .int) (.t 7) (.t 9))]
abbrev r04_unhex_b1 : ACode := (.seq (.seq (.reg r04_unhex_p8) (.cond (.t 10) .skip (.exit 0))) (.seq (.block 1 [] r04_unhex_p7) (.reg r04_unhex_p2)))
abbrev r04_unhex_p9 : List AG := [o 5 (.mv (.c (.int .i64 0)))]
abbrev r04_unhex_p10 : List AG := [o 4 (.mv (.c (.str [])))]
abbrev r04_unhex_p11 : List AG := [o 2 (.mv (.c (.str []))), o 3 (.mv (.c (.bool false)))]
abbrev r04_unhex : AFun := ⟨(.seq (.reg r04_unhex_p11) (.seq (.reg r04_unhex_p10) (.seq (.seq (.reg r04_unhex_p9) (.block 0 r04_unhex_x1 (.loop r04_unhex_m1 r04_unhex_b1))) (.seq (.reg r04_unhex_p0) .ret)))), 47, [.tmp 2, .tmp 3]⟩
abbrev r04_unhex_k1 : List It := [.code (.seq (.reg r04_unhex_p0) .ret)]
abbrev r04_unhex_L1 (x0 x4 x5 : AV) (h : List Ob) (e : Cx := cx) : Cfg := atC n_r04_unhex (.code r04_unhex_b1 :: .inLoop r04_unhex_m1 r04_unhex_b1 :: .inBlock 0 r04_unhex_x1 :: r04_unhex_k1) [x0,U,U,U,x4,x5,U,U,U,U,U,U,U,U,U,U,U,U,U,U,U,U,U,U,U,U,U,U,U,U,U,U,U,U,U,U,U,U,U,U,U,U,U,U,U,U,U] h e
abbrev r04_unhex_E1 (x0 x4 : AV) (h : List Ob) (e : Cx := cx) : Cfg := atC n_r04_unhex r04_unhex_k1 [x0,U,U,U,x4,U,U,U,U,U,U,U,U,U,U,U,U,U,U,U,U,U,U,U,U,U,U,U,U,U,U,U,U,U,U,U,U,U,U,U,U,U,U,U,U,U,U] h e
@[simp] theorem c_r04_unhex : cfun Tryd.prog n_r04_unhex = some r04_unhex := by kernel_rfl
@[simp] theorem e_r04_unhex : hasBody Tryd.prog n_r04_unhex = true := by kernel_rfl

/- r04_Spell: patchbay/patchbayref04.Spell -/
abbrev r04_Spell_p0 : List AG := [o 50 (.mv (.t 1)), o 4 (.mv (.t 50)), o 5 (.mv (.c (.int .i64 0)))]
abbrev r04_Spell_p1 : List AG := [o 47 (.mv (.t 1)), o 48 (.call (.f n_r04_Hex) [(.t 47)]), o 49 (.concat (.c (.str [120, 95, 95])) (.t 48)), o 4 (.mv (.t 49)), o 5 (.mv (.c (.int .i64 0)))]
abbrev r04_Spell_p2 : ACode := (.seq (.reg r04_Spell_p1) .ret)
abbrev r04_Spell_p3 : List AG := [o 32 (.mv (.t 0)), o 33 (.cmp .eql (.sc .int) (.t 32) (.c (.int .i64 2))), o 34 (.mv (.t 33)), on 35 34 (.mv (.t 0)), on 36 34 (.cmp .eql (.sc .int) (.t 35) (.c (.int .i64 3))), o 37 (.pick (.t 34) (.c (.bool true)) (.t 36)), o 38 (.mv (.t 37)), oy 39 38 (.mv (.t 6)), oy 40 38 (.mv (.t 39)), on 41 40 (.mv (.t 0)), on 42 40 (.mv (.t 1)), on 43 40 (.call (.f n_r04_Legal) [(.t 41), (.t 42)]), on 44 40 (.not (.t 43)), oy 45 38 (.pick (.t 40) (.c (.bool true)) (.t 44)), o 46 (.pick (.t 38) (.t 45) (.c (.bool false)))]
abbrev r04_Spell_p4 : List AG := [o 24 (.mv (.t 1)), o 25 (.lenStr (.t 24)), o 26 (.cmp .geq (.sc .int) (.t 25) (.c (.int .i64 3))), o 27 (.mv (.t 26)), oy 28 27 (.mv (.t 1)), oy 29 27 (.sliceStr (.t 28) none (some (.c (.int .i64 3)))), oy 30 27 (.cmp .eql (.sc .str) (.t 29) (.c (.str [120, 95, 95]))), o 31 (.pick (.t 27) (.t 30) (.c (.bool false))), o 6 (.mv (.t 31))]
abbrev r04_Spell_p5 : List AG := [o 21 (.mv (.t 1)), o 22 (.concat (.c (.str [92])) (.t 21)), o 23 (.concat (.t 22) (.c (.str [32]))), o 4 (.mv (.t 23)), o 5 (.mv (.c (.int .i64 0)))]
abbrev r04_Spell_p6 : ACode := (.seq (.reg r04_Spell_p5) .ret)
abbrev r04_Spell_p7 : List AG := [o 13 (.mv (.t 0)), o 14 (.cmp .eql (.sc .int) (.t 13) (.c (.int .i64 4))), o 15 (.mv (.t 14)), oy 16 15 (.mv (.t 0)), oy 17 15 (.mv (.t 1)), oy 18 15 (.call (.f n_r04_Legal) [(.t 16), (.t 17)]), oy 19 15 (.not (.t 18)), o 20 (.pick (.t 15) (.t 19) (.c (.bool false)))]
abbrev r04_Spell_p8 : List AG := [o 4 (.mv (.c (.str []))), o 5 (.mv (.c (.int .i64 9)))]
abbrev r04_Spell_p9 : ACode := (.seq (.reg r04_Spell_p8) .ret)
abbrev r04_Spell_p10 : List AG := [o 10 (.mv (.t 0)), o 11 (.call (.f n_r04_known) [(.t 10)]), o 12 (.not (.t 11))]
abbrev r04_Spell_p11 : List AG := [o 4 (.mv (.c (.str []))), o 5 (.mv (.c (.int .i64 4)))]
abbrev r04_Spell_p12 : ACode := (.seq (.reg r04_Spell_p11) .ret)
abbrev r04_Spell_p13 : List AG := [o 7 (.mv (.t 1)), o 8 (.call (.f n_r04_Name) [(.t 7)]), o 9 (.not (.t 8))]
abbrev r04_Spell_p14 : List AG := [o 4 (.mv (.c (.str []))), o 5 (.mv (.c (.int .i64 0)))]
abbrev r04_Spell : AFun := ⟨(.seq (.reg r04_Spell_p14) (.seq (.seq (.reg r04_Spell_p13) (.cond (.t 9) r04_Spell_p12 .skip)) (.seq (.seq (.reg r04_Spell_p10) (.cond (.t 12) r04_Spell_p9 .skip)) (.seq (.seq (.reg r04_Spell_p7) (.cond (.t 20) r04_Spell_p6 .skip)) (.seq (.reg r04_Spell_p4) (.seq (.seq (.reg r04_Spell_p3) (.cond (.t 46) r04_Spell_p2 .skip)) (.seq (.reg r04_Spell_p0) .ret))))))), 51, [.tmp 4, .tmp 5]⟩
@[simp] theorem c_r04_Spell : cfun Tryd.prog n_r04_Spell = some r04_Spell := by kernel_rfl
@[simp] theorem e_r04_Spell : hasBody Tryd.prog n_r04_Spell = true := by kernel_rfl

/- ident_names_1: patchbay/ident.names$1 -/
abbrev ident_names_1_m0 : List Bool := [I,I,O,I,O,O,O,O,O,O,O,O]
abbrev ident_names_1_x0 : List Bool := [O,O,O,O,O,O,O,O,O,O,O,O]
abbrev ident_names_1_p1 : List AG := [o 10 (.mv (.t 3)), o 11 (.ibin .add (.t 10) (.c (.int .i64 1))), o 3 (.mv (.t 11))]
abbrev ident_names_1_p2 : List AG := [o 4 (.mv (.t 0)), o 5 (.load false 1 (.t 1)), o 6 (.mv (.t 3)), o 7 (.call (.f n_strconv_Itoa) [(.t 6)]), o 8 (.concat (.t 5) (.t 7)), o 9 (.call (.t 4) [(.t 8)])]
abbrev ident_names_1_b0 : ACode := (.seq (.seq (.dreg [O,I,O,O,O,O] [6,6,4,6,6,7] ident_names_1_p2) (.cond (.t 9) .skip (.exit 0))) (.seq (.block 1 [] .skip) (.reg ident_names_1_p1)))
abbrev ident_names_1_p3 : List AG := [o 3 (.mv (.c (.int .i64 1)))]
abbrev ident_names_1 : AFun := ⟨(.seq (.reg ident_names_1_p3) (.block 0 ident_names_1_x0 (.loop ident_names_1_m0 ident_names_1_b0))), 12, []⟩
abbrev ident_names_1_k0 : List It := []
abbrev ident_names_1_L0 (x0 x1 x3 : AV) (h : List Ob) (e : Cx := cx) : Cfg := atC n_ident_names_1 (.code ident_names_1_b0 :: .inLoop ident_names_1_m0 ident_names_1_b0 :: .inBlock 0 ident_names_1_x0 :: ident_names_1_k0) [x0,x1,U,x3,U,U,U,U,U,U,U,U] h e
abbrev ident_names_1_E0 (h : List Ob) (e : Cx := cx) : Cfg := atC n_ident_names_1 ident_names_1_k0 [U,U,U,U,U,U,U,U,U,U,U,U] h e
@[simp] theorem c_ident_names_1 : cfun Tryd.prog n_ident_names_1 = some ident_names_1 := by kernel_rfl
@[simp] theorem e_ident_names_1 : hasBody Tryd.prog n_ident_names_1 = true := by kernel_rfl

/- strconv_Itoa: strconv.Itoa -/
abbrev strconv_Itoa_p0 : List AG := [o 3 (.mv (.t 0)), o 4 (.call (.f n_strconv_Itoa_2) [(.t 3)]), o 2 (.mv (.t 4))]
abbrev strconv_Itoa_p1 : List AG := [o 2 (.mv (.c (.str [])))]
abbrev strconv_Itoa : AFun := ⟨(.seq (.reg strconv_Itoa_p1) (.seq (.reg strconv_Itoa_p0) .ret)), 5, [.tmp 2]⟩
@[simp] theorem c_strconv_Itoa : cfun Tryd.prog n_strconv_Itoa = some strconv_Itoa := by kernel_rfl
@[simp] theorem e_strconv_Itoa : hasBody Tryd.prog n_strconv_Itoa = true := by kernel_rfl

/- slices_Index_string_string: slices.Index[[]string,string] -/
abbrev slices_Index_string_string_p0 : List AG := [o 4 (.mv (.c (.int .i64 (-1))))]
abbrev slices_Index_string_string_m1 : List Bool := [I,I,O,O,O,O,O,I,I,O,O,O,O,O,O,O,O,O,O]
abbrev slices_Index_string_string_x1 : List Bool := [O,O,O,O,O,O,O,O,O,O,O,O,O,O,O,O,O,O,O]
abbrev slices_Index_string_string_p2 : List AG := [o 18 (.ibin .add (.t 8) (.c (.int .i64 1))), o 8 (.mv (.t 18))]
abbrev slices_Index_string_string_p3 : List AG := [o 17 (.mv (.t 5)), o 4 (.mv (.t 17))]
abbrev slices_Index_string_string_p4 : ACode := (.seq (.reg slices_Index_string_string_p3) .ret)
abbrev slices_Index_string_string_p5 : List AG := [o 11 (.mv (.t 1)), o 12 (.mv (.t 0)), o 13 (.mv (.t 5)), o 14 (.ixAddr 1 (.t 12) (.t 13)), o 15 (.load false 1 (.t 14)), o 16 (.cmp .eql (.sc .str) (.t 11) (.t 15))]
abbrev slices_Index_string_string_p6 : List AG := [o 10 (.mv (.t 8)), o 5 (.mv (.t 10))]
abbrev slices_Index_string_string_p7 : ACode := (.seq (.reg slices_Index_string_string_p6) (.seq (.reg slices_Index_string_string_p5) (.cond (.t 16) slices_Index_string_string_p4 .skip)))
abbrev slices_Index_string_string_p8 : List AG := [o 9 (.cmp .lss (.sc .int) (.t 8) (.t 7))]
abbrev slices_Index_string_string_b1 : ACode := (.seq (.reg slices_Index_string_string_p8) (.seq (.cond (.t 9) .skip (.exit 0)) (.seq (.block 1 [] slices_Index_string_string_p7) (.reg slices_Index_string_string_p2))))
abbrev slices_Index_string_string_p9 : List AG := [o 6 (.mv (.t 0)), o 7 (.len (.t 6)), o 8 (.mv (.c (.int .i64 0)))]
abbrev slices_Index_string_string_p10 : List AG := [o 4 (.mv (.c (.int .i64 0)))]
abbrev slices_Index_string_string : AFun := ⟨(.seq (.reg slices_Index_string_string_p10) (.seq (.seq (.reg slices_Index_string_string_p9) (.block 0 slices_Index_string_string_x1 (.loop slices_Index_string_string_m1 slices_Index_string_string_b1))) (.seq (.reg slices_Index_string_string_p0) .ret))), 19, [.tmp 4]⟩
abbrev slices_Index_string_string_k1 : List It := [.code (.seq (.reg slices_Index_string_string_p0) .ret)]
abbrev slices_Index_string_string_L1 (x0 x1 x7 x8 : AV) (h : List Ob) (e : Cx := cx) : Cfg := atC n_slices_Index_string_string (.code slices_Index_string_string_b1 :: .inLoop slices_Index_string_string_m1 slices_Index_string_string_b1 :: .inBlock 0 slices_Index_string_string_x1 :: slices_Index_string_string_k1) [x0,x1,U,U,U,U,U,x7,x8,U,U,U,U,U,U,U,U,U,U] h e
abbrev slices_Index_string_string_E1 (h : List Ob) (e : Cx := cx) : Cfg := atC n_slices_Index_string_string slices_Index_string_string_k1 [U,U,U,U,U,U,U,U,U,U,U,U,U,U,U,U,U,U,U] h e
@[simp] theorem c_slices_Index_string_string : cfun Tryd.prog n_slices_Index_string_string = some slices_Index_string_string := by kernel_rfl
@[simp] theorem e_slices_Index_string_string : hasBody Tryd.prog n_slices_Index_string_string = true := by kernel_rfl

/- stringslite_HasPrefix: internal/stringslite.HasPrefix -/
abbrev stringslite_HasPrefix_p0 : List AG := [o 5 (.mv (.t 0)), o 6 (.lenStr (.t 5)), o 7 (.mv (.t 1)), o 8 (.lenStr (.t 7)), o 9 (.cmp .geq (.sc .int) (.t 6) (.t 8)), o 10 (.mv (.t 9)), oy 11 10 (.mv (.t 0)), oy 12 10 (.mv (.t 1)), oy 13 10 (.lenStr (.t 12)), oy 14 10 (.sliceStr (.t 11) none (some (.t 13))), oy 15 10 (.mv (.t 1)), oy 16 10 (.cmp .eql (.sc .str) (.t 14) (.t 15)), o 17 (.pick (.t 10) (.t 16) (.c (.bool false))), o 4 (.mv (.t 17))]
abbrev stringslite_HasPrefix_p1 : List AG := [o 4 (.mv (.c (.bool false)))]
abbrev stringslite_HasPrefix : AFun := ⟨(.seq (.reg stringslite_HasPrefix_p1) (.seq (.reg stringslite_HasPrefix_p0) .ret)), 18, [.tmp 4]⟩
@[simp] theorem c_stringslite_HasPrefix : cfun Tryd.prog n_stringslite_HasPrefix = some stringslite_HasPrefix := by kernel_rfl
@[simp] theorem e_stringslite_HasPrefix : hasBody Tryd.prog n_stringslite_HasPrefix = true := by kernel_rfl

/- strings_CutPrefix: strings.CutPrefix -/
abbrev strings_CutPrefix_p0 : List AG := [o 6 (.mv (.t 0)), o 7 (.mv (.t 1)), o 8 (.call (.f n_stringslite_CutPrefix) [(.t 6), (.t 7)]), o 9 (.extract (.t 8) 0), o 10 (.extract (.t 8) 1), o 4 (.mv (.t 9)), o 5 (.mv (.t 10))]
abbrev strings_CutPrefix_p1 : List AG := [o 4 (.mv (.c (.str []))), o 5 (.mv (.c (.bool false)))]
abbrev strings_CutPrefix : AFun := ⟨(.seq (.reg strings_CutPrefix_p1) (.seq (.reg strings_CutPrefix_p0) .ret)), 11, [.tmp 4, .tmp 5]⟩
@[simp] theorem c_strings_CutPrefix : cfun Tryd.prog n_strings_CutPrefix = some strings_CutPrefix := by kernel_rfl
@[simp] theorem e_strings_CutPrefix : hasBody Tryd.prog n_strings_CutPrefix = true := by kernel_rfl

/- strings_IndexByte: strings.IndexByte -/
abbrev strings_IndexByte_p0 : List AG := [o 5 (.mv (.t 0)), o 6 (.mv (.t 1)), o 7 (.call (.f n_stringslite_IndexByte) [(.t 5), (.t 6)]), o 4 (.mv (.t 7))]
abbrev strings_IndexByte_p1 : List AG := [o 4 (.mv (.c (.int .i64 0)))]
abbrev strings_IndexByte : AFun := ⟨(.seq (.reg strings_IndexByte_p1) (.seq (.reg strings_IndexByte_p0) .ret)), 8, [.tmp 4]⟩
@[simp] theorem c_strings_IndexByte : cfun Tryd.prog n_strings_IndexByte = some strings_IndexByte := by kernel_rfl
@[simp] theorem e_strings_IndexByte : hasBody Tryd.prog n_strings_IndexByte = true := by kernel_rfl

/- ident_name_plain_1: (patchbay/ident.name).plain$1 -/
abbrev ident_name_plain_1_p0 : List AG := [o 3 (.mv (.t 0)), o 4 (.cmp .leq (.sc .int) (.t 3) (.c (.int .i32 32))), o 5 (.mv (.t 4)), on 6 5 (.mv (.t 0)), on 7 5 (.cmp .gtr (.sc .int) (.t 6) (.c (.int .i32 126))), o 8 (.pick (.t 5) (.c (.bool true)) (.t 7)), o 2 (.mv (.t 8))]
abbrev ident_name_plain_1_p1 : List AG := [o 2 (.mv (.c (.bool false)))]
abbrev ident_name_plain_1 : AFun := ⟨(.seq (.reg ident_name_plain_1_p1) (.seq (.reg ident_name_plain_1_p0) .ret)), 9, [.tmp 2]⟩
@[simp] theorem c_ident_name_plain_1 : cfun Tryd.prog n_ident_name_plain_1 = some ident_name_plain_1 := by kernel_rfl
@[simp] theorem e_ident_name_plain_1 : hasBody Tryd.prog n_ident_name_plain_1 = true := by kernel_rfl

/- strings_IndexFunc: strings.IndexFunc -/
abbrev strings_IndexFunc_p0 : List AG := [o 5 (.mv (.t 0)), o 6 (.mv (.t 1)), o 7 (.call (.f n_strings_indexFunc) [(.t 5), (.t 6), (.c (.bool true))]), o 4 (.mv (.t 7))]
abbrev strings_IndexFunc_p1 : List AG := [o 4 (.mv (.c (.int .i64 0)))]
abbrev strings_IndexFunc : AFun := ⟨(.seq (.reg strings_IndexFunc_p1) (.seq (.reg strings_IndexFunc_p0) .ret)), 8, [.tmp 4]⟩
@[simp] theorem c_strings_IndexFunc : cfun Tryd.prog n_strings_IndexFunc = some strings_IndexFunc := by kernel_rfl
@[simp] theorem e_strings_IndexFunc : hasBody Tryd.prog n_strings_IndexFunc = true := by kernel_rfl

/- strings_ContainsAny: strings.ContainsAny -/
abbrev strings_ContainsAny_p0 : List AG := [o 5 (.mv (.t 0)), o 6 (.mv (.t 1)), o 7 (.call (.f n_strings_IndexAny) [(.t 5), (.t 6)]), o 8 (.cmp .geq (.sc .int) (.t 7) (.c (.int .i64 0))), o 4 (.mv (.t 8))]
abbrev strings_ContainsAny_p1 : List AG := [o 4 (.mv (.c (.bool false)))]
abbrev strings_ContainsAny : AFun := ⟨(.seq (.reg strings_ContainsAny_p1) (.seq (.reg strings_ContainsAny_p0) .ret)), 9, [.tmp 4]⟩
@[simp] theorem c_strings_ContainsAny : cfun Tryd.prog n_strings_ContainsAny = some strings_ContainsAny := by kernel_rfl
@[simp] theorem e_strings_ContainsAny : hasBody Tryd.prog n_strings_ContainsAny = true := by kernel_rfl

/- token_all_1: patchbay/token.all$1 -/
abbrev token_all_1_p0 : List AG := [o 11 (.off 0 (.t 3)), o 12 (.load false 1 (.t 11)), q (.store 1 (.t 0) (.c (.list true 0 []))), q (.store 1 (.t 1) (.t 12)), q (.store 1 (.t 2) (.c (.int .i64 2)))]
abbrev token_all_1_p1 : List AG := [o 10 (.mv (.t 4))]
abbrev token_all_1_p2 : List AG := [o 6 (.recover), o 7 (.tassert (.t 6) t_token_odd (.agg [(.int .i64 0)]) true), o 5 (.mv (.t 7)), o 8 (.extract (.t 5) 0), o 9 (.extract (.t 5) 1), o 3 (.alloc [(.int .i64 0)]), q (.store 1 (.t 3) (.t 8)), o 4 (.mv (.t 9))]
abbrev token_all_1 : AFun := ⟨(.seq (.reg token_all_1_p2) (.seq (.reg token_all_1_p1) (.cond (.t 10) (.dreg [O,I,O,O,O] [4,4,4,5,6] token_all_1_p0) .skip))), 13, []⟩
@[simp] theorem c_token_all_1 : cfun Tryd.prog n_token_all_1 = some token_all_1 := by kernel_rfl
@[simp] theorem e_token_all_1 : hasBody Tryd.prog n_token_all_1 = true := by kernel_rfl

/- r04_digit: patchbay/patchbayref04.digit -/
abbrev r04_digit_p0 : List AG := [o 2 (.mv (.c (.int .i64 (-1))))]
abbrev r04_digit_p1 : List AG := [o 14 (.mv (.t 0)), o 15 (.ibin .sub (.t 14) (.c (.int .u8 97))), o 16 (.conv .i64 (.t 15)), o 17 (.ibin .add (.t 16) (.c (.int .i64 10))), o 2 (.mv (.t 17))]
abbrev r04_digit_p2 : ACode := (.seq (.reg r04_digit_p1) .ret)
abbrev r04_digit_p3 : List AG := [o 8 (.mv (.t 0)), o 9 (.cmp .geq (.sc .int) (.t 8) (.c (.int .u8 97))), o 10 (.mv (.t 9)), oy 11 10 (.mv (.t 0)), oy 12 10 (.cmp .leq (.sc .int) (.t 11) (.c (.int .u8 102))), o 13 (.pick (.t 10) (.t 12) (.c (.bool false)))]
abbrev r04_digit_p4 : List AG := [o 5 (.mv (.t 0)), o 6 (.ibin .sub (.t 5) (.c (.int .u8 48))), o 7 (.conv .i64 (.t 6)), o 2 (.mv (.t 7))]
abbrev r04_digit_p5 : ACode := (.seq (.reg r04_digit_p4) .ret)
abbrev r04_digit_p6 : List AG := [o 3 (.mv (.t 0)), o 4 (.call (.f n_r02_Digit) [(.t 3)])]
abbrev r04_digit_p7 : List AG := [o 2 (.mv (.c (.int .i64 0)))]
abbrev r04_digit : AFun := ⟨(.seq (.reg r04_digit_p7) (.seq (.seq (.reg r04_digit_p6) (.cond (.t 4) r04_digit_p5 .skip)) (.seq (.seq (.reg r04_digit_p3) (.cond (.t 13) r04_digit_p2 .skip)) (.seq (.reg r04_digit_p0) .ret)))), 18, [.tmp 2]⟩
@[simp] theorem c_r04_digit : cfun Tryd.prog n_r04_digit = some r04_digit := by kernel_rfl
@[simp] theorem e_r04_digit : hasBody Tryd.prog n_r04_digit = true := by kernel_rfl

/- r04_Hex: patchbay/patchbayref04.Hex -/
abbrev r04_Hex_p0 : List AG := [o 37 (.mv (.t 4)), o 2 (.mv (.t 37))]
abbrev r04_Hex_m1 : List Bool := [I,O,O,I,I,I,O,O,O,O,O,O,O,O,O,O,O,O,O,O,O,O,O,O,O,O,O,O,O,O,O,O,O,O,O,O,O,O]
abbrev r04_Hex_x1 : List Bool := [O,O,O,O,I,O,O,O,O,O,O,O,O,O,O,O,O,O,O,O,O,O,O,O,O,O,O,O,O,O,O,O,O,O,O,O,O,O]
abbrev r04_Hex_p2 : List AG := [o 10 (.mv (.t 5)), o 11 (.ibin .add (.t 10) (.c (.int .i64 1))), o 5 (.mv (.t 11))]
abbrev r04_Hex_p3 : List AG := [o 12 (.mv (.t 4)), o 13 (.mv (.t 3)), o 14 (.mv (.t 0)), o 15 (.mv (.t 5)), o 16 (.ixStr (.t 14) (.t 15)), o 17 (.ibin .quo (.t 16) (.c (.int .u8 16))), o 18 (.mv (.t 0)), o 19 (.mv (.t 5)), o 20 (.ixStr (.t 18) (.t 19)), o 21 (.ibin .quo (.t 20) (.c (.int .u8 16))), o 22 (.ibin .add (.t 21) (.c (.int .u8 1))), o 23 (.sliceStr (.t 13) (some (.t 17)) (some (.t 22))), o 24 (.concat (.t 12) (.t 23)), o 25 (.mv (.t 3)), o 26 (.mv (.t 0)), o 27 (.mv (.t 5)), o 28 (.ixStr (.t 26) (.t 27)), o 29 (.ibin .rem (.t 28) (.c (.int .u8 16))), o 30 (.mv (.t 0)), o 31 (.mv (.t 5)), o 32 (.ixStr (.t 30) (.t 31)), o 33 (.ibin .rem (.t 32) (.c (.int .u8 16))), o 34 (.ibin .add (.t 33) (.c (.int .u8 1))), o 35 (.sliceStr (.t 25) (some (.t 29)) (some (.t 34))), o 36 (.concat (.t 24) (.t 35)), o 4 (.mv (.t 36))]
abbrev r04_Hex_p4 : List AG := [o 6 (.mv (.t 5)), o 7 (.mv (.t 0)), o 8 (.lenStr (.t 7)), o 9 (.cmp .lss (.sc .int) (.t 6) (.t 8))]
abbrev r04_Hex_b1 : ACode := (.seq (.seq (.reg r04_Hex_p4) (.cond (.t 9) .skip (.exit 0))) (.seq (.block 1 [] (.dreg [O,O,O,O,O,O,O,O,O,O,O,O,O,O,O,O,O,O,O,O,O,O,O,O,O,O] [27,27,27,27,27,27,27,27,27,27,27,27,27,27,27,27,27,27,27,27,27,27,27,27,27,27] r04_Hex_p3)) (.reg r04_Hex_p2)))
abbrev r04_Hex_p5 : List AG := [o 5 (.mv (.c (.int .i64 0)))]
abbrev r04_Hex_p6 : List AG := [o 4 (.mv (.c (.str [])))]
abbrev r04_Hex_p7 : List AG := [o 3 (.mv (.c (.str [48, 49, 50, 51, 52, 53, 54, 55, 56, 57, 97, 98, 99, 100, 101, 102])))]
abbrev r04_Hex_p8 : List AG := [o 2 (.mv (.c (.str [])))]
abbrev r04_Hex : AFun := ⟨(.seq (.reg r04_Hex_p8) (.seq (.reg r04_Hex_p7) (.seq (.reg r04_Hex_p6) (.seq (.seq (.reg r04_Hex_p5) (.block 0 r04_Hex_x1 (.loop r04_Hex_m1 r04_Hex_b1))) (.seq (.reg r04_Hex_p0) .ret))))), 38, [.tmp 2]⟩
abbrev r04_Hex_k1 : List It := [.code (.seq (.reg r04_Hex_p0) .ret)]
abbrev r04_Hex_L1 (x0 x3 x4 x5 : AV) (h : List Ob) (e : Cx := cx) : Cfg := atC n_r04_Hex (.code r04_Hex_b1 :: .inLoop r04_Hex_m1 r04_Hex_b1 :: .inBlock 0 r04_Hex_x1 :: r04_Hex_k1) [x0,U,U,x3,x4,x5,U,U,U,U,U,U,U,U,U,U,U,U,U,U,U,U,U,U,U,U,U,U,U,U,U,U,U,U,U,U,U,U] h e
abbrev r04_Hex_E1 (x4 : AV) (h : List Ob) (e : Cx := cx) : Cfg := atC n_r04_Hex r04_Hex_k1 [U,U,U,U,x4,U,U,U,U,U,U,U,U,U,U,U,U,U,U,U,U,U,U,U,U,U,U,U,U,U,U,U,U,U,U,U,U,U] h e
@[simp] theorem c_r04_Hex : cfun Tryd.prog n_r04_Hex = some r04_Hex := by kernel_rfl
@[simp] theorem e_r04_Hex : hasBody Tryd.prog n_r04_Hex = true := by kernel_rfl

/- strconv_Itoa_2: internal/strconv.Itoa -/
abbrev strconv_Itoa_2_p0 : List AG := [o 3 (.mv (.t 0)), o 4 (.call (.f n_strconv_FormatInt) [(.t 3), (.c (.int .i64 10))]), o 2 (.mv (.t 4))]
abbrev strconv_Itoa_2_p1 : List AG := [o 2 (.mv (.c (.str [])))]
abbrev strconv_Itoa_2 : AFun := ⟨(.seq (.reg strconv_Itoa_2_p1) (.seq (.reg strconv_Itoa_2_p0) .ret)), 5, [.tmp 2]⟩
@[simp] theorem c_strconv_Itoa_2 : cfun Tryd.prog n_strconv_Itoa_2 = some strconv_Itoa_2 := by kernel_rfl
@[simp] theorem e_strconv_Itoa_2 : hasBody Tryd.prog n_strconv_Itoa_2 = true := by kernel_rfl

/- stringslite_CutPrefix: internal/stringslite.CutPrefix -/
abbrev stringslite_CutPrefix_p0 : List AG := [o 11 (.mv (.t 0)), o 12 (.mv (.t 1)), o 13 (.lenStr (.t 12)), o 14 (.sliceStr (.t 11) (some (.t 13)) none), o 4 (.mv (.t 14)), o 5 (.mv (.c (.bool true)))]
abbrev stringslite_CutPrefix_p1 : List AG := [o 10 (.mv (.t 0)), o 4 (.mv (.t 10)), o 5 (.mv (.c (.bool false)))]
abbrev stringslite_CutPrefix_p2 : ACode := (.seq (.reg stringslite_CutPrefix_p1) .ret)
abbrev stringslite_CutPrefix_p3 : List AG := [o 6 (.mv (.t 0)), o 7 (.mv (.t 1)), o 8 (.call (.f n_stringslite_HasPrefix) [(.t 6), (.t 7)]), o 9 (.not (.t 8))]
abbrev stringslite_CutPrefix_p4 : List AG := [o 4 (.mv (.c (.str []))), o 5 (.mv (.c (.bool false)))]
abbrev stringslite_CutPrefix : AFun := ⟨(.seq (.reg stringslite_CutPrefix_p4) (.seq (.seq (.reg stringslite_CutPrefix_p3) (.cond (.t 9) stringslite_CutPrefix_p2 .skip)) (.seq (.reg stringslite_CutPrefix_p0) .ret))), 15, [.tmp 4, .tmp 5]⟩
@[simp] theorem c_stringslite_CutPrefix : cfun Tryd.prog n_stringslite_CutPrefix = some stringslite_CutPrefix := by kernel_rfl
@[simp] theorem e_stringslite_CutPrefix : hasBody Tryd.prog n_stringslite_CutPrefix = true := by kernel_rfl

/- stringslite_IndexByte: internal/stringslite.IndexByte -/
abbrev stringslite_IndexByte_p0 : List AG := [o 5 (.mv (.t 0)), o 6 (.mv (.t 1)), o 7 (.call (.f n_bytealg_IndexByteString) [(.t 5), (.t 6)]), o 4 (.mv (.t 7))]
abbrev stringslite_IndexByte_p1 : List AG := [o 4 (.mv (.c (.int .i64 0)))]
abbrev stringslite_IndexByte : AFun := ⟨(.seq (.reg stringslite_IndexByte_p1) (.seq (.reg stringslite_IndexByte_p0) .ret)), 8, [.tmp 4]⟩
@[simp] theorem c_stringslite_IndexByte : cfun Tryd.prog n_stringslite_IndexByte = some stringslite_IndexByte := by kernel_rfl
@[simp] theorem e_stringslite_IndexByte : hasBody Tryd.prog n_stringslite_IndexByte = true := by kernel_rfl

/- strings_indexFunc: strings.indexFunc -/
abbrev strings_indexFunc_p0 : List AG := [o 6 (.mv (.c (.int .i64 (-1))))]
abbrev strings_indexFunc_m1 : List Bool := [O,I,I,O,O,O,O,O,O,O,I,O,O,O,O,O,O,O,O,O,O]
abbrev strings_indexFunc_x1 : List Bool := [O,O,O,O,O,O,O,O,O,O,O,O,O,O,O,O,O,O,O,O,O]
abbrev strings_indexFunc_p2 : List AG := [o 20 (.mv (.t 7)), o 6 (.mv (.t 20))]
abbrev strings_indexFunc_p3 : ACode := (.seq (.reg strings_indexFunc_p2) .ret)
abbrev strings_indexFunc_p4 : List AG := [o 15 (.mv (.t 1)), o 16 (.mv (.t 8)), o 17 (.call (.t 15) [(.t 16)]), o 18 (.mv (.t 2)), o 19 (.cmp .eql (.sc .bool) (.t 17) (.t 18))]
abbrev strings_indexFunc_p5 : List AG := [o 13 (.extract (.t 11) 1), o 14 (.extract (.t 11) 2), o 7 (.mv (.t 13)), o 8 (.mv (.t 14))]
abbrev strings_indexFunc_p6 : ACode := (.seq (.reg strings_indexFunc_p5) (.seq (.reg strings_indexFunc_p4) (.cond (.t 19) strings_indexFunc_p3 .skip)))
abbrev strings_indexFunc_p7 : List AG := [o 11 (.next (.t 10)), o 12 (.extract (.t 11) 0)]
abbrev strings_indexFunc_b1 : ACode := (.seq (.reg strings_indexFunc_p7) (.seq (.cond (.t 12) .skip (.exit 0)) (.block 1 [] strings_indexFunc_p6)))
abbrev strings_indexFunc_p8 : List AG := [o 9 (.mv (.t 0)), o 10 (.range (.t 9))]
abbrev strings_indexFunc_p9 : List AG := [o 6 (.mv (.c (.int .i64 0)))]
abbrev strings_indexFunc : AFun := ⟨(.seq (.reg strings_indexFunc_p9) (.seq (.seq (.reg strings_indexFunc_p8) (.block 0 strings_indexFunc_x1 (.loop strings_indexFunc_m1 strings_indexFunc_b1))) (.seq (.reg strings_indexFunc_p0) .ret))), 21, [.tmp 6]⟩
abbrev strings_indexFunc_k1 : List It := [.code (.seq (.reg strings_indexFunc_p0) .ret)]
abbrev strings_indexFunc_L1 (x1 x2 x10 : AV) (h : List Ob) (e : Cx := cx) : Cfg := atC n_strings_indexFunc (.code strings_indexFunc_b1 :: .inLoop strings_indexFunc_m1 strings_indexFunc_b1 :: .inBlock 0 strings_indexFunc_x1 :: strings_indexFunc_k1) [U,x1,x2,U,U,U,U,U,U,U,x10,U,U,U,U,U,U,U,U,U,U] h e
abbrev strings_indexFunc_E1 (h : List Ob) (e : Cx := cx) : Cfg := atC n_strings_indexFunc strings_indexFunc_k1 [U,U,U,U,U,U,U,U,U,U,U,U,U,U,U,U,U,U,U,U,U] h e
@[simp] theorem c_strings_indexFunc : cfun Tryd.prog n_strings_indexFunc = some strings_indexFunc := by kernel_rfl
@[simp] theorem e_strings_indexFunc : hasBody Tryd.prog n_strings_indexFunc = true := by kernel_rfl

/- strings_IndexAny: strings.IndexAny -/
abbrev strings_IndexAny_p0 : List AG := [o 4 (.mv (.c (.int .i64 (-1))))]
abbrev strings_IndexAny_m1 : List Bool := [O,I,O,O,O,O,O,O,O,O,O,O,O,O,O,O,O,O,O,O,O,O,O,O,O,O,O,O,O,O,O,O,O,O,O,O,O,O,O,O,O,O,O,O,O,I,O,O,O,O,O,O,O,O,O]
abbrev strings_IndexAny_x1 : List Bool := [O,O,O,O,O,O,O,O,O,O,O,O,O,O,O,O,O,O,O,O,O,O,O,O,O,O,O,O,O,O,O,O,O,O,O,O,O,O,O,O,O,O,O,O,O,O,O,O,O,O,O,O,O,O,O]
abbrev strings_IndexAny_p2 : List AG := [o 54 (.mv (.t 9)), o 4 (.mv (.t 54))]
abbrev strings_IndexAny_p3 : ACode := (.seq (.reg strings_IndexAny_p2) .ret)
abbrev strings_IndexAny_p4 : List AG := [o 50 (.mv (.t 1)), o 51 (.mv (.t 10)), o 52 (.call (.f n_strings_IndexRune) [(.t 50), (.t 51)]), o 53 (.cmp .geq (.sc .int) (.t 52) (.c (.int .i64 0)))]
abbrev strings_IndexAny_p5 : List AG := [o 48 (.extract (.t 46) 1), o 49 (.extract (.t 46) 2), o 9 (.mv (.t 48)), o 10 (.mv (.t 49))]
abbrev strings_IndexAny_p6 : ACode := (.seq (.reg strings_IndexAny_p5) (.seq (.reg strings_IndexAny_p4) (.cond (.t 53) strings_IndexAny_p3 .skip)))
abbrev strings_IndexAny_p7 : List AG := [o 46 (.next (.t 45)), o 47 (.extract (.t 46) 0)]
abbrev strings_IndexAny_b1 : ACode := (.seq (.reg strings_IndexAny_p7) (.seq (.cond (.t 47) .skip (.exit 2)) (.block 3 [] strings_IndexAny_p6)))
abbrev strings_IndexAny_p8 : List AG := [o 44 (.mv (.t 0)), o 45 (.range (.t 44))]
abbrev strings_IndexAny_p9 : List AG := [o 4 (.mv (.c (.int .i64 (-1))))]
abbrev strings_IndexAny_m10 : List Bool := [I,O,O,O,O,O,I,O,I,O,O,O,O,O,O,O,O,O,O,O,O,O,O,O,O,O,O,O,O,O,O,O,O,O,O,O,O,O,O,O,O,O,O,O,O,O,O,O,O,O,O,O,O,O,O]
abbrev strings_IndexAny_x10 : List Bool := [O,O,O,O,O,O,O,O,O,O,O,O,O,O,O,O,O,O,O,O,O,O,O,O,O,O,O,O,O,O,O,O,O,O,O,O,O,O,O,O,O,O,O,O,O,O,O,O,O,O,O,O,O,O,O]
abbrev strings_IndexAny_p11 : List AG := [o 37 (.mv (.t 8)), o 38 (.ibin .add (.t 37) (.c (.int .i64 1))), o 8 (.mv (.t 38))]
abbrev strings_IndexAny_p12 : List AG := [o 43 (.mv (.t 8)), o 4 (.mv (.t 43))]
abbrev strings_IndexAny_p13 : ACode := (.seq (.reg strings_IndexAny_p12) .ret)
abbrev strings_IndexAny_p14 : List AG := [o 39 (.mv (.t 0)), o 40 (.mv (.t 8)), o 41 (.ixStr (.t 39) (.t 40)), o 42 (.call (.f n_strings_asciiSet_contains) [(.t 6), (.t 41)])]
abbrev strings_IndexAny_p15 : ACode := (.seq (.reg strings_IndexAny_p14) (.cond (.t 42) strings_IndexAny_p13 .skip))
abbrev strings_IndexAny_p16 : List AG := [o 33 (.mv (.t 8)), o 34 (.mv (.t 0)), o 35 (.lenStr (.t 34)), o 36 (.cmp .lss (.sc .int) (.t 33) (.t 35))]
abbrev strings_IndexAny_b10 : ACode := (.seq (.seq (.reg strings_IndexAny_p16) (.cond (.t 36) .skip (.exit 0))) (.seq (.block 1 [] strings_IndexAny_p15) (.reg strings_IndexAny_p11)))
abbrev strings_IndexAny_p17 : List AG := [o 8 (.mv (.c (.int .i64 0)))]
abbrev strings_IndexAny_p18 : ACode := (.seq (.seq (.reg strings_IndexAny_p17) (.block 0 strings_IndexAny_x10 (.loop strings_IndexAny_m10 strings_IndexAny_b10))) (.seq (.reg strings_IndexAny_p9) .ret))
abbrev strings_IndexAny_p19 : List AG := [o 32 (.mv (.t 7))]
abbrev strings_IndexAny_p20 : List AG := [o 28 (.mv (.t 1)), o 29 (.call (.f n_strings_makeASCIISet) [(.t 28)]), o 27 (.mv (.t 29)), o 30 (.extract (.t 27) 0), o 31 (.extract (.t 27) 1), o 6 (.alloc [(.bool false), (.bool false), (.bool false), (.bool false), (.bool false), (.bool false), (.bool false), (.bool false), (.bool false), (.bool false), (.bool false), (.bool false), (.bool false), (.bool false), (.bool false), (.bool false), (.bool false), (.bool false), (.bool false), (.bool false), (.bool false), (.bool false), (.bool false), (.bool false), (.bool false), (.bool false), (.bool false), (.bool false), (.bool false), (.bool false), (.bool false), (.bool false), (.bool false), (.bool false), (.bool false), (.bool false), (.bool false), (.bool false), (.bool false), (.bool false), (.bool false), (.bool false), (.bool false), (.bool false), (.bool false), (.bool false), (.bool false), (.bool false), (.bool false), (.bool false), (.bool false), (.bool false), (.bool false), (.bool false), (.bool false), (.bool false), (.bool false), (.bool false), (.bool false), (.bool false), (.bool false), (.bool false), (.bool false), (.bool false), (.bool false), (.bool false), (.bool false), (.bool false), (.bool false), (.bool false), (.bool false), (.bool false), (.bool false), (.bool false), (.bool false), (.bool false), (.bool false), (.bool false), (.bool false), (.bool false), (.bool false), (.bool false), (.bool false), (.bool false), (.bool false), (.bool false), (.bool false), (.bool false), (.bool false), (.bool false), (.bool false), (.bool false), (.bool false), (.bool false), (.bool false), (.bool false), (.bool false), (.bool false), (.bool false), (.bool false), (.bool false), (.bool false), (.bool false), (.bool false), (.bool false), (.bool false), (.bool false), (.bool false), (.bool false), (.bool false), (.bool false), (.bool false), (.bool false), (.bool false), (.bool false), (.bool false), (.bool false), (.bool false), (.bool false), (.bool false), (.bool false), (.bool false), (.bool false), (.bool false), (.bool false), (.bool false), (.bool false), (.bool false), (.bool false), (.bool false), (.bool false), (.bool false), (.bool false), (.bool false), (.bool false), (.bool false), (.bool false), (.bool false), (.bool false), (.bool false), (.bool false), (.bool false), (.bool false), (.bool false), (.bool false), (.bool false), (.bool false), (.bool false), (.bool false), (.bool false), (.bool false), (.bool false), (.bool false), (.bool false), (.bool false), (.bool false), (.bool false), (.bool false), (.bool false), (.bool false), (.bool false), (.bool false), (.bool false), (.bool false), (.bool false), (.bool false), (.bool false), (.bool false), (.bool false), (.bool false), (.bool false), (.bool false), (.bool false), (.bool false), (.bool false), (.bool false), (.bool false), (.bool false), (.bool false), (.bool false), (.bool false), (.bool false), (.bool false), (.bool false), (.bool false), (.bool false), (.bool false), (.bool false), (.bool false), (.bool false), (.bool false), (.bool false), (.bool false), (.bool false), (.bool false), (.bool false), (.bool false), (.bool false), (.bool false), (.bool false), (.bool false), (.bool false), (.bool false), (.bool false), (.bool false), (.bool false), (.bool false), (.bool false), (.bool false), (.bool false), (.bool false), (.bool false), (.bool false), (.bool false), (.bool false), (.bool false), (.bool false), (.bool false), (.bool false), (.bool false), (.bool false), (.bool false), (.bool false), (.bool false), (.bool false), (.bool false), (.bool false), (.bool false), (.bool false), (.bool false), (.bool false), (.bool false), (.bool false), (.bool false), (.bool false), (.bool false), (.bool false), (.bool false), (.bool false), (.bool false), (.bool false), (.bool false), (.bool false), (.bool false), (.bool false), (.bool false), (.bool false), (.bool false), (.bool false), (.bool false), (.bool false), (.bool false), (.bool false), (.bool false), (.bool false), (.bool false)]), q (.store 256 (.t 6) (.t 30)), o 7 (.mv (.t 31))]
abbrev strings_IndexAny_p21 : ACode := (.seq (.reg strings_IndexAny_p20) (.seq (.reg strings_IndexAny_p19) (.cond (.t 32) strings_IndexAny_p18 .skip)))
abbrev strings_IndexAny_p22 : List AG := [o 24 (.mv (.t 0)), o 25 (.lenStr (.t 24)), o 26 (.call (.f n_strings_shouldUseASCIISet) [(.t 25)])]
abbrev strings_IndexAny_p23 : List AG := [o 21 (.mv (.t 0)), o 22 (.mv (.t 5)), o 23 (.call (.f n_strings_IndexRune) [(.t 21), (.t 22)]), o 4 (.mv (.t 23))]
abbrev strings_IndexAny_p24 : List AG := [o 5 (.mv (.c (.int .i32 65533)))]
abbrev strings_IndexAny_p25 : List AG := [o 19 (.mv (.t 5)), o 20 (.cmp .geq (.sc .int) (.t 19) (.c (.int .i32 128)))]
abbrev strings_IndexAny_p26 : List AG := [o 16 (.mv (.t 1)), o 17 (.ixStr (.t 16) (.c (.int .i64 0))), o 18 (.conv .i32 (.t 17)), o 5 (.mv (.t 18))]
abbrev strings_IndexAny_p27 : ACode := (.seq (.reg strings_IndexAny_p26) (.seq (.seq (.reg strings_IndexAny_p25) (.cond (.t 20) (.reg strings_IndexAny_p24) .skip)) (.seq (.reg strings_IndexAny_p23) .ret)))
abbrev strings_IndexAny_p28 : List AG := [o 13 (.mv (.t 1)), o 14 (.lenStr (.t 13)), o 15 (.cmp .eql (.sc .int) (.t 14) (.c (.int .i64 1)))]
abbrev strings_IndexAny_p29 : List AG := [o 4 (.mv (.c (.int .i64 (-1))))]
abbrev strings_IndexAny_p30 : ACode := (.seq (.reg strings_IndexAny_p29) .ret)
abbrev strings_IndexAny_p31 : List AG := [o 11 (.mv (.t 1)), o 12 (.cmp .eql (.sc .str) (.t 11) (.c (.str [])))]
abbrev strings_IndexAny_p32 : List AG := [o 4 (.mv (.c (.int .i64 0)))]
abbrev strings_IndexAny : AFun := ⟨(.seq (.reg strings_IndexAny_p32) (.seq (.seq (.reg strings_IndexAny_p31) (.cond (.t 12) strings_IndexAny_p30 .skip)) (.seq (.seq (.reg strings_IndexAny_p28) (.cond (.t 15) strings_IndexAny_p27 .skip)) (.seq (.seq (.reg strings_IndexAny_p22) (.cond (.t 26) strings_IndexAny_p21 .skip)) (.seq (.seq (.reg strings_IndexAny_p8) (.block 2 strings_IndexAny_x1 (.loop strings_IndexAny_m1 strings_IndexAny_b1))) (.seq (.reg strings_IndexAny_p0) .ret)))))), 55, [.tmp 4]⟩
abbrev strings_IndexAny_k1 : List It := [.code (.seq (.reg strings_IndexAny_p0) .ret)]
abbrev strings_IndexAny_L1 (x1 x45 : AV) (h : List Ob) (e : Cx := cx) : Cfg := atC n_strings_IndexAny (.code strings_IndexAny_b1 :: .inLoop strings_IndexAny_m1 strings_IndexAny_b1 :: .inBlock 2 strings_IndexAny_x1 :: strings_IndexAny_k1) [U,x1,U,U,U,U,U,U,U,U,U,U,U,U,U,U,U,U,U,U,U,U,U,U,U,U,U,U,U,U,U,U,U,U,U,U,U,U,U,U,U,U,U,U,U,x45,U,U,U,U,U,U,U,U,U] h e
abbrev strings_IndexAny_E1 (h : List Ob) (e : Cx := cx) : Cfg := atC n_strings_IndexAny strings_IndexAny_k1 [U,U,U,U,U,U,U,U,U,U,U,U,U,U,U,U,U,U,U,U,U,U,U,U,U,U,U,U,U,U,U,U,U,U,U,U,U,U,U,U,U,U,U,U,U,U,U,U,U,U,U,U,U,U,U] h e
abbrev strings_IndexAny_k10 : List It := [.code (.seq (.reg strings_IndexAny_p9) .ret), .code (.seq (.seq (.reg strings_IndexAny_p8) (.block 2 strings_IndexAny_x1 (.loop strings_IndexAny_m1 strings_IndexAny_b1))) (.seq (.reg strings_IndexAny_p0) .ret))]
abbrev strings_IndexAny_L10 (x0 x6 x8 : AV) (h : List Ob) (e : Cx := cx) : Cfg := atC n_strings_IndexAny (.code strings_IndexAny_b10 :: .inLoop strings_IndexAny_m10 strings_IndexAny_b10 :: .inBlock 0 strings_IndexAny_x10 :: strings_IndexAny_k10) [x0,U,U,U,U,U,x6,U,x8,U,U,U,U,U,U,U,U,U,U,U,U,U,U,U,U,U,U,U,U,U,U,U,U,U,U,U,U,U,U,U,U,U,U,U,U,U,U,U,U,U,U,U,U,U,U] h e
abbrev strings_IndexAny_E10 (h : List Ob) (e : Cx := cx) : Cfg := atC n_strings_IndexAny strings_IndexAny_k10 [U,U,U,U,U,U,U,U,U,U,U,U,U,U,U,U,U,U,U,U,U,U,U,U,U,U,U,U,U,U,U,U,U,U,U,U,U,U,U,U,U,U,U,U,U,U,U,U,U,U,U,U,U,U,U] h e
@[simp] theorem c_strings_IndexAny : cfun Tryd.prog n_strings_IndexAny = some strings_IndexAny := by kernel_rfl
@[simp] theorem e_strings_IndexAny : hasBody Tryd.prog n_strings_IndexAny = true := by kernel_rfl

/- strconv_FormatInt: internal/strconv.FormatInt HAS BAD -/
abbrev strconv_FormatInt_p0 : List AG := [o 53 (.mv (.t 9)), o 4 (.mv (.t 53))]
abbrev strconv_FormatInt_p1 : List AG := [o 45 (.mv (.t 0)), o 46 (.conv .u64 (.t 45)), o 47 (.mv (.t 1)), o 48 (.mv (.t 0)), o 49 (.cmp .lss (.sc .int) (.t 48) (.c (.int .i64 0))), o 50 (.call (.f n_strconv_formatBits) [(.c (.list true 0 [])), (.t 46), (.t 47), (.t 49), (.c (.bool false))]), o 44 (.mv (.t 50)), o 51 (.extract (.t 44) 0), o 52 (.extract (.t 44) 1), o 8 (.mv (.t 51)), o 9 (.mv (.t 52))]
abbrev strconv_FormatInt_p2 : List AG := [o 35 (.arrAddr 24 1 (.t 5) (.c (.int .i64 0))), q (.store 1 (.t 35) (.c (.int .u8 45)))]
abbrev strconv_FormatInt_p3 : ACode := (.seq (.reg strconv_FormatInt_p2) (.seq .bad .ret))
abbrev strconv_FormatInt_p4 : List AG := [o 33 (.mv (.t 0)), o 34 (.cmp .lss (.sc .int) (.t 33) (.c (.int .i64 0)))]
abbrev strconv_FormatInt_p5 : List AG := [o 26 (.mv (.t 6)), o 27 (.call (.f n_strconv_numDigits) [(.t 26)]), o 7 (.mv (.t 27))]
abbrev strconv_FormatInt_p6 : List AG := [o 24 (.mv (.t 6)), o 25 (.neg (.t 24)), o 6 (.mv (.t 25))]
abbrev strconv_FormatInt_p7 : List AG := [o 22 (.mv (.t 0)), o 23 (.cmp .lss (.sc .int) (.t 22) (.c (.int .i64 0)))]
abbrev strconv_FormatInt_p8 : List AG := [o 20 (.mv (.t 0)), o 21 (.conv .u64 (.t 20)), o 6 (.mv (.t 21))]
abbrev strconv_FormatInt_p9 : List AG := [o 5 (.alloc [(.int .u8 0), (.int .u8 0), (.int .u8 0), (.int .u8 0), (.int .u8 0), (.int .u8 0), (.int .u8 0), (.int .u8 0), (.int .u8 0), (.int .u8 0), (.int .u8 0), (.int .u8 0), (.int .u8 0), (.int .u8 0), (.int .u8 0), (.int .u8 0), (.int .u8 0), (.int .u8 0), (.int .u8 0), (.int .u8 0), (.int .u8 0), (.int .u8 0), (.int .u8 0), (.int .u8 0)])]
abbrev strconv_FormatInt_p10 : List AG := [o 18 (.mv (.t 0)), o 19 (.call (.f n_strconv_small) [(.t 18)]), o 4 (.mv (.t 19))]
abbrev strconv_FormatInt_p11 : ACode := (.seq (.reg strconv_FormatInt_p10) .ret)
abbrev strconv_FormatInt_p12 : List AG := [o 12 (.mv (.t 0)), o 13 (.cmp .leq (.sc .int) (.c (.int .i64 0)) (.t 12)), o 14 (.mv (.t 13)), oy 15 14 (.mv (.t 0)), oy 16 14 (.cmp .lss (.sc .int) (.t 15) (.c (.int .i64 100))), o 17 (.pick (.t 14) (.t 16) (.c (.bool false)))]
abbrev strconv_FormatInt_p13 : ACode := (.seq (.seq (.reg strconv_FormatInt_p12) (.cond (.t 17) strconv_FormatInt_p11 .skip)) (.seq (.reg strconv_FormatInt_p9) (.seq (.reg strconv_FormatInt_p8) (.seq (.seq (.reg strconv_FormatInt_p7) (.cond (.t 23) (.reg strconv_FormatInt_p6) .skip)) (.seq (.reg strconv_FormatInt_p5) (.seq .bad (.seq (.seq (.reg strconv_FormatInt_p4) (.cond (.t 34) strconv_FormatInt_p3 .skip)) (.seq .bad .ret))))))))
abbrev strconv_FormatInt_p14 : List AG := [o 10 (.mv (.t 1)), o 11 (.cmp .eql (.sc .int) (.t 10) (.c (.int .i64 10)))]
abbrev strconv_FormatInt_p15 : List AG := [o 4 (.mv (.c (.str [])))]
abbrev strconv_FormatInt : AFun := ⟨(.seq (.reg strconv_FormatInt_p15) (.seq (.seq (.reg strconv_FormatInt_p14) (.cond (.t 11) strconv_FormatInt_p13 .skip)) (.seq (.reg strconv_FormatInt_p1) (.seq (.reg strconv_FormatInt_p0) .ret)))), 54, [.tmp 4]⟩
@[simp] theorem c_strconv_FormatInt : cfun Tryd.prog n_strconv_FormatInt = some strconv_FormatInt := by kernel_rfl
@[simp] theorem e_strconv_FormatInt : hasBody Tryd.prog n_strconv_FormatInt = true := by kernel_rfl

/- strings_IndexRune: strings.IndexRune HAS BAD -/
abbrev strings_IndexRune_p0 : List AG := [o 167 (.mv (.t 0)), o 168 (.mv (.t 1)), o 169 (.conv .u8 (.t 168)), o 170 (.call (.f n_strings_IndexByte) [(.t 167), (.t 169)]), o 4 (.mv (.t 170))]
abbrev strings_IndexRune_p1 : List AG := [o 4 (.mv (.c (.int .i64 (-1))))]
abbrev strings_IndexRune_m2 : List Bool := [O,O,O,O,O,O,O,O,O,O,O,O,O,O,O,O,O,O,O,O,O,O,O,O,O,O,O,O,O,O,O,O,O,O,O,O,O,O,O,O,O,O,O,O,O,O,O,O,O,O,O,O,O,O,O,O,O,O,O,O,O,O,O,O,O,O,O,O,O,O,O,O,O,O,O,O,O,O,O,O,O,O,O,O,O,O,O,O,O,O,O,O,O,O,O,O,O,O,O,O,O,O,O,O,O,O,O,O,O,O,O,O,O,O,O,O,O,O,O,O,O,O,O,O,O,O,O,O,O,O,O,O,O,O,O,O,O,O,O,O,O,O,O,O,O,O,O,O,O,O,O,O,O,O,O,O,O,O,O,O,O,O,O,O,O,O,O,O,O,O,O,O,O,O,O,I,O,O,O,O,O,O,O,O,O,O,O]
abbrev strings_IndexRune_x2 : List Bool := [O,O,O,O,O,O,O,O,O,O,O,O,O,O,O,O,O,O,O,O,O,O,O,O,O,O,O,O,O,O,O,O,O,O,O,O,O,O,O,O,O,O,O,O,O,O,O,O,O,O,O,O,O,O,O,O,O,O,O,O,O,O,O,O,O,O,O,O,O,O,O,O,O,O,O,O,O,O,O,O,O,O,O,O,O,O,O,O,O,O,O,O,O,O,O,O,O,O,O,O,O,O,O,O,O,O,O,O,O,O,O,O,O,O,O,O,O,O,O,O,O,O,O,O,O,O,O,O,O,O,O,O,O,O,O,O,O,O,O,O,O,O,O,O,O,O,O,O,O,O,O,O,O,O,O,O,O,O,O,O,O,O,O,O,O,O,O,O,O,O,O,O,O,O,O,O,O,O,O,O,O,O,O,O,O,O,O]
abbrev strings_IndexRune_p3 : List AG := [o 182 (.mv (.t 5)), o 4 (.mv (.t 182))]
abbrev strings_IndexRune_p4 : ACode := (.seq (.reg strings_IndexRune_p3) .ret)
abbrev strings_IndexRune_p5 : List AG := [o 180 (.mv (.t 6)), o 181 (.cmp .eql (.sc .int) (.t 180) (.c (.int .i32 65533)))]
abbrev strings_IndexRune_p6 : List AG := [o 178 (.extract (.t 176) 1), o 179 (.extract (.t 176) 2), o 5 (.mv (.t 178)), o 6 (.mv (.t 179))]
abbrev strings_IndexRune_p7 : ACode := (.seq (.reg strings_IndexRune_p6) (.seq (.reg strings_IndexRune_p5) (.cond (.t 181) strings_IndexRune_p4 .skip)))
abbrev strings_IndexRune_p8 : List AG := [o 176 (.next (.t 175)), o 177 (.extract (.t 176) 0)]
abbrev strings_IndexRune_b2 : ACode := (.seq (.reg strings_IndexRune_p8) (.seq (.cond (.t 177) .skip (.exit 9)) (.block 10 [] strings_IndexRune_p7)))
abbrev strings_IndexRune_p9 : List AG := [o 174 (.mv (.t 0)), o 175 (.range (.t 174))]
abbrev strings_IndexRune_p10 : List AG := [o 4 (.mv (.c (.int .i64 (-1))))]
abbrev strings_IndexRune_p11 : ACode := (.seq (.reg strings_IndexRune_p10) .ret)
abbrev strings_IndexRune_p12 : List AG := [o 184 (.mv (.t 1)), o 185 (.call (.f n_unicode_utf8_ValidRune) [(.t 184)]), o 186 (.not (.t 185)), o 183 (.mv (.t 186))]
abbrev strings_IndexRune_p13 : ACode := (.seq (.seq (.reg strings_IndexRune_p9) (.block 9 strings_IndexRune_x2 (.loop strings_IndexRune_m2 strings_IndexRune_b2))) (.seq (.reg strings_IndexRune_p1) .ret))
abbrev strings_IndexRune_p14 : ACode := (.seq (.reg strings_IndexRune_p12) (.cond (.t 183) strings_IndexRune_p11 .bad))
abbrev strings_IndexRune_p15 : List AG := [o 172 (.mv (.t 1)), o 173 (.cmp .eql (.sc .int) (.t 172) (.c (.int .i32 65533))), o 171 (.mv (.t 173))]
abbrev strings_IndexRune_p16 : ACode := (.seq (.reg strings_IndexRune_p0) .ret)
abbrev strings_IndexRune_p17 : ACode := (.seq (.reg strings_IndexRune_p15) (.cond (.t 171) strings_IndexRune_p13 strings_IndexRune_p14))
abbrev strings_IndexRune_p18 : List AG := [o 161 (.mv (.t 1)), o 162 (.cmp .leq (.sc .int) (.c (.int .i32 0)) (.t 161)), o 163 (.mv (.t 162)), oy 164 163 (.mv (.t 1)), oy 165 163 (.cmp .lss (.sc .int) (.t 164) (.c (.int .i32 128))), o 166 (.pick (.t 163) (.t 165) (.c (.bool false))), o 160 (.mv (.t 166))]
abbrev strings_IndexRune_p19 : ACode := (.seq (.reg strings_IndexRune_p18) (.cond (.t 160) strings_IndexRune_p16 strings_IndexRune_p17))
abbrev strings_IndexRune_p20 : List AG := [o 4 (.mv (.c (.int .i64 0)))]
abbrev strings_IndexRune : AFun := ⟨(.seq (.reg strings_IndexRune_p20) (.block 0 [] strings_IndexRune_p19)), 187, [.tmp 4]⟩
abbrev strings_IndexRune_k2 : List It := [.code (.seq (.reg strings_IndexRune_p1) .ret), .inBlock 0 []]
abbrev strings_IndexRune_L2 (x175 : AV) (h : List Ob) (e : Cx := cx) : Cfg := atC n_strings_IndexRune (.code strings_IndexRune_b2 :: .inLoop strings_IndexRune_m2 strings_IndexRune_b2 :: .inBlock 9 strings_IndexRune_x2 :: strings_IndexRune_k2) [U,U,U,U,U,U,U,U,U,U,U,U,U,U,U,U,U,U,U,U,U,U,U,U,U,U,U,U,U,U,U,U,U,U,U,U,U,U,U,U,U,U,U,U,U,U,U,U,U,U,U,U,U,U,U,U,U,U,U,U,U,U,U,U,U,U,U,U,U,U,U,U,U,U,U,U,U,U,U,U,U,U,U,U,U,U,U,U,U,U,U,U,U,U,U,U,U,U,U,U,U,U,U,U,U,U,U,U,U,U,U,U,U,U,U,U,U,U,U,U,U,U,U,U,U,U,U,U,U,U,U,U,U,U,U,U,U,U,U,U,U,U,U,U,U,U,U,U,U,U,U,U,U,U,U,U,U,U,U,U,U,U,U,U,U,U,U,U,U,U,U,U,U,U,U,x175,U,U,U,U,U,U,U,U,U,U,U] h e
abbrev strings_IndexRune_E2 (h : List Ob) (e : Cx := cx) : Cfg := atC n_strings_IndexRune strings_IndexRune_k2 [U,U,U,U,U,U,U,U,U,U,U,U,U,U,U,U,U,U,U,U,U,U,U,U,U,U,U,U,U,U,U,U,U,U,U,U,U,U,U,U,U,U,U,U,U,U,U,U,U,U,U,U,U,U,U,U,U,U,U,U,U,U,U,U,U,U,U,U,U,U,U,U,U,U,U,U,U,U,U,U,U,U,U,U,U,U,U,U,U,U,U,U,U,U,U,U,U,U,U,U,U,U,U,U,U,U,U,U,U,U,U,U,U,U,U,U,U,U,U,U,U,U,U,U,U,U,U,U,U,U,U,U,U,U,U,U,U,U,U,U,U,U,U,U,U,U,U,U,U,U,U,U,U,U,U,U,U,U,U,U,U,U,U,U,U,U,U,U,U,U,U,U,U,U,U,U,U,U,U,U,U,U,U,U,U,U,U] h e
@[simp] theorem c_strings_IndexRune : cfun Tryd.prog n_strings_IndexRune = some strings_IndexRune := by kernel_rfl
@[simp] theorem e_strings_IndexRune : hasBody Tryd.prog n_strings_IndexRune = true := by kernel_rfl

/- strings_shouldUseASCIISet: strings.shouldUseASCIISet -/
abbrev strings_shouldUseASCIISet_p0 : List AG := [o 3 (.mv (.t 0)), o 4 (.cmp .gtr (.sc .int) (.t 3) (.c (.int .i64 8))), o 2 (.mv (.t 4))]
abbrev strings_shouldUseASCIISet_p1 : List AG := [o 2 (.mv (.c (.bool false)))]
abbrev strings_shouldUseASCIISet : AFun := ⟨(.seq (.reg strings_shouldUseASCIISet_p1) (.seq (.reg strings_shouldUseASCIISet_p0) .ret)), 5, [.tmp 2]⟩
@[simp] theorem c_strings_shouldUseASCIISet : cfun Tryd.prog n_strings_shouldUseASCIISet = some strings_shouldUseASCIISet := by kernel_rfl
@[simp] theorem e_strings_shouldUseASCIISet : hasBody Tryd.prog n_strings_shouldUseASCIISet = true := by kernel_rfl

/- strings_makeASCIISet: strings.makeASCIISet -/
abbrev strings_makeASCIISet_p0 : List AG := [o 20 (.load true 256 (.t 2)), q (.store 256 (.t 2) (.t 20)), o 3 (.mv (.c (.bool true)))]
abbrev strings_makeASCIISet_m1 : List Bool := [I,O,I,O,I,O,O,O,O,O,O,O,O,O,O,O,O,O,O,O,O]
abbrev strings_makeASCIISet_x1 : List Bool := [O,O,I,O,O,O,O,O,O,O,O,O,O,O,O,O,O,O,O,O,O]
abbrev strings_makeASCIISet_p2 : List AG := [o 10 (.mv (.t 4)), o 11 (.ibin .add (.t 10) (.c (.int .i64 1))), o 4 (.mv (.t 11))]
abbrev strings_makeASCIISet_p3 : List AG := [o 18 (.mv (.t 5)), o 19 (.arrAddr 256 1 (.t 2) (.t 18)), q (.store 1 (.t 19) (.c (.bool true)))]
abbrev strings_makeASCIISet_p4 : List AG := [o 17 (.load true 256 (.t 2)), q (.store 256 (.t 2) (.t 17)), o 3 (.mv (.c (.bool false)))]
abbrev strings_makeASCIISet_p5 : ACode := (.seq (.reg strings_makeASCIISet_p4) .ret)
abbrev strings_makeASCIISet_p6 : List AG := [o 15 (.mv (.t 5)), o 16 (.cmp .geq (.sc .int) (.t 15) (.c (.int .u8 128)))]
abbrev strings_makeASCIISet_p7 : List AG := [o 12 (.mv (.t 0)), o 13 (.mv (.t 4)), o 14 (.ixStr (.t 12) (.t 13)), o 5 (.mv (.t 14))]
abbrev strings_makeASCIISet_p8 : ACode := (.seq (.reg strings_makeASCIISet_p7) (.seq (.seq (.reg strings_makeASCIISet_p6) (.cond (.t 16) strings_makeASCIISet_p5 .skip)) (.reg strings_makeASCIISet_p3)))
abbrev strings_makeASCIISet_p9 : List AG := [o 6 (.mv (.t 4)), o 7 (.mv (.t 0)), o 8 (.lenStr (.t 7)), o 9 (.cmp .lss (.sc .int) (.t 6) (.t 8))]
abbrev strings_makeASCIISet_b1 : ACode := (.seq (.seq (.reg strings_makeASCIISet_p9) (.cond (.t 9) .skip (.exit 0))) (.seq (.block 1 [] strings_makeASCIISet_p8) (.reg strings_makeASCIISet_p2)))
abbrev strings_makeASCIISet_p10 : List AG := [o 4 (.mv (.c (.int .i64 0)))]
abbrev strings_makeASCIISet_p11 : List AG := [o 2 (.alloc [(.bool false), (.bool false), (.bool false), (.bool false), (.bool false), (.bool false), (.bool false), (.bool false), (.bool false), (.bool false), (.bool false), (.bool false), (.bool false), (.bool false), (.bool false), (.bool false), (.bool false), (.bool false), (.bool false), (.bool false), (.bool false), (.bool false), (.bool false), (.bool false), (.bool false), (.bool false), (.bool false), (.bool false), (.bool false), (.bool false), (.bool false), (.bool false), (.bool false), (.bool false), (.bool false), (.bool false), (.bool false), (.bool false), (.bool false), (.bool false), (.bool false), (.bool false), (.bool false), (.bool false), (.bool false), (.bool false), (.bool false), (.bool false), (.bool false), (.bool false), (.bool false), (.bool false), (.bool false), (.bool false), (.bool false), (.bool false), (.bool false), (.bool false), (.bool false), (.bool false), (.bool false), (.bool false), (.bool false), (.bool false), (.bool false), (.bool false), (.bool false), (.bool false), (.bool false), (.bool false), (.bool false), (.bool false), (.bool false), (.bool false), (.bool false), (.bool false), (.bool false), (.bool false), (.bool false), (.bool false), (.bool false), (.bool false), (.bool false), (.bool false), (.bool false), (.bool false), (.bool false), (.bool false), (.bool false), (.bool false), (.bool false), (.bool false), (.bool false), (.bool false), (.bool false), (.bool false), (.bool false), (.bool false), (.bool false), (.bool false), (.bool false), (.bool false), (.bool false), (.bool false), (.bool false), (.bool false), (.bool false), (.bool false), (.bool false), (.bool false), (.bool false), (.bool false), (.bool false), (.bool false), (.bool false), (.bool false), (.bool false), (.bool false), (.bool false), (.bool false), (.bool false), (.bool false), (.bool false), (.bool false), (.bool false), (.bool false), (.bool false), (.bool false), (.bool false), (.bool false), (.bool false), (.bool false), (.bool false), (.bool false), (.bool false), (.bool false), (.bool false), (.bool false), (.bool false), (.bool false), (.bool false), (.bool false), (.bool false), (.bool false), (.bool false), (.bool false), (.bool false), (.bool false), (.bool false), (.bool false), (.bool false), (.bool false), (.bool false), (.bool false), (.bool false), (.bool false), (.bool false), (.bool false), (.bool false), (.bool false), (.bool false), (.bool false), (.bool false), (.bool false), (.bool false), (.bool false), (.bool false), (.bool false), (.bool false), (.bool false), (.bool false), (.bool false), (.bool false), (.bool false), (.bool false), (.bool false), (.bool false), (.bool false), (.bool false), (.bool false), (.bool false), (.bool false), (.bool false), (.bool false), (.bool false), (.bool false), (.bool false), (.bool false), (.bool false), (.bool false), (.bool false), (.bool false), (.bool false), (.bool false), (.bool false), (.bool false), (.bool false), (.bool false), (.bool false), (.bool false), (.bool false), (.bool false), (.bool false), (.bool false), (.bool false), (.bool false), (.bool false), (.bool false), (.bool false), (.bool false), (.bool false), (.bool false), (.bool false), (.bool false), (.bool false), (.bool false), (.bool false), (.bool false), (.bool false), (.bool false), (.bool false), (.bool false), (.bool false), (.bool false), (.bool false), (.bool false), (.bool false), (.bool false), (.bool false), (.bool false), (.bool false), (.bool false), (.bool false), (.bool false), (.bool false), (.bool false), (.bool false), (.bool false), (.bool false), (.bool false), (.bool false), (.bool false), (.bool false), (.bool false), (.bool false), (.bool false), (.bool false), (.bool false), (.bool false), (.bool false), (.bool false), (.bool false), (.bool false), (.bool false), (.bool false), (.bool false)]), o 3 (.mv (.c (.bool false)))]
abbrev strings_makeASCIISet : AFun := ⟨(.seq (.reg strings_makeASCIISet_p11) (.seq (.seq (.reg strings_makeASCIISet_p10) (.block 0 strings_makeASCIISet_x1 (.loop strings_makeASCIISet_m1 strings_makeASCIISet_b1))) (.seq (.reg strings_makeASCIISet_p0) .ret))), 21, [.cell 2 true 256, .tmp 3]⟩
abbrev strings_makeASCIISet_k1 : List It := [.code (.seq (.reg strings_makeASCIISet_p0) .ret)]
abbrev strings_makeASCIISet_L1 (x0 x2 x4 : AV) (h : List Ob) (e : Cx := cx) : Cfg := atC n_strings_makeASCIISet (.code strings_makeASCIISet_b1 :: .inLoop strings_makeASCIISet_m1 strings_makeASCIISet_b1 :: .inBlock 0 strings_makeASCIISet_x1 :: strings_makeASCIISet_k1) [x0,U,x2,U,x4,U,U,U,U,U,U,U,U,U,U,U,U,U,U,U,U] h e
abbrev strings_makeASCIISet_E1 (x2 : AV) (h : List Ob) (e : Cx := cx) : Cfg := atC n_strings_makeASCIISet strings_makeASCIISet_k1 [U,U,x2,U,U,U,U,U,U,U,U,U,U,U,U,U,U,U,U,U,U] h e
@[simp] theorem c_strings_makeASCIISet : cfun Tryd.prog n_strings_makeASCIISet = some strings_makeASCIISet := by kernel_rfl
@[simp] theorem e_strings_makeASCIISet : hasBody Tryd.prog n_strings_makeASCIISet = true := by kernel_rfl

/- strings_asciiSet_contains: (*strings.asciiSet).contains -/
abbrev strings_asciiSet_contains_p0 : List AG := [o 5 (.mv (.t 0)), o 6 (.mv (.t 1)), o 7 (.nilck (.t 5)), o 8 (.arrAddr 256 1 (.t 7) (.t 6)), o 9 (.load false 1 (.t 8)), o 4 (.mv (.t 9))]
abbrev strings_asciiSet_contains_p1 : List AG := [o 4 (.mv (.c (.bool false)))]
abbrev strings_asciiSet_contains : AFun := ⟨(.seq (.reg strings_asciiSet_contains_p1) (.seq (.reg strings_asciiSet_contains_p0) .ret)), 10, [.tmp 4]⟩
@[simp] theorem c_strings_asciiSet_contains : cfun Tryd.prog n_strings_asciiSet_contains = some strings_asciiSet_contains := by kernel_rfl
@[simp] theorem e_strings_asciiSet_contains : hasBody Tryd.prog n_strings_asciiSet_contains = true := by kernel_rfl

/- strconv_small: internal/strconv.small -/
abbrev strconv_small_p0 : List AG := [o 9 (.mv (.t 0)), o 10 (.ibin .mul (.t 9) (.c (.int .i64 2))), o 11 (.mv (.t 0)), o 12 (.ibin .mul (.t 11) (.c (.int .i64 2))), o 13 (.ibin .add (.t 12) (.c (.int .i64 2))), o 14 (.sliceStr (.c (.str [48, 48, 48, 49, 48, 50, 48, 51, 48, 52, 48, 53, 48, 54, 48, 55, 48, 56, 48, 57, 49, 48, 49, 49, 49, 50, 49, 51, 49, 52, 49, 53, 49, 54, 49, 55, 49, 56, 49, 57, 50, 48, 50, 49, 50, 50, 50, 51, 50, 52, 50, 53, 50, 54, 50, 55, 50, 56, 50, 57, 51, 48, 51, 49, 51, 50, 51, 51, 51, 52, 51, 53, 51, 54, 51, 55, 51, 56, 51, 57, 52, 48, 52, 49, 52, 50, 52, 51, 52, 52, 52, 53, 52, 54, 52, 55, 52, 56, 52, 57, 53, 48, 53, 49, 53, 50, 53, 51, 53, 52, 53, 53, 53, 54, 53, 55, 53, 56, 53, 57, 54, 48, 54, 49, 54, 50, 54, 51, 54, 52, 54, 53, 54, 54, 54, 55, 54, 56, 54, 57, 55, 48, 55, 49, 55, 50, 55, 51, 55, 52, 55, 53, 55, 54, 55, 55, 55, 56, 55, 57, 56, 48, 56, 49, 56, 50, 56, 51, 56, 52, 56, 53, 56, 54, 56, 55, 56, 56, 56, 57, 57, 48, 57, 49, 57, 50, 57, 51, 57, 52, 57, 53, 57, 54, 57, 55, 57, 56, 57, 57])) (some (.t 10)) (some (.t 13))), o 2 (.mv (.t 14))]
abbrev strconv_small_p1 : List AG := [o 5 (.mv (.t 0)), o 6 (.mv (.t 0)), o 7 (.ibin .add (.t 6) (.c (.int .i64 1))), o 8 (.sliceStr (.c (.str [48, 49, 50, 51, 52, 53, 54, 55, 56, 57, 97, 98, 99, 100, 101, 102, 103, 104, 105, 106, 107, 108, 109, 110, 111, 112, 113, 114, 115, 116, 117, 118, 119, 120, 121, 122])) (some (.t 5)) (some (.t 7))), o 2 (.mv (.t 8))]
abbrev strconv_small_p2 : ACode := (.seq (.reg strconv_small_p1) .ret)
abbrev strconv_small_p3 : List AG := [o 3 (.mv (.t 0)), o 4 (.cmp .lss (.sc .int) (.t 3) (.c (.int .i64 10)))]
abbrev strconv_small_p4 : List AG := [o 2 (.mv (.c (.str [])))]
abbrev strconv_small : AFun := ⟨(.seq (.reg strconv_small_p4) (.seq (.seq (.reg strconv_small_p3) (.cond (.t 4) strconv_small_p2 .skip)) (.seq (.reg strconv_small_p0) .ret))), 15, [.tmp 2]⟩
@[simp] theorem c_strconv_small : cfun Tryd.prog n_strconv_small = some strconv_small := by kernel_rfl
@[simp] theorem e_strconv_small : hasBody Tryd.prog n_strconv_small = true := by kernel_rfl

/- strconv_numDigits: internal/strconv.numDigits -/
abbrev strconv_numDigits_p0 : List AG := [o 7 (.mv (.t 3)), o 8 (.mv (.t 0)), o 9 (.mv (.t 3)), o 10 (.arrAddr 20 1 (.g 2) (.t 9)), o 11 (.load false 1 (.t 10)), o 12 (.cmp .geq (.sc .int) (.t 8) (.t 11)), o 13 (.call (.f n_strconv_bool2_int) [(.t 12)]), o 14 (.ibin .add (.t 7) (.t 13)), o 2 (.mv (.t 14))]
abbrev strconv_numDigits_p1 : List AG := [o 4 (.mv (.t 0)), o 5 (.call (.f n_math_bits_Len64) [(.t 4)]), o 6 (.call (.f n_strconv_log10Pow2) [(.t 5)]), o 3 (.mv (.t 6))]
abbrev strconv_numDigits_p2 : List AG := [o 2 (.mv (.c (.int .i64 0)))]
abbrev strconv_numDigits : AFun := ⟨(.seq (.reg strconv_numDigits_p2) (.seq (.reg strconv_numDigits_p1) (.seq (.reg strconv_numDigits_p0) .ret))), 15, [.tmp 2]⟩
@[simp] theorem c_strconv_numDigits : cfun Tryd.prog n_strconv_numDigits = some strconv_numDigits := by kernel_rfl
@[simp] theorem e_strconv_numDigits : hasBody Tryd.prog n_strconv_numDigits = true := by kernel_rfl

/- strconv_formatBase10: internal/strconv.formatBase10 -/
abbrev strconv_formatBase10_p0 : List AG := [o 162 (.mv (.t 0)), o 163 (.mv (.t 12)), o 164 (.ibin .add (.c (.int .u32 48)) (.t 163)), o 165 (.conv .u8 (.t 164)), o 166 (.ixAddr 1 (.t 162) (.c (.int .i64 0))), q (.store 1 (.t 166) (.t 165))]
abbrev strconv_formatBase10_p1 : List AG := [o 160 (.mv (.t 4)), o 161 (.cmp .gtr (.sc .int) (.t 160) (.c (.int .i64 0)))]
abbrev strconv_formatBase10_p2 : List AG := [o 158 (.mv (.t 4)), o 159 (.ibin .sub (.t 158) (.c (.int .i64 2))), o 4 (.mv (.t 159))]
abbrev strconv_formatBase10_p3 : List AG := [o 145 (.mv (.t 0)), o 146 (.mv (.t 4)), o 147 (.ibin .sub (.t 146) (.c (.int .i64 1))), o 148 (.mv (.t 0)), o 149 (.mv (.t 4)), o 150 (.ibin .sub (.t 149) (.c (.int .i64 2))), o 151 (.mv (.t 16)), o 152 (.ibin .add (.t 151) (.c (.int .u32 1))), o 153 (.ixStr (.c (.str [48, 48, 48, 49, 48, 50, 48, 51, 48, 52, 48, 53, 48, 54, 48, 55, 48, 56, 48, 57, 49, 48, 49, 49, 49, 50, 49, 51, 49, 52, 49, 53, 49, 54, 49, 55, 49, 56, 49, 57, 50, 48, 50, 49, 50, 50, 50, 51, 50, 52, 50, 53, 50, 54, 50, 55, 50, 56, 50, 57, 51, 48, 51, 49, 51, 50, 51, 51, 51, 52, 51, 53, 51, 54, 51, 55, 51, 56, 51, 57, 52, 48, 52, 49, 52, 50, 52, 51, 52, 52, 52, 53, 52, 54, 52, 55, 52, 56, 52, 57, 53, 48, 53, 49, 53, 50, 53, 51, 53, 52, 53, 53, 53, 54, 53, 55, 53, 56, 53, 57, 54, 48, 54, 49, 54, 50, 54, 51, 54, 52, 54, 53, 54, 54, 54, 55, 54, 56, 54, 57, 55, 48, 55, 49, 55, 50, 55, 51, 55, 52, 55, 53, 55, 54, 55, 55, 55, 56, 55, 57, 56, 48, 56, 49, 56, 50, 56, 51, 56, 52, 56, 53, 56, 54, 56, 55, 56, 56, 56, 57, 57, 48, 57, 49, 57, 50, 57, 51, 57, 52, 57, 53, 57, 54, 57, 55, 57, 56, 57, 57])) (.t 152)), o 154 (.mv (.t 16)), o 155 (.ixStr (.c (.str [48, 48, 48, 49, 48, 50, 48, 51, 48, 52, 48, 53, 48, 54, 48, 55, 48, 56, 48, 57, 49, 48, 49, 49, 49, 50, 49, 51, 49, 52, 49, 53, 49, 54, 49, 55, 49, 56, 49, 57, 50, 48, 50, 49, 50, 50, 50, 51, 50, 52, 50, 53, 50, 54, 50, 55, 50, 56, 50, 57, 51, 48, 51, 49, 51, 50, 51, 51, 51, 52, 51, 53, 51, 54, 51, 55, 51, 56, 51, 57, 52, 48, 52, 49, 52, 50, 52, 51, 52, 52, 52, 53, 52, 54, 52, 55, 52, 56, 52, 57, 53, 48, 53, 49, 53, 50, 53, 51, 53, 52, 53, 53, 53, 54, 53, 55, 53, 56, 53, 57, 54, 48, 54, 49, 54, 50, 54, 51, 54, 52, 54, 53, 54, 54, 54, 55, 54, 56, 54, 57, 55, 48, 55, 49, 55, 50, 55, 51, 55, 52, 55, 53, 55, 54, 55, 55, 55, 56, 55, 57, 56, 48, 56, 49, 56, 50, 56, 51, 56, 52, 56, 53, 56, 54, 56, 55, 56, 56, 56, 57, 57, 48, 57, 49, 57, 50, 57, 51, 57, 52, 57, 53, 57, 54, 57, 55, 57, 56, 57, 57])) (.t 154)), o 156 (.ixAddr 1 (.t 145) (.t 147)), q (.store 1 (.t 156) (.t 153)), o 157 (.ixAddr 1 (.t 148) (.t 150)), q (.store 1 (.t 157) (.t 155))]
abbrev strconv_formatBase10_p4 : List AG := [o 143 (.mv (.t 12)), o 144 (.ibin .quo (.t 143) (.c (.int .u32 100))), o 12 (.mv (.t 144))]
abbrev strconv_formatBase10_p5 : List AG := [o 140 (.mv (.t 12)), o 141 (.ibin .rem (.t 140) (.c (.int .u32 100))), o 142 (.ibin .mul (.t 141) (.c (.int .u32 2))), o 16 (.mv (.t 142))]
abbrev strconv_formatBase10_p6 : ACode := (.seq (.reg strconv_formatBase10_p5) (.seq (.reg strconv_formatBase10_p4) (.seq (.dreg [O,O,O,O,O,O,O,O,O,O,O,O,O,O,O] [13,13,13,15,15,15,13,13,13,15,15,13,15,15,16] strconv_formatBase10_p3) (.reg strconv_formatBase10_p2))))
abbrev strconv_formatBase10_p7 : List AG := [o 138 (.mv (.t 4)), o 139 (.cmp .geq (.sc .int) (.t 138) (.c (.int .i64 2)))]
abbrev strconv_formatBase10_p8 : List AG := [o 136 (.mv (.t 4)), o 137 (.ibin .sub (.t 136) (.c (.int .i64 4))), o 4 (.mv (.t 137))]
abbrev strconv_formatBase10_p9 : List AG := [o 123 (.mv (.t 0)), o 124 (.mv (.t 4)), o 125 (.ibin .sub (.t 124) (.c (.int .i64 3))), o 126 (.mv (.t 0)), o 127 (.mv (.t 4)), o 128 (.ibin .sub (.t 127) (.c (.int .i64 4))), o 129 (.mv (.t 14)), o 130 (.ibin .add (.t 129) (.c (.int .u32 1))), o 131 (.ixStr (.c (.str [48, 48, 48, 49, 48, 50, 48, 51, 48, 52, 48, 53, 48, 54, 48, 55, 48, 56, 48, 57, 49, 48, 49, 49, 49, 50, 49, 51, 49, 52, 49, 53, 49, 54, 49, 55, 49, 56, 49, 57, 50, 48, 50, 49, 50, 50, 50, 51, 50, 52, 50, 53, 50, 54, 50, 55, 50, 56, 50, 57, 51, 48, 51, 49, 51, 50, 51, 51, 51, 52, 51, 53, 51, 54, 51, 55, 51, 56, 51, 57, 52, 48, 52, 49, 52, 50, 52, 51, 52, 52, 52, 53, 52, 54, 52, 55, 52, 56, 52, 57, 53, 48, 53, 49, 53, 50, 53, 51, 53, 52, 53, 53, 53, 54, 53, 55, 53, 56, 53, 57, 54, 48, 54, 49, 54, 50, 54, 51, 54, 52, 54, 53, 54, 54, 54, 55, 54, 56, 54, 57, 55, 48, 55, 49, 55, 50, 55, 51, 55, 52, 55, 53, 55, 54, 55, 55, 55, 56, 55, 57, 56, 48, 56, 49, 56, 50, 56, 51, 56, 52, 56, 53, 56, 54, 56, 55, 56, 56, 56, 57, 57, 48, 57, 49, 57, 50, 57, 51, 57, 52, 57, 53, 57, 54, 57, 55, 57, 56, 57, 57])) (.t 130)), o 132 (.mv (.t 14)), o 133 (.ixStr (.c (.str [48, 48, 48, 49, 48, 50, 48, 51, 48, 52, 48, 53, 48, 54, 48, 55, 48, 56, 48, 57, 49, 48, 49, 49, 49, 50, 49, 51, 49, 52, 49, 53, 49, 54, 49, 55, 49, 56, 49, 57, 50, 48, 50, 49, 50, 50, 50, 51, 50, 52, 50, 53, 50, 54, 50, 55, 50, 56, 50, 57, 51, 48, 51, 49, 51, 50, 51, 51, 51, 52, 51, 53, 51, 54, 51, 55, 51, 56, 51, 57, 52, 48, 52, 49, 52, 50, 52, 51, 52, 52, 52, 53, 52, 54, 52, 55, 52, 56, 52, 57, 53, 48, 53, 49, 53, 50, 53, 51, 53, 52, 53, 53, 53, 54, 53, 55, 53, 56, 53, 57, 54, 48, 54, 49, 54, 50, 54, 51, 54, 52, 54, 53, 54, 54, 54, 55, 54, 56, 54, 57, 55, 48, 55, 49, 55, 50, 55, 51, 55, 52, 55, 53, 55, 54, 55, 55, 55, 56, 55, 57, 56, 48, 56, 49, 56, 50, 56, 51, 56, 52, 56, 53, 56, 54, 56, 55, 56, 56, 56, 57, 57, 48, 57, 49, 57, 50, 57, 51, 57, 52, 57, 53, 57, 54, 57, 55, 57, 56, 57, 57])) (.t 132)), o 134 (.ixAddr 1 (.t 123) (.t 125)), q (.store 1 (.t 134) (.t 131)), o 135 (.ixAddr 1 (.t 126) (.t 128)), q (.store 1 (.t 135) (.t 133))]
abbrev strconv_formatBase10_p10 : List AG := [o 110 (.mv (.t 0)), o 111 (.mv (.t 4)), o 112 (.ibin .sub (.t 111) (.c (.int .i64 1))), o 113 (.mv (.t 0)), o 114 (.mv (.t 4)), o 115 (.ibin .sub (.t 114) (.c (.int .i64 2))), o 116 (.mv (.t 15)), o 117 (.ibin .add (.t 116) (.c (.int .u32 1))), o 118 (.ixStr (.c (.str [48, 48, 48, 49, 48, 50, 48, 51, 48, 52, 48, 53, 48, 54, 48, 55, 48, 56, 48, 57, 49, 48, 49, 49, 49, 50, 49, 51, 49, 52, 49, 53, 49, 54, 49, 55, 49, 56, 49, 57, 50, 48, 50, 49, 50, 50, 50, 51, 50, 52, 50, 53, 50, 54, 50, 55, 50, 56, 50, 57, 51, 48, 51, 49, 51, 50, 51, 51, 51, 52, 51, 53, 51, 54, 51, 55, 51, 56, 51, 57, 52, 48, 52, 49, 52, 50, 52, 51, 52, 52, 52, 53, 52, 54, 52, 55, 52, 56, 52, 57, 53, 48, 53, 49, 53, 50, 53, 51, 53, 52, 53, 53, 53, 54, 53, 55, 53, 56, 53, 57, 54, 48, 54, 49, 54, 50, 54, 51, 54, 52, 54, 53, 54, 54, 54, 55, 54, 56, 54, 57, 55, 48, 55, 49, 55, 50, 55, 51, 55, 52, 55, 53, 55, 54, 55, 55, 55, 56, 55, 57, 56, 48, 56, 49, 56, 50, 56, 51, 56, 52, 56, 53, 56, 54, 56, 55, 56, 56, 56, 57, 57, 48, 57, 49, 57, 50, 57, 51, 57, 52, 57, 53, 57, 54, 57, 55, 57, 56, 57, 57])) (.t 117)), o 119 (.mv (.t 15)), o 120 (.ixStr (.c (.str [48, 48, 48, 49, 48, 50, 48, 51, 48, 52, 48, 53, 48, 54, 48, 55, 48, 56, 48, 57, 49, 48, 49, 49, 49, 50, 49, 51, 49, 52, 49, 53, 49, 54, 49, 55, 49, 56, 49, 57, 50, 48, 50, 49, 50, 50, 50, 51, 50, 52, 50, 53, 50, 54, 50, 55, 50, 56, 50, 57, 51, 48, 51, 49, 51, 50, 51, 51, 51, 52, 51, 53, 51, 54, 51, 55, 51, 56, 51, 57, 52, 48, 52, 49, 52, 50, 52, 51, 52, 52, 52, 53, 52, 54, 52, 55, 52, 56, 52, 57, 53, 48, 53, 49, 53, 50, 53, 51, 53, 52, 53, 53, 53, 54, 53, 55, 53, 56, 53, 57, 54, 48, 54, 49, 54, 50, 54, 51, 54, 52, 54, 53, 54, 54, 54, 55, 54, 56, 54, 57, 55, 48, 55, 49, 55, 50, 55, 51, 55, 52, 55, 53, 55, 54, 55, 55, 55, 56, 55, 57, 56, 48, 56, 49, 56, 50, 56, 51, 56, 52, 56, 53, 56, 54, 56, 55, 56, 56, 56, 57, 57, 48, 57, 49, 57, 50, 57, 51, 57, 52, 57, 53, 57, 54, 57, 55, 57, 56, 57, 57])) (.t 119)), o 121 (.ixAddr 1 (.t 110) (.t 112)), q (.store 1 (.t 121) (.t 118)), o 122 (.ixAddr 1 (.t 113) (.t 115)), q (.store 1 (.t 122) (.t 120))]
abbrev strconv_formatBase10_p11 : List AG := [o 104 (.mv (.t 13)), o 105 (.ibin .quo (.t 104) (.c (.int .u32 100))), o 106 (.ibin .mul (.t 105) (.c (.int .u32 2))), o 107 (.mv (.t 13)), o 108 (.ibin .rem (.t 107) (.c (.int .u32 100))), o 109 (.ibin .mul (.t 108) (.c (.int .u32 2))), o 14 (.mv (.t 106)), o 15 (.mv (.t 109))]
abbrev strconv_formatBase10_p12 : List AG := [o 102 (.mv (.t 12)), o 103 (.ibin .quo (.t 102) (.c (.int .u32 10000))), o 12 (.mv (.t 103))]
abbrev strconv_formatBase10_p13 : List AG := [o 100 (.mv (.t 12)), o 101 (.ibin .rem (.t 100) (.c (.int .u32 10000))), o 13 (.mv (.t 101))]
abbrev strconv_formatBase10_p14 : ACode := (.seq (.reg strconv_formatBase10_p13) (.seq (.reg strconv_formatBase10_p12) (.seq (.reg strconv_formatBase10_p11) (.seq (.dreg [O,O,O,O,O,O,O,O,O,O,O,O,O,O,O] [13,13,13,15,15,15,13,13,13,15,15,13,15,15,16] strconv_formatBase10_p10) (.seq (.dreg [O,O,O,O,O,O,O,O,O,O,O,O,O,O,O] [13,13,13,15,15,15,13,13,13,15,15,13,15,15,16] strconv_formatBase10_p9) (.reg strconv_formatBase10_p8))))))
abbrev strconv_formatBase10_p15 : List AG := [o 98 (.mv (.t 4)), o 99 (.cmp .geq (.sc .int) (.t 98) (.c (.int .i64 4)))]
abbrev strconv_formatBase10_p16 : List AG := [o 96 (.mv (.t 1)), o 97 (.conv .u32 (.t 96)), o 12 (.mv (.t 97))]
abbrev strconv_formatBase10_m17 : List Bool := [I,I,O,O,I,O,O,O,O,O,O,O,O,O,O,O,O,O,O,O,O,O,O,O,O,O,O,O,O,O,O,O,O,O,O,O,O,O,O,O,O,O,O,O,O,O,O,O,O,O,O,O,O,O,O,O,O,O,O,O,O,O,O,O,O,O,O,O,O,O,O,O,O,O,O,O,O,O,O,O,O,O,O,O,O,O,O,O,O,O,O,O,O,O,O,O,O,O,O,O,O,O,O,O,O,O,O,O,O,O,O,O,O,O,O,O,O,O,O,O,O,O,O,O,O,O,O,O,O,O,O,O,O,O,O,O,O,O,O,O,O,O,O,O,O,O,O,O,O,O,O,O,O,O,O,O,O,O,O,O,O,O,O,O,O,O,O]
abbrev strconv_formatBase10_x17 : List Bool := [I,I,O,O,I,O,O,O,O,O,O,O,O,O,O,O,O,O,O,O,O,O,O,O,O,O,O,O,O,O,O,O,O,O,O,O,O,O,O,O,O,O,O,O,O,O,O,O,O,O,O,O,O,O,O,O,O,O,O,O,O,O,O,O,O,O,O,O,O,O,O,O,O,O,O,O,O,O,O,O,O,O,O,O,O,O,O,O,O,O,O,O,O,O,O,O,O,O,O,O,O,O,O,O,O,O,O,O,O,O,O,O,O,O,O,O,O,O,O,O,O,O,O,O,O,O,O,O,O,O,O,O,O,O,O,O,O,O,O,O,O,O,O,O,O,O,O,O,O,O,O,O,O,O,O,O,O,O,O,O,O,O,O,O,O,O,O]
abbrev strconv_formatBase10_p18 : List AG := [o 94 (.mv (.t 4)), o 95 (.ibin .sub (.t 94) (.c (.int .i64 8))), o 4 (.mv (.t 95))]
abbrev strconv_formatBase10_p19 : List AG := [o 81 (.mv (.t 0)), o 82 (.mv (.t 4)), o 83 (.ibin .sub (.t 82) (.c (.int .i64 7))), o 84 (.mv (.t 0)), o 85 (.mv (.t 4)), o 86 (.ibin .sub (.t 85) (.c (.int .i64 8))), o 87 (.mv (.t 10)), o 88 (.ibin .add (.t 87) (.c (.int .u32 1))), o 89 (.ixStr (.c (.str [48, 48, 48, 49, 48, 50, 48, 51, 48, 52, 48, 53, 48, 54, 48, 55, 48, 56, 48, 57, 49, 48, 49, 49, 49, 50, 49, 51, 49, 52, 49, 53, 49, 54, 49, 55, 49, 56, 49, 57, 50, 48, 50, 49, 50, 50, 50, 51, 50, 52, 50, 53, 50, 54, 50, 55, 50, 56, 50, 57, 51, 48, 51, 49, 51, 50, 51, 51, 51, 52, 51, 53, 51, 54, 51, 55, 51, 56, 51, 57, 52, 48, 52, 49, 52, 50, 52, 51, 52, 52, 52, 53, 52, 54, 52, 55, 52, 56, 52, 57, 53, 48, 53, 49, 53, 50, 53, 51, 53, 52, 53, 53, 53, 54, 53, 55, 53, 56, 53, 57, 54, 48, 54, 49, 54, 50, 54, 51, 54, 52, 54, 53, 54, 54, 54, 55, 54, 56, 54, 57, 55, 48, 55, 49, 55, 50, 55, 51, 55, 52, 55, 53, 55, 54, 55, 55, 55, 56, 55, 57, 56, 48, 56, 49, 56, 50, 56, 51, 56, 52, 56, 53, 56, 54, 56, 55, 56, 56, 56, 57, 57, 48, 57, 49, 57, 50, 57, 51, 57, 52, 57, 53, 57, 54, 57, 55, 57, 56, 57, 57])) (.t 88)), o 90 (.mv (.t 10)), o 91 (.ixStr (.c (.str [48, 48, 48, 49, 48, 50, 48, 51, 48, 52, 48, 53, 48, 54, 48, 55, 48, 56, 48, 57, 49, 48, 49, 49, 49, 50, 49, 51, 49, 52, 49, 53, 49, 54, 49, 55, 49, 56, 49, 57, 50, 48, 50, 49, 50, 50, 50, 51, 50, 52, 50, 53, 50, 54, 50, 55, 50, 56, 50, 57, 51, 48, 51, 49, 51, 50, 51, 51, 51, 52, 51, 53, 51, 54, 51, 55, 51, 56, 51, 57, 52, 48, 52, 49, 52, 50, 52, 51, 52, 52, 52, 53, 52, 54, 52, 55, 52, 56, 52, 57, 53, 48, 53, 49, 53, 50, 53, 51, 53, 52, 53, 53, 53, 54, 53, 55, 53, 56, 53, 57, 54, 48, 54, 49, 54, 50, 54, 51, 54, 52, 54, 53, 54, 54, 54, 55, 54, 56, 54, 57, 55, 48, 55, 49, 55, 50, 55, 51, 55, 52, 55, 53, 55, 54, 55, 55, 55, 56, 55, 57, 56, 48, 56, 49, 56, 50, 56, 51, 56, 52, 56, 53, 56, 54, 56, 55, 56, 56, 56, 57, 57, 48, 57, 49, 57, 50, 57, 51, 57, 52, 57, 53, 57, 54, 57, 55, 57, 56, 57, 57])) (.t 90)), o 92 (.ixAddr 1 (.t 81) (.t 83)), q (.store 1 (.t 92) (.t 89)), o 93 (.ixAddr 1 (.t 84) (.t 86)), q (.store 1 (.t 93) (.t 91))]
abbrev strconv_formatBase10_p20 : List AG := [o 68 (.mv (.t 0)), o 69 (.mv (.t 4)), o 70 (.ibin .sub (.t 69) (.c (.int .i64 5))), o 71 (.mv (.t 0)), o 72 (.mv (.t 4)), o 73 (.ibin .sub (.t 72) (.c (.int .i64 6))), o 74 (.mv (.t 11)), o 75 (.ibin .add (.t 74) (.c (.int .u32 1))), o 76 (.ixStr (.c (.str [48, 48, 48, 49, 48, 50, 48, 51, 48, 52, 48, 53, 48, 54, 48, 55, 48, 56, 48, 57, 49, 48, 49, 49, 49, 50, 49, 51, 49, 52, 49, 53, 49, 54, 49, 55, 49, 56, 49, 57, 50, 48, 50, 49, 50, 50, 50, 51, 50, 52, 50, 53, 50, 54, 50, 55, 50, 56, 50, 57, 51, 48, 51, 49, 51, 50, 51, 51, 51, 52, 51, 53, 51, 54, 51, 55, 51, 56, 51, 57, 52, 48, 52, 49, 52, 50, 52, 51, 52, 52, 52, 53, 52, 54, 52, 55, 52, 56, 52, 57, 53, 48, 53, 49, 53, 50, 53, 51, 53, 52, 53, 53, 53, 54, 53, 55, 53, 56, 53, 57, 54, 48, 54, 49, 54, 50, 54, 51, 54, 52, 54, 53, 54, 54, 54, 55, 54, 56, 54, 57, 55, 48, 55, 49, 55, 50, 55, 51, 55, 52, 55, 53, 55, 54, 55, 55, 55, 56, 55, 57, 56, 48, 56, 49, 56, 50, 56, 51, 56, 52, 56, 53, 56, 54, 56, 55, 56, 56, 56, 57, 57, 48, 57, 49, 57, 50, 57, 51, 57, 52, 57, 53, 57, 54, 57, 55, 57, 56, 57, 57])) (.t 75)), o 77 (.mv (.t 11)), o 78 (.ixStr (.c (.str [48, 48, 48, 49, 48, 50, 48, 51, 48, 52, 48, 53, 48, 54, 48, 55, 48, 56, 48, 57, 49, 48, 49, 49, 49, 50, 49, 51, 49, 52, 49, 53, 49, 54, 49, 55, 49, 56, 49, 57, 50, 48, 50, 49, 50, 50, 50, 51, 50, 52, 50, 53, 50, 54, 50, 55, 50, 56, 50, 57, 51, 48, 51, 49, 51, 50, 51, 51, 51, 52, 51, 53, 51, 54, 51, 55, 51, 56, 51, 57, 52, 48, 52, 49, 52, 50, 52, 51, 52, 52, 52, 53, 52, 54, 52, 55, 52, 56, 52, 57, 53, 48, 53, 49, 53, 50, 53, 51, 53, 52, 53, 53, 53, 54, 53, 55, 53, 56, 53, 57, 54, 48, 54, 49, 54, 50, 54, 51, 54, 52, 54, 53, 54, 54, 54, 55, 54, 56, 54, 57, 55, 48, 55, 49, 55, 50, 55, 51, 55, 52, 55, 53, 55, 54, 55, 55, 55, 56, 55, 57, 56, 48, 56, 49, 56, 50, 56, 51, 56, 52, 56, 53, 56, 54, 56, 55, 56, 56, 56, 57, 57, 48, 57, 49, 57, 50, 57, 51, 57, 52, 57, 53, 57, 54, 57, 55, 57, 56, 57, 57])) (.t 77)), o 79 (.ixAddr 1 (.t 68) (.t 70)), q (.store 1 (.t 79) (.t 76)), o 80 (.ixAddr 1 (.t 71) (.t 73)), q (.store 1 (.t 80) (.t 78))]
abbrev strconv_formatBase10_p21 : List AG := [o 55 (.mv (.t 0)), o 56 (.mv (.t 4)), o 57 (.ibin .sub (.t 56) (.c (.int .i64 3))), o 58 (.mv (.t 0)), o 59 (.mv (.t 4)), o 60 (.ibin .sub (.t 59) (.c (.int .i64 4))), o 61 (.mv (.t 8)), o 62 (.ibin .add (.t 61) (.c (.int .u32 1))), o 63 (.ixStr (.c (.str [48, 48, 48, 49, 48, 50, 48, 51, 48, 52, 48, 53, 48, 54, 48, 55, 48, 56, 48, 57, 49, 48, 49, 49, 49, 50, 49, 51, 49, 52, 49, 53, 49, 54, 49, 55, 49, 56, 49, 57, 50, 48, 50, 49, 50, 50, 50, 51, 50, 52, 50, 53, 50, 54, 50, 55, 50, 56, 50, 57, 51, 48, 51, 49, 51, 50, 51, 51, 51, 52, 51, 53, 51, 54, 51, 55, 51, 56, 51, 57, 52, 48, 52, 49, 52, 50, 52, 51, 52, 52, 52, 53, 52, 54, 52, 55, 52, 56, 52, 57, 53, 48, 53, 49, 53, 50, 53, 51, 53, 52, 53, 53, 53, 54, 53, 55, 53, 56, 53, 57, 54, 48, 54, 49, 54, 50, 54, 51, 54, 52, 54, 53, 54, 54, 54, 55, 54, 56, 54, 57, 55, 48, 55, 49, 55, 50, 55, 51, 55, 52, 55, 53, 55, 54, 55, 55, 55, 56, 55, 57, 56, 48, 56, 49, 56, 50, 56, 51, 56, 52, 56, 53, 56, 54, 56, 55, 56, 56, 56, 57, 57, 48, 57, 49, 57, 50, 57, 51, 57, 52, 57, 53, 57, 54, 57, 55, 57, 56, 57, 57])) (.t 62)), o 64 (.mv (.t 8)), o 65 (.ixStr (.c (.str [48, 48, 48, 49, 48, 50, 48, 51, 48, 52, 48, 53, 48, 54, 48, 55, 48, 56, 48, 57, 49, 48, 49, 49, 49, 50, 49, 51, 49, 52, 49, 53, 49, 54, 49, 55, 49, 56, 49, 57, 50, 48, 50, 49, 50, 50, 50, 51, 50, 52, 50, 53, 50, 54, 50, 55, 50, 56, 50, 57, 51, 48, 51, 49, 51, 50, 51, 51, 51, 52, 51, 53, 51, 54, 51, 55, 51, 56, 51, 57, 52, 48, 52, 49, 52, 50, 52, 51, 52, 52, 52, 53, 52, 54, 52, 55, 52, 56, 52, 57, 53, 48, 53, 49, 53, 50, 53, 51, 53, 52, 53, 53, 53, 54, 53, 55, 53, 56, 53, 57, 54, 48, 54, 49, 54, 50, 54, 51, 54, 52, 54, 53, 54, 54, 54, 55, 54, 56, 54, 57, 55, 48, 55, 49, 55, 50, 55, 51, 55, 52, 55, 53, 55, 54, 55, 55, 55, 56, 55, 57, 56, 48, 56, 49, 56, 50, 56, 51, 56, 52, 56, 53, 56, 54, 56, 55, 56, 56, 56, 57, 57, 48, 57, 49, 57, 50, 57, 51, 57, 52, 57, 53, 57, 54, 57, 55, 57, 56, 57, 57])) (.t 64)), o 66 (.ixAddr 1 (.t 55) (.t 57)), q (.store 1 (.t 66) (.t 63)), o 67 (.ixAddr 1 (.t 58) (.t 60)), q (.store 1 (.t 67) (.t 65))]
abbrev strconv_formatBase10_p22 : List AG := [o 42 (.mv (.t 0)), o 43 (.mv (.t 4)), o 44 (.ibin .sub (.t 43) (.c (.int .i64 1))), o 45 (.mv (.t 0)), o 46 (.mv (.t 4)), o 47 (.ibin .sub (.t 46) (.c (.int .i64 2))), o 48 (.mv (.t 9)), o 49 (.ibin .add (.t 48) (.c (.int .u32 1))), o 50 (.ixStr (.c (.str [48, 48, 48, 49, 48, 50, 48, 51, 48, 52, 48, 53, 48, 54, 48, 55, 48, 56, 48, 57, 49, 48, 49, 49, 49, 50, 49, 51, 49, 52, 49, 53, 49, 54, 49, 55, 49, 56, 49, 57, 50, 48, 50, 49, 50, 50, 50, 51, 50, 52, 50, 53, 50, 54, 50, 55, 50, 56, 50, 57, 51, 48, 51, 49, 51, 50, 51, 51, 51, 52, 51, 53, 51, 54, 51, 55, 51, 56, 51, 57, 52, 48, 52, 49, 52, 50, 52, 51, 52, 52, 52, 53, 52, 54, 52, 55, 52, 56, 52, 57, 53, 48, 53, 49, 53, 50, 53, 51, 53, 52, 53, 53, 53, 54, 53, 55, 53, 56, 53, 57, 54, 48, 54, 49, 54, 50, 54, 51, 54, 52, 54, 53, 54, 54, 54, 55, 54, 56, 54, 57, 55, 48, 55, 49, 55, 50, 55, 51, 55, 52, 55, 53, 55, 54, 55, 55, 55, 56, 55, 57, 56, 48, 56, 49, 56, 50, 56, 51, 56, 52, 56, 53, 56, 54, 56, 55, 56, 56, 56, 57, 57, 48, 57, 49, 57, 50, 57, 51, 57, 52, 57, 53, 57, 54, 57, 55, 57, 56, 57, 57])) (.t 49)), o 51 (.mv (.t 9)), o 52 (.ixStr (.c (.str [48, 48, 48, 49, 48, 50, 48, 51, 48, 52, 48, 53, 48, 54, 48, 55, 48, 56, 48, 57, 49, 48, 49, 49, 49, 50, 49, 51, 49, 52, 49, 53, 49, 54, 49, 55, 49, 56, 49, 57, 50, 48, 50, 49, 50, 50, 50, 51, 50, 52, 50, 53, 50, 54, 50, 55, 50, 56, 50, 57, 51, 48, 51, 49, 51, 50, 51, 51, 51, 52, 51, 53, 51, 54, 51, 55, 51, 56, 51, 57, 52, 48, 52, 49, 52, 50, 52, 51, 52, 52, 52, 53, 52, 54, 52, 55, 52, 56, 52, 57, 53, 48, 53, 49, 53, 50, 53, 51, 53, 52, 53, 53, 53, 54, 53, 55, 53, 56, 53, 57, 54, 48, 54, 49, 54, 50, 54, 51, 54, 52, 54, 53, 54, 54, 54, 55, 54, 56, 54, 57, 55, 48, 55, 49, 55, 50, 55, 51, 55, 52, 55, 53, 55, 54, 55, 55, 55, 56, 55, 57, 56, 48, 56, 49, 56, 50, 56, 51, 56, 52, 56, 53, 56, 54, 56, 55, 56, 56, 56, 57, 57, 48, 57, 49, 57, 50, 57, 51, 57, 52, 57, 53, 57, 54, 57, 55, 57, 56, 57, 57])) (.t 51)), o 53 (.ixAddr 1 (.t 42) (.t 44)), q (.store 1 (.t 53) (.t 50)), o 54 (.ixAddr 1 (.t 45) (.t 47)), q (.store 1 (.t 54) (.t 52))]
abbrev strconv_formatBase10_p23 : List AG := [o 36 (.mv (.t 6)), o 37 (.ibin .quo (.t 36) (.c (.int .u32 100))), o 38 (.ibin .mul (.t 37) (.c (.int .u32 2))), o 39 (.mv (.t 6)), o 40 (.ibin .rem (.t 39) (.c (.int .u32 100))), o 41 (.ibin .mul (.t 40) (.c (.int .u32 2))), o 10 (.mv (.t 38)), o 11 (.mv (.t 41))]
abbrev strconv_formatBase10_p24 : List AG := [o 30 (.mv (.t 7)), o 31 (.ibin .quo (.t 30) (.c (.int .u32 100))), o 32 (.ibin .mul (.t 31) (.c (.int .u32 2))), o 33 (.mv (.t 7)), o 34 (.ibin .rem (.t 33) (.c (.int .u32 100))), o 35 (.ibin .mul (.t 34) (.c (.int .u32 2))), o 8 (.mv (.t 32)), o 9 (.mv (.t 35))]
abbrev strconv_formatBase10_p25 : List AG := [o 26 (.mv (.t 5)), o 27 (.ibin .quo (.t 26) (.c (.int .u32 10000))), o 28 (.mv (.t 5)), o 29 (.ibin .rem (.t 28) (.c (.int .u32 10000))), o 6 (.mv (.t 27)), o 7 (.mv (.t 29))]
abbrev strconv_formatBase10_p26 : List AG := [o 24 (.mv (.t 1)), o 25 (.ibin .quo (.t 24) (.c (.int .u64 100000000))), o 1 (.mv (.t 25))]
abbrev strconv_formatBase10_p27 : List AG := [o 21 (.mv (.t 1)), o 22 (.ibin .rem (.t 21) (.c (.int .u64 100000000))), o 23 (.conv .u32 (.t 22)), o 5 (.mv (.t 23))]
abbrev strconv_formatBase10_p28 : ACode := (.seq (.reg strconv_formatBase10_p27) (.seq (.reg strconv_formatBase10_p26) (.seq (.reg strconv_formatBase10_p25) (.seq (.reg strconv_formatBase10_p24) (.seq (.reg strconv_formatBase10_p23) (.seq (.dreg [O,O,O,O,O,O,O,O,O,O,O,O,O,O,O] [13,13,13,15,15,15,13,13,13,15,15,13,15,15,16] strconv_formatBase10_p22) (.seq (.dreg [O,O,O,O,O,O,O,O,O,O,O,O,O,O,O] [13,13,13,15,15,15,13,13,13,15,15,13,15,15,16] strconv_formatBase10_p21) (.seq (.dreg [O,O,O,O,O,O,O,O,O,O,O,O,O,O,O] [13,13,13,15,15,15,13,13,13,15,15,13,15,15,16] strconv_formatBase10_p20) (.seq (.dreg [O,O,O,O,O,O,O,O,O,O,O,O,O,O,O] [13,13,13,15,15,15,13,13,13,15,15,13,15,15,16] strconv_formatBase10_p19) (.reg strconv_formatBase10_p18))))))))))
abbrev strconv_formatBase10_p29 : List AG := [o 19 (.mv (.t 4)), o 20 (.cmp .geq (.sc .int) (.t 19) (.c (.int .i64 8)))]
abbrev strconv_formatBase10_b17 : ACode := (.seq (.seq (.reg strconv_formatBase10_p29) (.cond (.t 20) .skip (.exit 0))) (.block 1 [] strconv_formatBase10_p28))
abbrev strconv_formatBase10_p30 : List AG := [o 17 (.mv (.t 0)), o 18 (.len (.t 17)), o 4 (.mv (.t 18))]
abbrev strconv_formatBase10 : AFun := ⟨(.seq (.reg strconv_formatBase10_p30) (.seq (.block 0 strconv_formatBase10_x17 (.loop strconv_formatBase10_m17 strconv_formatBase10_b17)) (.seq (.reg strconv_formatBase10_p16) (.seq (.seq (.reg strconv_formatBase10_p15) (.cond (.t 99) strconv_formatBase10_p14 .skip)) (.seq (.seq (.reg strconv_formatBase10_p7) (.cond (.t 139) strconv_formatBase10_p6 .skip)) (.seq (.reg strconv_formatBase10_p1) (.cond (.t 161) (.reg strconv_formatBase10_p0) .skip))))))), 167, []⟩
abbrev strconv_formatBase10_k17 : List It := [.code (.seq (.reg strconv_formatBase10_p16) (.seq (.seq (.reg strconv_formatBase10_p15) (.cond (.t 99) strconv_formatBase10_p14 .skip)) (.seq (.seq (.reg strconv_formatBase10_p7) (.cond (.t 139) strconv_formatBase10_p6 .skip)) (.seq (.reg strconv_formatBase10_p1) (.cond (.t 161) (.reg strconv_formatBase10_p0) .skip)))))]
abbrev strconv_formatBase10_L17 (x0 x1 x4 : AV) (h : List Ob) (e : Cx := cx) : Cfg := atC n_strconv_formatBase10 (.code strconv_formatBase10_b17 :: .inLoop strconv_formatBase10_m17 strconv_formatBase10_b17 :: .inBlock 0 strconv_formatBase10_x17 :: strconv_formatBase10_k17) [x0,x1,U,U,x4,U,U,U,U,U,U,U,U,U,U,U,U,U,U,U,U,U,U,U,U,U,U,U,U,U,U,U,U,U,U,U,U,U,U,U,U,U,U,U,U,U,U,U,U,U,U,U,U,U,U,U,U,U,U,U,U,U,U,U,U,U,U,U,U,U,U,U,U,U,U,U,U,U,U,U,U,U,U,U,U,U,U,U,U,U,U,U,U,U,U,U,U,U,U,U,U,U,U,U,U,U,U,U,U,U,U,U,U,U,U,U,U,U,U,U,U,U,U,U,U,U,U,U,U,U,U,U,U,U,U,U,U,U,U,U,U,U,U,U,U,U,U,U,U,U,U,U,U,U,U,U,U,U,U,U,U,U,U,U,U,U,U] h e
abbrev strconv_formatBase10_E17 (x0 x1 x4 : AV) (h : List Ob) (e : Cx := cx) : Cfg := atC n_strconv_formatBase10 strconv_formatBase10_k17 [x0,x1,U,U,x4,U,U,U,U,U,U,U,U,U,U,U,U,U,U,U,U,U,U,U,U,U,U,U,U,U,U,U,U,U,U,U,U,U,U,U,U,U,U,U,U,U,U,U,U,U,U,U,U,U,U,U,U,U,U,U,U,U,U,U,U,U,U,U,U,U,U,U,U,U,U,U,U,U,U,U,U,U,U,U,U,U,U,U,U,U,U,U,U,U,U,U,U,U,U,U,U,U,U,U,U,U,U,U,U,U,U,U,U,U,U,U,U,U,U,U,U,U,U,U,U,U,U,U,U,U,U,U,U,U,U,U,U,U,U,U,U,U,U,U,U,U,U,U,U,U,U,U,U,U,U,U,U,U,U,U,U,U,U,U,U,U,U] h e
@[simp] theorem c_strconv_formatBase10 : cfun Tryd.prog n_strconv_formatBase10 = some strconv_formatBase10 := by kernel_rfl
@[simp] theorem e_strconv_formatBase10 : hasBody Tryd.prog n_strconv_formatBase10 = true := by kernel_rfl

/- strconv_formatBits: internal/strconv.formatBits HAS BAD -/
abbrev strconv_formatBits_p0 : ACode := (.seq .bad .ret)
abbrev strconv_formatBits_p1 : List AG := [o 94 (.mv (.t 4))]
abbrev strconv_formatBits_p2 : List AG := [o 92 (.mv (.t 13)), o 93 (.arrAddr 65 1 (.t 12) (.t 92)), q (.store 1 (.t 93) (.c (.int .u8 45)))]
abbrev strconv_formatBits_p3 : List AG := [o 90 (.mv (.t 13)), o 91 (.ibin .sub (.t 90) (.c (.int .i64 1))), o 13 (.mv (.t 91))]
abbrev strconv_formatBits_p4 : ACode := (.seq (.reg strconv_formatBits_p3) (.reg strconv_formatBits_p2))
abbrev strconv_formatBits_p5 : List AG := [o 89 (.mv (.t 3))]
abbrev strconv_formatBits_p6 : List AG := [o 60 (.mv (.t 13)), o 61 (.mv (.t 1)), o 62 (.ixStr (.c (.str [48, 49, 50, 51, 52, 53, 54, 55, 56, 57, 97, 98, 99, 100, 101, 102, 103, 104, 105, 106, 107, 108, 109, 110, 111, 112, 113, 114, 115, 116, 117, 118, 119, 120, 121, 122])) (.t 61)), o 63 (.arrAddr 65 1 (.t 12) (.t 60)), q (.store 1 (.t 63) (.t 62))]
abbrev strconv_formatBits_p7 : List AG := [o 58 (.mv (.t 13)), o 59 (.ibin .sub (.t 58) (.c (.int .i64 1))), o 13 (.mv (.t 59))]
abbrev strconv_formatBits_m8 : List Bool := [O,I,O,I,I,O,O,O,O,O,O,O,I,I,I,I,I,O,O,O,O,O,O,O,O,O,O,O,O,O,O,O,O,O,O,O,O,O,O,O,O,O,O,O,O,O,O,O,O,O,O,O,O,O,O,O,O,O,O,O,O,O,O,O,O,O,O,O,O,O,O,O,O,O,O,O,O,O,O,O,O,O,O,O,O,O,O,O,O,O,O,O,O,O,O,O,O,O,O,O,O,O]
abbrev strconv_formatBits_x8 : List Bool := [O,I,O,I,I,O,O,O,O,O,O,O,I,I,O,O,O,O,O,O,O,O,O,O,O,O,O,O,O,O,O,O,O,O,O,O,O,O,O,O,O,O,O,O,O,O,O,O,O,O,O,O,O,O,O,O,O,O,O,O,O,O,O,O,O,O,O,O,O,O,O,O,O,O,O,O,O,O,O,O,O,O,O,O,O,O,O,O,O,O,O,O,O,O,O,O,O,O,O,O,O,O]
abbrev strconv_formatBits_p9 : List AG := [o 55 (.mv (.t 1)), o 56 (.mv (.t 14)), o 57 (.ibin .shr (.t 55) (.t 56)), o 1 (.mv (.t 57))]
abbrev strconv_formatBits_p10 : List AG := [o 49 (.mv (.t 13)), o 50 (.mv (.t 1)), o 51 (.mv (.t 16)), o 52 (.ibin .and (.t 50) (.t 51)), o 53 (.ixStr (.c (.str [48, 49, 50, 51, 52, 53, 54, 55, 56, 57, 97, 98, 99, 100, 101, 102, 103, 104, 105, 106, 107, 108, 109, 110, 111, 112, 113, 114, 115, 116, 117, 118, 119, 120, 121, 122])) (.t 52)), o 54 (.arrAddr 65 1 (.t 12) (.t 49)), q (.store 1 (.t 54) (.t 53))]
abbrev strconv_formatBits_p11 : List AG := [o 47 (.mv (.t 13)), o 48 (.ibin .sub (.t 47) (.c (.int .i64 1))), o 13 (.mv (.t 48))]
abbrev strconv_formatBits_p12 : ACode := (.seq (.reg strconv_formatBits_p11) (.seq (.reg strconv_formatBits_p10) (.reg strconv_formatBits_p9)))
abbrev strconv_formatBits_p13 : List AG := [o 44 (.mv (.t 1)), o 45 (.mv (.t 15)), o 46 (.cmp .geq (.sc .int) (.t 44) (.t 45))]
abbrev strconv_formatBits_b8 : ACode := (.seq (.seq (.reg strconv_formatBits_p13) (.cond (.t 46) .skip (.exit 0))) (.block 1 [] strconv_formatBits_p12))
abbrev strconv_formatBits_p14 : List AG := [o 41 (.mv (.t 2)), o 42 (.conv .u64 (.t 41)), o 43 (.ibin .sub (.t 42) (.c (.int .u64 1))), o 16 (.mv (.t 43))]
abbrev strconv_formatBits_p15 : List AG := [o 39 (.mv (.t 2)), o 40 (.conv .u64 (.t 39)), o 15 (.mv (.t 40))]
abbrev strconv_formatBits_p16 : List AG := [o 35 (.mv (.t 2)), o 36 (.conv .u64 (.t 35)), o 37 (.call (.f n_math_bits_TrailingZeros) [(.t 36)]), o 38 (.conv .u64 (.t 37)), o 14 (.mv (.t 38))]
abbrev strconv_formatBits_p17 : List AG := [o 85 (.mv (.t 13)), o 86 (.mv (.t 1)), o 87 (.ixStr (.c (.str [48, 49, 50, 51, 52, 53, 54, 55, 56, 57, 97, 98, 99, 100, 101, 102, 103, 104, 105, 106, 107, 108, 109, 110, 111, 112, 113, 114, 115, 116, 117, 118, 119, 120, 121, 122])) (.t 86)), o 88 (.arrAddr 65 1 (.t 12) (.t 85)), q (.store 1 (.t 88) (.t 87))]
abbrev strconv_formatBits_p18 : List AG := [o 83 (.mv (.t 13)), o 84 (.ibin .sub (.t 83) (.c (.int .i64 1))), o 13 (.mv (.t 84))]
abbrev strconv_formatBits_m19 : List Bool := [O,I,O,I,I,O,O,O,O,O,O,O,I,I,O,O,O,I,O,O,O,O,O,O,O,O,O,O,O,O,O,O,O,O,O,O,O,O,O,O,O,O,O,O,O,O,O,O,O,O,O,O,O,O,O,O,O,O,O,O,O,O,O,O,O,O,O,O,O,O,O,O,O,O,O,O,O,O,O,O,O,O,O,O,O,O,O,O,O,O,O,O,O,O,O,O,O,O,O,O,O,O]
abbrev strconv_formatBits_x19 : List Bool := [O,I,O,I,I,O,O,O,O,O,O,O,I,I,O,O,O,O,O,O,O,O,O,O,O,O,O,O,O,O,O,O,O,O,O,O,O,O,O,O,O,O,O,O,O,O,O,O,O,O,O,O,O,O,O,O,O,O,O,O,O,O,O,O,O,O,O,O,O,O,O,O,O,O,O,O,O,O,O,O,O,O,O,O,O,O,O,O,O,O,O,O,O,O,O,O,O,O,O,O,O,O]
abbrev strconv_formatBits_p20 : List AG := [o 82 (.mv (.t 18)), o 1 (.mv (.t 82))]
abbrev strconv_formatBits_p21 : List AG := [o 74 (.mv (.t 13)), o 75 (.mv (.t 1)), o 76 (.mv (.t 18)), o 77 (.mv (.t 17)), o 78 (.ibin .mul (.t 76) (.t 77)), o 79 (.ibin .sub (.t 75) (.t 78)), o 80 (.ixStr (.c (.str [48, 49, 50, 51, 52, 53, 54, 55, 56, 57, 97, 98, 99, 100, 101, 102, 103, 104, 105, 106, 107, 108, 109, 110, 111, 112, 113, 114, 115, 116, 117, 118, 119, 120, 121, 122])) (.t 79)), o 81 (.arrAddr 65 1 (.t 12) (.t 74)), q (.store 1 (.t 81) (.t 80))]
abbrev strconv_formatBits_p22 : List AG := [o 71 (.mv (.t 1)), o 72 (.mv (.t 17)), o 73 (.ibin .quo (.t 71) (.t 72)), o 18 (.mv (.t 73))]
abbrev strconv_formatBits_p23 : List AG := [o 69 (.mv (.t 13)), o 70 (.ibin .sub (.t 69) (.c (.int .i64 1))), o 13 (.mv (.t 70))]
abbrev strconv_formatBits_p24 : ACode := (.seq (.reg strconv_formatBits_p23) (.seq (.reg strconv_formatBits_p22) (.seq (.reg strconv_formatBits_p21) (.reg strconv_formatBits_p20))))
abbrev strconv_formatBits_p25 : List AG := [o 66 (.mv (.t 1)), o 67 (.mv (.t 17)), o 68 (.cmp .geq (.sc .int) (.t 66) (.t 67))]
abbrev strconv_formatBits_b19 : ACode := (.seq (.seq (.reg strconv_formatBits_p25) (.cond (.t 68) .skip (.exit 2))) (.block 3 [] strconv_formatBits_p24))
abbrev strconv_formatBits_p26 : List AG := [o 64 (.mv (.t 2)), o 65 (.conv .u64 (.t 64)), o 17 (.mv (.t 65))]
abbrev strconv_formatBits_p27 : ACode := (.seq (.reg strconv_formatBits_p16) (.seq (.reg strconv_formatBits_p15) (.seq (.reg strconv_formatBits_p14) (.seq (.block 0 strconv_formatBits_x8 (.loop strconv_formatBits_m8 strconv_formatBits_b8)) (.seq (.reg strconv_formatBits_p7) (.reg strconv_formatBits_p6))))))
abbrev strconv_formatBits_p28 : ACode := (.seq (.reg strconv_formatBits_p26) (.seq (.block 2 strconv_formatBits_x19 (.loop strconv_formatBits_m19 strconv_formatBits_b19)) (.seq (.reg strconv_formatBits_p18) (.reg strconv_formatBits_p17))))
abbrev strconv_formatBits_p29 : List AG := [o 33 (.mv (.t 2)), o 34 (.call (.f n_strconv_isPowerOfTwo) [(.t 33)])]
abbrev strconv_formatBits_p30 : List AG := [o 31 (.mv (.t 1)), o 32 (.neg (.t 31)), o 1 (.mv (.t 32))]
abbrev strconv_formatBits_p31 : List AG := [o 30 (.mv (.t 3))]
abbrev strconv_formatBits_p32 : List AG := [o 13 (.mv (.c (.int .i64 65)))]
abbrev strconv_formatBits_p33 : List AG := [o 12 (.alloc [(.int .u8 0), (.int .u8 0), (.int .u8 0), (.int .u8 0), (.int .u8 0), (.int .u8 0), (.int .u8 0), (.int .u8 0), (.int .u8 0), (.int .u8 0), (.int .u8 0), (.int .u8 0), (.int .u8 0), (.int .u8 0), (.int .u8 0), (.int .u8 0), (.int .u8 0), (.int .u8 0), (.int .u8 0), (.int .u8 0), (.int .u8 0), (.int .u8 0), (.int .u8 0), (.int .u8 0), (.int .u8 0), (.int .u8 0), (.int .u8 0), (.int .u8 0), (.int .u8 0), (.int .u8 0), (.int .u8 0), (.int .u8 0), (.int .u8 0), (.int .u8 0), (.int .u8 0), (.int .u8 0), (.int .u8 0), (.int .u8 0), (.int .u8 0), (.int .u8 0), (.int .u8 0), (.int .u8 0), (.int .u8 0), (.int .u8 0), (.int .u8 0), (.int .u8 0), (.int .u8 0), (.int .u8 0), (.int .u8 0), (.int .u8 0), (.int .u8 0), (.int .u8 0), (.int .u8 0), (.int .u8 0), (.int .u8 0), (.int .u8 0), (.int .u8 0), (.int .u8 0), (.int .u8 0), (.int .u8 0), (.int .u8 0), (.int .u8 0), (.int .u8 0), (.int .u8 0), (.int .u8 0)])]
abbrev strconv_formatBits_p34 : List AG := [o 29 (.mkIface t_string (.c (.str [115, 116, 114, 99, 111, 110, 118, 58, 32, 105, 108, 108, 101, 103, 97, 108, 32, 65, 112, 112, 101, 110, 100, 73, 110, 116, 47, 70, 111, 114, 109, 97, 116, 73, 110, 116, 32, 98, 97, 115, 101]))), q (.panic (.t 29))]
abbrev strconv_formatBits_p35 : List AG := [o 19 (.mv (.t 2)), o 20 (.cmp .lss (.sc .int) (.t 19) (.c (.int .i64 2))), o 21 (.mv (.t 20)), on 22 21 (.mv (.t 2)), on 23 21 (.cmp .eql (.sc .int) (.t 22) (.c (.int .i64 10))), o 24 (.pick (.t 21) (.c (.bool true)) (.t 23)), o 25 (.mv (.t 24)), on 26 25 (.mv (.t 2)), on 27 25 (.cmp .gtr (.sc .int) (.t 26) (.c (.int .i64 36))), o 28 (.pick (.t 25) (.c (.bool true)) (.t 27))]
abbrev strconv_formatBits_p36 : List AG := [o 10 (.nilrow 1 t_uint8), o 11 (.mv (.c (.str [])))]
abbrev strconv_formatBits : AFun := ⟨(.seq (.reg strconv_formatBits_p36) (.seq (.seq (.reg strconv_formatBits_p35) (.cond (.t 28) (.reg strconv_formatBits_p34) .skip)) (.seq (.reg strconv_formatBits_p33) (.seq (.reg strconv_formatBits_p32) (.seq (.seq (.reg strconv_formatBits_p31) (.cond (.t 30) (.reg strconv_formatBits_p30) .skip)) (.seq (.seq (.reg strconv_formatBits_p29) (.cond (.t 34) strconv_formatBits_p27 strconv_formatBits_p28)) (.seq (.seq (.reg strconv_formatBits_p5) (.cond (.t 89) strconv_formatBits_p4 .skip)) (.seq (.seq (.reg strconv_formatBits_p1) (.cond (.t 94) strconv_formatBits_p0 .skip)) (.seq .bad .ret))))))))), 102, [.tmp 10, .tmp 11]⟩
abbrev strconv_formatBits_k8 : List It := [.code (.seq (.reg strconv_formatBits_p7) (.reg strconv_formatBits_p6)), .code (.seq (.seq (.reg strconv_formatBits_p5) (.cond (.t 89) strconv_formatBits_p4 .skip)) (.seq (.seq (.reg strconv_formatBits_p1) (.cond (.t 94) strconv_formatBits_p0 .skip)) (.seq .bad .ret)))]
abbrev strconv_formatBits_L8 (x1 x3 x4 x12 x13 x14 x15 x16 : AV) (h : List Ob) (e : Cx := cx) : Cfg := atC n_strconv_formatBits (.code strconv_formatBits_b8 :: .inLoop strconv_formatBits_m8 strconv_formatBits_b8 :: .inBlock 0 strconv_formatBits_x8 :: strconv_formatBits_k8) [U,x1,U,x3,x4,U,U,U,U,U,U,U,x12,x13,x14,x15,x16,U,U,U,U,U,U,U,U,U,U,U,U,U,U,U,U,U,U,U,U,U,U,U,U,U,U,U,U,U,U,U,U,U,U,U,U,U,U,U,U,U,U,U,U,U,U,U,U,U,U,U,U,U,U,U,U,U,U,U,U,U,U,U,U,U,U,U,U,U,U,U,U,U,U,U,U,U,U,U,U,U,U,U,U,U] h e
abbrev strconv_formatBits_E8 (x1 x3 x4 x12 x13 : AV) (h : List Ob) (e : Cx := cx) : Cfg := atC n_strconv_formatBits strconv_formatBits_k8 [U,x1,U,x3,x4,U,U,U,U,U,U,U,x12,x13,U,U,U,U,U,U,U,U,U,U,U,U,U,U,U,U,U,U,U,U,U,U,U,U,U,U,U,U,U,U,U,U,U,U,U,U,U,U,U,U,U,U,U,U,U,U,U,U,U,U,U,U,U,U,U,U,U,U,U,U,U,U,U,U,U,U,U,U,U,U,U,U,U,U,U,U,U,U,U,U,U,U,U,U,U,U,U,U] h e
abbrev strconv_formatBits_k19 : List It := [.code (.seq (.reg strconv_formatBits_p18) (.reg strconv_formatBits_p17)), .code (.seq (.seq (.reg strconv_formatBits_p5) (.cond (.t 89) strconv_formatBits_p4 .skip)) (.seq (.seq (.reg strconv_formatBits_p1) (.cond (.t 94) strconv_formatBits_p0 .skip)) (.seq .bad .ret)))]
abbrev strconv_formatBits_L19 (x1 x3 x4 x12 x13 x17 : AV) (h : List Ob) (e : Cx := cx) : Cfg := atC n_strconv_formatBits (.code strconv_formatBits_b19 :: .inLoop strconv_formatBits_m19 strconv_formatBits_b19 :: .inBlock 2 strconv_formatBits_x19 :: strconv_formatBits_k19) [U,x1,U,x3,x4,U,U,U,U,U,U,U,x12,x13,U,U,U,x17,U,U,U,U,U,U,U,U,U,U,U,U,U,U,U,U,U,U,U,U,U,U,U,U,U,U,U,U,U,U,U,U,U,U,U,U,U,U,U,U,U,U,U,U,U,U,U,U,U,U,U,U,U,U,U,U,U,U,U,U,U,U,U,U,U,U,U,U,U,U,U,U,U,U,U,U,U,U,U,U,U,U,U,U] h e
abbrev strconv_formatBits_E19 (x1 x3 x4 x12 x13 : AV) (h : List Ob) (e : Cx := cx) : Cfg := atC n_strconv_formatBits strconv_formatBits_k19 [U,x1,U,x3,x4,U,U,U,U,U,U,U,x12,x13,U,U,U,U,U,U,U,U,U,U,U,U,U,U,U,U,U,U,U,U,U,U,U,U,U,U,U,U,U,U,U,U,U,U,U,U,U,U,U,U,U,U,U,U,U,U,U,U,U,U,U,U,U,U,U,U,U,U,U,U,U,U,U,U,U,U,U,U,U,U,U,U,U,U,U,U,U,U,U,U,U,U,U,U,U,U,U,U] h e
@[simp] theorem c_strconv_formatBits : cfun Tryd.prog n_strconv_formatBits = some strconv_formatBits := by kernel_rfl
@[simp] theorem e_strconv_formatBits : hasBody Tryd.prog n_strconv_formatBits = true := by kernel_rfl

/- unicode_utf8_ValidRune: unicode/utf8.ValidRune -/
abbrev unicode_utf8_ValidRune_p0 : List AG := [o 2 (.mv (.c (.bool false)))]
abbrev unicode_utf8_ValidRune_p1 : List AG := [o 2 (.mv (.c (.bool true)))]
abbrev unicode_utf8_ValidRune_p2 : List AG := [o 2 (.mv (.c (.bool true)))]
abbrev unicode_utf8_ValidRune_p3 : ACode := (.seq (.reg unicode_utf8_ValidRune_p2) .ret)
abbrev unicode_utf8_ValidRune_p4 : List AG := [o 11 (.mv (.t 0)), o 12 (.cmp .lss (.sc .int) (.c (.int .i32 57343)) (.t 11)), o 13 (.mv (.t 12)), oy 14 13 (.mv (.t 0)), oy 15 13 (.cmp .leq (.sc .int) (.t 14) (.c (.int .i32 1114111))), o 16 (.pick (.t 13) (.t 15) (.c (.bool false))), o 10 (.mv (.t 16))]
abbrev unicode_utf8_ValidRune_p5 : ACode := (.seq (.reg unicode_utf8_ValidRune_p1) .ret)
abbrev unicode_utf8_ValidRune_p6 : ACode := (.seq (.reg unicode_utf8_ValidRune_p4) (.cond (.t 10) unicode_utf8_ValidRune_p3 .skip))
abbrev unicode_utf8_ValidRune_p7 : List AG := [o 4 (.mv (.t 0)), o 5 (.cmp .leq (.sc .int) (.c (.int .i32 0)) (.t 4)), o 6 (.mv (.t 5)), oy 7 6 (.mv (.t 0)), oy 8 6 (.cmp .lss (.sc .int) (.t 7) (.c (.int .i32 55296))), o 9 (.pick (.t 6) (.t 8) (.c (.bool false))), o 3 (.mv (.t 9))]
abbrev unicode_utf8_ValidRune_p8 : ACode := (.seq (.reg unicode_utf8_ValidRune_p7) (.cond (.t 3) unicode_utf8_ValidRune_p5 unicode_utf8_ValidRune_p6))
abbrev unicode_utf8_ValidRune_p9 : List AG := [o 2 (.mv (.c (.bool false)))]
abbrev unicode_utf8_ValidRune : AFun := ⟨(.seq (.reg unicode_utf8_ValidRune_p9) (.seq (.block 0 [] unicode_utf8_ValidRune_p8) (.seq (.reg unicode_utf8_ValidRune_p0) .ret))), 17, [.tmp 2]⟩
@[simp] theorem c_unicode_utf8_ValidRune : cfun Tryd.prog n_unicode_utf8_ValidRune = some unicode_utf8_ValidRune := by kernel_rfl
@[simp] theorem e_unicode_utf8_ValidRune : hasBody Tryd.prog n_unicode_utf8_ValidRune = true := by kernel_rfl

/- bytealg_Cutover: internal/bytealg.Cutover -/
abbrev bytealg_Cutover_p0 : List AG := [o 3 (.mv (.t 0)), o 4 (.ibin .add (.t 3) (.c (.int .i64 16))), o 5 (.ibin .quo (.t 4) (.c (.int .i64 8))), o 2 (.mv (.t 5))]
abbrev bytealg_Cutover_p1 : List AG := [o 2 (.mv (.c (.int .i64 0)))]
abbrev bytealg_Cutover : AFun := ⟨(.seq (.reg bytealg_Cutover_p1) (.seq (.reg bytealg_Cutover_p0) .ret)), 6, [.tmp 2]⟩
@[simp] theorem c_bytealg_Cutover : cfun Tryd.prog n_bytealg_Cutover = some bytealg_Cutover := by kernel_rfl
@[simp] theorem e_bytealg_Cutover : hasBody Tryd.prog n_bytealg_Cutover = true := by kernel_rfl

/- strconv_log10Pow2: internal/strconv.log10Pow2 -/
abbrev strconv_log10Pow2_p0 : List AG := [o 3 (.mv (.t 0)), o 4 (.ibin .mul (.t 3) (.c (.int .i64 78913))), o 5 (.ibin .shr (.t 4) (.c (.int .u64 18))), o 2 (.mv (.t 5))]
abbrev strconv_log10Pow2_p1 : List AG := [o 2 (.mv (.c (.int .i64 0)))]
abbrev strconv_log10Pow2 : AFun := ⟨(.seq (.reg strconv_log10Pow2_p1) (.seq (.reg strconv_log10Pow2_p0) .ret)), 6, [.tmp 2]⟩
@[simp] theorem c_strconv_log10Pow2 : cfun Tryd.prog n_strconv_log10Pow2 = some strconv_log10Pow2 := by kernel_rfl
@[simp] theorem e_strconv_log10Pow2 : hasBody Tryd.prog n_strconv_log10Pow2 = true := by kernel_rfl

/- math_bits_Len64: math/bits.Len64 -/
abbrev math_bits_Len64_p0 : List AG := [o 19 (.mv (.t 2)), o 20 (.mv (.t 0)), o 21 (.conv .u8 (.t 20)), o 22 (.ixStr (.c (.str [0, 1, 2, 2, 3, 3, 3, 3, 4, 4, 4, 4, 4, 4, 4, 4, 5, 5, 5, 5, 5, 5, 5, 5, 5, 5, 5, 5, 5, 5, 5, 5, 6, 6, 6, 6, 6, 6, 6, 6, 6, 6, 6, 6, 6, 6, 6, 6, 6, 6, 6, 6, 6, 6, 6, 6, 6, 6, 6, 6, 6, 6, 6, 6, 7, 7, 7, 7, 7, 7, 7, 7, 7, 7, 7, 7, 7, 7, 7, 7, 7, 7, 7, 7, 7, 7, 7, 7, 7, 7, 7, 7, 7, 7, 7, 7, 7, 7, 7, 7, 7, 7, 7, 7, 7, 7, 7, 7, 7, 7, 7, 7, 7, 7, 7, 7, 7, 7, 7, 7, 7, 7, 7, 7, 7, 7, 7, 7, 8, 8, 8, 8, 8, 8, 8, 8, 8, 8, 8, 8, 8, 8, 8, 8, 8, 8, 8, 8, 8, 8, 8, 8, 8, 8, 8, 8, 8, 8, 8, 8, 8, 8, 8, 8, 8, 8, 8, 8, 8, 8, 8, 8, 8, 8, 8, 8, 8, 8, 8, 8, 8, 8, 8, 8, 8, 8, 8, 8, 8, 8, 8, 8, 8, 8, 8, 8, 8, 8, 8, 8, 8, 8, 8, 8, 8, 8, 8, 8, 8, 8, 8, 8, 8, 8, 8, 8, 8, 8, 8, 8, 8, 8, 8, 8, 8, 8, 8, 8, 8, 8, 8, 8, 8, 8, 8, 8, 8, 8, 8, 8, 8, 8, 8, 8, 8, 8, 8, 8, 8, 8, 8, 8, 8, 8, 8, 8])) (.t 21)), o 23 (.conv .i64 (.t 22)), o 24 (.ibin .add (.t 19) (.t 23)), o 2 (.mv (.t 24))]
abbrev math_bits_Len64_p1 : List AG := [o 17 (.mv (.t 2)), o 18 (.ibin .add (.t 17) (.c (.int .i64 8))), o 2 (.mv (.t 18))]
abbrev math_bits_Len64_p2 : List AG := [o 15 (.mv (.t 0)), o 16 (.ibin .shr (.t 15) (.c (.int .u64 8))), o 0 (.mv (.t 16))]
abbrev math_bits_Len64_p3 : ACode := (.seq (.reg math_bits_Len64_p2) (.reg math_bits_Len64_p1))
abbrev math_bits_Len64_p4 : List AG := [o 13 (.mv (.t 0)), o 14 (.cmp .geq (.sc .int) (.t 13) (.c (.int .u64 256)))]
abbrev math_bits_Len64_p5 : List AG := [o 11 (.mv (.t 2)), o 12 (.ibin .add (.t 11) (.c (.int .i64 16))), o 2 (.mv (.t 12))]
abbrev math_bits_Len64_p6 : List AG := [o 9 (.mv (.t 0)), o 10 (.ibin .shr (.t 9) (.c (.int .u64 16))), o 0 (.mv (.t 10))]
abbrev math_bits_Len64_p7 : ACode := (.seq (.reg math_bits_Len64_p6) (.reg math_bits_Len64_p5))
abbrev math_bits_Len64_p8 : List AG := [o 7 (.mv (.t 0)), o 8 (.cmp .geq (.sc .int) (.t 7) (.c (.int .u64 65536)))]
abbrev math_bits_Len64_p9 : List AG := [o 2 (.mv (.c (.int .i64 32)))]
abbrev math_bits_Len64_p10 : List AG := [o 5 (.mv (.t 0)), o 6 (.ibin .shr (.t 5) (.c (.int .u64 32))), o 0 (.mv (.t 6))]
abbrev math_bits_Len64_p11 : ACode := (.seq (.reg math_bits_Len64_p10) (.reg math_bits_Len64_p9))
abbrev math_bits_Len64_p12 : List AG := [o 3 (.mv (.t 0)), o 4 (.cmp .geq (.sc .int) (.t 3) (.c (.int .u64 4294967296)))]
abbrev math_bits_Len64_p13 : List AG := [o 2 (.mv (.c (.int .i64 0)))]
abbrev math_bits_Len64 : AFun := ⟨(.seq (.reg math_bits_Len64_p13) (.seq (.seq (.reg math_bits_Len64_p12) (.cond (.t 4) math_bits_Len64_p11 .skip)) (.seq (.seq (.reg math_bits_Len64_p8) (.cond (.t 8) math_bits_Len64_p7 .skip)) (.seq (.seq (.reg math_bits_Len64_p4) (.cond (.t 14) math_bits_Len64_p3 .skip)) (.seq (.reg math_bits_Len64_p0) .ret))))), 25, [.tmp 2]⟩
@[simp] theorem c_math_bits_Len64 : cfun Tryd.prog n_math_bits_Len64 = some math_bits_Len64 := by kernel_rfl
@[simp] theorem e_math_bits_Len64 : hasBody Tryd.prog n_math_bits_Len64 = true := by kernel_rfl

/- strconv_bool2_int: internal/strconv.bool2[int] -/
abbrev strconv_bool2_int_p0 : List AG := [o 2 (.mv (.c (.int .i64 0)))]
abbrev strconv_bool2_int_p1 : List AG := [o 2 (.mv (.c (.int .i64 1)))]
abbrev strconv_bool2_int_p2 : ACode := (.seq (.reg strconv_bool2_int_p1) .ret)
abbrev strconv_bool2_int_p3 : List AG := [o 3 (.mv (.t 0))]
abbrev strconv_bool2_int_p4 : List AG := [o 2 (.mv (.c (.int .i64 0)))]
abbrev strconv_bool2_int : AFun := ⟨(.seq (.reg strconv_bool2_int_p4) (.seq (.seq (.reg strconv_bool2_int_p3) (.cond (.t 3) strconv_bool2_int_p2 .skip)) (.seq (.reg strconv_bool2_int_p0) .ret))), 4, [.tmp 2]⟩
@[simp] theorem c_strconv_bool2_int : cfun Tryd.prog n_strconv_bool2_int = some strconv_bool2_int := by kernel_rfl
@[simp] theorem e_strconv_bool2_int : hasBody Tryd.prog n_strconv_bool2_int = true := by kernel_rfl

/- strconv_isPowerOfTwo: internal/strconv.isPowerOfTwo -/
abbrev strconv_isPowerOfTwo_p0 : List AG := [o 3 (.mv (.t 0)), o 4 (.mv (.t 0)), o 5 (.ibin .sub (.t 4) (.c (.int .i64 1))), o 6 (.ibin .and (.t 3) (.t 5)), o 7 (.cmp .eql (.sc .int) (.t 6) (.c (.int .i64 0))), o 2 (.mv (.t 7))]
abbrev strconv_isPowerOfTwo_p1 : List AG := [o 2 (.mv (.c (.bool false)))]
abbrev strconv_isPowerOfTwo : AFun := ⟨(.seq (.reg strconv_isPowerOfTwo_p1) (.seq (.reg strconv_isPowerOfTwo_p0) .ret)), 8, [.tmp 2]⟩
@[simp] theorem c_strconv_isPowerOfTwo : cfun Tryd.prog n_strconv_isPowerOfTwo = some strconv_isPowerOfTwo := by kernel_rfl
@[simp] theorem e_strconv_isPowerOfTwo : hasBody Tryd.prog n_strconv_isPowerOfTwo = true := by kernel_rfl

/- math_bits_TrailingZeros: math/bits.TrailingZeros -/
abbrev math_bits_TrailingZeros_p0 : List AG := [o 6 (.mv (.t 0)), o 7 (.call (.f n_math_bits_TrailingZeros64) [(.t 6)]), o 2 (.mv (.t 7))]
abbrev math_bits_TrailingZeros_p1 : List AG := [o 3 (.mv (.t 0)), o 4 (.conv .u32 (.t 3)), o 5 (.call (.f n_math_bits_TrailingZeros32) [(.t 4)]), o 2 (.mv (.t 5))]
abbrev math_bits_TrailingZeros_p2 : ACode := (.seq (.reg math_bits_TrailingZeros_p1) .ret)
abbrev math_bits_TrailingZeros_p3 : List AG := [o 2 (.mv (.c (.int .i64 0)))]
abbrev math_bits_TrailingZeros : AFun := ⟨(.seq (.reg math_bits_TrailingZeros_p3) (.seq (.cond (.c (.bool false)) math_bits_TrailingZeros_p2 .skip) (.seq (.reg math_bits_TrailingZeros_p0) .ret))), 8, [.tmp 2]⟩
@[simp] theorem c_math_bits_TrailingZeros : cfun Tryd.prog n_math_bits_TrailingZeros = some math_bits_TrailingZeros := by kernel_rfl
@[simp] theorem e_math_bits_TrailingZeros : hasBody Tryd.prog n_math_bits_TrailingZeros = true := by kernel_rfl

/- math_bits_TrailingZeros32: math/bits.TrailingZeros32 -/
abbrev math_bits_TrailingZeros32_p0 : List AG := [o 5 (.mv (.t 0)), o 6 (.mv (.t 0)), o 7 (.neg (.t 6)), o 8 (.ibin .and (.t 5) (.t 7)), o 9 (.ibin .mul (.t 8) (.c (.int .u32 125613361))), o 10 (.ibin .shr (.t 9) (.c (.int .u64 27))), o 11 (.arrAddr 32 1 (.g 3) (.t 10)), o 12 (.load false 1 (.t 11)), o 13 (.conv .i64 (.t 12)), o 2 (.mv (.t 13))]
abbrev math_bits_TrailingZeros32_p1 : List AG := [o 2 (.mv (.c (.int .i64 32)))]
abbrev math_bits_TrailingZeros32_p2 : ACode := (.seq (.reg math_bits_TrailingZeros32_p1) .ret)
abbrev math_bits_TrailingZeros32_p3 : List AG := [o 3 (.mv (.t 0)), o 4 (.cmp .eql (.sc .int) (.t 3) (.c (.int .u32 0)))]
abbrev math_bits_TrailingZeros32_p4 : List AG := [o 2 (.mv (.c (.int .i64 0)))]
abbrev math_bits_TrailingZeros32 : AFun := ⟨(.seq (.reg math_bits_TrailingZeros32_p4) (.seq (.seq (.reg math_bits_TrailingZeros32_p3) (.cond (.t 4) math_bits_TrailingZeros32_p2 .skip)) (.seq (.reg math_bits_TrailingZeros32_p0) .ret))), 14, [.tmp 2]⟩
@[simp] theorem c_math_bits_TrailingZeros32 : cfun Tryd.prog n_math_bits_TrailingZeros32 = some math_bits_TrailingZeros32 := by kernel_rfl
@[simp] theorem e_math_bits_TrailingZeros32 : hasBody Tryd.prog n_math_bits_TrailingZeros32 = true := by kernel_rfl

/- math_bits_TrailingZeros64: math/bits.TrailingZeros64 -/
abbrev math_bits_TrailingZeros64_p0 : List AG := [o 5 (.mv (.t 0)), o 6 (.mv (.t 0)), o 7 (.neg (.t 6)), o 8 (.ibin .and (.t 5) (.t 7)), o 9 (.ibin .mul (.t 8) (.c (.int .u64 285870213051353865))), o 10 (.ibin .shr (.t 9) (.c (.int .u64 58))), o 11 (.arrAddr 64 1 (.g 4) (.t 10)), o 12 (.load false 1 (.t 11)), o 13 (.conv .i64 (.t 12)), o 2 (.mv (.t 13))]
abbrev math_bits_TrailingZeros64_p1 : List AG := [o 2 (.mv (.c (.int .i64 64)))]
abbrev math_bits_TrailingZeros64_p2 : ACode := (.seq (.reg math_bits_TrailingZeros64_p1) .ret)
abbrev math_bits_TrailingZeros64_p3 : List AG := [o 3 (.mv (.t 0)), o 4 (.cmp .eql (.sc .int) (.t 3) (.c (.int .u64 0)))]
abbrev math_bits_TrailingZeros64_p4 : List AG := [o 2 (.mv (.c (.int .i64 0)))]
abbrev math_bits_TrailingZeros64 : AFun := ⟨(.seq (.reg math_bits_TrailingZeros64_p4) (.seq (.seq (.reg math_bits_TrailingZeros64_p3) (.cond (.t 4) math_bits_TrailingZeros64_p2 .skip)) (.seq (.reg math_bits_TrailingZeros64_p0) .ret))), 14, [.tmp 2]⟩
@[simp] theorem c_math_bits_TrailingZeros64 : cfun Tryd.prog n_math_bits_TrailingZeros64 = some math_bits_TrailingZeros64 := by kernel_rfl
@[simp] theorem e_math_bits_TrailingZeros64 : hasBody Tryd.prog n_math_bits_TrailingZeros64 = true := by kernel_rfl

/- token_blif_read: (patchbay/token.blif).read -/
abbrev token_blif_read_p0 : List AG := [o 49 (.mv (.t 1)), o 50 (.mv (.t 2)), o 51 (.mv (.t 1)), o 52 (.mv (.t 2)), o 53 (.call (.f n_token_run) [(.t 51), (.t 52), (.f n_token_blif_read_1)]), o 54 (.call (.f n_token_one) [(.c (.int .i64 0)), (.t 49), (.t 50), (.t 53)]), o 55 (.extract (.t 54) 0), o 56 (.extract (.t 54) 1), q (.store 3 (.t 6) (.t 55)), o 7 (.mv (.t 56))]
abbrev token_blif_read_p1 : List AG := [o 15 (.mv (.t 1)), o 16 (.mv (.t 2)), o 17 (.call (.f n_token_line) [(.t 15), (.t 16)]), o 18 (.call (.f n_token_none) [(.t 17)]), o 19 (.extract (.t 18) 0), o 20 (.extract (.t 18) 1), q (.store 3 (.t 6) (.t 19)), o 7 (.mv (.t 20))]
abbrev token_blif_read_p2 : List AG := [o 26 (.call (.f n_token_none) [(.c (.int .i64 2))]), o 27 (.extract (.t 26) 0), o 28 (.extract (.t 26) 1), q (.store 3 (.t 6) (.t 27)), o 7 (.mv (.t 28))]
abbrev token_blif_read_p3 : List AG := [o 33 (.call (.f n_token_none) [(.c (.int .i64 1))]), o 34 (.extract (.t 33) 0), o 35 (.extract (.t 33) 1), q (.store 3 (.t 6) (.t 34)), o 7 (.mv (.t 35))]
abbrev token_blif_read_p4 : List AG := [o 39 (.mv (.t 2)), o 40 (.build [(.int .i64 0), (.str []), (.int .i64 0)] [(0, 1, (.c (.int .i64 3))), (2, 1, (.t 39))]), q (.store 3 (.t 6) (.t 40)), o 7 (.mv (.c (.int .i64 1)))]
abbrev token_blif_read_p5 : List AG := [o 44 (.mv (.t 1)), o 45 (.mv (.t 2)), o 46 (.call (.f n_token_one) [(.c (.int .i64 0)), (.t 44), (.t 45), (.c (.int .i64 1))]), o 47 (.extract (.t 46) 0), o 48 (.extract (.t 46) 1), q (.store 3 (.t 6) (.t 47)), o 7 (.mv (.t 48))]
abbrev token_blif_read_p6 : ACode := (.seq (.reg token_blif_read_p5) .ret)
abbrev token_blif_read_p7 : List AG := [o 42 (.mv (.t 8)), o 43 (.cmp .eql (.sc .int) (.t 42) (.c (.int .u8 92))), o 41 (.mv (.t 43))]
abbrev token_blif_read_p8 : ACode := (.seq (.reg token_blif_read_p4) .ret)
abbrev token_blif_read_p9 : ACode := (.seq (.reg token_blif_read_p7) (.cond (.t 41) token_blif_read_p6 .skip))
abbrev token_blif_read_p10 : List AG := [o 37 (.mv (.t 8)), o 38 (.cmp .eql (.sc .int) (.t 37) (.c (.int .u8 10))), o 36 (.mv (.t 38))]
abbrev token_blif_read_p11 : ACode := (.seq (.reg token_blif_read_p3) .ret)
abbrev token_blif_read_p12 : ACode := (.seq (.reg token_blif_read_p10) (.cond (.t 36) token_blif_read_p8 token_blif_read_p9))
abbrev token_blif_read_p13 : List AG := [o 30 (.mv (.t 8)), o 31 (.call (.f n_strings_IndexByte) [(.c (.str [32, 9, 13])), (.t 30)]), o 32 (.cmp .geq (.sc .int) (.t 31) (.c (.int .i64 0))), o 29 (.mv (.t 32))]
abbrev token_blif_read_p14 : ACode := (.seq (.reg token_blif_read_p2) .ret)
abbrev token_blif_read_p15 : ACode := (.seq (.reg token_blif_read_p13) (.cond (.t 29) token_blif_read_p11 token_blif_read_p12))
abbrev token_blif_read_p16 : List AG := [o 22 (.mv (.t 1)), o 23 (.mv (.t 2)), o 24 (.sliceStr (.t 22) (some (.t 23)) none), o 25 (.call (.f n_strings_HasPrefix) [(.t 24), (.c (.str [92, 10]))]), o 21 (.mv (.t 25))]
abbrev token_blif_read_p17 : ACode := (.seq (.reg token_blif_read_p1) .ret)
abbrev token_blif_read_p18 : ACode := (.seq (.reg token_blif_read_p16) (.cond (.t 21) token_blif_read_p14 token_blif_read_p15))
abbrev token_blif_read_p19 : List AG := [o 13 (.mv (.t 8)), o 14 (.cmp .eql (.sc .int) (.t 13) (.c (.int .u8 35))), o 12 (.mv (.t 14))]
abbrev token_blif_read_p20 : ACode := (.seq (.reg token_blif_read_p19) (.cond (.t 12) token_blif_read_p17 token_blif_read_p18))
abbrev token_blif_read_p21 : List AG := [o 9 (.mv (.t 1)), o 10 (.mv (.t 2)), o 11 (.ixStr (.t 9) (.t 10)), o 8 (.mv (.t 11))]
abbrev token_blif_read_p22 : List AG := [o 3 (.box 0 (.t 0)), o 6 (.alloc [(.int .i64 0), (.str []), (.int .i64 0)]), o 7 (.mv (.c (.int .i64 0)))]
abbrev token_blif_read : AFun := ⟨(.seq (.reg token_blif_read_p22) (.seq (.seq (.reg token_blif_read_p21) (.block 0 [] token_blif_read_p20)) (.seq (.reg token_blif_read_p0) .ret))), 57, [.cell 6 true 3, .tmp 7]⟩
@[simp] theorem c_token_blif_read : cfun Tryd.prog n_token_blif_read = some token_blif_read := by kernel_rfl
@[simp] theorem e_token_blif_read : hasBody Tryd.prog n_token_blif_read = true := by kernel_rfl

/- token_none: patchbay/token.none -/
abbrev token_none_p0 : List AG := [o 4 (.build [(.int .i64 0), (.str []), (.int .i64 0)] [(0, 1, (.c (.int .i64 (-1))))]), o 5 (.mv (.t 0)), q (.store 3 (.t 2) (.t 4)), o 3 (.mv (.t 5))]
abbrev token_none_p1 : List AG := [o 2 (.alloc [(.int .i64 0), (.str []), (.int .i64 0)]), o 3 (.mv (.c (.int .i64 0)))]
abbrev token_none : AFun := ⟨(.seq (.reg token_none_p1) (.seq (.reg token_none_p0) .ret)), 6, [.cell 2 true 3, .tmp 3]⟩
@[simp] theorem c_token_none : cfun Tryd.prog n_token_none = some token_none := by kernel_rfl
@[simp] theorem e_token_none : hasBody Tryd.prog n_token_none = true := by kernel_rfl

/- token_line: patchbay/token.line -/
abbrev token_line_p0 : List AG := [o 5 (.mv (.t 0)), o 6 (.mv (.t 1)), o 7 (.call (.f n_token_run) [(.t 5), (.t 6), (.f n_token_line_1)]), o 4 (.mv (.t 7))]
abbrev token_line_p1 : List AG := [o 4 (.mv (.c (.int .i64 0)))]
abbrev token_line : AFun := ⟨(.seq (.reg token_line_p1) (.seq (.reg token_line_p0) .ret)), 8, [.tmp 4]⟩
@[simp] theorem c_token_line : cfun Tryd.prog n_token_line = some token_line := by kernel_rfl
@[simp] theorem e_token_line : hasBody Tryd.prog n_token_line = true := by kernel_rfl

/- token_one: patchbay/token.one -/
abbrev token_one_p0 : List AG := [o 15 (.mv (.t 0)), o 16 (.mv (.t 1)), o 17 (.mv (.t 2)), o 18 (.mv (.t 2)), o 19 (.mv (.t 3)), o 20 (.ibin .add (.t 18) (.t 19)), o 21 (.sliceStr (.t 16) (some (.t 17)) (some (.t 20))), o 22 (.mv (.t 2)), o 23 (.build [(.int .i64 0), (.str []), (.int .i64 0)] [(0, 1, (.t 15)), (1, 1, (.t 21)), (2, 1, (.t 22))]), o 24 (.mv (.t 3)), q (.store 3 (.t 8) (.t 23)), o 9 (.mv (.t 24))]
abbrev token_one_p1 : List AG := [o 12 (.mv (.t 2)), o 13 (.build [(.int .i64 0)] [(0, 1, (.t 12))]), o 14 (.mkIface t_token_odd (.t 13)), q (.panic (.t 14))]
abbrev token_one_p2 : List AG := [o 10 (.mv (.t 3)), o 11 (.cmp .eql (.sc .int) (.t 10) (.c (.int .i64 0)))]
abbrev token_one_p3 : List AG := [o 8 (.alloc [(.int .i64 0), (.str []), (.int .i64 0)]), o 9 (.mv (.c (.int .i64 0)))]
abbrev token_one : AFun := ⟨(.seq (.reg token_one_p3) (.seq (.seq (.reg token_one_p2) (.cond (.t 11) (.reg token_one_p1) .skip)) (.seq (.reg token_one_p0) .ret))), 25, [.cell 8 true 3, .tmp 9]⟩
@[simp] theorem c_token_one : cfun Tryd.prog n_token_one = some token_one := by kernel_rfl
@[simp] theorem e_token_one : hasBody Tryd.prog n_token_one = true := by kernel_rfl

/- token_run: patchbay/token.run -/
abbrev token_run_p0 : List AG := [o 25 (.mv (.t 7)), o 6 (.mv (.t 25))]
abbrev token_run_m1 : List Bool := [I,I,I,O,O,O,O,I,O,O,O,O,O,O,O,O,O,O,O,O,O,O,O,O,O,O]
abbrev token_run_x1 : List Bool := [O,O,O,O,O,O,O,I,O,O,O,O,O,O,O,O,O,O,O,O,O,O,O,O,O,O]
abbrev token_run_p2 : List AG := [o 23 (.mv (.t 7)), o 24 (.ibin .add (.t 23) (.c (.int .i64 1))), o 7 (.mv (.t 24))]
abbrev token_run_p3 : List AG := [o 8 (.mv (.t 1)), o 9 (.mv (.t 7)), o 10 (.ibin .add (.t 8) (.t 9)), o 11 (.mv (.t 0)), o 12 (.lenStr (.t 11)), o 13 (.cmp .lss (.sc .int) (.t 10) (.t 12)), o 14 (.mv (.t 13)), oy 15 14 (.mv (.t 2)), oy 16 14 (.mv (.t 0)), oy 17 14 (.mv (.t 1)), oy 18 14 (.mv (.t 7)), oy 19 14 (.ibin .add (.t 17) (.t 18)), oy 20 14 (.ixStr (.t 16) (.t 19)), oy 21 14 (.call (.t 15) [(.t 20)]), o 22 (.pick (.t 14) (.t 21) (.c (.bool false)))]
abbrev token_run_b1 : ACode := (.seq (.seq (.reg token_run_p3) (.cond (.t 22) .skip (.exit 0))) (.block 1 [] (.reg token_run_p2)))
abbrev token_run_p4 : List AG := [o 7 (.mv (.c (.int .i64 0)))]
abbrev token_run_p5 : List AG := [o 6 (.mv (.c (.int .i64 0)))]
abbrev token_run : AFun := ⟨(.seq (.reg token_run_p5) (.seq (.reg token_run_p4) (.seq (.block 0 token_run_x1 (.loop token_run_m1 token_run_b1)) (.seq (.reg token_run_p0) .ret)))), 26, [.tmp 6]⟩
abbrev token_run_k1 : List It := [.code (.seq (.reg token_run_p0) .ret)]
abbrev token_run_L1 (x0 x1 x2 x7 : AV) (h : List Ob) (e : Cx := cx) : Cfg := atC n_token_run (.code token_run_b1 :: .inLoop token_run_m1 token_run_b1 :: .inBlock 0 token_run_x1 :: token_run_k1) [x0,x1,x2,U,U,U,U,x7,U,U,U,U,U,U,U,U,U,U,U,U,U,U,U,U,U,U] h e
abbrev token_run_E1 (x7 : AV) (h : List Ob) (e : Cx := cx) : Cfg := atC n_token_run token_run_k1 [U,U,U,U,U,U,U,x7,U,U,U,U,U,U,U,U,U,U,U,U,U,U,U,U,U,U] h e
@[simp] theorem c_token_run : cfun Tryd.prog n_token_run = some token_run := by kernel_rfl
@[simp] theorem e_token_run : hasBody Tryd.prog n_token_run = true := by kernel_rfl

/- token_blif_read_1: (patchbay/token.blif).read$1 -/
abbrev token_blif_read_1_p0 : List AG := [o 3 (.mv (.t 0)), o 4 (.call (.f n_strings_IndexByte) [(.c (.str [32, 9, 13, 10, 35, 92])), (.t 3)]), o 5 (.cmp .lss (.sc .int) (.t 4) (.c (.int .i64 0))), o 2 (.mv (.t 5))]
abbrev token_blif_read_1_p1 : List AG := [o 2 (.mv (.c (.bool false)))]
abbrev token_blif_read_1 : AFun := ⟨(.seq (.reg token_blif_read_1_p1) (.seq (.reg token_blif_read_1_p0) .ret)), 6, [.tmp 2]⟩
@[simp] theorem c_token_blif_read_1 : cfun Tryd.prog n_token_blif_read_1 = some token_blif_read_1 := by kernel_rfl
@[simp] theorem e_token_blif_read_1 : hasBody Tryd.prog n_token_blif_read_1 = true := by kernel_rfl

/- token_line_1: patchbay/token.line$1 -/
abbrev token_line_1_p0 : List AG := [o 3 (.mv (.t 0)), o 4 (.cmp .neq (.sc .int) (.t 3) (.c (.int .u8 10))), o 2 (.mv (.t 4))]
abbrev token_line_1_p1 : List AG := [o 2 (.mv (.c (.bool false)))]
abbrev token_line_1 : AFun := ⟨(.seq (.reg token_line_1_p1) (.seq (.reg token_line_1_p0) .ret)), 5, [.tmp 2]⟩
@[simp] theorem c_token_line_1 : cfun Tryd.prog n_token_line_1 = some token_line_1 := by kernel_rfl
@[simp] theorem e_token_line_1 : hasBody Tryd.prog n_token_line_1 = true := by kernel_rfl

/- token_bench_read: (patchbay/token.bench).read -/
abbrev token_bench_read_p0 : List AG := [o 37 (.mv (.t 1)), o 38 (.mv (.t 2)), o 39 (.mv (.t 1)), o 40 (.mv (.t 2)), o 41 (.call (.f n_token_run) [(.t 39), (.t 40), (.f n_token_bench_read_1)]), o 42 (.call (.f n_token_one) [(.c (.int .i64 0)), (.t 37), (.t 38), (.t 41)]), o 43 (.extract (.t 42) 0), o 44 (.extract (.t 42) 1), q (.store 3 (.t 6) (.t 43)), o 7 (.mv (.t 44))]
abbrev token_bench_read_p1 : List AG := [o 15 (.mv (.t 1)), o 16 (.mv (.t 2)), o 17 (.call (.f n_token_line) [(.t 15), (.t 16)]), o 18 (.call (.f n_token_none) [(.t 17)]), o 19 (.extract (.t 18) 0), o 20 (.extract (.t 18) 1), q (.store 3 (.t 6) (.t 19)), o 7 (.mv (.t 20))]
abbrev token_bench_read_p2 : List AG := [o 25 (.call (.f n_token_none) [(.c (.int .i64 1))]), o 26 (.extract (.t 25) 0), o 27 (.extract (.t 25) 1), q (.store 3 (.t 6) (.t 26)), o 7 (.mv (.t 27))]
abbrev token_bench_read_p3 : List AG := [o 32 (.mv (.t 1)), o 33 (.mv (.t 2)), o 34 (.call (.f n_token_one) [(.c (.int .i64 1)), (.t 32), (.t 33), (.c (.int .i64 1))]), o 35 (.extract (.t 34) 0), o 36 (.extract (.t 34) 1), q (.store 3 (.t 6) (.t 35)), o 7 (.mv (.t 36))]
abbrev token_bench_read_p4 : ACode := (.seq (.reg token_bench_read_p3) .ret)
abbrev token_bench_read_p5 : List AG := [o 29 (.mv (.t 8)), o 30 (.call (.f n_strings_IndexByte) [(.c (.str [61, 40, 41, 44])), (.t 29)]), o 31 (.cmp .geq (.sc .int) (.t 30) (.c (.int .i64 0))), o 28 (.mv (.t 31))]
abbrev token_bench_read_p6 : ACode := (.seq (.reg token_bench_read_p2) .ret)
abbrev token_bench_read_p7 : ACode := (.seq (.reg token_bench_read_p5) (.cond (.t 28) token_bench_read_p4 .skip))
abbrev token_bench_read_p8 : List AG := [o 22 (.mv (.t 8)), o 23 (.call (.f n_strings_IndexByte) [(.c (.str [32, 9, 13, 10])), (.t 22)]), o 24 (.cmp .geq (.sc .int) (.t 23) (.c (.int .i64 0))), o 21 (.mv (.t 24))]
abbrev token_bench_read_p9 : ACode := (.seq (.reg token_bench_read_p1) .ret)
abbrev token_bench_read_p10 : ACode := (.seq (.reg token_bench_read_p8) (.cond (.t 21) token_bench_read_p6 token_bench_read_p7))
abbrev token_bench_read_p11 : List AG := [o 13 (.mv (.t 8)), o 14 (.cmp .eql (.sc .int) (.t 13) (.c (.int .u8 35))), o 12 (.mv (.t 14))]
abbrev token_bench_read_p12 : ACode := (.seq (.reg token_bench_read_p11) (.cond (.t 12) token_bench_read_p9 token_bench_read_p10))
abbrev token_bench_read_p13 : List AG := [o 9 (.mv (.t 1)), o 10 (.mv (.t 2)), o 11 (.ixStr (.t 9) (.t 10)), o 8 (.mv (.t 11))]
abbrev token_bench_read_p14 : List AG := [o 3 (.box 0 (.t 0)), o 6 (.alloc [(.int .i64 0), (.str []), (.int .i64 0)]), o 7 (.mv (.c (.int .i64 0)))]
abbrev token_bench_read : AFun := ⟨(.seq (.reg token_bench_read_p14) (.seq (.seq (.reg token_bench_read_p13) (.block 0 [] token_bench_read_p12)) (.seq (.reg token_bench_read_p0) .ret))), 45, [.cell 6 true 3, .tmp 7]⟩
@[simp] theorem c_token_bench_read : cfun Tryd.prog n_token_bench_read = some token_bench_read := by kernel_rfl
@[simp] theorem e_token_bench_read : hasBody Tryd.prog n_token_bench_read = true := by kernel_rfl

/- token_bench_read_1: (patchbay/token.bench).read$1 -/
abbrev token_bench_read_1_p0 : List AG := [o 3 (.mv (.t 0)), o 4 (.call (.f n_token_graph) [(.t 3)]), o 5 (.mv (.t 4)), oy 6 5 (.mv (.t 0)), oy 7 5 (.call (.f n_strings_IndexByte) [(.c (.str [61, 40, 41, 44, 35])), (.t 6)]), oy 8 5 (.cmp .lss (.sc .int) (.t 7) (.c (.int .i64 0))), o 9 (.pick (.t 5) (.t 8) (.c (.bool false))), o 2 (.mv (.t 9))]
abbrev token_bench_read_1_p1 : List AG := [o 2 (.mv (.c (.bool false)))]
abbrev token_bench_read_1 : AFun := ⟨(.seq (.reg token_bench_read_1_p1) (.seq (.reg token_bench_read_1_p0) .ret)), 10, [.tmp 2]⟩
@[simp] theorem c_token_bench_read_1 : cfun Tryd.prog n_token_bench_read_1 = some token_bench_read_1 := by kernel_rfl
@[simp] theorem e_token_bench_read_1 : hasBody Tryd.prog n_token_bench_read_1 = true := by kernel_rfl

/- token_graph: patchbay/token.graph -/
abbrev token_graph_p0 : List AG := [o 3 (.mv (.t 0)), o 4 (.cmp .gtr (.sc .int) (.t 3) (.c (.int .u8 32))), o 5 (.mv (.t 4)), oy 6 5 (.mv (.t 0)), oy 7 5 (.cmp .leq (.sc .int) (.t 6) (.c (.int .u8 126))), o 8 (.pick (.t 5) (.t 7) (.c (.bool false))), o 2 (.mv (.t 8))]
abbrev token_graph_p1 : List AG := [o 2 (.mv (.c (.bool false)))]
abbrev token_graph : AFun := ⟨(.seq (.reg token_graph_p1) (.seq (.reg token_graph_p0) .ret)), 9, [.tmp 2]⟩
@[simp] theorem c_token_graph : cfun Tryd.prog n_token_graph = some token_graph := by kernel_rfl
@[simp] theorem e_token_graph : hasBody Tryd.prog n_token_graph = true := by kernel_rfl

/- token_verilog_read: (patchbay/token.verilog).read -/
abbrev token_verilog_read_p0 : List AG := [o 85 (.mv (.t 1)), o 86 (.mv (.t 2)), o 87 (.mv (.t 1)), o 88 (.mv (.t 2)), o 89 (.call (.f n_token_run) [(.t 87), (.t 88), (.f n_token_named)]), o 90 (.call (.f n_token_one) [(.c (.int .i64 0)), (.t 85), (.t 86), (.t 89)]), o 91 (.extract (.t 90) 0), o 92 (.extract (.t 90) 1), q (.store 3 (.t 6) (.t 91)), o 7 (.mv (.t 92))]
abbrev token_verilog_read_p1 : List AG := [o 18 (.call (.f n_token_none) [(.c (.int .i64 1))]), o 19 (.extract (.t 18) 0), o 20 (.extract (.t 18) 1), q (.store 3 (.t 6) (.t 19)), o 7 (.mv (.t 20))]
abbrev token_verilog_read_p2 : List AG := [o 26 (.mv (.t 1)), o 27 (.mv (.t 2)), o 28 (.call (.f n_token_line) [(.t 26), (.t 27)]), o 29 (.call (.f n_token_none) [(.t 28)]), o 30 (.extract (.t 29) 0), o 31 (.extract (.t 29) 1), q (.store 3 (.t 6) (.t 30)), o 7 (.mv (.t 31))]
abbrev token_verilog_read_p3 : List AG := [o 47 (.mv (.t 9)), o 48 (.ibin .add (.t 47) (.c (.int .i64 4))), o 49 (.call (.f n_token_none) [(.t 48)]), o 50 (.extract (.t 49) 0), o 51 (.extract (.t 49) 1), q (.store 3 (.t 6) (.t 50)), o 7 (.mv (.t 51))]
abbrev token_verilog_read_p4 : List AG := [o 44 (.mv (.t 2)), o 45 (.build [(.int .i64 0)] [(0, 1, (.t 44))]), o 46 (.mkIface t_token_odd (.t 45)), q (.panic (.t 46))]
abbrev token_verilog_read_p5 : List AG := [o 42 (.mv (.t 9)), o 43 (.cmp .lss (.sc .int) (.t 42) (.c (.int .i64 0)))]
abbrev token_verilog_read_p6 : List AG := [o 37 (.mv (.t 1)), o 38 (.mv (.t 2)), o 39 (.ibin .add (.t 38) (.c (.int .i64 2))), o 40 (.sliceStr (.t 37) (some (.t 39)) none), o 41 (.call (.f n_strings_Index) [(.t 40), (.c (.str [42, 47]))]), o 9 (.mv (.t 41))]
abbrev token_verilog_read_p7 : List AG := [o 56 (.mv (.t 1)), o 57 (.mv (.t 2)), o 58 (.call (.f n_token_one) [(.c (.int .i64 1)), (.t 56), (.t 57), (.c (.int .i64 1))]), o 59 (.extract (.t 58) 0), o 60 (.extract (.t 58) 1), q (.store 3 (.t 6) (.t 59)), o 7 (.mv (.t 60))]
abbrev token_verilog_read_p8 : List AG := [o 73 (.mv (.t 1)), o 74 (.mv (.t 2)), o 75 (.ibin .add (.t 74) (.c (.int .i64 1))), o 76 (.mv (.t 2)), o 77 (.ibin .add (.t 76) (.c (.int .i64 1))), o 78 (.mv (.t 10)), o 79 (.ibin .add (.t 77) (.t 78)), o 80 (.sliceStr (.t 73) (some (.t 75)) (some (.t 79))), o 81 (.mv (.t 2)), o 82 (.build [(.int .i64 0), (.str []), (.int .i64 0)] [(0, 1, (.c (.int .i64 2))), (1, 1, (.t 80)), (2, 1, (.t 81))]), o 83 (.mv (.t 10)), o 84 (.ibin .add (.t 83) (.c (.int .i64 1))), q (.store 3 (.t 6) (.t 82)), o 7 (.mv (.t 84))]
abbrev token_verilog_read_p9 : List AG := [o 70 (.mv (.t 2)), o 71 (.build [(.int .i64 0)] [(0, 1, (.t 70))]), o 72 (.mkIface t_token_odd (.t 71)), q (.panic (.t 72))]
abbrev token_verilog_read_p10 : List AG := [o 68 (.mv (.t 10)), o 69 (.cmp .eql (.sc .int) (.t 68) (.c (.int .i64 0)))]
abbrev token_verilog_read_p11 : List AG := [o 64 (.mv (.t 1)), o 65 (.mv (.t 2)), o 66 (.ibin .add (.t 65) (.c (.int .i64 1))), o 67 (.call (.f n_token_run) [(.t 64), (.t 66), (.f n_token_graph)]), o 10 (.mv (.t 67))]
abbrev token_verilog_read_p12 : ACode := (.seq (.reg token_verilog_read_p11) (.seq (.seq (.reg token_verilog_read_p10) (.cond (.t 69) (.reg token_verilog_read_p9) .skip)) (.seq (.reg token_verilog_read_p8) .ret)))
abbrev token_verilog_read_p13 : List AG := [o 62 (.mv (.t 8)), o 63 (.cmp .eql (.sc .int) (.t 62) (.c (.int .u8 92))), o 61 (.mv (.t 63))]
abbrev token_verilog_read_p14 : ACode := (.seq (.reg token_verilog_read_p7) .ret)
abbrev token_verilog_read_p15 : ACode := (.seq (.reg token_verilog_read_p13) (.cond (.t 61) token_verilog_read_p12 .skip))
abbrev token_verilog_read_p16 : List AG := [o 53 (.mv (.t 8)), o 54 (.call (.f n_strings_IndexByte) [(.c (.str [40, 41, 59, 44, 61, 126, 38, 124, 94])), (.t 53)]), o 55 (.cmp .geq (.sc .int) (.t 54) (.c (.int .i64 0))), o 52 (.mv (.t 55))]
abbrev token_verilog_read_p17 : ACode := (.seq (.reg token_verilog_read_p6) (.seq (.seq (.reg token_verilog_read_p5) (.cond (.t 43) (.reg token_verilog_read_p4) .skip)) (.seq (.reg token_verilog_read_p3) .ret)))
abbrev token_verilog_read_p18 : ACode := (.seq (.reg token_verilog_read_p16) (.cond (.t 52) token_verilog_read_p14 token_verilog_read_p15))
abbrev token_verilog_read_p19 : List AG := [o 33 (.mv (.t 1)), o 34 (.mv (.t 2)), o 35 (.sliceStr (.t 33) (some (.t 34)) none), o 36 (.call (.f n_strings_HasPrefix) [(.t 35), (.c (.str [47, 42]))]), o 32 (.mv (.t 36))]
abbrev token_verilog_read_p20 : ACode := (.seq (.reg token_verilog_read_p2) .ret)
abbrev token_verilog_read_p21 : ACode := (.seq (.reg token_verilog_read_p19) (.cond (.t 32) token_verilog_read_p17 token_verilog_read_p18))
abbrev token_verilog_read_p22 : List AG := [o 22 (.mv (.t 1)), o 23 (.mv (.t 2)), o 24 (.sliceStr (.t 22) (some (.t 23)) none), o 25 (.call (.f n_strings_HasPrefix) [(.t 24), (.c (.str [47, 47]))]), o 21 (.mv (.t 25))]
abbrev token_verilog_read_p23 : ACode := (.seq (.reg token_verilog_read_p1) .ret)
abbrev token_verilog_read_p24 : ACode := (.seq (.reg token_verilog_read_p22) (.cond (.t 21) token_verilog_read_p20 token_verilog_read_p21))
abbrev token_verilog_read_p25 : List AG := [o 15 (.mv (.t 8)), o 16 (.call (.f n_strings_IndexByte) [(.c (.str [32, 9, 13, 10])), (.t 15)]), o 17 (.cmp .geq (.sc .int) (.t 16) (.c (.int .i64 0))), o 14 (.mv (.t 17))]
abbrev token_verilog_read_p26 : ACode := (.seq (.reg token_verilog_read_p25) (.cond (.t 14) token_verilog_read_p23 token_verilog_read_p24))
abbrev token_verilog_read_p27 : List AG := [o 11 (.mv (.t 1)), o 12 (.mv (.t 2)), o 13 (.ixStr (.t 11) (.t 12)), o 8 (.mv (.t 13))]
abbrev token_verilog_read_p28 : List AG := [o 3 (.box 0 (.t 0)), o 6 (.alloc [(.int .i64 0), (.str []), (.int .i64 0)]), o 7 (.mv (.c (.int .i64 0)))]
abbrev token_verilog_read : AFun := ⟨(.seq (.reg token_verilog_read_p28) (.seq (.seq (.reg token_verilog_read_p27) (.block 0 [] token_verilog_read_p26)) (.seq (.reg token_verilog_read_p0) .ret))), 93, [.cell 6 true 3, .tmp 7]⟩
@[simp] theorem c_token_verilog_read : cfun Tryd.prog n_token_verilog_read = some token_verilog_read := by kernel_rfl
@[simp] theorem e_token_verilog_read : hasBody Tryd.prog n_token_verilog_read = true := by kernel_rfl

/- strings_Index: strings.Index -/
abbrev strings_Index_p0 : List AG := [o 5 (.mv (.t 0)), o 6 (.mv (.t 1)), o 7 (.call (.f n_stringslite_Index) [(.t 5), (.t 6)]), o 4 (.mv (.t 7))]
abbrev strings_Index_p1 : List AG := [o 4 (.mv (.c (.int .i64 0)))]
abbrev strings_Index : AFun := ⟨(.seq (.reg strings_Index_p1) (.seq (.reg strings_Index_p0) .ret)), 8, [.tmp 4]⟩
@[simp] theorem c_strings_Index : cfun Tryd.prog n_strings_Index = some strings_Index := by kernel_rfl
@[simp] theorem e_strings_Index : hasBody Tryd.prog n_strings_Index = true := by kernel_rfl

/- token_named: patchbay/token.named -/
abbrev token_named_p0 : List AG := [o 22 (.mv (.t 0)), o 23 (.call (.f n_strings_IndexByte) [(.c (.str [95, 36, 39])), (.t 22)]), o 24 (.cmp .geq (.sc .int) (.t 23) (.c (.int .i64 0))), o 2 (.mv (.t 24))]
abbrev token_named_p1 : List AG := [o 2 (.mv (.c (.bool true)))]
abbrev token_named_p2 : ACode := (.seq (.reg token_named_p1) .ret)
abbrev token_named_p3 : List AG := [o 16 (.mv (.t 0)), o 17 (.cmp .geq (.sc .int) (.t 16) (.c (.int .u8 48))), o 18 (.mv (.t 17)), oy 19 18 (.mv (.t 0)), oy 20 18 (.cmp .leq (.sc .int) (.t 19) (.c (.int .u8 57))), o 21 (.pick (.t 18) (.t 20) (.c (.bool false))), o 3 (.mv (.t 21))]
abbrev token_named_p4 : List AG := [o 10 (.mv (.t 0)), o 11 (.cmp .geq (.sc .int) (.t 10) (.c (.int .u8 65))), o 12 (.mv (.t 11)), oy 13 12 (.mv (.t 0)), oy 14 12 (.cmp .leq (.sc .int) (.t 13) (.c (.int .u8 90))), o 15 (.pick (.t 12) (.t 14) (.c (.bool false))), o 3 (.mv (.t 15))]
abbrev token_named_p5 : ACode := (.seq (.reg token_named_p4) (.cond (.t 3) .skip (.reg token_named_p3)))
abbrev token_named_p6 : List AG := [o 4 (.mv (.t 0)), o 5 (.cmp .geq (.sc .int) (.t 4) (.c (.int .u8 97))), o 6 (.mv (.t 5)), oy 7 6 (.mv (.t 0)), oy 8 6 (.cmp .leq (.sc .int) (.t 7) (.c (.int .u8 122))), o 9 (.pick (.t 6) (.t 8) (.c (.bool false))), o 3 (.mv (.t 9))]
abbrev token_named_p7 : ACode := (.seq (.seq (.reg token_named_p6) (.cond (.t 3) .skip token_named_p5)) (.cond (.t 3) token_named_p2 .skip))
abbrev token_named_p8 : List AG := [o 2 (.mv (.c (.bool false)))]
abbrev token_named : AFun := ⟨(.seq (.reg token_named_p8) (.seq (.block 0 [] token_named_p7) (.seq (.reg token_named_p0) .ret))), 25, [.tmp 2]⟩
@[simp] theorem c_token_named : cfun Tryd.prog n_token_named = some token_named := by kernel_rfl
@[simp] theorem e_token_named : hasBody Tryd.prog n_token_named = true := by kernel_rfl

/- stringslite_Index: internal/stringslite.Index -/
abbrev stringslite_Index_p0 : List AG := [o 4 (.mv (.c (.int .i64 (-1))))]
abbrev stringslite_Index_m1 : List Bool := [I,I,O,O,O,I,I,I,I,I,I,O,O,O,O,O,O,O,O,O,O,O,O,O,O,O,O,O,O,O,O,O,O,O,O,O,O,O,O,O,O,O,O,O,O,O,O,O,O,O,O,O,O,O,O,O,O,O,O,O,O,O,O,O,O,O,O,O,O,O,O,O,O,O,O,O,O,O,O,O,O,O,O,O,O,O,O,O,O,O,O,O,O,O,O,O,O,O,O,O,O,O,O,O,O,O,O,O,O,O,O,O,O,O,O,O,O,O,O,O,O,O,O,O,O,O,O,O,O,O,O,O,O,O,O,O,O,O,O,O,O,O,O]
abbrev stringslite_Index_x1 : List Bool := [O,O,O,O,O,O,O,O,O,O,O,O,O,O,O,O,O,O,O,O,O,O,O,O,O,O,O,O,O,O,O,O,O,O,O,O,O,O,O,O,O,O,O,O,O,O,O,O,O,O,O,O,O,O,O,O,O,O,O,O,O,O,O,O,O,O,O,O,O,O,O,O,O,O,O,O,O,O,O,O,O,O,O,O,O,O,O,O,O,O,O,O,O,O,O,O,O,O,O,O,O,O,O,O,O,O,O,O,O,O,O,O,O,O,O,O,O,O,O,O,O,O,O,O,O,O,O,O,O,O,O,O,O,O,O,O,O,O,O,O,O,O,O]
abbrev stringslite_Index_p2 : List AG := [o 4 (.mv (.c (.int .i64 (-1))))]
abbrev stringslite_Index_p3 : List AG := [o 115 (.mv (.t 12)), o 116 (.mv (.t 8)), o 117 (.ibin .add (.t 115) (.t 116)), o 4 (.mv (.t 117))]
abbrev stringslite_Index_p4 : ACode := (.seq (.reg stringslite_Index_p3) .ret)
abbrev stringslite_Index_p5 : List AG := [o 113 (.mv (.t 12)), o 114 (.cmp .geq (.sc .int) (.t 113) (.c (.int .i64 0)))]
abbrev stringslite_Index_p6 : List AG := [o 108 (.mv (.t 0)), o 109 (.mv (.t 8)), o 110 (.sliceStr (.t 108) (some (.t 109)) none), o 111 (.mv (.t 1)), o 112 (.call (.f n_bytealg_IndexString) [(.t 110), (.t 111)]), o 12 (.mv (.t 112))]
abbrev stringslite_Index_p7 : List AG := [o 140 (.mv (.t 8)), o 141 (.mv (.t 13)), o 142 (.ibin .add (.t 140) (.t 141)), o 4 (.mv (.t 142))]
abbrev stringslite_Index_p8 : List AG := [o 4 (.mv (.c (.int .i64 (-1))))]
abbrev stringslite_Index_p9 : ACode := (.seq (.reg stringslite_Index_p8) .ret)
abbrev stringslite_Index_p10 : List AG := [o 138 (.mv (.t 13)), o 139 (.cmp .lss (.sc .int) (.t 138) (.c (.int .i64 0)))]
abbrev stringslite_Index_p11 : List AG := [o 133 (.mv (.t 0)), o 134 (.mv (.t 8)), o 135 (.sliceStr (.t 133) (some (.t 134)) none), o 136 (.mv (.t 1)), o 137 (.call (.f n_bytealg_IndexRabinKarp_string) [(.t 135), (.t 136)]), o 13 (.mv (.t 137))]
abbrev stringslite_Index_p12 : ACode := (.seq (.reg stringslite_Index_p11) (.seq (.seq (.reg stringslite_Index_p10) (.cond (.t 139) stringslite_Index_p9 .skip)) (.seq (.reg stringslite_Index_p7) .ret)))
abbrev stringslite_Index_p13 : List AG := [o 118 (.mv (.t 5)), o 119 (.load false 1 (.g 1)), o 120 (.cmp .gtr (.sc .int) (.t 118) (.t 119)), o 121 (.mv (.t 120)), oy 122 121 (.mv (.t 10)), oy 123 121 (.mv (.t 8)), oy 124 121 (.ibin .shr (.t 123) (.c (.int .u64 4))), oy 125 121 (.ibin .add (.c (.int .i64 4)) (.t 124)), oy 126 121 (.cmp .geq (.sc .int) (.t 122) (.t 125)), o 127 (.pick (.t 121) (.t 126) (.c (.bool false))), o 128 (.mv (.t 127)), oy 129 128 (.mv (.t 8)), oy 130 128 (.mv (.t 9)), oy 131 128 (.cmp .lss (.sc .int) (.t 129) (.t 130)), o 132 (.pick (.t 128) (.t 131) (.c (.bool false)))]
abbrev stringslite_Index_p14 : ACode := (.seq (.reg stringslite_Index_p6) (.seq (.seq (.reg stringslite_Index_p5) (.cond (.t 114) stringslite_Index_p4 .skip)) (.seq (.reg stringslite_Index_p2) .ret)))
abbrev stringslite_Index_p15 : ACode := (.seq (.reg stringslite_Index_p13) (.cond (.t 132) stringslite_Index_p12 .skip))
abbrev stringslite_Index_p16 : List AG := [o 99 (.mv (.t 5)), o 100 (.load false 1 (.g 1)), o 101 (.cmp .leq (.sc .int) (.t 99) (.t 100)), o 102 (.mv (.t 101)), oy 103 102 (.mv (.t 10)), oy 104 102 (.mv (.t 8)), oy 105 102 (.call (.f n_bytealg_Cutover) [(.t 104)]), oy 106 102 (.cmp .gtr (.sc .int) (.t 103) (.t 105)), o 107 (.pick (.t 102) (.t 106) (.c (.bool false)))]
abbrev stringslite_Index_p17 : List AG := [o 97 (.mv (.t 10)), o 98 (.ibin .add (.t 97) (.c (.int .i64 1))), o 10 (.mv (.t 98))]
abbrev stringslite_Index_p18 : List AG := [o 95 (.mv (.t 8)), o 96 (.ibin .add (.t 95) (.c (.int .i64 1))), o 8 (.mv (.t 96))]
abbrev stringslite_Index_p19 : List AG := [o 94 (.mv (.t 8)), o 4 (.mv (.t 94))]
abbrev stringslite_Index_p20 : ACode := (.seq (.reg stringslite_Index_p19) .ret)
abbrev stringslite_Index_p21 : List AG := [o 78 (.mv (.t 0)), o 79 (.mv (.t 8)), o 80 (.ibin .add (.t 79) (.c (.int .i64 1))), o 81 (.ixStr (.t 78) (.t 80)), o 82 (.mv (.t 7)), o 83 (.cmp .eql (.sc .int) (.t 81) (.t 82)), o 84 (.mv (.t 83)), oy 85 84 (.mv (.t 0)), oy 86 84 (.mv (.t 8)), oy 87 84 (.mv (.t 8)), oy 88 84 (.mv (.t 5)), oy 89 84 (.ibin .add (.t 87) (.t 88)), oy 90 84 (.sliceStr (.t 85) (some (.t 86)) (some (.t 89))), oy 91 84 (.mv (.t 1)), oy 92 84 (.cmp .eql (.sc .str) (.t 90) (.t 91)), o 93 (.pick (.t 84) (.t 92) (.c (.bool false)))]
abbrev stringslite_Index_p22 : List AG := [o 74 (.mv (.t 8)), o 75 (.mv (.t 11)), o 76 (.ibin .add (.t 75) (.c (.int .i64 1))), o 77 (.ibin .add (.t 74) (.t 76)), o 8 (.mv (.t 77))]
abbrev stringslite_Index_p23 : List AG := [o 4 (.mv (.c (.int .i64 (-1))))]
abbrev stringslite_Index_p24 : ACode := (.seq (.reg stringslite_Index_p23) .ret)
abbrev stringslite_Index_p25 : List AG := [o 72 (.mv (.t 11)), o 73 (.cmp .lss (.sc .int) (.t 72) (.c (.int .i64 0)))]
abbrev stringslite_Index_p26 : List AG := [o 65 (.mv (.t 0)), o 66 (.mv (.t 8)), o 67 (.ibin .add (.t 66) (.c (.int .i64 1))), o 68 (.mv (.t 9)), o 69 (.sliceStr (.t 65) (some (.t 67)) (some (.t 68))), o 70 (.mv (.t 6)), o 71 (.call (.f n_stringslite_IndexByte) [(.t 69), (.t 70)]), o 11 (.mv (.t 71))]
abbrev stringslite_Index_p27 : ACode := (.seq (.reg stringslite_Index_p26) (.seq (.seq (.reg stringslite_Index_p25) (.cond (.t 73) stringslite_Index_p24 .skip)) (.reg stringslite_Index_p22)))
abbrev stringslite_Index_p28 : List AG := [o 60 (.mv (.t 0)), o 61 (.mv (.t 8)), o 62 (.ixStr (.t 60) (.t 61)), o 63 (.mv (.t 6)), o 64 (.cmp .neq (.sc .int) (.t 62) (.t 63))]
abbrev stringslite_Index_p29 : ACode := (.seq (.seq (.reg stringslite_Index_p28) (.cond (.t 64) stringslite_Index_p27 .skip)) (.seq (.seq (.reg stringslite_Index_p21) (.cond (.t 93) stringslite_Index_p20 .skip)) (.seq (.reg stringslite_Index_p18) (.seq (.reg stringslite_Index_p17) (.seq (.reg stringslite_Index_p16) (.cond (.t 107) stringslite_Index_p14 stringslite_Index_p15))))))
abbrev stringslite_Index_p30 : List AG := [o 57 (.mv (.t 8)), o 58 (.mv (.t 9)), o 59 (.cmp .lss (.sc .int) (.t 57) (.t 58))]
abbrev stringslite_Index_b1 : ACode := (.seq (.seq (.reg stringslite_Index_p30) (.cond (.t 59) .skip (.exit 1))) (.block 2 [] stringslite_Index_p29))
abbrev stringslite_Index_p31 : List AG := [o 10 (.mv (.c (.int .i64 0)))]
abbrev stringslite_Index_p32 : List AG := [o 52 (.mv (.t 0)), o 53 (.lenStr (.t 52)), o 54 (.mv (.t 5)), o 55 (.ibin .sub (.t 53) (.t 54)), o 56 (.ibin .add (.t 55) (.c (.int .i64 1))), o 9 (.mv (.t 56))]
abbrev stringslite_Index_p33 : List AG := [o 8 (.mv (.c (.int .i64 0)))]
abbrev stringslite_Index_p34 : List AG := [o 50 (.mv (.t 1)), o 51 (.ixStr (.t 50) (.c (.int .i64 1))), o 7 (.mv (.t 51))]
abbrev stringslite_Index_p35 : List AG := [o 48 (.mv (.t 1)), o 49 (.ixStr (.t 48) (.c (.int .i64 0))), o 6 (.mv (.t 49))]
abbrev stringslite_Index_p36 : List AG := [o 4 (.mv (.c (.int .i64 0)))]
abbrev stringslite_Index_p37 : List AG := [o 27 (.mv (.t 0)), o 28 (.mv (.t 1)), o 29 (.ixStr (.t 28) (.c (.int .i64 0))), o 30 (.call (.f n_stringslite_IndexByte) [(.t 27), (.t 29)]), o 4 (.mv (.t 30))]
abbrev stringslite_Index_p38 : List AG := [o 4 (.mv (.c (.int .i64 (-1))))]
abbrev stringslite_Index_p39 : List AG := [o 45 (.mv (.t 0)), o 46 (.mv (.t 1)), o 47 (.call (.f n_bytealg_IndexString) [(.t 45), (.t 46)]), o 4 (.mv (.t 47))]
abbrev stringslite_Index_p40 : ACode := (.seq (.reg stringslite_Index_p39) .ret)
abbrev stringslite_Index_p41 : List AG := [o 37 (.mv (.t 5)), o 38 (.load false 1 (.g 1)), o 39 (.cmp .leq (.sc .int) (.t 37) (.t 38)), o 40 (.mv (.t 39)), oy 41 40 (.mv (.t 0)), oy 42 40 (.lenStr (.t 41)), oy 43 40 (.cmp .leq (.sc .int) (.t 42) (.c (.int .i64 64))), o 44 (.pick (.t 40) (.t 43) (.c (.bool false))), o 36 (.mv (.t 44))]
abbrev stringslite_Index_p42 : ACode := (.seq (.reg stringslite_Index_p38) .ret)
abbrev stringslite_Index_p43 : ACode := (.seq (.reg stringslite_Index_p41) (.cond (.t 36) stringslite_Index_p40 .skip))
abbrev stringslite_Index_p44 : List AG := [o 32 (.mv (.t 5)), o 33 (.mv (.t 0)), o 34 (.lenStr (.t 33)), o 35 (.cmp .geq (.sc .int) (.t 32) (.t 34)), o 31 (.mv (.t 35))]
abbrev stringslite_Index_p45 : ACode := (.seq (.reg stringslite_Index_p37) .ret)
abbrev stringslite_Index_p46 : ACode := (.seq (.reg stringslite_Index_p44) (.cond (.t 31) stringslite_Index_p42 stringslite_Index_p43))
abbrev stringslite_Index_p47 : List AG := [o 25 (.mv (.t 5)), o 26 (.cmp .eql (.sc .int) (.t 25) (.c (.int .i64 1))), o 24 (.mv (.t 26))]
abbrev stringslite_Index_p48 : ACode := (.seq (.reg stringslite_Index_p36) .ret)
abbrev stringslite_Index_p49 : ACode := (.seq (.reg stringslite_Index_p47) (.cond (.t 24) stringslite_Index_p45 stringslite_Index_p46))
abbrev stringslite_Index_p50 : List AG := [o 17 (.mv (.t 5)), o 18 (.cmp .eql (.sc .int) (.t 17) (.c (.int .i64 0))), o 19 (.mv (.t 18)), on 20 19 (.mv (.t 1)), on 21 19 (.mv (.t 0)), on 22 19 (.cmp .eql (.sc .str) (.t 20) (.t 21)), o 23 (.pick (.t 19) (.c (.bool true)) (.t 22)), o 16 (.mv (.t 23))]
abbrev stringslite_Index_p51 : ACode := (.seq (.reg stringslite_Index_p50) (.cond (.t 16) stringslite_Index_p48 stringslite_Index_p49))
abbrev stringslite_Index_p52 : List AG := [o 14 (.mv (.t 1)), o 15 (.lenStr (.t 14)), o 5 (.mv (.t 15))]
abbrev stringslite_Index_p53 : List AG := [o 4 (.mv (.c (.int .i64 0)))]
abbrev stringslite_Index : AFun := ⟨(.seq (.reg stringslite_Index_p53) (.seq (.reg stringslite_Index_p52) (.seq (.block 0 [] stringslite_Index_p51) (.seq (.reg stringslite_Index_p35) (.seq (.reg stringslite_Index_p34) (.seq (.reg stringslite_Index_p33) (.seq (.reg stringslite_Index_p32) (.seq (.reg stringslite_Index_p31) (.seq (.block 1 stringslite_Index_x1 (.loop stringslite_Index_m1 stringslite_Index_b1)) (.seq (.reg stringslite_Index_p0) .ret)))))))))), 143, [.tmp 4]⟩
abbrev stringslite_Index_k1 : List It := [.code (.seq (.reg stringslite_Index_p0) .ret)]
abbrev stringslite_Index_L1 (x0 x1 x5 x6 x7 x8 x9 x10 : AV) (h : List Ob) (e : Cx := cx) : Cfg := atC n_stringslite_Index (.code stringslite_Index_b1 :: .inLoop stringslite_Index_m1 stringslite_Index_b1 :: .inBlock 1 stringslite_Index_x1 :: stringslite_Index_k1) [x0,x1,U,U,U,x5,x6,x7,x8,x9,x10,U,U,U,U,U,U,U,U,U,U,U,U,U,U,U,U,U,U,U,U,U,U,U,U,U,U,U,U,U,U,U,U,U,U,U,U,U,U,U,U,U,U,U,U,U,U,U,U,U,U,U,U,U,U,U,U,U,U,U,U,U,U,U,U,U,U,U,U,U,U,U,U,U,U,U,U,U,U,U,U,U,U,U,U,U,U,U,U,U,U,U,U,U,U,U,U,U,U,U,U,U,U,U,U,U,U,U,U,U,U,U,U,U,U,U,U,U,U,U,U,U,U,U,U,U,U,U,U,U,U,U,U] h e
abbrev stringslite_Index_E1 (h : List Ob) (e : Cx := cx) : Cfg := atC n_stringslite_Index stringslite_Index_k1 [U,U,U,U,U,U,U,U,U,U,U,U,U,U,U,U,U,U,U,U,U,U,U,U,U,U,U,U,U,U,U,U,U,U,U,U,U,U,U,U,U,U,U,U,U,U,U,U,U,U,U,U,U,U,U,U,U,U,U,U,U,U,U,U,U,U,U,U,U,U,U,U,U,U,U,U,U,U,U,U,U,U,U,U,U,U,U,U,U,U,U,U,U,U,U,U,U,U,U,U,U,U,U,U,U,U,U,U,U,U,U,U,U,U,U,U,U,U,U,U,U,U,U,U,U,U,U,U,U,U,U,U,U,U,U,U,U,U,U,U,U,U,U] h e
@[simp] theorem c_stringslite_Index : cfun Tryd.prog n_stringslite_Index = some stringslite_Index := by kernel_rfl
@[simp] theorem e_stringslite_Index : hasBody Tryd.prog n_stringslite_Index = true := by kernel_rfl

/- bytealg_IndexRabinKarp_string: internal/bytealg.IndexRabinKarp[string] -/
abbrev bytealg_IndexRabinKarp_string_p0 : List AG := [o 4 (.mv (.c (.int .i64 (-1))))]
abbrev bytealg_IndexRabinKarp_string_m1 : List Bool := [I,I,O,O,O,I,I,I,I,O,I,O,O,O,O,O,O,O,O,O,O,O,O,O,O,O,O,O,O,O,O,O,O,O,O,O,O,O,O,O,O,O,O,O,O,O,O,O,O,O,O,O,O,O,O,O,O,O,O,O,O,O,O,O,O,O,O,O,O,O,O,O,O,O,O,O,O,O,O,O,O]
abbrev bytealg_IndexRabinKarp_string_x1 : List Bool := [O,O,O,O,O,O,O,O,O,O,O,O,O,O,O,O,O,O,O,O,O,O,O,O,O,O,O,O,O,O,O,O,O,O,O,O,O,O,O,O,O,O,O,O,O,O,O,O,O,O,O,O,O,O,O,O,O,O,O,O,O,O,O,O,O,O,O,O,O,O,O,O,O,O,O,O,O,O,O,O,O]
abbrev bytealg_IndexRabinKarp_string_p2 : List AG := [o 78 (.mv (.t 10)), o 79 (.mv (.t 7)), o 80 (.ibin .sub (.t 78) (.t 79)), o 4 (.mv (.t 80))]
abbrev bytealg_IndexRabinKarp_string_p3 : ACode := (.seq (.reg bytealg_IndexRabinKarp_string_p2) .ret)
abbrev bytealg_IndexRabinKarp_string_p4 : List AG := [o 65 (.mv (.t 8)), o 66 (.mv (.t 5)), o 67 (.cmp .eql (.sc .int) (.t 65) (.t 66)), o 68 (.mv (.t 67)), oy 69 68 (.mv (.t 0)), oy 70 68 (.mv (.t 10)), oy 71 68 (.mv (.t 7)), oy 72 68 (.ibin .sub (.t 70) (.t 71)), oy 73 68 (.mv (.t 10)), oy 74 68 (.sliceStr (.t 69) (some (.t 72)) (some (.t 73))), oy 75 68 (.mv (.t 1)), oy 76 68 (.cmp .eql (.sc .str) (.t 74) (.t 75)), o 77 (.pick (.t 68) (.t 76) (.c (.bool false)))]
abbrev bytealg_IndexRabinKarp_string_p5 : List AG := [o 63 (.mv (.t 10)), o 64 (.ibin .add (.t 63) (.c (.int .i64 1))), o 10 (.mv (.t 64))]
abbrev bytealg_IndexRabinKarp_string_p6 : List AG := [o 53 (.mv (.t 8)), o 54 (.mv (.t 6)), o 55 (.mv (.t 0)), o 56 (.mv (.t 10)), o 57 (.mv (.t 7)), o 58 (.ibin .sub (.t 56) (.t 57)), o 59 (.ixStr (.t 55) (.t 58)), o 60 (.conv .u32 (.t 59)), o 61 (.ibin .mul (.t 54) (.t 60)), o 62 (.ibin .sub (.t 53) (.t 61)), o 8 (.mv (.t 62))]
abbrev bytealg_IndexRabinKarp_string_p7 : List AG := [o 47 (.mv (.t 8)), o 48 (.mv (.t 0)), o 49 (.mv (.t 10)), o 50 (.ixStr (.t 48) (.t 49)), o 51 (.conv .u32 (.t 50)), o 52 (.ibin .add (.t 47) (.t 51)), o 8 (.mv (.t 52))]
abbrev bytealg_IndexRabinKarp_string_p8 : List AG := [o 45 (.mv (.t 8)), o 46 (.ibin .mul (.t 45) (.c (.int .u32 16777619))), o 8 (.mv (.t 46))]
abbrev bytealg_IndexRabinKarp_string_p9 : ACode := (.seq (.reg bytealg_IndexRabinKarp_string_p8) (.seq (.reg bytealg_IndexRabinKarp_string_p7) (.seq (.reg bytealg_IndexRabinKarp_string_p6) (.seq (.reg bytealg_IndexRabinKarp_string_p5) (.seq (.reg bytealg_IndexRabinKarp_string_p4) (.cond (.t 77) bytealg_IndexRabinKarp_string_p3 .skip))))))
abbrev bytealg_IndexRabinKarp_string_p10 : List AG := [o 41 (.mv (.t 10)), o 42 (.mv (.t 0)), o 43 (.lenStr (.t 42)), o 44 (.cmp .lss (.sc .int) (.t 41) (.t 43))]
abbrev bytealg_IndexRabinKarp_string_b1 : ACode := (.seq (.seq (.reg bytealg_IndexRabinKarp_string_p10) (.cond (.t 44) .skip (.exit 2))) (.block 3 [] bytealg_IndexRabinKarp_string_p9))
abbrev bytealg_IndexRabinKarp_string_p11 : List AG := [o 40 (.mv (.t 7)), o 10 (.mv (.t 40))]
abbrev bytealg_IndexRabinKarp_string_p12 : List AG := [o 4 (.mv (.c (.int .i64 0)))]
abbrev bytealg_IndexRabinKarp_string_p13 : ACode := (.seq (.reg bytealg_IndexRabinKarp_string_p12) .ret)
abbrev bytealg_IndexRabinKarp_string_p14 : List AG := [o 30 (.mv (.t 8)), o 31 (.mv (.t 5)), o 32 (.cmp .eql (.sc .int) (.t 30) (.t 31)), o 33 (.mv (.t 32)), oy 34 33 (.mv (.t 0)), oy 35 33 (.mv (.t 7)), oy 36 33 (.sliceStr (.t 34) none (some (.t 35))), oy 37 33 (.mv (.t 1)), oy 38 33 (.cmp .eql (.sc .str) (.t 36) (.t 37)), o 39 (.pick (.t 33) (.t 38) (.c (.bool false)))]
abbrev bytealg_IndexRabinKarp_string_m15 : List Bool := [I,I,O,O,O,I,I,I,I,I,O,O,O,O,O,O,O,O,O,O,O,O,O,O,O,O,O,O,O,O,O,O,O,O,O,O,O,O,O,O,O,O,O,O,O,O,O,O,O,O,O,O,O,O,O,O,O,O,O,O,O,O,O,O,O,O,O,O,O,O,O,O,O,O,O,O,O,O,O,O,O]
abbrev bytealg_IndexRabinKarp_string_x15 : List Bool := [I,I,O,O,O,I,I,I,I,O,O,O,O,O,O,O,O,O,O,O,O,O,O,O,O,O,O,O,O,O,O,O,O,O,O,O,O,O,O,O,O,O,O,O,O,O,O,O,O,O,O,O,O,O,O,O,O,O,O,O,O,O,O,O,O,O,O,O,O,O,O,O,O,O,O,O,O,O,O,O,O]
abbrev bytealg_IndexRabinKarp_string_p16 : List AG := [o 21 (.mv (.t 9)), o 22 (.ibin .add (.t 21) (.c (.int .i64 1))), o 9 (.mv (.t 22))]
abbrev bytealg_IndexRabinKarp_string_p17 : List AG := [o 23 (.mv (.t 8)), o 24 (.ibin .mul (.t 23) (.c (.int .u32 16777619))), o 25 (.mv (.t 0)), o 26 (.mv (.t 9)), o 27 (.ixStr (.t 25) (.t 26)), o 28 (.conv .u32 (.t 27)), o 29 (.ibin .add (.t 24) (.t 28)), o 8 (.mv (.t 29))]
abbrev bytealg_IndexRabinKarp_string_p18 : List AG := [o 18 (.mv (.t 9)), o 19 (.mv (.t 7)), o 20 (.cmp .lss (.sc .int) (.t 18) (.t 19))]
abbrev bytealg_IndexRabinKarp_string_b15 : ACode := (.seq (.seq (.reg bytealg_IndexRabinKarp_string_p18) (.cond (.t 20) .skip (.exit 0))) (.seq (.block 1 [] (.reg bytealg_IndexRabinKarp_string_p17)) (.reg bytealg_IndexRabinKarp_string_p16)))
abbrev bytealg_IndexRabinKarp_string_p19 : List AG := [o 9 (.mv (.c (.int .i64 0)))]
abbrev bytealg_IndexRabinKarp_string_p20 : List AG := [o 8 (.mv (.c (.int .u32 0)))]
abbrev bytealg_IndexRabinKarp_string_p21 : List AG := [o 16 (.mv (.t 1)), o 17 (.lenStr (.t 16)), o 7 (.mv (.t 17))]
abbrev bytealg_IndexRabinKarp_string_p22 : List AG := [o 12 (.mv (.t 1)), o 13 (.call (.f n_bytealg_hashStr_string) [(.t 12)]), o 11 (.mv (.t 13)), o 14 (.extract (.t 11) 0), o 15 (.extract (.t 11) 1), o 5 (.mv (.t 14)), o 6 (.mv (.t 15))]
abbrev bytealg_IndexRabinKarp_string_p23 : List AG := [o 4 (.mv (.c (.int .i64 0)))]
abbrev bytealg_IndexRabinKarp_string : AFun := ⟨(.seq (.reg bytealg_IndexRabinKarp_string_p23) (.seq (.reg bytealg_IndexRabinKarp_string_p22) (.seq (.reg bytealg_IndexRabinKarp_string_p21) (.seq (.reg bytealg_IndexRabinKarp_string_p20) (.seq (.seq (.reg bytealg_IndexRabinKarp_string_p19) (.block 0 bytealg_IndexRabinKarp_string_x15 (.loop bytealg_IndexRabinKarp_string_m15 bytealg_IndexRabinKarp_string_b15))) (.seq (.seq (.reg bytealg_IndexRabinKarp_string_p14) (.cond (.t 39) bytealg_IndexRabinKarp_string_p13 .skip)) (.seq (.seq (.reg bytealg_IndexRabinKarp_string_p11) (.block 2 bytealg_IndexRabinKarp_string_x1 (.loop bytealg_IndexRabinKarp_string_m1 bytealg_IndexRabinKarp_string_b1))) (.seq (.reg bytealg_IndexRabinKarp_string_p0) .ret)))))))), 81, [.tmp 4]⟩
abbrev bytealg_IndexRabinKarp_string_k1 : List It := [.code (.seq (.reg bytealg_IndexRabinKarp_string_p0) .ret)]
abbrev bytealg_IndexRabinKarp_string_L1 (x0 x1 x5 x6 x7 x8 x10 : AV) (h : List Ob) (e : Cx := cx) : Cfg := atC n_bytealg_IndexRabinKarp_string (.code bytealg_IndexRabinKarp_string_b1 :: .inLoop bytealg_IndexRabinKarp_string_m1 bytealg_IndexRabinKarp_string_b1 :: .inBlock 2 bytealg_IndexRabinKarp_string_x1 :: bytealg_IndexRabinKarp_string_k1) [x0,x1,U,U,U,x5,x6,x7,x8,U,x10,U,U,U,U,U,U,U,U,U,U,U,U,U,U,U,U,U,U,U,U,U,U,U,U,U,U,U,U,U,U,U,U,U,U,U,U,U,U,U,U,U,U,U,U,U,U,U,U,U,U,U,U,U,U,U,U,U,U,U,U,U,U,U,U,U,U,U,U,U,U] h e
abbrev bytealg_IndexRabinKarp_string_E1 (h : List Ob) (e : Cx := cx) : Cfg := atC n_bytealg_IndexRabinKarp_string bytealg_IndexRabinKarp_string_k1 [U,U,U,U,U,U,U,U,U,U,U,U,U,U,U,U,U,U,U,U,U,U,U,U,U,U,U,U,U,U,U,U,U,U,U,U,U,U,U,U,U,U,U,U,U,U,U,U,U,U,U,U,U,U,U,U,U,U,U,U,U,U,U,U,U,U,U,U,U,U,U,U,U,U,U,U,U,U,U,U,U] h e
abbrev bytealg_IndexRabinKarp_string_k15 : List It := [.code (.seq (.seq (.reg bytealg_IndexRabinKarp_string_p14) (.cond (.t 39) bytealg_IndexRabinKarp_string_p13 .skip)) (.seq (.seq (.reg bytealg_IndexRabinKarp_string_p11) (.block 2 bytealg_IndexRabinKarp_string_x1 (.loop bytealg_IndexRabinKarp_string_m1 bytealg_IndexRabinKarp_string_b1))) (.seq (.reg bytealg_IndexRabinKarp_string_p0) .ret)))]
abbrev bytealg_IndexRabinKarp_string_L15 (x0 x1 x5 x6 x7 x8 x9 : AV) (h : List Ob) (e : Cx := cx) : Cfg := atC n_bytealg_IndexRabinKarp_string (.code bytealg_IndexRabinKarp_string_b15 :: .inLoop bytealg_IndexRabinKarp_string_m15 bytealg_IndexRabinKarp_string_b15 :: .inBlock 0 bytealg_IndexRabinKarp_string_x15 :: bytealg_IndexRabinKarp_string_k15) [x0,x1,U,U,U,x5,x6,x7,x8,x9,U,U,U,U,U,U,U,U,U,U,U,U,U,U,U,U,U,U,U,U,U,U,U,U,U,U,U,U,U,U,U,U,U,U,U,U,U,U,U,U,U,U,U,U,U,U,U,U,U,U,U,U,U,U,U,U,U,U,U,U,U,U,U,U,U,U,U,U,U,U,U] h e
abbrev bytealg_IndexRabinKarp_string_E15 (x0 x1 x5 x6 x7 x8 : AV) (h : List Ob) (e : Cx := cx) : Cfg := atC n_bytealg_IndexRabinKarp_string bytealg_IndexRabinKarp_string_k15 [x0,x1,U,U,U,x5,x6,x7,x8,U,U,U,U,U,U,U,U,U,U,U,U,U,U,U,U,U,U,U,U,U,U,U,U,U,U,U,U,U,U,U,U,U,U,U,U,U,U,U,U,U,U,U,U,U,U,U,U,U,U,U,U,U,U,U,U,U,U,U,U,U,U,U,U,U,U,U,U,U,U,U,U] h e
@[simp] theorem c_bytealg_IndexRabinKarp_string : cfun Tryd.prog n_bytealg_IndexRabinKarp_string = some bytealg_IndexRabinKarp_string := by kernel_rfl
@[simp] theorem e_bytealg_IndexRabinKarp_string : hasBody Tryd.prog n_bytealg_IndexRabinKarp_string = true := by kernel_rfl

/- bytealg_hashStr_string: internal/bytealg.hashStr[string] -/
abbrev bytealg_hashStr_string_p0 : List AG := [o 37 (.mv (.t 4)), o 38 (.mv (.t 6)), o 2 (.mv (.t 37)), o 3 (.mv (.t 38))]
abbrev bytealg_hashStr_string_m1 : List Bool := [O,O,O,O,I,O,I,I,I,O,O,O,O,O,O,O,O,O,O,O,O,O,O,O,O,O,O,O,O,O,O,O,O,O,O,O,O,O,O]
abbrev bytealg_hashStr_string_x1 : List Bool := [O,O,O,O,I,O,I,O,O,O,O,O,O,O,O,O,O,O,O,O,O,O,O,O,O,O,O,O,O,O,O,O,O,O,O,O,O,O,O]
abbrev bytealg_hashStr_string_p2 : List AG := [o 26 (.mv (.t 8)), o 27 (.ibin .shr (.t 26) (.c (.int .u64 1))), o 8 (.mv (.t 27))]
abbrev bytealg_hashStr_string_p3 : List AG := [o 34 (.mv (.t 7)), o 35 (.mv (.t 7)), o 36 (.ibin .mul (.t 34) (.t 35)), o 7 (.mv (.t 36))]
abbrev bytealg_hashStr_string_p4 : List AG := [o 31 (.mv (.t 6)), o 32 (.mv (.t 7)), o 33 (.ibin .mul (.t 31) (.t 32)), o 6 (.mv (.t 33))]
abbrev bytealg_hashStr_string_p5 : List AG := [o 28 (.mv (.t 8)), o 29 (.ibin .and (.t 28) (.c (.int .i64 1))), o 30 (.cmp .neq (.sc .int) (.t 29) (.c (.int .i64 0)))]
abbrev bytealg_hashStr_string_p6 : ACode := (.seq (.seq (.reg bytealg_hashStr_string_p5) (.cond (.t 30) (.reg bytealg_hashStr_string_p4) .skip)) (.reg bytealg_hashStr_string_p3))
abbrev bytealg_hashStr_string_p7 : List AG := [o 24 (.mv (.t 8)), o 25 (.cmp .gtr (.sc .int) (.t 24) (.c (.int .i64 0)))]
abbrev bytealg_hashStr_string_b1 : ACode := (.seq (.seq (.reg bytealg_hashStr_string_p7) (.cond (.t 25) .skip (.exit 2))) (.seq (.block 3 [] bytealg_hashStr_string_p6) (.reg bytealg_hashStr_string_p2)))
abbrev bytealg_hashStr_string_p8 : List AG := [o 22 (.mv (.t 0)), o 23 (.lenStr (.t 22)), o 8 (.mv (.t 23))]
abbrev bytealg_hashStr_string_p9 : List AG := [o 6 (.mv (.c (.int .u32 1))), o 7 (.mv (.c (.int .u32 16777619)))]
abbrev bytealg_hashStr_string_m10 : List Bool := [I,O,O,O,I,I,O,O,O,O,O,O,O,O,O,O,O,O,O,O,O,O,O,O,O,O,O,O,O,O,O,O,O,O,O,O,O,O,O]
abbrev bytealg_hashStr_string_x10 : List Bool := [I,O,O,O,I,O,O,O,O,O,O,O,O,O,O,O,O,O,O,O,O,O,O,O,O,O,O,O,O,O,O,O,O,O,O,O,O,O,O]
abbrev bytealg_hashStr_string_p11 : List AG := [o 13 (.mv (.t 5)), o 14 (.ibin .add (.t 13) (.c (.int .i64 1))), o 5 (.mv (.t 14))]
abbrev bytealg_hashStr_string_p12 : List AG := [o 15 (.mv (.t 4)), o 16 (.ibin .mul (.t 15) (.c (.int .u32 16777619))), o 17 (.mv (.t 0)), o 18 (.mv (.t 5)), o 19 (.ixStr (.t 17) (.t 18)), o 20 (.conv .u32 (.t 19)), o 21 (.ibin .add (.t 16) (.t 20)), o 4 (.mv (.t 21))]
abbrev bytealg_hashStr_string_p13 : List AG := [o 9 (.mv (.t 5)), o 10 (.mv (.t 0)), o 11 (.lenStr (.t 10)), o 12 (.cmp .lss (.sc .int) (.t 9) (.t 11))]
abbrev bytealg_hashStr_string_b10 : ACode := (.seq (.seq (.reg bytealg_hashStr_string_p13) (.cond (.t 12) .skip (.exit 0))) (.seq (.block 1 [] (.reg bytealg_hashStr_string_p12)) (.reg bytealg_hashStr_string_p11)))
abbrev bytealg_hashStr_string_p14 : List AG := [o 5 (.mv (.c (.int .i64 0)))]
abbrev bytealg_hashStr_string_p15 : List AG := [o 4 (.mv (.c (.int .u32 0)))]
abbrev bytealg_hashStr_string_p16 : List AG := [o 2 (.mv (.c (.int .u32 0))), o 3 (.mv (.c (.int .u32 0)))]
abbrev bytealg_hashStr_string : AFun := ⟨(.seq (.reg bytealg_hashStr_string_p16) (.seq (.reg bytealg_hashStr_string_p15) (.seq (.seq (.reg bytealg_hashStr_string_p14) (.block 0 bytealg_hashStr_string_x10 (.loop bytealg_hashStr_string_m10 bytealg_hashStr_string_b10))) (.seq (.reg bytealg_hashStr_string_p9) (.seq (.seq (.reg bytealg_hashStr_string_p8) (.block 2 bytealg_hashStr_string_x1 (.loop bytealg_hashStr_string_m1 bytealg_hashStr_string_b1))) (.seq (.reg bytealg_hashStr_string_p0) .ret)))))), 39, [.tmp 2, .tmp 3]⟩
abbrev bytealg_hashStr_string_k1 : List It := [.code (.seq (.reg bytealg_hashStr_string_p0) .ret)]
abbrev bytealg_hashStr_string_L1 (x4 x6 x7 x8 : AV) (h : List Ob) (e : Cx := cx) : Cfg := atC n_bytealg_hashStr_string (.code bytealg_hashStr_string_b1 :: .inLoop bytealg_hashStr_string_m1 bytealg_hashStr_string_b1 :: .inBlock 2 bytealg_hashStr_string_x1 :: bytealg_hashStr_string_k1) [U,U,U,U,x4,U,x6,x7,x8,U,U,U,U,U,U,U,U,U,U,U,U,U,U,U,U,U,U,U,U,U,U,U,U,U,U,U,U,U,U] h e
abbrev bytealg_hashStr_string_E1 (x4 x6 : AV) (h : List Ob) (e : Cx := cx) : Cfg := atC n_bytealg_hashStr_string bytealg_hashStr_string_k1 [U,U,U,U,x4,U,x6,U,U,U,U,U,U,U,U,U,U,U,U,U,U,U,U,U,U,U,U,U,U,U,U,U,U,U,U,U,U,U,U] h e
abbrev bytealg_hashStr_string_k10 : List It := [.code (.seq (.reg bytealg_hashStr_string_p9) (.seq (.seq (.reg bytealg_hashStr_string_p8) (.block 2 bytealg_hashStr_string_x1 (.loop bytealg_hashStr_string_m1 bytealg_hashStr_string_b1))) (.seq (.reg bytealg_hashStr_string_p0) .ret)))]
abbrev bytealg_hashStr_string_L10 (x0 x4 x5 : AV) (h : List Ob) (e : Cx := cx) : Cfg := atC n_bytealg_hashStr_string (.code bytealg_hashStr_string_b10 :: .inLoop bytealg_hashStr_string_m10 bytealg_hashStr_string_b10 :: .inBlock 0 bytealg_hashStr_string_x10 :: bytealg_hashStr_string_k10) [x0,U,U,U,x4,x5,U,U,U,U,U,U,U,U,U,U,U,U,U,U,U,U,U,U,U,U,U,U,U,U,U,U,U,U,U,U,U,U,U] h e
abbrev bytealg_hashStr_string_E10 (x0 x4 : AV) (h : List Ob) (e : Cx := cx) : Cfg := atC n_bytealg_hashStr_string bytealg_hashStr_string_k10 [x0,U,U,U,x4,U,U,U,U,U,U,U,U,U,U,U,U,U,U,U,U,U,U,U,U,U,U,U,U,U,U,U,U,U,U,U,U,U,U] h e
@[simp] theorem c_bytealg_hashStr_string : cfun Tryd.prog n_bytealg_hashStr_string = some bytealg_hashStr_string := by kernel_rfl
@[simp] theorem e_bytealg_hashStr_string : hasBody Tryd.prog n_bytealg_hashStr_string = true := by kernel_rfl

/- gosem_cut_vars: gosem.cut.vars -/
abbrev gosem_cut_vars_p0 : List AG := [o 20 (.load false 1 (.g 0)), q (.upd (.sc .str) (.t 20) (.c (.str [100, 102, 102, 120])) (.c (.bool true)))]
abbrev gosem_cut_vars_p1 : List AG := [o 19 (.load false 1 (.g 0)), q (.upd (.sc .str) (.t 19) (.c (.str [100, 102, 102, 49])) (.c (.bool true)))]
abbrev gosem_cut_vars_p2 : List AG := [o 18 (.load false 1 (.g 0)), q (.upd (.sc .str) (.t 18) (.c (.str [100, 102, 102, 48])) (.c (.bool true)))]
abbrev gosem_cut_vars_p3 : List AG := [o 17 (.load false 1 (.g 0)), q (.upd (.sc .str) (.t 17) (.c (.str [120, 110, 111, 114])) (.c (.bool true)))]
abbrev gosem_cut_vars_p4 : List AG := [o 16 (.load false 1 (.g 0)), q (.upd (.sc .str) (.t 16) (.c (.str [120, 111, 114])) (.c (.bool true)))]
abbrev gosem_cut_vars_p5 : List AG := [o 15 (.load false 1 (.g 0)), q (.upd (.sc .str) (.t 15) (.c (.str [110, 111, 114])) (.c (.bool true)))]
abbrev gosem_cut_vars_p6 : List AG := [o 14 (.load false 1 (.g 0)), q (.upd (.sc .str) (.t 14) (.c (.str [111, 114])) (.c (.bool true)))]
abbrev gosem_cut_vars_p7 : List AG := [o 13 (.load false 1 (.g 0)), q (.upd (.sc .str) (.t 13) (.c (.str [110, 97, 110, 100])) (.c (.bool true)))]
abbrev gosem_cut_vars_p8 : List AG := [o 12 (.load false 1 (.g 0)), q (.upd (.sc .str) (.t 12) (.c (.str [97, 110, 100])) (.c (.bool true)))]
abbrev gosem_cut_vars_p9 : List AG := [o 11 (.load false 1 (.g 0)), q (.upd (.sc .str) (.t 11) (.c (.str [110, 111, 116])) (.c (.bool true)))]
abbrev gosem_cut_vars_p10 : List AG := [o 10 (.load false 1 (.g 0)), q (.upd (.sc .str) (.t 10) (.c (.str [98, 117, 102])) (.c (.bool true)))]
abbrev gosem_cut_vars_p11 : List AG := [o 9 (.load false 1 (.g 0)), q (.upd (.sc .str) (.t 9) (.c (.str [97, 115, 115, 105, 103, 110])) (.c (.bool true)))]
abbrev gosem_cut_vars_p12 : List AG := [o 8 (.load false 1 (.g 0)), q (.upd (.sc .str) (.t 8) (.c (.str [119, 105, 114, 101])) (.c (.bool true)))]
abbrev gosem_cut_vars_p13 : List AG := [o 7 (.load false 1 (.g 0)), q (.upd (.sc .str) (.t 7) (.c (.str [111, 117, 116, 112, 117, 116])) (.c (.bool true)))]
abbrev gosem_cut_vars_p14 : List AG := [o 6 (.load false 1 (.g 0)), q (.upd (.sc .str) (.t 6) (.c (.str [105, 110, 112, 117, 116])) (.c (.bool true)))]
abbrev gosem_cut_vars_p15 : List AG := [o 5 (.load false 1 (.g 0)), q (.upd (.sc .str) (.t 5) (.c (.str [101, 110, 100, 109, 111, 100, 117, 108, 101])) (.c (.bool true)))]
abbrev gosem_cut_vars_p16 : List AG := [o 4 (.load false 1 (.g 0)), q (.upd (.sc .str) (.t 4) (.c (.str [109, 111, 100, 117, 108, 101])) (.c (.bool true)))]
abbrev gosem_cut_vars_p17 : List AG := [o 3 (.mkMap), q (.store 1 (.g 0) (.t 3))]
abbrev gosem_cut_vars_p18 : List AG := [o 2 (.build [(.int .u64 0), (.int .u64 0), (.int .u64 0), (.int .u64 0), (.int .u64 0), (.int .u64 0), (.int .u64 0), (.int .u64 0), (.int .u64 0), (.int .u64 0), (.int .u64 0), (.int .u64 0), (.int .u64 0), (.int .u64 0), (.int .u64 0), (.int .u64 0), (.int .u64 0), (.int .u64 0), (.int .u64 0), (.int .u64 0)] [(0, 1, (.c (.int .u64 1))), (1, 1, (.c (.int .u64 10))), (2, 1, (.c (.int .u64 100))), (3, 1, (.c (.int .u64 1000))), (4, 1, (.c (.int .u64 10000))), (5, 1, (.c (.int .u64 100000))), (6, 1, (.c (.int .u64 1000000))), (7, 1, (.c (.int .u64 10000000))), (8, 1, (.c (.int .u64 100000000))), (9, 1, (.c (.int .u64 1000000000))), (10, 1, (.c (.int .u64 10000000000))), (11, 1, (.c (.int .u64 100000000000))), (12, 1, (.c (.int .u64 1000000000000))), (13, 1, (.c (.int .u64 10000000000000))), (14, 1, (.c (.int .u64 100000000000000))), (15, 1, (.c (.int .u64 1000000000000000))), (16, 1, (.c (.int .u64 10000000000000000))), (17, 1, (.c (.int .u64 100000000000000000))), (18, 1, (.c (.int .u64 1000000000000000000))), (19, 1, (.c (.int .u64 10000000000000000000)))]), q (.store 20 (.g 2) (.t 2))]
abbrev gosem_cut_vars_p19 : List AG := [o 1 (.build [(.int .u8 0), (.int .u8 0), (.int .u8 0), (.int .u8 0), (.int .u8 0), (.int .u8 0), (.int .u8 0), (.int .u8 0), (.int .u8 0), (.int .u8 0), (.int .u8 0), (.int .u8 0), (.int .u8 0), (.int .u8 0), (.int .u8 0), (.int .u8 0), (.int .u8 0), (.int .u8 0), (.int .u8 0), (.int .u8 0), (.int .u8 0), (.int .u8 0), (.int .u8 0), (.int .u8 0), (.int .u8 0), (.int .u8 0), (.int .u8 0), (.int .u8 0), (.int .u8 0), (.int .u8 0), (.int .u8 0), (.int .u8 0), (.int .u8 0), (.int .u8 0), (.int .u8 0), (.int .u8 0), (.int .u8 0), (.int .u8 0), (.int .u8 0), (.int .u8 0), (.int .u8 0), (.int .u8 0), (.int .u8 0), (.int .u8 0), (.int .u8 0), (.int .u8 0), (.int .u8 0), (.int .u8 0), (.int .u8 0), (.int .u8 0), (.int .u8 0), (.int .u8 0), (.int .u8 0), (.int .u8 0), (.int .u8 0), (.int .u8 0), (.int .u8 0), (.int .u8 0), (.int .u8 0), (.int .u8 0), (.int .u8 0), (.int .u8 0), (.int .u8 0), (.int .u8 0)] [(0, 1, (.c (.int .u8 0))), (1, 1, (.c (.int .u8 1))), (2, 1, (.c (.int .u8 56))), (3, 1, (.c (.int .u8 2))), (4, 1, (.c (.int .u8 57))), (5, 1, (.c (.int .u8 49))), (6, 1, (.c (.int .u8 28))), (7, 1, (.c (.int .u8 3))), (8, 1, (.c (.int .u8 61))), (9, 1, (.c (.int .u8 58))), (10, 1, (.c (.int .u8 42))), (11, 1, (.c (.int .u8 50))), (12, 1, (.c (.int .u8 38))), (13, 1, (.c (.int .u8 29))), (14, 1, (.c (.int .u8 17))), (15, 1, (.c (.int .u8 4))), (16, 1, (.c (.int .u8 62))), (17, 1, (.c (.int .u8 47))), (18, 1, (.c (.int .u8 59))), (19, 1, (.c (.int .u8 36))), (20, 1, (.c (.int .u8 45))), (21, 1, (.c (.int .u8 43))), (22, 1, (.c (.int .u8 51))), (23, 1, (.c (.int .u8 22))), (24, 1, (.c (.int .u8 53))), (25, 1, (.c (.int .u8 39))), (26, 1, (.c (.int .u8 33))), (27, 1, (.c (.int .u8 30))), (28, 1, (.c (.int .u8 24))), (29, 1, (.c (.int .u8 18))), (30, 1, (.c (.int .u8 12))), (31, 1, (.c (.int .u8 5))), (32, 1, (.c (.int .u8 63))), (33, 1, (.c (.int .u8 55))), (34, 1, (.c (.int .u8 48))), (35, 1, (.c (.int .u8 27))), (36, 1, (.c (.int .u8 60))), (37, 1, (.c (.int .u8 41))), (38, 1, (.c (.int .u8 37))), (39, 1, (.c (.int .u8 16))), (40, 1, (.c (.int .u8 46))), (41, 1, (.c (.int .u8 35))), (42, 1, (.c (.int .u8 44))), (43, 1, (.c (.int .u8 21))), (44, 1, (.c (.int .u8 52))), (45, 1, (.c (.int .u8 32))), (46, 1, (.c (.int .u8 23))), (47, 1, (.c (.int .u8 11))), (48, 1, (.c (.int .u8 54))), (49, 1, (.c (.int .u8 26))), (50, 1, (.c (.int .u8 40))), (51, 1, (.c (.int .u8 15))), (52, 1, (.c (.int .u8 34))), (53, 1, (.c (.int .u8 20))), (54, 1, (.c (.int .u8 31))), (55, 1, (.c (.int .u8 10))), (56, 1, (.c (.int .u8 25))), (57, 1, (.c (.int .u8 14))), (58, 1, (.c (.int .u8 19))), (59, 1, (.c (.int .u8 9))), (60, 1, (.c (.int .u8 13))), (61, 1, (.c (.int .u8 8))), (62, 1, (.c (.int .u8 7))), (63, 1, (.c (.int .u8 6)))]), q (.store 64 (.g 4) (.t 1))]
abbrev gosem_cut_vars_p20 : List AG := [o 0 (.build [(.int .u8 0), (.int .u8 0), (.int .u8 0), (.int .u8 0), (.int .u8 0), (.int .u8 0), (.int .u8 0), (.int .u8 0), (.int .u8 0), (.int .u8 0), (.int .u8 0), (.int .u8 0), (.int .u8 0), (.int .u8 0), (.int .u8 0), (.int .u8 0), (.int .u8 0), (.int .u8 0), (.int .u8 0), (.int .u8 0), (.int .u8 0), (.int .u8 0), (.int .u8 0), (.int .u8 0), (.int .u8 0), (.int .u8 0), (.int .u8 0), (.int .u8 0), (.int .u8 0), (.int .u8 0), (.int .u8 0), (.int .u8 0)] [(0, 1, (.c (.int .u8 0))), (1, 1, (.c (.int .u8 1))), (2, 1, (.c (.int .u8 28))), (3, 1, (.c (.int .u8 2))), (4, 1, (.c (.int .u8 29))), (5, 1, (.c (.int .u8 14))), (6, 1, (.c (.int .u8 24))), (7, 1, (.c (.int .u8 3))), (8, 1, (.c (.int .u8 30))), (9, 1, (.c (.int .u8 22))), (10, 1, (.c (.int .u8 20))), (11, 1, (.c (.int .u8 15))), (12, 1, (.c (.int .u8 25))), (13, 1, (.c (.int .u8 17))), (14, 1, (.c (.int .u8 4))), (15, 1, (.c (.int .u8 8))), (16, 1, (.c (.int .u8 31))), (17, 1, (.c (.int .u8 27))), (18, 1, (.c (.int .u8 13))), (19, 1, (.c (.int .u8 23))), (20, 1, (.c (.int .u8 21))), (21, 1, (.c (.int .u8 19))), (22, 1, (.c (.int .u8 16))), (23, 1, (.c (.int .u8 7))), (24, 1, (.c (.int .u8 26))), (25, 1, (.c (.int .u8 12))), (26, 1, (.c (.int .u8 18))), (27, 1, (.c (.int .u8 6))), (28, 1, (.c (.int .u8 11))), (29, 1, (.c (.int .u8 5))), (30, 1, (.c (.int .u8 10))), (31, 1, (.c (.int .u8 9)))]), q (.store 32 (.g 3) (.t 0))]
abbrev gosem_cut_vars : AFun := ⟨(.seq (.reg gosem_cut_vars_p20) (.seq (.reg gosem_cut_vars_p19) (.seq (.reg gosem_cut_vars_p18) (.seq (.reg gosem_cut_vars_p17) (.seq (.reg gosem_cut_vars_p16) (.seq (.reg gosem_cut_vars_p15) (.seq (.reg gosem_cut_vars_p14) (.seq (.reg gosem_cut_vars_p13) (.seq (.reg gosem_cut_vars_p12) (.seq (.reg gosem_cut_vars_p11) (.seq (.reg gosem_cut_vars_p10) (.seq (.reg gosem_cut_vars_p9) (.seq (.reg gosem_cut_vars_p8) (.seq (.reg gosem_cut_vars_p7) (.seq (.reg gosem_cut_vars_p6) (.seq (.reg gosem_cut_vars_p5) (.seq (.reg gosem_cut_vars_p4) (.seq (.reg gosem_cut_vars_p3) (.seq (.reg gosem_cut_vars_p2) (.seq (.reg gosem_cut_vars_p1) (.reg gosem_cut_vars_p0))))))))))))))))))))), 21, []⟩
@[simp] theorem c_gosem_cut_vars : cfun Tryd.prog n_gosem_cut_vars = some gosem_cut_vars := by kernel_rfl
@[simp] theorem e_gosem_cut_vars : hasBody Tryd.prog n_gosem_cut_vars = true := by kernel_rfl

end Go.Proofs.YtenpljbbboibiaaDoor
