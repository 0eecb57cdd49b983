/- The functions, as the abstract machine has them. Printed by a program. -/
import Derived.Test.YtbdnncbigmcdjaaAMc
import Derived.Test.YtbdnncbigmcdjaaChecked
import Derived.KernelRfl
namespace Go.Proofs.Ytbdnncbigmcdjaa
open Go.AM Go.Proofs
abbrev n_gosem_cut : FuncId := 1
abbrev n_gosem_cut_init : FuncId := 2
abbrev n_w03_TokenBench : FuncId := 3
abbrev n_w03_TokenRows : FuncId := 4
abbrev n_w03_TokenAgain : FuncId := 5
abbrev n_w03_TokenPlaces : FuncId := 6
abbrev n_w03_works : FuncId := 7
abbrev n_token_Bench : FuncId := 8
abbrev n_r03_Bench : FuncId := 9
abbrev n_r03_Same : FuncId := 10
abbrev n_w03_Of : FuncId := 11
abbrev n_r01_Texts : FuncId := 12
abbrev n_token_Texts : FuncId := 13
abbrev n_r03_Texts : FuncId := 14
abbrev n_token_Same : FuncId := 15
abbrev n_token_Blif : FuncId := 16
abbrev n_token_Verilog : FuncId := 17
abbrev n_w03_spaced : FuncId := 18
abbrev n_w03_kinds : FuncId := 19
abbrev n_w03_placed : FuncId := 20
abbrev n_token_all : FuncId := 21
abbrev n_r03_line : FuncId := 22
abbrev n_r03_blank : FuncId := 23
abbrev n_r03_in : FuncId := 24
abbrev n_slices_Equal_token_Token_token_Token : FuncId := 25
abbrev n_token_all_1 : FuncId := 26
abbrev n_token_bench_read : FuncId := 43
abbrev n_token_none : FuncId := 44
abbrev n_token_line : FuncId := 45
abbrev n_strings_IndexByte : FuncId := 46
abbrev n_token_one : FuncId := 47
abbrev n_token_run : FuncId := 48
abbrev n_token_bench_read_1 : FuncId := 49
abbrev n_token_graph : FuncId := 50
abbrev n_token_line_1 : FuncId := 51
abbrev n_stringslite_IndexByte : FuncId := 52
abbrev n_bytealg_IndexByteString : FuncId := 53
abbrev n_token_blif_read : FuncId := 54
abbrev n_strings_HasPrefix : FuncId := 55
abbrev n_token_blif_read_1 : FuncId := 56
abbrev n_stringslite_HasPrefix : FuncId := 57
abbrev n_token_verilog_read : FuncId := 58
abbrev n_strings_Index : FuncId := 59
abbrev n_token_named : FuncId := 60
abbrev n_stringslite_Index : FuncId := 61
abbrev n_bytealg_IndexString : FuncId := 62
abbrev n_bytealg_Cutover : FuncId := 63
abbrev n_bytealg_IndexRabinKarp_string : FuncId := 64
abbrev n_bytealg_hashStr_string : FuncId := 65
def s_patchbay_token_read : String := String.ofList [Char.ofNat 112, Char.ofNat 97, Char.ofNat 116, Char.ofNat 99, Char.ofNat 104, Char.ofNat 98, Char.ofNat 97, Char.ofNat 121, Char.ofNat 47, Char.ofNat 116, Char.ofNat 111, Char.ofNat 107, Char.ofNat 101, Char.ofNat 110, Char.ofNat 46, Char.ofNat 114, Char.ofNat 101, Char.ofNat 97, Char.ofNat 100]
abbrev t_string : TypeId := 9
abbrev t_token_Token_2 : TypeId := 42
abbrev t_token_bench : TypeId := 45
@[simp] theorem m_token_bench_patchbay_token_read : cmeth Try.prog t_token_bench s_patchbay_token_read = some (n_token_bench_read, none) := by kernel_rfl
abbrev t_r03_Token_2 : TypeId := 49
abbrev t_token_blif : TypeId := 50
@[simp] theorem m_token_blif_patchbay_token_read : cmeth Try.prog t_token_blif s_patchbay_token_read = some (n_token_blif_read, none) := by kernel_rfl
abbrev t_token_verilog : TypeId := 51
@[simp] theorem m_token_verilog_patchbay_token_read : cmeth Try.prog t_token_verilog s_patchbay_token_read = some (n_token_verilog_read, none) := by kernel_rfl
abbrev t_token_odd : TypeId := 55
/- w03_TokenBench: patchbay/patchbaylaw03.TokenBench -/
abbrev w03_TokenBench_p0 : List AG := [o 34 (.mv (.t 3)), o 35 (.mv (.t 34)), ⟨(some 36), (some (35, true)), .mv (.t 10)⟩, o 37 (.pick (.t 35) (.t 36) (.c (.bool false))), o 38 (.mv (.t 37)), ⟨(some 39), (some (38, true)), .mv (.t 5)⟩, ⟨(some 40), (some (38, true)), .mv (.t 8)⟩, ⟨(some 41), (some (38, true)), .cmp .eql (.sc .int) (.t 39) (.t 40)⟩, o 42 (.pick (.t 38) (.t 41) (.c (.bool false))), o 43 (.mv (.t 42)), ⟨(some 44), (some (43, true)), .mv (.t 6)⟩, ⟨(some 45), (some (43, true)), .mv (.t 9)⟩, ⟨(some 46), (some (43, true)), .cmp .eql (.sc .int) (.t 44) (.t 45)⟩, o 47 (.pick (.t 43) (.t 46) (.c (.bool false))), o 2 (.mv (.t 47))]
abbrev w03_TokenBench_p1 : List AG := [o 30 (.mv (.t 4)), o 31 (.call (.f n_w03_Of) [(.t 30)]), o 32 (.mv (.t 7)), o 33 (.call (.f n_r03_Same) [(.t 31), (.t 32)]), o 10 (.mv (.t 33))]
abbrev w03_TokenBench_p2 : List AG := [o 25 (.mv (.t 0)), o 26 (.call (.f n_r03_Bench) [(.t 25)]), o 24 (.mv (.t 26)), o 27 (.extract (.t 24) 0), o 28 (.extract (.t 24) 1), o 29 (.extract (.t 24) 2), o 7 (.mv (.t 27)), o 8 (.mv (.t 28)), o 9 (.mv (.t 29))]
abbrev w03_TokenBench_p3 : List AG := [o 19 (.mv (.t 0)), o 20 (.call (.f n_token_Bench) [(.t 19)]), o 18 (.mv (.t 20)), o 21 (.extract (.t 18) 0), o 22 (.extract (.t 18) 1), o 23 (.extract (.t 18) 2), o 4 (.mv (.t 21)), o 5 (.mv (.t 22)), o 6 (.mv (.t 23))]
abbrev w03_TokenBench_p4 : List AG := [o 17 (.mv (.t 3)), o 2 (.mv (.t 17))]
abbrev w03_TokenBench_p5 : ACode := (.seq (.reg w03_TokenBench_p4) .ret)
abbrev w03_TokenBench_p6 : List AG := [o 14 (.mv (.t 0)), o 15 (.lenStr (.t 14)), o 16 (.cmp .gtr (.sc .int) (.t 15) (.c (.int .i64 300)))]
abbrev w03_TokenBench_p7 : List AG := [o 2 (.mv (.c (.bool false)))]
abbrev w03_TokenBench_p8 : ACode := (.seq (.reg w03_TokenBench_p7) .ret)
abbrev w03_TokenBench_p9 : List AG := [o 12 (.mv (.t 3)), o 13 (.not (.t 12))]
abbrev w03_TokenBench_p10 : List AG := [o 11 (.call (.f n_w03_works) []), o 3 (.mv (.t 11))]
abbrev w03_TokenBench_p11 : List AG := [o 2 (.mv (.c (.bool false)))]
abbrev w03_TokenBench : AFun := ⟨(.seq (.reg w03_TokenBench_p11) (.seq (.reg w03_TokenBench_p10) (.seq (.seq (.reg w03_TokenBench_p9) (.cond (.t 13) w03_TokenBench_p8 .skip)) (.seq (.seq (.reg w03_TokenBench_p6) (.cond (.t 16) w03_TokenBench_p5 .skip)) (.seq (.reg w03_TokenBench_p3) (.seq (.reg w03_TokenBench_p2) (.seq (.reg w03_TokenBench_p1) (.seq (.reg w03_TokenBench_p0) .ret)))))))), 48, [.tmp 2]⟩
@[simp] theorem c_w03_TokenBench : cfun Try.prog n_w03_TokenBench = some w03_TokenBench := by kernel_rfl
@[simp] theorem e_w03_TokenBench : hasBody Try.prog n_w03_TokenBench = true := by kernel_rfl

/- w03_TokenRows: patchbay/patchbaylaw03.TokenRows -/
abbrev w03_TokenRows_p0 : List AG := [o 31 (.mv (.t 5)), o 32 (.mv (.t 31)), ⟨(some 33), (some (32, true)), .mv (.t 0)⟩, ⟨(some 34), (some (32, true)), .mv (.t 1)⟩, ⟨(some 35), (some (32, true)), .call (.f n_token_Same) [(.t 33), (.t 34)]⟩, ⟨(some 36), (some (32, true)), .mv (.t 6)⟩, ⟨(some 37), (some (32, true)), .cmp .eql (.sc .bool) (.t 35) (.t 36)⟩, o 38 (.pick (.t 32) (.t 37) (.c (.bool false))), o 39 (.mv (.t 38)), ⟨(some 40), (some (39, true)), .mv (.t 7)⟩, o 41 (.pick (.t 39) (.t 40) (.c (.bool false))), o 4 (.mv (.t 41))]
abbrev w03_TokenRows_p1 : List AG := [o 25 (.mv (.t 0)), o 26 (.call (.f n_token_Texts) [(.t 25)]), o 27 (.mv (.t 0)), o 28 (.call (.f n_w03_Of) [(.t 27)]), o 29 (.call (.f n_r03_Texts) [(.t 28)]), o 30 (.call (.f n_r01_Texts) [(.t 26), (.t 29)]), o 7 (.mv (.t 30))]
abbrev w03_TokenRows_p2 : List AG := [o 20 (.mv (.t 0)), o 21 (.call (.f n_w03_Of) [(.t 20)]), o 22 (.mv (.t 1)), o 23 (.call (.f n_w03_Of) [(.t 22)]), o 24 (.call (.f n_r03_Same) [(.t 21), (.t 23)]), o 6 (.mv (.t 24))]
abbrev w03_TokenRows_p3 : List AG := [o 19 (.mv (.t 5)), o 4 (.mv (.t 19))]
abbrev w03_TokenRows_p4 : ACode := (.seq (.reg w03_TokenRows_p3) .ret)
abbrev w03_TokenRows_p5 : List AG := [o 11 (.mv (.t 0)), o 12 (.len (.t 11)), o 13 (.cmp .gtr (.sc .int) (.t 12) (.c (.int .i64 30))), o 14 (.mv (.t 13)), ⟨(some 15), (some (14, false)), .mv (.t 1)⟩, ⟨(some 16), (some (14, false)), .len (.t 15)⟩, ⟨(some 17), (some (14, false)), .cmp .gtr (.sc .int) (.t 16) (.c (.int .i64 30))⟩, o 18 (.pick (.t 14) (.c (.bool true)) (.t 17))]
abbrev w03_TokenRows_p6 : List AG := [o 4 (.mv (.c (.bool false)))]
abbrev w03_TokenRows_p7 : ACode := (.seq (.reg w03_TokenRows_p6) .ret)
abbrev w03_TokenRows_p8 : List AG := [o 9 (.mv (.t 5)), o 10 (.not (.t 9))]
abbrev w03_TokenRows_p9 : List AG := [o 8 (.call (.f n_w03_works) []), o 5 (.mv (.t 8))]
abbrev w03_TokenRows_p10 : List AG := [o 4 (.mv (.c (.bool false)))]
abbrev w03_TokenRows : AFun := ⟨(.seq (.reg w03_TokenRows_p10) (.seq (.reg w03_TokenRows_p9) (.seq (.seq (.reg w03_TokenRows_p8) (.cond (.t 10) w03_TokenRows_p7 .skip)) (.seq (.seq (.reg w03_TokenRows_p5) (.cond (.t 18) w03_TokenRows_p4 .skip)) (.seq (.reg w03_TokenRows_p2) (.seq (.reg w03_TokenRows_p1) (.seq (.reg w03_TokenRows_p0) .ret))))))), 42, [.tmp 4]⟩
@[simp] theorem c_w03_TokenRows : cfun Try.prog n_w03_TokenRows = some w03_TokenRows := by kernel_rfl
@[simp] theorem e_w03_TokenRows : hasBody Try.prog n_w03_TokenRows = true := by kernel_rfl

/- w03_TokenAgain: patchbay/patchbaylaw03.TokenAgain -/
abbrev w03_TokenAgain_p0 : List AG := [o 80 (.mv (.t 3)), o 81 (.mv (.t 80)), ⟨(some 82), (some (81, true)), .mv (.t 4)⟩, ⟨(some 83), (some (81, true)), .mv (.t 11)⟩, ⟨(some 84), (some (81, true)), .call (.f n_w03_kinds) [(.t 82), (.t 83)]⟩, o 85 (.pick (.t 81) (.t 84) (.c (.bool false))), o 86 (.mv (.t 85)), ⟨(some 87), (some (86, true)), .mv (.t 5)⟩, ⟨(some 88), (some (86, true)), .mv (.t 12)⟩, ⟨(some 89), (some (86, true)), .call (.f n_w03_kinds) [(.t 87), (.t 88)]⟩, o 90 (.pick (.t 86) (.t 89) (.c (.bool false))), o 91 (.mv (.t 90)), ⟨(some 92), (some (91, true)), .mv (.t 8)⟩, ⟨(some 93), (some (91, true)), .mv (.t 15)⟩, ⟨(some 94), (some (91, true)), .call (.f n_w03_kinds) [(.t 92), (.t 93)]⟩, o 95 (.pick (.t 91) (.t 94) (.c (.bool false))), o 2 (.mv (.t 95))]
abbrev w03_TokenAgain_p1 : List AG := [o 2 (.mv (.c (.bool false)))]
abbrev w03_TokenAgain_p2 : ACode := (.seq (.reg w03_TokenAgain_p1) .ret)
abbrev w03_TokenAgain_p3 : List AG := [o 56 (.mv (.t 14)), o 57 (.cmp .neq (.sc .int) (.t 56) (.c (.int .i64 0))), o 58 (.mv (.t 57)), ⟨(some 59), (some (58, false)), .mv (.t 17)⟩, ⟨(some 60), (some (58, false)), .cmp .neq (.sc .int) (.t 59) (.c (.int .i64 0))⟩, o 61 (.pick (.t 58) (.c (.bool true)) (.t 60)), o 62 (.mv (.t 61)), ⟨(some 63), (some (62, false)), .mv (.t 7)⟩, ⟨(some 64), (some (62, false)), .cmp .neq (.sc .int) (.t 63) (.c (.int .i64 0))⟩, ⟨(some 65), (some (62, false)), .mv (.t 64)⟩, ⟨(some 66), (some (65, true)), .mv (.t 5)⟩, ⟨(some 67), (some (65, true)), .len (.t 66)⟩, ⟨(some 68), (some (65, true)), .cmp .gtr (.sc .int) (.t 67) (.c (.int .i64 0))⟩, ⟨(some 69), (some (62, false)), .pick (.t 65) (.t 68) (.c (.bool false))⟩, o 70 (.pick (.t 62) (.c (.bool true)) (.t 69)), o 71 (.mv (.t 70)), ⟨(some 72), (some (71, false)), .mv (.t 10)⟩, ⟨(some 73), (some (71, false)), .cmp .neq (.sc .int) (.t 72) (.c (.int .i64 0))⟩, ⟨(some 74), (some (71, false)), .mv (.t 73)⟩, ⟨(some 75), (some (74, true)), .mv (.t 8)⟩, ⟨(some 76), (some (74, true)), .len (.t 75)⟩, ⟨(some 77), (some (74, true)), .cmp .gtr (.sc .int) (.t 76) (.c (.int .i64 0))⟩, ⟨(some 78), (some (71, false)), .pick (.t 74) (.t 77) (.c (.bool false))⟩, o 79 (.pick (.t 71) (.c (.bool true)) (.t 78))]
abbrev w03_TokenAgain_p4 : List AG := [o 50 (.mv (.t 8)), o 51 (.call (.f n_w03_spaced) [(.t 50)]), o 52 (.call (.f n_token_Verilog) [(.t 51)]), o 49 (.mv (.t 52)), o 53 (.extract (.t 49) 0), o 54 (.extract (.t 49) 1), o 55 (.extract (.t 49) 2), o 15 (.mv (.t 53)), o 16 (.mv (.t 54)), o 17 (.mv (.t 55))]
abbrev w03_TokenAgain_p5 : List AG := [o 43 (.mv (.t 5)), o 44 (.call (.f n_w03_spaced) [(.t 43)]), o 45 (.call (.f n_token_Bench) [(.t 44)]), o 42 (.mv (.t 45)), o 46 (.extract (.t 42) 0), o 47 (.extract (.t 42) 1), o 48 (.extract (.t 42) 2), o 12 (.mv (.t 46)), o 13 (.mv (.t 47)), o 14 (.mv (.t 48))]
abbrev w03_TokenAgain_p6 : List AG := [o 39 (.mv (.t 4)), o 40 (.call (.f n_w03_spaced) [(.t 39)]), o 41 (.call (.f n_token_Blif) [(.t 40)]), o 11 (.mv (.t 41))]
abbrev w03_TokenAgain_p7 : List AG := [o 34 (.mv (.t 0)), o 35 (.call (.f n_token_Verilog) [(.t 34)]), o 33 (.mv (.t 35)), o 36 (.extract (.t 33) 0), o 37 (.extract (.t 33) 1), o 38 (.extract (.t 33) 2), o 8 (.mv (.t 36)), o 9 (.mv (.t 37)), o 10 (.mv (.t 38))]
abbrev w03_TokenAgain_p8 : List AG := [o 28 (.mv (.t 0)), o 29 (.call (.f n_token_Bench) [(.t 28)]), o 27 (.mv (.t 29)), o 30 (.extract (.t 27) 0), o 31 (.extract (.t 27) 1), o 32 (.extract (.t 27) 2), o 5 (.mv (.t 30)), o 6 (.mv (.t 31)), o 7 (.mv (.t 32))]
abbrev w03_TokenAgain_p9 : List AG := [o 25 (.mv (.t 0)), o 26 (.call (.f n_token_Blif) [(.t 25)]), o 4 (.mv (.t 26))]
abbrev w03_TokenAgain_p10 : List AG := [o 24 (.mv (.t 3)), o 2 (.mv (.t 24))]
abbrev w03_TokenAgain_p11 : ACode := (.seq (.reg w03_TokenAgain_p10) .ret)
abbrev w03_TokenAgain_p12 : List AG := [o 21 (.mv (.t 0)), o 22 (.lenStr (.t 21)), o 23 (.cmp .gtr (.sc .int) (.t 22) (.c (.int .i64 300)))]
abbrev w03_TokenAgain_p13 : List AG := [o 2 (.mv (.c (.bool false)))]
abbrev w03_TokenAgain_p14 : ACode := (.seq (.reg w03_TokenAgain_p13) .ret)
abbrev w03_TokenAgain_p15 : List AG := [o 19 (.mv (.t 3)), o 20 (.not (.t 19))]
abbrev w03_TokenAgain_p16 : List AG := [o 18 (.call (.f n_w03_works) []), o 3 (.mv (.t 18))]
abbrev w03_TokenAgain_p17 : List AG := [o 2 (.mv (.c (.bool false)))]
abbrev w03_TokenAgain : AFun := ⟨(.seq (.reg w03_TokenAgain_p17) (.seq (.reg w03_TokenAgain_p16) (.seq (.seq (.reg w03_TokenAgain_p15) (.cond (.t 20) w03_TokenAgain_p14 .skip)) (.seq (.seq (.reg w03_TokenAgain_p12) (.cond (.t 23) w03_TokenAgain_p11 .skip)) (.seq (.reg w03_TokenAgain_p9) (.seq (.reg w03_TokenAgain_p8) (.seq (.reg w03_TokenAgain_p7) (.seq (.reg w03_TokenAgain_p6) (.seq (.reg w03_TokenAgain_p5) (.seq (.reg w03_TokenAgain_p4) (.seq (.seq (.reg w03_TokenAgain_p3) (.cond (.t 79) w03_TokenAgain_p2 .skip)) (.seq (.reg w03_TokenAgain_p0) .ret)))))))))))), 96, [.tmp 2]⟩
@[simp] theorem c_w03_TokenAgain : cfun Try.prog n_w03_TokenAgain = some w03_TokenAgain := by kernel_rfl
@[simp] theorem e_w03_TokenAgain : hasBody Try.prog n_w03_TokenAgain = true := by kernel_rfl

/- w03_TokenPlaces: patchbay/patchbaylaw03.TokenPlaces -/
abbrev w03_TokenPlaces_p0 : List AG := [o 32 (.mv (.t 3)), o 33 (.mv (.t 32)), ⟨(some 34), (some (33, true)), .mv (.t 0)⟩, ⟨(some 35), (some (33, true)), .mv (.t 4)⟩, ⟨(some 36), (some (33, true)), .call (.f n_w03_placed) [(.t 34), (.t 35)]⟩, o 37 (.pick (.t 33) (.t 36) (.c (.bool false))), o 38 (.mv (.t 37)), ⟨(some 39), (some (38, true)), .mv (.t 0)⟩, ⟨(some 40), (some (38, true)), .mv (.t 5)⟩, ⟨(some 41), (some (38, true)), .call (.f n_w03_placed) [(.t 39), (.t 40)]⟩, o 42 (.pick (.t 38) (.t 41) (.c (.bool false))), o 43 (.mv (.t 42)), ⟨(some 44), (some (43, true)), .mv (.t 0)⟩, ⟨(some 45), (some (43, true)), .mv (.t 8)⟩, ⟨(some 46), (some (43, true)), .call (.f n_w03_placed) [(.t 44), (.t 45)]⟩, o 47 (.pick (.t 43) (.t 46) (.c (.bool false))), o 2 (.mv (.t 47))]
abbrev w03_TokenPlaces_p1 : List AG := [o 27 (.mv (.t 0)), o 28 (.call (.f n_token_Verilog) [(.t 27)]), o 26 (.mv (.t 28)), o 29 (.extract (.t 26) 0), o 30 (.extract (.t 26) 1), o 31 (.extract (.t 26) 2), o 8 (.mv (.t 29)), o 9 (.mv (.t 30)), o 10 (.mv (.t 31))]
abbrev w03_TokenPlaces_p2 : List AG := [o 21 (.mv (.t 0)), o 22 (.call (.f n_token_Bench) [(.t 21)]), o 20 (.mv (.t 22)), o 23 (.extract (.t 20) 0), o 24 (.extract (.t 20) 1), o 25 (.extract (.t 20) 2), o 5 (.mv (.t 23)), o 6 (.mv (.t 24)), o 7 (.mv (.t 25))]
abbrev w03_TokenPlaces_p3 : List AG := [o 18 (.mv (.t 0)), o 19 (.call (.f n_token_Blif) [(.t 18)]), o 4 (.mv (.t 19))]
abbrev w03_TokenPlaces_p4 : List AG := [o 17 (.mv (.t 3)), o 2 (.mv (.t 17))]
abbrev w03_TokenPlaces_p5 : ACode := (.seq (.reg w03_TokenPlaces_p4) .ret)
abbrev w03_TokenPlaces_p6 : List AG := [o 14 (.mv (.t 0)), o 15 (.lenStr (.t 14)), o 16 (.cmp .gtr (.sc .int) (.t 15) (.c (.int .i64 300)))]
abbrev w03_TokenPlaces_p7 : List AG := [o 2 (.mv (.c (.bool false)))]
abbrev w03_TokenPlaces_p8 : ACode := (.seq (.reg w03_TokenPlaces_p7) .ret)
abbrev w03_TokenPlaces_p9 : List AG := [o 12 (.mv (.t 3)), o 13 (.not (.t 12))]
abbrev w03_TokenPlaces_p10 : List AG := [o 11 (.call (.f n_w03_works) []), o 3 (.mv (.t 11))]
abbrev w03_TokenPlaces_p11 : List AG := [o 2 (.mv (.c (.bool false)))]
abbrev w03_TokenPlaces : AFun := ⟨(.seq (.reg w03_TokenPlaces_p11) (.seq (.reg w03_TokenPlaces_p10) (.seq (.seq (.reg w03_TokenPlaces_p9) (.cond (.t 13) w03_TokenPlaces_p8 .skip)) (.seq (.seq (.reg w03_TokenPlaces_p6) (.cond (.t 16) w03_TokenPlaces_p5 .skip)) (.seq (.reg w03_TokenPlaces_p3) (.seq (.reg w03_TokenPlaces_p2) (.seq (.reg w03_TokenPlaces_p1) (.seq (.reg w03_TokenPlaces_p0) .ret)))))))), 48, [.tmp 2]⟩
@[simp] theorem c_w03_TokenPlaces : cfun Try.prog n_w03_TokenPlaces = some w03_TokenPlaces := by kernel_rfl
@[simp] theorem e_w03_TokenPlaces : hasBody Try.prog n_w03_TokenPlaces = true := by kernel_rfl

/- w03_works: patchbay/patchbaylaw03.works -/
abbrev w03_works_p0 : List AG := [o 30 (.mv (.t 1)), o 31 (.build [(.int .i64 0), (.str []), (.int .i64 0)] [(1, 1, (.c (.str [97])))]), o 32 (.build [(.int .i64 0), (.str []), (.int .i64 0)] [(0, 1, (.c (.int .i64 3))), (2, 1, (.c (.int .i64 5)))]), o 33 (.lit 3 [(.agg [(.int .i64 0), (.str []), (.int .i64 0)]), (.agg [(.int .i64 0), (.str []), (.int .i64 0)])] [(0, (.t 31)), (1, (.t 32))]), o 34 (.call (.f n_token_Same) [(.t 30), (.t 33)]), o 35 (.mv (.t 34)), ⟨(some 36), (some (35, true)), .mv (.t 2)⟩, ⟨(some 37), (some (35, true)), .len (.t 36)⟩, ⟨(some 38), (some (35, true)), .cmp .eql (.sc .int) (.t 37) (.c (.int .i64 8))⟩, o 39 (.pick (.t 35) (.t 38) (.c (.bool false))), o 40 (.mv (.t 39)), ⟨(some 41), (some (40, true)), .mv (.t 3)⟩, ⟨(some 42), (some (40, true)), .cmp .eql (.sc .int) (.t 41) (.c (.int .i64 0))⟩, o 43 (.pick (.t 40) (.t 42) (.c (.bool false))), o 44 (.mv (.t 43)), ⟨(some 45), (some (44, true)), .mv (.t 4)⟩, ⟨(some 46), (some (44, true)), .cmp .eql (.sc .int) (.t 45) (.c (.int .i64 0))⟩, o 47 (.pick (.t 44) (.t 46) (.c (.bool false))), o 48 (.mv (.t 47)), ⟨(some 49), (some (48, true)), .mv (.t 2)⟩, ⟨(some 50), (some (48, true)), .ixAddr 3 (.t 49) (.c (.int .i64 1))⟩, ⟨(some 51), (some (48, true)), .off 0 (.t 50)⟩, ⟨(some 52), (some (48, true)), .load false 1 (.t 51)⟩, ⟨(some 53), (some (48, true)), .cmp .eql (.sc .int) (.t 52) (.c (.int .i64 1))⟩, o 54 (.pick (.t 48) (.t 53) (.c (.bool false))), o 55 (.mv (.t 54)), ⟨(some 56), (some (55, true)), .mv (.t 5)⟩, ⟨(some 57), (some (55, true)), .len (.t 56)⟩, ⟨(some 58), (some (55, true)), .cmp .eql (.sc .int) (.t 57) (.c (.int .i64 6))⟩, o 59 (.pick (.t 55) (.t 58) (.c (.bool false))), o 60 (.mv (.t 59)), ⟨(some 61), (some (60, true)), .mv (.t 6)⟩, ⟨(some 62), (some (60, true)), .cmp .eql (.sc .int) (.t 61) (.c (.int .i64 0))⟩, o 63 (.pick (.t 60) (.t 62) (.c (.bool false))), o 64 (.mv (.t 63)), ⟨(some 65), (some (64, true)), .mv (.t 7)⟩, ⟨(some 66), (some (64, true)), .cmp .eql (.sc .int) (.t 65) (.c (.int .i64 0))⟩, o 67 (.pick (.t 64) (.t 66) (.c (.bool false))), o 68 (.mv (.t 67)), ⟨(some 69), (some (68, true)), .mv (.t 5)⟩, ⟨(some 70), (some (68, true)), .ixAddr 3 (.t 69) (.c (.int .i64 1))⟩, ⟨(some 71), (some (68, true)), .off 0 (.t 70)⟩, ⟨(some 72), (some (68, true)), .load false 1 (.t 71)⟩, ⟨(some 73), (some (68, true)), .cmp .eql (.sc .int) (.t 72) (.c (.int .i64 2))⟩, o 74 (.pick (.t 68) (.t 73) (.c (.bool false))), o 75 (.mv (.t 74)), ⟨(some 76), (some (75, true)), .mv (.t 5)⟩, ⟨(some 77), (some (75, true)), .ixAddr 3 (.t 76) (.c (.int .i64 1))⟩, ⟨(some 78), (some (75, true)), .off 1 (.t 77)⟩, ⟨(some 79), (some (75, true)), .load false 1 (.t 78)⟩, ⟨(some 80), (some (75, true)), .cmp .eql (.sc .str) (.t 79) (.c (.str [97, 46, 98]))⟩, o 81 (.pick (.t 75) (.t 80) (.c (.bool false))), o 82 (.mv (.t 81)), ⟨(some 83), (some (82, true)), .mv (.t 9)⟩, ⟨(some 84), (some (82, true)), .cmp .eql (.sc .int) (.t 83) (.c (.int .i64 2))⟩, o 85 (.pick (.t 82) (.t 84) (.c (.bool false))), o 86 (.mv (.t 85)), ⟨(some 87), (some (86, true)), .mv (.t 10)⟩, ⟨(some 88), (some (86, true)), .cmp .eql (.sc .int) (.t 87) (.c (.int .i64 2))⟩, o 89 (.pick (.t 86) (.t 88) (.c (.bool false))), o 90 (.mv (.t 89)), ⟨(some 91), (some (90, true)), .mv (.t 11)⟩, ⟨(some 92), (some (90, true)), .len (.t 91)⟩, ⟨(some 93), (some (90, true)), .cmp .eql (.sc .int) (.t 92) (.c (.int .i64 6))⟩, o 94 (.pick (.t 90) (.t 93) (.c (.bool false))), o 95 (.mv (.t 94)), ⟨(some 96), (some (95, true)), .mv (.t 11)⟩, ⟨(some 97), (some (95, true)), .ixAddr 1 (.t 96) (.c (.int .i64 3))⟩, ⟨(some 98), (some (95, true)), .load false 1 (.t 97)⟩, ⟨(some 99), (some (95, true)), .cmp .eql (.sc .str) (.t 98) (.c (.str [126]))⟩, o 100 (.pick (.t 95) (.t 99) (.c (.bool false))), o 101 (.mv (.t 100)), ⟨(some 102), (some (101, true)), .mv (.t 1)⟩, ⟨(some 103), (some (101, true)), .mv (.t 2)⟩, ⟨(some 104), (some (101, true)), .call (.f n_token_Same) [(.t 102), (.t 103)]⟩, ⟨(some 105), (some (101, true)), .not (.t 104)⟩, o 106 (.pick (.t 101) (.t 105) (.c (.bool false))), o 0 (.mv (.t 106))]
abbrev w03_works_p1 : List AG := [o 28 (.mv (.t 5)), o 29 (.call (.f n_token_Texts) [(.t 28)]), o 11 (.mv (.t 29))]
abbrev w03_works_p2 : List AG := [o 24 (.call (.f n_token_Verilog) [(.c (.str [97, 32, 63, 32, 98]))]), o 23 (.mv (.t 24)), o 25 (.extract (.t 23) 0), o 26 (.extract (.t 23) 1), o 27 (.extract (.t 23) 2), o 8 (.mv (.t 25)), o 9 (.mv (.t 26)), o 10 (.mv (.t 27))]
abbrev w03_works_p3 : List AG := [o 19 (.call (.f n_token_Verilog) [(.c (.str [97, 115, 115, 105, 103, 110, 32, 92, 97, 46, 98, 32, 61, 32, 126, 120, 59, 32, 47, 47, 32, 121]))]), o 18 (.mv (.t 19)), o 20 (.extract (.t 18) 0), o 21 (.extract (.t 18) 1), o 22 (.extract (.t 18) 2), o 5 (.mv (.t 20)), o 6 (.mv (.t 21)), o 7 (.mv (.t 22))]
abbrev w03_works_p4 : List AG := [o 14 (.call (.f n_token_Bench) [(.c (.str [122, 32, 61, 32, 65, 78, 68, 40, 97, 44, 32, 98, 41, 32, 35, 32, 120]))]), o 13 (.mv (.t 14)), o 15 (.extract (.t 13) 0), o 16 (.extract (.t 13) 1), o 17 (.extract (.t 13) 2), o 2 (.mv (.t 15)), o 3 (.mv (.t 16)), o 4 (.mv (.t 17))]
abbrev w03_works_p5 : List AG := [o 12 (.call (.f n_token_Blif) [(.c (.str [97, 32, 35, 32, 98]))]), o 1 (.mv (.t 12))]
abbrev w03_works_p6 : List AG := [o 0 (.mv (.c (.bool false)))]
abbrev w03_works : AFun := ⟨(.seq (.reg w03_works_p6) (.seq (.reg w03_works_p5) (.seq (.reg w03_works_p4) (.seq (.reg w03_works_p3) (.seq (.reg w03_works_p2) (.seq (.reg w03_works_p1) (.seq (.reg w03_works_p0) .ret))))))), 107, [.tmp 0]⟩
@[simp] theorem c_w03_works : cfun Try.prog n_w03_works = some w03_works := by kernel_rfl
@[simp] theorem e_w03_works : hasBody Try.prog n_w03_works = true := by kernel_rfl

/- token_Bench: patchbay/token.Bench -/
abbrev token_Bench_p0 : List AG := [o 5 (.build [] []), o 6 (.mkIface t_token_bench (.t 5)), o 7 (.mv (.t 0)), o 8 (.call (.f n_token_all) [(.t 6), (.t 7)]), o 9 (.extract (.t 8) 0), o 10 (.extract (.t 8) 1), o 11 (.extract (.t 8) 2), o 2 (.mv (.t 9)), o 3 (.mv (.t 10)), o 4 (.mv (.t 11))]
abbrev token_Bench_p1 : List AG := [o 2 (.nilrow 3 t_token_Token_2), o 3 (.mv (.c (.int .i64 0))), o 4 (.mv (.c (.int .i64 0)))]
abbrev token_Bench : AFun := ⟨(.seq (.reg token_Bench_p1) (.seq (.reg token_Bench_p0) .ret)), 12, [.tmp 2, .tmp 3, .tmp 4]⟩
@[simp] theorem c_token_Bench : cfun Try.prog n_token_Bench = some token_Bench := by kernel_rfl
@[simp] theorem e_token_Bench : hasBody Try.prog n_token_Bench = true := by kernel_rfl

/- r03_Bench: patchbay/patchbayref03.Bench -/
abbrev r03_Bench_p0 : List AG := [o 83 (.mv (.t 5)), o 2 (.mv (.t 83)), o 3 (.mv (.c (.int .i64 0))), o 4 (.mv (.c (.int .i64 0)))]
abbrev r03_Bench_m1 : List Bool := [I,O,O,O,O,I,I,O,O,O,O,O,O,O,O,O,O,O,O,O,O,O,O,O,O,O,O,O,O,O,O,O,O,O,O,O,O,O,O,O,O,O,O,O,O,O,O,O,O,O,O,O,O,O,O,O,O,O,O,O,O,O,O,O,O,O,O,O,O,O,O,O,O,O,O,O,O,O,O,O,O,O,O,O]
abbrev r03_Bench_x1 : List Bool := [O,O,O,O,O,I,O,O,O,O,O,O,O,O,O,O,O,O,O,O,O,O,O,O,O,O,O,O,O,O,O,O,O,O,O,O,O,O,O,O,O,O,O,O,O,O,O,O,O,O,O,O,O,O,O,O,O,O,O,O,O,O,O,O,O,O,O,O,O,O,O,O,O,O,O,O,O,O,O,O,O,O,O,O]
abbrev r03_Bench_p2 : List AG := [o 82 (.mv (.t 8)), o 6 (.mv (.t 82))]
abbrev r03_Bench_p3 : List AG := [o 73 (.mv (.t 5)), o 74 (.mv (.t 0)), o 75 (.mv (.t 6)), o 76 (.mv (.t 8)), o 77 (.sliceStr (.t 74) (some (.t 75)) (some (.t 76))), o 78 (.mv (.t 6)), o 79 (.build [(.int .i64 0), (.str []), (.int .i64 0)] [(1, 1, (.t 77)), (2, 1, (.t 78))]), o 80 (.lit 3 [(.agg [(.int .i64 0), (.str []), (.int .i64 0)])] [(0, (.t 79))]), o 81 (.append 3 t_r03_Token_2 32 (.t 73) (.t 80)), o 5 (.mv (.t 81))]
abbrev r03_Bench_p4 : List AG := [o 72 (.mv (.t 6)), o 2 (.nilrow 3 t_r03_Token_2), o 3 (.mv (.t 72)), o 4 (.mv (.c (.int .i64 2)))]
abbrev r03_Bench_p5 : ACode := (.seq (.reg r03_Bench_p4) .ret)
abbrev r03_Bench_p6 : List AG := [o 69 (.mv (.t 8)), o 70 (.mv (.t 6)), o 71 (.cmp .eql (.sc .int) (.t 69) (.t 70))]
abbrev r03_Bench_m7 : List Bool := [I,O,O,O,O,I,I,O,I,O,O,O,O,O,O,O,O,O,O,O,O,O,O,O,O,O,O,O,O,O,O,O,O,O,O,O,O,O,O,O,O,O,O,O,O,O,O,O,O,O,O,O,O,O,O,O,O,O,O,O,O,O,O,O,O,O,O,O,O,O,O,O,O,O,O,O,O,O,O,O,O,O,O,O]
abbrev r03_Bench_x7 : List Bool := [I,O,O,O,O,I,I,O,I,O,O,O,O,O,O,O,O,O,O,O,O,O,O,O,O,O,O,O,O,O,O,O,O,O,O,O,O,O,O,O,O,O,O,O,O,O,O,O,O,O,O,O,O,O,O,O,O,O,O,O,O,O,O,O,O,O,O,O,O,O,O,O,O,O,O,O,O,O,O,O,O,O,O,O]
abbrev r03_Bench_p8 : List AG := [o 67 (.mv (.t 8)), o 68 (.ibin .add (.t 67) (.c (.int .i64 1))), o 8 (.mv (.t 68))]
abbrev r03_Bench_p9 : List AG := [o 44 (.mv (.t 8)), o 45 (.mv (.t 0)), o 46 (.lenStr (.t 45)), o 47 (.cmp .lss (.sc .int) (.t 44) (.t 46)), o 48 (.mv (.t 47)), ⟨(some 49), (some (48, true)), .mv (.t 0)⟩, ⟨(some 50), (some (48, true)), .mv (.t 8)⟩, ⟨(some 51), (some (48, true)), .ixStr (.t 49) (.t 50)⟩, ⟨(some 52), (some (48, true)), .cmp .gtr (.sc .int) (.t 51) (.c (.int .u8 32))⟩, o 53 (.pick (.t 48) (.t 52) (.c (.bool false))), o 54 (.mv (.t 53)), ⟨(some 55), (some (54, true)), .mv (.t 0)⟩, ⟨(some 56), (some (54, true)), .mv (.t 8)⟩, ⟨(some 57), (some (54, true)), .ixStr (.t 55) (.t 56)⟩, ⟨(some 58), (some (54, true)), .cmp .lss (.sc .int) (.t 57) (.c (.int .u8 127))⟩, o 59 (.pick (.t 54) (.t 58) (.c (.bool false))), o 60 (.mv (.t 59)), ⟨(some 61), (some (60, true)), .mv (.t 0)⟩, ⟨(some 62), (some (60, true)), .mv (.t 8)⟩, ⟨(some 63), (some (60, true)), .ixStr (.t 61) (.t 62)⟩, ⟨(some 64), (some (60, true)), .call (.f n_r03_in) [(.t 63), (.c (.str [61, 40, 41, 44, 35]))]⟩, ⟨(some 65), (some (60, true)), .not (.t 64)⟩, o 66 (.pick (.t 60) (.t 65) (.c (.bool false)))]
abbrev r03_Bench_b7 : ACode := (.seq (.seq (.reg r03_Bench_p9) (.cond (.t 66) .skip (.exit 2))) (.block 3 [] (.reg r03_Bench_p8)))
abbrev r03_Bench_p10 : List AG := [o 43 (.mv (.t 6)), o 8 (.mv (.t 43))]
abbrev r03_Bench_p11 : List AG := [o 41 (.mv (.t 6)), o 42 (.ibin .add (.t 41) (.c (.int .i64 1))), o 6 (.mv (.t 42))]
abbrev r03_Bench_p12 : List AG := [o 31 (.mv (.t 5)), o 32 (.mv (.t 0)), o 33 (.mv (.t 6)), o 34 (.mv (.t 6)), o 35 (.ibin .add (.t 34) (.c (.int .i64 1))), o 36 (.sliceStr (.t 32) (some (.t 33)) (some (.t 35))), o 37 (.mv (.t 6)), o 38 (.build [(.int .i64 0), (.str []), (.int .i64 0)] [(0, 1, (.c (.int .i64 1))), (1, 1, (.t 36)), (2, 1, (.t 37))]), o 39 (.lit 3 [(.agg [(.int .i64 0), (.str []), (.int .i64 0)])] [(0, (.t 38))]), o 40 (.append 3 t_r03_Token_2 32 (.t 31) (.t 39)), o 5 (.mv (.t 40))]
abbrev r03_Bench_p13 : ACode := (.seq (.reg r03_Bench_p12) (.seq (.reg r03_Bench_p11) (.exit 1)))
abbrev r03_Bench_p14 : List AG := [o 29 (.mv (.t 7)), o 30 (.call (.f n_r03_in) [(.t 29), (.c (.str [61, 40, 41, 44]))])]
abbrev r03_Bench_p15 : List AG := [o 27 (.mv (.t 6)), o 28 (.ibin .add (.t 27) (.c (.int .i64 1))), o 6 (.mv (.t 28))]
abbrev r03_Bench_p16 : ACode := (.seq (.reg r03_Bench_p15) (.exit 1))
abbrev r03_Bench_p17 : List AG := [o 21 (.mv (.t 7)), o 22 (.call (.f n_r03_blank) [(.t 21)]), o 23 (.mv (.t 22)), ⟨(some 24), (some (23, false)), .mv (.t 7)⟩, ⟨(some 25), (some (23, false)), .cmp .eql (.sc .int) (.t 24) (.c (.int .u8 10))⟩, o 26 (.pick (.t 23) (.c (.bool true)) (.t 25))]
abbrev r03_Bench_p18 : List AG := [o 18 (.mv (.t 0)), o 19 (.mv (.t 6)), o 20 (.call (.f n_r03_line) [(.t 18), (.t 19)]), o 6 (.mv (.t 20))]
abbrev r03_Bench_p19 : ACode := (.seq (.reg r03_Bench_p18) (.exit 1))
abbrev r03_Bench_p20 : List AG := [o 16 (.mv (.t 7)), o 17 (.cmp .eql (.sc .int) (.t 16) (.c (.int .u8 35)))]
abbrev r03_Bench_p21 : List AG := [o 13 (.mv (.t 0)), o 14 (.mv (.t 6)), o 15 (.ixStr (.t 13) (.t 14)), o 7 (.mv (.t 15))]
abbrev r03_Bench_p22 : ACode := (.seq (.reg r03_Bench_p21) (.seq (.seq (.reg r03_Bench_p20) (.cond (.t 17) r03_Bench_p19 .skip)) (.seq (.seq (.reg r03_Bench_p17) (.cond (.t 26) r03_Bench_p16 .skip)) (.seq (.seq (.reg r03_Bench_p14) (.cond (.t 30) r03_Bench_p13 .skip)) (.seq (.reg r03_Bench_p10) (.seq (.block 2 r03_Bench_x7 (.loop r03_Bench_m7 r03_Bench_b7)) (.seq (.seq (.reg r03_Bench_p6) (.cond (.t 71) r03_Bench_p5 .skip)) (.seq (.reg r03_Bench_p3) (.reg r03_Bench_p2)))))))))
abbrev r03_Bench_p23 : List AG := [o 9 (.mv (.t 6)), o 10 (.mv (.t 0)), o 11 (.lenStr (.t 10)), o 12 (.cmp .lss (.sc .int) (.t 9) (.t 11))]
abbrev r03_Bench_b1 : ACode := (.seq (.seq (.reg r03_Bench_p23) (.cond (.t 12) .skip (.exit 0))) (.block 1 [] r03_Bench_p22))
abbrev r03_Bench_p24 : List AG := [o 6 (.mv (.c (.int .i64 0)))]
abbrev r03_Bench_p25 : List AG := [o 5 (.nilrow 3 t_r03_Token_2)]
abbrev r03_Bench_p26 : List AG := [o 2 (.nilrow 3 t_r03_Token_2), o 3 (.mv (.c (.int .i64 0))), o 4 (.mv (.c (.int .i64 0)))]
abbrev r03_Bench : AFun := ⟨(.seq (.reg r03_Bench_p26) (.seq (.reg r03_Bench_p25) (.seq (.reg r03_Bench_p24) (.seq (.block 0 r03_Bench_x1 (.loop r03_Bench_m1 r03_Bench_b1)) (.seq (.reg r03_Bench_p0) .ret))))), 84, [.tmp 2, .tmp 3, .tmp 4]⟩
abbrev r03_Bench_k7 : List It := [.code (.seq (.seq (.reg r03_Bench_p6) (.cond (.t 71) r03_Bench_p5 .skip)) (.seq (.reg r03_Bench_p3) (.reg r03_Bench_p2))), .inBlock 1 [], .inLoop r03_Bench_m1 r03_Bench_b1, .inBlock 0 r03_Bench_x1, .code (.seq (.reg r03_Bench_p0) .ret)]
abbrev r03_Bench_L7 (x0 x5 x6 x8 : AV) (h : List Ob) (e : Cx := cx) : Cfg := atC n_r03_Bench (.code r03_Bench_b7 :: .inLoop r03_Bench_m7 r03_Bench_b7 :: .inBlock 2 r03_Bench_x7 :: r03_Bench_k7) [x0,U,U,U,U,x5,x6,U,x8,U,U,U,U,U,U,U,U,U,U,U,U,U,U,U,U,U,U,U,U,U,U,U,U,U,U,U,U,U,U,U,U,U,U,U,U,U,U,U,U,U,U,U,U,U,U,U,U,U,U,U,U,U,U,U,U,U,U,U,U,U,U,U,U,U,U,U,U,U,U,U,U,U,U,U] h e
abbrev r03_Bench_E7 (x0 x5 x6 x8 : AV) (h : List Ob) (e : Cx := cx) : Cfg := atC n_r03_Bench r03_Bench_k7 [x0,U,U,U,U,x5,x6,U,x8,U,U,U,U,U,U,U,U,U,U,U,U,U,U,U,U,U,U,U,U,U,U,U,U,U,U,U,U,U,U,U,U,U,U,U,U,U,U,U,U,U,U,U,U,U,U,U,U,U,U,U,U,U,U,U,U,U,U,U,U,U,U,U,U,U,U,U,U,U,U,U,U,U,U,U] h e
abbrev r03_Bench_k1 : List It := [.code (.seq (.reg r03_Bench_p0) .ret)]
abbrev r03_Bench_L1 (x0 x5 x6 : AV) (h : List Ob) (e : Cx := cx) : Cfg := atC n_r03_Bench (.code r03_Bench_b1 :: .inLoop r03_Bench_m1 r03_Bench_b1 :: .inBlock 0 r03_Bench_x1 :: r03_Bench_k1) [x0,U,U,U,U,x5,x6,U,U,U,U,U,U,U,U,U,U,U,U,U,U,U,U,U,U,U,U,U,U,U,U,U,U,U,U,U,U,U,U,U,U,U,U,U,U,U,U,U,U,U,U,U,U,U,U,U,U,U,U,U,U,U,U,U,U,U,U,U,U,U,U,U,U,U,U,U,U,U,U,U,U,U,U,U] h e
abbrev r03_Bench_E1 (x5 : AV) (h : List Ob) (e : Cx := cx) : Cfg := atC n_r03_Bench r03_Bench_k1 [U,U,U,U,U,x5,U,U,U,U,U,U,U,U,U,U,U,U,U,U,U,U,U,U,U,U,U,U,U,U,U,U,U,U,U,U,U,U,U,U,U,U,U,U,U,U,U,U,U,U,U,U,U,U,U,U,U,U,U,U,U,U,U,U,U,U,U,U,U,U,U,U,U,U,U,U,U,U,U,U,U,U,U,U] h e
@[simp] theorem c_r03_Bench : cfun Try.prog n_r03_Bench = some r03_Bench := by kernel_rfl
@[simp] theorem e_r03_Bench : hasBody Try.prog n_r03_Bench = true := by kernel_rfl

/- r03_Same: patchbay/patchbayref03.Same -/
abbrev r03_Same_p0 : List AG := [o 4 (.mv (.c (.bool true)))]
abbrev r03_Same_m1 : List Bool := [I,I,O,O,O,I,O,O,O,O,O,O,O,O,O,O,O,O,O,O,O,O,O,O,O,O]
abbrev r03_Same_x1 : List Bool := [O,O,O,O,O,O,O,O,O,O,O,O,O,O,O,O,O,O,O,O,O,O,O,O,O,O]
abbrev r03_Same_p2 : List AG := [o 15 (.mv (.t 5)), o 16 (.ibin .add (.t 15) (.c (.int .i64 1))), o 5 (.mv (.t 16))]
abbrev r03_Same_p3 : List AG := [o 4 (.mv (.c (.bool false)))]
abbrev r03_Same_p4 : ACode := (.seq (.reg r03_Same_p3) .ret)
abbrev r03_Same_p5 : List AG := [o 17 (.mv (.t 0)), o 18 (.mv (.t 5)), o 19 (.ixAddr 3 (.t 17) (.t 18)), o 20 (.load true 3 (.t 19)), o 21 (.mv (.t 1)), o 22 (.mv (.t 5)), o 23 (.ixAddr 3 (.t 21) (.t 22)), o 24 (.load true 3 (.t 23)), o 25 (.cmp .neq (.strct [.int, .str, .int]) (.t 20) (.t 24))]
abbrev r03_Same_p6 : ACode := (.seq (.dreg [O,O,O,O,O,O,O,O,O] r03_Same_p5) (.cond (.t 25) r03_Same_p4 .skip))
abbrev r03_Same_p7 : List AG := [o 11 (.mv (.t 5)), o 12 (.mv (.t 0)), o 13 (.len (.t 12)), o 14 (.cmp .lss (.sc .int) (.t 11) (.t 13))]
abbrev r03_Same_b1 : ACode := (.seq (.seq (.reg r03_Same_p7) (.cond (.t 14) .skip (.exit 0))) (.seq (.block 1 [] r03_Same_p6) (.reg r03_Same_p2)))
abbrev r03_Same_p8 : List AG := [o 5 (.mv (.c (.int .i64 0)))]
abbrev r03_Same_p9 : List AG := [o 4 (.mv (.c (.bool false)))]
abbrev r03_Same_p10 : ACode := (.seq (.reg r03_Same_p9) .ret)
abbrev r03_Same_p11 : List AG := [o 6 (.mv (.t 0)), o 7 (.len (.t 6)), o 8 (.mv (.t 1)), o 9 (.len (.t 8)), o 10 (.cmp .neq (.sc .int) (.t 7) (.t 9))]
abbrev r03_Same_p12 : List AG := [o 4 (.mv (.c (.bool false)))]
abbrev r03_Same : AFun := ⟨(.seq (.reg r03_Same_p12) (.seq (.seq (.reg r03_Same_p11) (.cond (.t 10) r03_Same_p10 .skip)) (.seq (.seq (.reg r03_Same_p8) (.block 0 r03_Same_x1 (.loop r03_Same_m1 r03_Same_b1))) (.seq (.reg r03_Same_p0) .ret)))), 26, [.tmp 4]⟩
abbrev r03_Same_k1 : List It := [.code (.seq (.reg r03_Same_p0) .ret)]
abbrev r03_Same_L1 (x0 x1 x5 : AV) (h : List Ob) (e : Cx := cx) : Cfg := atC n_r03_Same (.code r03_Same_b1 :: .inLoop r03_Same_m1 r03_Same_b1 :: .inBlock 0 r03_Same_x1 :: r03_Same_k1) [x0,x1,U,U,U,x5,U,U,U,U,U,U,U,U,U,U,U,U,U,U,U,U,U,U,U,U] h e
abbrev r03_Same_E1 (h : List Ob) (e : Cx := cx) : Cfg := atC n_r03_Same r03_Same_k1 [U,U,U,U,U,U,U,U,U,U,U,U,U,U,U,U,U,U,U,U,U,U,U,U,U,U] h e
@[simp] theorem c_r03_Same : cfun Try.prog n_r03_Same = some r03_Same := by kernel_rfl
@[simp] theorem e_r03_Same : hasBody Try.prog n_r03_Same = true := by kernel_rfl

/- w03_Of: patchbay/patchbaylaw03.Of -/
abbrev w03_Of_p0 : List AG := [o 30 (.mv (.t 3)), o 2 (.mv (.t 30))]
abbrev w03_Of_m1 : List Bool := [I,O,O,I,I,O,O,O,O,O,O,O,O,O,O,O,O,O,O,O,O,O,O,O,O,O,O,O,O,O,O]
abbrev w03_Of_x1 : List Bool := [O,O,O,I,O,O,O,O,O,O,O,O,O,O,O,O,O,O,O,O,O,O,O,O,O,O,O,O,O,O,O]
abbrev w03_Of_p2 : List AG := [o 9 (.mv (.t 4)), o 10 (.ibin .add (.t 9) (.c (.int .i64 1))), o 4 (.mv (.t 10))]
abbrev w03_Of_p3 : List AG := [o 11 (.mv (.t 3)), o 12 (.mv (.t 0)), o 13 (.mv (.t 4)), o 14 (.ixAddr 3 (.t 12) (.t 13)), o 15 (.off 0 (.t 14)), o 16 (.load false 1 (.t 15)), o 17 (.mv (.t 0)), o 18 (.mv (.t 4)), o 19 (.ixAddr 3 (.t 17) (.t 18)), o 20 (.off 1 (.t 19)), o 21 (.load false 1 (.t 20)), o 22 (.mv (.t 0)), o 23 (.mv (.t 4)), o 24 (.ixAddr 3 (.t 22) (.t 23)), o 25 (.off 2 (.t 24)), o 26 (.load false 1 (.t 25)), o 27 (.build [(.int .i64 0), (.str []), (.int .i64 0)] [(0, 1, (.t 16)), (1, 1, (.t 21)), (2, 1, (.t 26))]), o 28 (.lit 3 [(.agg [(.int .i64 0), (.str []), (.int .i64 0)])] [(0, (.t 27))]), o 29 (.append 3 t_r03_Token_2 32 (.t 11) (.t 28)), o 3 (.mv (.t 29))]
abbrev w03_Of_p4 : List AG := [o 5 (.mv (.t 4)), o 6 (.mv (.t 0)), o 7 (.len (.t 6)), o 8 (.cmp .lss (.sc .int) (.t 5) (.t 7))]
abbrev w03_Of_b1 : ACode := (.seq (.seq (.reg w03_Of_p4) (.cond (.t 8) .skip (.exit 0))) (.seq (.block 1 [] (.dreg [O,O,O,O,O,O,O,O,O,O,O,O,O,O,O,O,O,O,O,O] w03_Of_p3)) (.reg w03_Of_p2)))
abbrev w03_Of_p5 : List AG := [o 4 (.mv (.c (.int .i64 0)))]
abbrev w03_Of_p6 : List AG := [o 3 (.nilrow 3 t_r03_Token_2)]
abbrev w03_Of_p7 : List AG := [o 2 (.nilrow 3 t_r03_Token_2)]
abbrev w03_Of : AFun := ⟨(.seq (.reg w03_Of_p7) (.seq (.reg w03_Of_p6) (.seq (.seq (.reg w03_Of_p5) (.block 0 w03_Of_x1 (.loop w03_Of_m1 w03_Of_b1))) (.seq (.reg w03_Of_p0) .ret)))), 31, [.tmp 2]⟩
abbrev w03_Of_k1 : List It := [.code (.seq (.reg w03_Of_p0) .ret)]
abbrev w03_Of_L1 (x0 x3 x4 : AV) (h : List Ob) (e : Cx := cx) : Cfg := atC n_w03_Of (.code w03_Of_b1 :: .inLoop w03_Of_m1 w03_Of_b1 :: .inBlock 0 w03_Of_x1 :: w03_Of_k1) [x0,U,U,x3,x4,U,U,U,U,U,U,U,U,U,U,U,U,U,U,U,U,U,U,U,U,U,U,U,U,U,U] h e
abbrev w03_Of_E1 (x3 : AV) (h : List Ob) (e : Cx := cx) : Cfg := atC n_w03_Of w03_Of_k1 [U,U,U,x3,U,U,U,U,U,U,U,U,U,U,U,U,U,U,U,U,U,U,U,U,U,U,U,U,U,U,U] h e
@[simp] theorem c_w03_Of : cfun Try.prog n_w03_Of = some w03_Of := by kernel_rfl
@[simp] theorem e_w03_Of : hasBody Try.prog n_w03_Of = true := by kernel_rfl

/- r01_Texts: patchbay/patchbayref01.Texts -/
abbrev r01_Texts_p0 : List AG := [o 4 (.mv (.c (.bool true)))]
abbrev r01_Texts_m1 : List Bool := [I,I,O,O,O,I,O,O,O,O,O,O,O,O,O,O,O,O,O,O,O,O,O,O,O,O]
abbrev r01_Texts_x1 : List Bool := [O,O,O,O,O,O,O,O,O,O,O,O,O,O,O,O,O,O,O,O,O,O,O,O,O,O]
abbrev r01_Texts_p2 : List AG := [o 15 (.mv (.t 5)), o 16 (.ibin .add (.t 15) (.c (.int .i64 1))), o 5 (.mv (.t 16))]
abbrev r01_Texts_p3 : List AG := [o 4 (.mv (.c (.bool false)))]
abbrev r01_Texts_p4 : ACode := (.seq (.reg r01_Texts_p3) .ret)
abbrev r01_Texts_p5 : List AG := [o 17 (.mv (.t 0)), o 18 (.mv (.t 5)), o 19 (.ixAddr 1 (.t 17) (.t 18)), o 20 (.load false 1 (.t 19)), o 21 (.mv (.t 1)), o 22 (.mv (.t 5)), o 23 (.ixAddr 1 (.t 21) (.t 22)), o 24 (.load false 1 (.t 23)), o 25 (.cmp .neq (.sc .str) (.t 20) (.t 24))]
abbrev r01_Texts_p6 : ACode := (.seq (.dreg [O,O,O,O,O,O,O,O,O] r01_Texts_p5) (.cond (.t 25) r01_Texts_p4 .skip))
abbrev r01_Texts_p7 : List AG := [o 11 (.mv (.t 5)), o 12 (.mv (.t 0)), o 13 (.len (.t 12)), o 14 (.cmp .lss (.sc .int) (.t 11) (.t 13))]
abbrev r01_Texts_b1 : ACode := (.seq (.seq (.reg r01_Texts_p7) (.cond (.t 14) .skip (.exit 0))) (.seq (.block 1 [] r01_Texts_p6) (.reg r01_Texts_p2)))
abbrev r01_Texts_p8 : List AG := [o 5 (.mv (.c (.int .i64 0)))]
abbrev r01_Texts_p9 : List AG := [o 4 (.mv (.c (.bool false)))]
abbrev r01_Texts_p10 : ACode := (.seq (.reg r01_Texts_p9) .ret)
abbrev r01_Texts_p11 : List AG := [o 6 (.mv (.t 0)), o 7 (.len (.t 6)), o 8 (.mv (.t 1)), o 9 (.len (.t 8)), o 10 (.cmp .neq (.sc .int) (.t 7) (.t 9))]
abbrev r01_Texts_p12 : List AG := [o 4 (.mv (.c (.bool false)))]
abbrev r01_Texts : AFun := ⟨(.seq (.reg r01_Texts_p12) (.seq (.seq (.reg r01_Texts_p11) (.cond (.t 10) r01_Texts_p10 .skip)) (.seq (.seq (.reg r01_Texts_p8) (.block 0 r01_Texts_x1 (.loop r01_Texts_m1 r01_Texts_b1))) (.seq (.reg r01_Texts_p0) .ret)))), 26, [.tmp 4]⟩
abbrev r01_Texts_k1 : List It := [.code (.seq (.reg r01_Texts_p0) .ret)]
abbrev r01_Texts_L1 (x0 x1 x5 : AV) (h : List Ob) (e : Cx := cx) : Cfg := atC n_r01_Texts (.code r01_Texts_b1 :: .inLoop r01_Texts_m1 r01_Texts_b1 :: .inBlock 0 r01_Texts_x1 :: r01_Texts_k1) [x0,x1,U,U,U,x5,U,U,U,U,U,U,U,U,U,U,U,U,U,U,U,U,U,U,U,U] h e
abbrev r01_Texts_E1 (h : List Ob) (e : Cx := cx) : Cfg := atC n_r01_Texts r01_Texts_k1 [U,U,U,U,U,U,U,U,U,U,U,U,U,U,U,U,U,U,U,U,U,U,U,U,U,U] h e
@[simp] theorem c_r01_Texts : cfun Try.prog n_r01_Texts = some r01_Texts := by kernel_rfl
@[simp] theorem e_r01_Texts : hasBody Try.prog n_r01_Texts = true := by kernel_rfl

/- token_Texts: patchbay/token.Texts -/
abbrev token_Texts_p0 : List AG := [o 18 (.mv (.t 3)), o 2 (.mv (.t 18))]
abbrev token_Texts_m1 : List Bool := [O,O,O,I,O,O,I,I,I,O,O,O,O,O,O,O,O,O,O]
abbrev token_Texts_x1 : List Bool := [O,O,O,I,O,O,O,O,O,O,O,O,O,O,O,O,O,O,O]
abbrev token_Texts_p2 : List AG := [o 17 (.ibin .add (.t 8) (.c (.int .i64 1))), o 8 (.mv (.t 17))]
abbrev token_Texts_p3 : List AG := [o 12 (.mv (.t 3)), o 13 (.off 1 (.t 5)), o 14 (.load false 1 (.t 13)), o 15 (.lit 1 [(.str [])] [(0, (.t 14))]), o 16 (.append 1 t_string 16 (.t 12) (.t 15)), o 3 (.mv (.t 16))]
abbrev token_Texts_p4 : List AG := [o 10 (.ixAddr 3 (.t 6) (.t 8)), o 11 (.load true 3 (.t 10)), o 5 (.alloc [(.int .i64 0), (.str []), (.int .i64 0)]), q (.store 3 (.t 5) (.t 11))]
abbrev token_Texts_p5 : ACode := (.seq (.reg token_Texts_p4) (.reg token_Texts_p3))
abbrev token_Texts_p6 : List AG := [o 9 (.cmp .lss (.sc .int) (.t 8) (.t 7))]
abbrev token_Texts_b1 : ACode := (.seq (.reg token_Texts_p6) (.seq (.cond (.t 9) .skip (.exit 0)) (.seq (.block 1 [] token_Texts_p5) (.reg token_Texts_p2))))
abbrev token_Texts_p7 : List AG := [o 6 (.mv (.t 0)), o 7 (.len (.t 6)), o 8 (.mv (.c (.int .i64 0)))]
abbrev token_Texts_p8 : List AG := [o 3 (.nilrow 1 t_string)]
abbrev token_Texts_p9 : List AG := [o 2 (.nilrow 1 t_string)]
abbrev token_Texts : AFun := ⟨(.seq (.reg token_Texts_p9) (.seq (.reg token_Texts_p8) (.seq (.seq (.reg token_Texts_p7) (.block 0 token_Texts_x1 (.loop token_Texts_m1 token_Texts_b1))) (.seq (.reg token_Texts_p0) .ret)))), 19, [.tmp 2]⟩
abbrev token_Texts_k1 : List It := [.code (.seq (.reg token_Texts_p0) .ret)]
abbrev token_Texts_L1 (x3 x6 x7 x8 : AV) (h : List Ob) (e : Cx := cx) : Cfg := atC n_token_Texts (.code token_Texts_b1 :: .inLoop token_Texts_m1 token_Texts_b1 :: .inBlock 0 token_Texts_x1 :: token_Texts_k1) [U,U,U,x3,U,U,x6,x7,x8,U,U,U,U,U,U,U,U,U,U] h e
abbrev token_Texts_E1 (x3 : AV) (h : List Ob) (e : Cx := cx) : Cfg := atC n_token_Texts token_Texts_k1 [U,U,U,x3,U,U,U,U,U,U,U,U,U,U,U,U,U,U,U] h e
@[simp] theorem c_token_Texts : cfun Try.prog n_token_Texts = some token_Texts := by kernel_rfl
@[simp] theorem e_token_Texts : hasBody Try.prog n_token_Texts = true := by kernel_rfl

/- r03_Texts: patchbay/patchbayref03.Texts -/
abbrev r03_Texts_p0 : List AG := [o 19 (.mv (.t 3)), o 2 (.mv (.t 19))]
abbrev r03_Texts_m1 : List Bool := [I,O,O,I,I,O,O,O,O,O,O,O,O,O,O,O,O,O,O,O]
abbrev r03_Texts_x1 : List Bool := [O,O,O,I,O,O,O,O,O,O,O,O,O,O,O,O,O,O,O,O]
abbrev r03_Texts_p2 : List AG := [o 9 (.mv (.t 4)), o 10 (.ibin .add (.t 9) (.c (.int .i64 1))), o 4 (.mv (.t 10))]
abbrev r03_Texts_p3 : List AG := [o 11 (.mv (.t 3)), o 12 (.mv (.t 0)), o 13 (.mv (.t 4)), o 14 (.ixAddr 3 (.t 12) (.t 13)), o 15 (.off 1 (.t 14)), o 16 (.load false 1 (.t 15)), o 17 (.lit 1 [(.str [])] [(0, (.t 16))]), o 18 (.append 1 t_string 16 (.t 11) (.t 17)), o 3 (.mv (.t 18))]
abbrev r03_Texts_p4 : List AG := [o 5 (.mv (.t 4)), o 6 (.mv (.t 0)), o 7 (.len (.t 6)), o 8 (.cmp .lss (.sc .int) (.t 5) (.t 7))]
abbrev r03_Texts_b1 : ACode := (.seq (.seq (.reg r03_Texts_p4) (.cond (.t 8) .skip (.exit 0))) (.seq (.block 1 [] (.reg r03_Texts_p3)) (.reg r03_Texts_p2)))
abbrev r03_Texts_p5 : List AG := [o 4 (.mv (.c (.int .i64 0)))]
abbrev r03_Texts_p6 : List AG := [o 3 (.nilrow 1 t_string)]
abbrev r03_Texts_p7 : List AG := [o 2 (.nilrow 1 t_string)]
abbrev r03_Texts : AFun := ⟨(.seq (.reg r03_Texts_p7) (.seq (.reg r03_Texts_p6) (.seq (.seq (.reg r03_Texts_p5) (.block 0 r03_Texts_x1 (.loop r03_Texts_m1 r03_Texts_b1))) (.seq (.reg r03_Texts_p0) .ret)))), 20, [.tmp 2]⟩
abbrev r03_Texts_k1 : List It := [.code (.seq (.reg r03_Texts_p0) .ret)]
abbrev r03_Texts_L1 (x0 x3 x4 : AV) (h : List Ob) (e : Cx := cx) : Cfg := atC n_r03_Texts (.code r03_Texts_b1 :: .inLoop r03_Texts_m1 r03_Texts_b1 :: .inBlock 0 r03_Texts_x1 :: r03_Texts_k1) [x0,U,U,x3,x4,U,U,U,U,U,U,U,U,U,U,U,U,U,U,U] h e
abbrev r03_Texts_E1 (x3 : AV) (h : List Ob) (e : Cx := cx) : Cfg := atC n_r03_Texts r03_Texts_k1 [U,U,U,x3,U,U,U,U,U,U,U,U,U,U,U,U,U,U,U,U] h e
@[simp] theorem c_r03_Texts : cfun Try.prog n_r03_Texts = some r03_Texts := by kernel_rfl
@[simp] theorem e_r03_Texts : hasBody Try.prog n_r03_Texts = true := by kernel_rfl

/- token_Same: patchbay/token.Same -/
abbrev token_Same_p0 : List AG := [o 5 (.mv (.t 0)), o 6 (.mv (.t 1)), o 7 (.call (.f n_slices_Equal_token_Token_token_Token) [(.t 5), (.t 6)]), o 4 (.mv (.t 7))]
abbrev token_Same_p1 : List AG := [o 4 (.mv (.c (.bool false)))]
abbrev token_Same : AFun := ⟨(.seq (.reg token_Same_p1) (.seq (.reg token_Same_p0) .ret)), 8, [.tmp 4]⟩
@[simp] theorem c_token_Same : cfun Try.prog n_token_Same = some token_Same := by kernel_rfl
@[simp] theorem e_token_Same : hasBody Try.prog n_token_Same = true := by kernel_rfl

/- token_Blif: patchbay/token.Blif -/
abbrev token_Blif_p0 : List AG := [o 51 (.mv (.t 6)), o 2 (.mv (.t 51))]
abbrev token_Blif_m1 : List Bool := [O,O,O,I,O,O,I,O,O,O,O,O,O,O,O,O,O,O,O,O,O,O,O,I,I,I,O,O,O,O,O,O,O,O,O,O,O,O,O,O,O,O,O,O,O,O,O,O,O,O,O,O]
abbrev token_Blif_x1 : List Bool := [O,O,O,O,O,O,I,O,O,O,O,O,O,O,O,O,O,O,O,O,O,O,O,O,O,O,O,O,O,O,O,O,O,O,O,O,O,O,O,O,O,O,O,O,O,O,O,O,O,O,O,O]
abbrev token_Blif_p2 : List AG := [o 50 (.ibin .add (.t 25) (.c (.int .i64 1))), o 25 (.mv (.t 50))]
abbrev token_Blif_p3 : List AG := [o 46 (.mv (.t 6)), o 47 (.load true 3 (.t 8)), o 48 (.lit 3 [(.agg [(.int .i64 0), (.str []), (.int .i64 0)])] [(0, (.t 47))]), o 49 (.append 3 t_token_Token_2 32 (.t 46) (.t 48)), o 6 (.mv (.t 49))]
abbrev token_Blif_p4 : List AG := [o 30 (.off 0 (.t 8)), o 31 (.load false 1 (.t 30)), o 32 (.cmp .neq (.sc .int) (.t 31) (.c (.int .i64 3))), o 33 (.mv (.t 32)), ⟨(some 34), (some (33, false)), .mv (.t 7)⟩, ⟨(some 35), (some (33, false)), .cmp .gtr (.sc .int) (.t 34) (.c (.int .i64 0))⟩, ⟨(some 36), (some (33, false)), .mv (.t 35)⟩, ⟨(some 37), (some (36, true)), .mv (.t 3)⟩, ⟨(some 38), (some (36, true)), .mv (.t 7)⟩, ⟨(some 39), (some (36, true)), .ibin .sub (.t 38) (.c (.int .i64 1))⟩, ⟨(some 40), (some (36, true)), .ixAddr 3 (.t 37) (.t 39)⟩, ⟨(some 41), (some (36, true)), .off 0 (.t 40)⟩, ⟨(some 42), (some (36, true)), .load false 1 (.t 41)⟩, ⟨(some 43), (some (36, true)), .cmp .neq (.sc .int) (.t 42) (.c (.int .i64 3))⟩, ⟨(some 44), (some (33, false)), .pick (.t 36) (.t 43) (.c (.bool false))⟩, o 45 (.pick (.t 33) (.c (.bool true)) (.t 44))]
abbrev token_Blif_p5 : List AG := [o 27 (.mv (.t 25)), o 28 (.ixAddr 3 (.t 23) (.t 25)), o 29 (.load true 3 (.t 28)), o 8 (.alloc [(.int .i64 0), (.str []), (.int .i64 0)]), o 7 (.mv (.t 27)), q (.store 3 (.t 8) (.t 29))]
abbrev token_Blif_p6 : ACode := (.seq (.reg token_Blif_p5) (.seq (.reg token_Blif_p4) (.cond (.t 45) (.reg token_Blif_p3) .skip)))
abbrev token_Blif_p7 : List AG := [o 26 (.cmp .lss (.sc .int) (.t 25) (.t 24))]
abbrev token_Blif_b1 : ACode := (.seq (.reg token_Blif_p7) (.seq (.cond (.t 26) .skip (.exit 0)) (.seq (.block 1 [] token_Blif_p6) (.reg token_Blif_p2))))
abbrev token_Blif_p8 : List AG := [o 23 (.mv (.t 3)), o 24 (.len (.t 23)), o 25 (.mv (.c (.int .i64 0)))]
abbrev token_Blif_p9 : List AG := [o 6 (.nilrow 3 t_token_Token_2)]
abbrev token_Blif_p10 : List AG := [o 17 (.mv (.t 3)), o 18 (.mv (.t 0)), o 19 (.lenStr (.t 18)), o 20 (.build [(.int .i64 0), (.str []), (.int .i64 0)] [(0, 1, (.c (.int .i64 3))), (2, 1, (.t 19))]), o 21 (.lit 3 [(.agg [(.int .i64 0), (.str []), (.int .i64 0)])] [(0, (.t 20))]), o 22 (.append 3 t_token_Token_2 32 (.t 17) (.t 21)), o 3 (.mv (.t 22))]
abbrev token_Blif_p11 : List AG := [o 10 (.build [] []), o 11 (.mkIface t_token_blif (.t 10)), o 12 (.mv (.t 0)), o 13 (.call (.f n_token_all) [(.t 11), (.t 12)]), o 9 (.mv (.t 13)), o 14 (.extract (.t 9) 0), o 15 (.extract (.t 9) 1), o 16 (.extract (.t 9) 2), o 3 (.mv (.t 14)), o 4 (.mv (.t 15)), o 5 (.mv (.t 16))]
abbrev token_Blif_p12 : List AG := [o 2 (.nilrow 3 t_token_Token_2)]
abbrev token_Blif : AFun := ⟨(.seq (.reg token_Blif_p12) (.seq (.reg token_Blif_p11) (.seq (.reg token_Blif_p10) (.seq (.reg token_Blif_p9) (.seq (.seq (.reg token_Blif_p8) (.block 0 token_Blif_x1 (.loop token_Blif_m1 token_Blif_b1))) (.seq (.reg token_Blif_p0) .ret)))))), 52, [.tmp 2]⟩
abbrev token_Blif_k1 : List It := [.code (.seq (.reg token_Blif_p0) .ret)]
abbrev token_Blif_L1 (x3 x6 x23 x24 x25 : AV) (h : List Ob) (e : Cx := cx) : Cfg := atC n_token_Blif (.code token_Blif_b1 :: .inLoop token_Blif_m1 token_Blif_b1 :: .inBlock 0 token_Blif_x1 :: token_Blif_k1) [U,U,U,x3,U,U,x6,U,U,U,U,U,U,U,U,U,U,U,U,U,U,U,U,x23,x24,x25,U,U,U,U,U,U,U,U,U,U,U,U,U,U,U,U,U,U,U,U,U,U,U,U,U,U] h e
abbrev token_Blif_E1 (x6 : AV) (h : List Ob) (e : Cx := cx) : Cfg := atC n_token_Blif token_Blif_k1 [U,U,U,U,U,U,x6,U,U,U,U,U,U,U,U,U,U,U,U,U,U,U,U,U,U,U,U,U,U,U,U,U,U,U,U,U,U,U,U,U,U,U,U,U,U,U,U,U,U,U,U,U] h e
@[simp] theorem c_token_Blif : cfun Try.prog n_token_Blif = some token_Blif := by kernel_rfl
@[simp] theorem e_token_Blif : hasBody Try.prog n_token_Blif = true := by kernel_rfl

/- token_Verilog: patchbay/token.Verilog -/
abbrev token_Verilog_p0 : List AG := [o 5 (.build [] []), o 6 (.mkIface t_token_verilog (.t 5)), o 7 (.mv (.t 0)), o 8 (.call (.f n_token_all) [(.t 6), (.t 7)]), o 9 (.extract (.t 8) 0), o 10 (.extract (.t 8) 1), o 11 (.extract (.t 8) 2), o 2 (.mv (.t 9)), o 3 (.mv (.t 10)), o 4 (.mv (.t 11))]
abbrev token_Verilog_p1 : List AG := [o 2 (.nilrow 3 t_token_Token_2), o 3 (.mv (.c (.int .i64 0))), o 4 (.mv (.c (.int .i64 0)))]
abbrev token_Verilog : AFun := ⟨(.seq (.reg token_Verilog_p1) (.seq (.reg token_Verilog_p0) .ret)), 12, [.tmp 2, .tmp 3, .tmp 4]⟩
@[simp] theorem c_token_Verilog : cfun Try.prog n_token_Verilog = some token_Verilog := by kernel_rfl
@[simp] theorem e_token_Verilog : hasBody Try.prog n_token_Verilog = true := by kernel_rfl

/- w03_spaced: patchbay/patchbaylaw03.spaced -/
abbrev w03_spaced_p0 : List AG := [o 35 (.mv (.t 3)), o 2 (.mv (.t 35))]
abbrev w03_spaced_m1 : List Bool := [I,O,O,I,I,O,O,O,O,O,O,O,O,O,O,O,O,O,O,O,O,O,O,O,O,O,O,O,O,O,O,O,O,O,O,O]
abbrev w03_spaced_x1 : List Bool := [O,O,O,I,O,O,O,O,O,O,O,O,O,O,O,O,O,O,O,O,O,O,O,O,O,O,O,O,O,O,O,O,O,O,O,O]
abbrev w03_spaced_p2 : List AG := [o 9 (.mv (.t 4)), o 10 (.ibin .add (.t 9) (.c (.int .i64 1))), o 4 (.mv (.t 10))]
abbrev w03_spaced_p3 : List AG := [o 27 (.mv (.t 3)), o 28 (.mv (.t 0)), o 29 (.mv (.t 4)), o 30 (.ixAddr 3 (.t 28) (.t 29)), o 31 (.off 1 (.t 30)), o 32 (.load false 1 (.t 31)), o 33 (.concat (.t 27) (.t 32)), o 34 (.concat (.t 33) (.c (.str [32]))), o 3 (.mv (.t 34))]
abbrev w03_spaced_p4 : List AG := [o 25 (.mv (.t 3)), o 26 (.concat (.t 25) (.c (.str [10]))), o 3 (.mv (.t 26))]
abbrev w03_spaced_p5 : List AG := [o 19 (.mv (.t 0)), o 20 (.mv (.t 4)), o 21 (.ixAddr 3 (.t 19) (.t 20)), o 22 (.off 0 (.t 21)), o 23 (.load false 1 (.t 22)), o 24 (.cmp .eql (.sc .int) (.t 23) (.c (.int .i64 3)))]
abbrev w03_spaced_p6 : List AG := [o 17 (.mv (.t 3)), o 18 (.concat (.t 17) (.c (.str [92]))), o 3 (.mv (.t 18))]
abbrev w03_spaced_p7 : List AG := [o 11 (.mv (.t 0)), o 12 (.mv (.t 4)), o 13 (.ixAddr 3 (.t 11) (.t 12)), o 14 (.off 0 (.t 13)), o 15 (.load false 1 (.t 14)), o 16 (.cmp .eql (.sc .int) (.t 15) (.c (.int .i64 2)))]
abbrev w03_spaced_p8 : ACode := (.seq (.seq (.reg w03_spaced_p7) (.cond (.t 16) (.reg w03_spaced_p6) .skip)) (.seq (.seq (.reg w03_spaced_p5) (.cond (.t 24) (.reg w03_spaced_p4) .skip)) (.reg w03_spaced_p3)))
abbrev w03_spaced_p9 : List AG := [o 5 (.mv (.t 4)), o 6 (.mv (.t 0)), o 7 (.len (.t 6)), o 8 (.cmp .lss (.sc .int) (.t 5) (.t 7))]
abbrev w03_spaced_b1 : ACode := (.seq (.seq (.reg w03_spaced_p9) (.cond (.t 8) .skip (.exit 0))) (.seq (.block 1 [] w03_spaced_p8) (.reg w03_spaced_p2)))
abbrev w03_spaced_p10 : List AG := [o 4 (.mv (.c (.int .i64 0)))]
abbrev w03_spaced_p11 : List AG := [o 3 (.mv (.c (.str [])))]
abbrev w03_spaced_p12 : List AG := [o 2 (.mv (.c (.str [])))]
abbrev w03_spaced : AFun := ⟨(.seq (.reg w03_spaced_p12) (.seq (.reg w03_spaced_p11) (.seq (.seq (.reg w03_spaced_p10) (.block 0 w03_spaced_x1 (.loop w03_spaced_m1 w03_spaced_b1))) (.seq (.reg w03_spaced_p0) .ret)))), 36, [.tmp 2]⟩
abbrev w03_spaced_k1 : List It := [.code (.seq (.reg w03_spaced_p0) .ret)]
abbrev w03_spaced_L1 (x0 x3 x4 : AV) (h : List Ob) (e : Cx := cx) : Cfg := atC n_w03_spaced (.code w03_spaced_b1 :: .inLoop w03_spaced_m1 w03_spaced_b1 :: .inBlock 0 w03_spaced_x1 :: w03_spaced_k1) [x0,U,U,x3,x4,U,U,U,U,U,U,U,U,U,U,U,U,U,U,U,U,U,U,U,U,U,U,U,U,U,U,U,U,U,U,U] h e
abbrev w03_spaced_E1 (x3 : AV) (h : List Ob) (e : Cx := cx) : Cfg := atC n_w03_spaced w03_spaced_k1 [U,U,U,x3,U,U,U,U,U,U,U,U,U,U,U,U,U,U,U,U,U,U,U,U,U,U,U,U,U,U,U,U,U,U,U,U] h e
@[simp] theorem c_w03_spaced : cfun Try.prog n_w03_spaced = some w03_spaced := by kernel_rfl
@[simp] theorem e_w03_spaced : hasBody Try.prog n_w03_spaced = true := by kernel_rfl

/- w03_kinds: patchbay/patchbaylaw03.kinds -/
abbrev w03_kinds_p0 : List AG := [o 4 (.mv (.c (.bool true)))]
abbrev w03_kinds_m1 : List Bool := [I,I,O,O,O,I,O,O,O,O,O,O,O,O,O,O,O,O,O,O,O,O,O,O,O,O,O,O,O,O,O,O,O,O,O,O,O,O,O,O,O]
abbrev w03_kinds_x1 : List Bool := [O,O,O,O,O,O,O,O,O,O,O,O,O,O,O,O,O,O,O,O,O,O,O,O,O,O,O,O,O,O,O,O,O,O,O,O,O,O,O,O,O]
abbrev w03_kinds_p2 : List AG := [o 15 (.mv (.t 5)), o 16 (.ibin .add (.t 15) (.c (.int .i64 1))), o 5 (.mv (.t 16))]
abbrev w03_kinds_p3 : List AG := [o 4 (.mv (.c (.bool false)))]
abbrev w03_kinds_p4 : ACode := (.seq (.reg w03_kinds_p3) .ret)
abbrev w03_kinds_p5 : List AG := [o 17 (.mv (.t 0)), o 18 (.mv (.t 5)), o 19 (.ixAddr 3 (.t 17) (.t 18)), o 20 (.off 0 (.t 19)), o 21 (.load false 1 (.t 20)), o 22 (.mv (.t 1)), o 23 (.mv (.t 5)), o 24 (.ixAddr 3 (.t 22) (.t 23)), o 25 (.off 0 (.t 24)), o 26 (.load false 1 (.t 25)), o 27 (.cmp .neq (.sc .int) (.t 21) (.t 26)), o 28 (.mv (.t 27)), ⟨(some 29), (some (28, false)), .mv (.t 0)⟩, ⟨(some 30), (some (28, false)), .mv (.t 5)⟩, ⟨(some 31), (some (28, false)), .ixAddr 3 (.t 29) (.t 30)⟩, ⟨(some 32), (some (28, false)), .off 1 (.t 31)⟩, ⟨(some 33), (some (28, false)), .load false 1 (.t 32)⟩, ⟨(some 34), (some (28, false)), .mv (.t 1)⟩, ⟨(some 35), (some (28, false)), .mv (.t 5)⟩, ⟨(some 36), (some (28, false)), .ixAddr 3 (.t 34) (.t 35)⟩, ⟨(some 37), (some (28, false)), .off 1 (.t 36)⟩, ⟨(some 38), (some (28, false)), .load false 1 (.t 37)⟩, ⟨(some 39), (some (28, false)), .cmp .neq (.sc .str) (.t 33) (.t 38)⟩, o 40 (.pick (.t 28) (.c (.bool true)) (.t 39))]
abbrev w03_kinds_p6 : ACode := (.seq (.dreg [O,O,O,O,O,O,O,O,O,O,O,O,O,O,O,O,O,O,O,O,O,O,O,O] w03_kinds_p5) (.cond (.t 40) w03_kinds_p4 .skip))
abbrev w03_kinds_p7 : List AG := [o 11 (.mv (.t 5)), o 12 (.mv (.t 0)), o 13 (.len (.t 12)), o 14 (.cmp .lss (.sc .int) (.t 11) (.t 13))]
abbrev w03_kinds_b1 : ACode := (.seq (.seq (.reg w03_kinds_p7) (.cond (.t 14) .skip (.exit 0))) (.seq (.block 1 [] w03_kinds_p6) (.reg w03_kinds_p2)))
abbrev w03_kinds_p8 : List AG := [o 5 (.mv (.c (.int .i64 0)))]
abbrev w03_kinds_p9 : List AG := [o 4 (.mv (.c (.bool false)))]
abbrev w03_kinds_p10 : ACode := (.seq (.reg w03_kinds_p9) .ret)
abbrev w03_kinds_p11 : List AG := [o 6 (.mv (.t 0)), o 7 (.len (.t 6)), o 8 (.mv (.t 1)), o 9 (.len (.t 8)), o 10 (.cmp .neq (.sc .int) (.t 7) (.t 9))]
abbrev w03_kinds_p12 : List AG := [o 4 (.mv (.c (.bool false)))]
abbrev w03_kinds : AFun := ⟨(.seq (.reg w03_kinds_p12) (.seq (.seq (.reg w03_kinds_p11) (.cond (.t 10) w03_kinds_p10 .skip)) (.seq (.seq (.reg w03_kinds_p8) (.block 0 w03_kinds_x1 (.loop w03_kinds_m1 w03_kinds_b1))) (.seq (.reg w03_kinds_p0) .ret)))), 41, [.tmp 4]⟩
abbrev w03_kinds_k1 : List It := [.code (.seq (.reg w03_kinds_p0) .ret)]
abbrev w03_kinds_L1 (x0 x1 x5 : AV) (h : List Ob) (e : Cx := cx) : Cfg := atC n_w03_kinds (.code w03_kinds_b1 :: .inLoop w03_kinds_m1 w03_kinds_b1 :: .inBlock 0 w03_kinds_x1 :: w03_kinds_k1) [x0,x1,U,U,U,x5,U,U,U,U,U,U,U,U,U,U,U,U,U,U,U,U,U,U,U,U,U,U,U,U,U,U,U,U,U,U,U,U,U,U,U] h e
abbrev w03_kinds_E1 (h : List Ob) (e : Cx := cx) : Cfg := atC n_w03_kinds w03_kinds_k1 [U,U,U,U,U,U,U,U,U,U,U,U,U,U,U,U,U,U,U,U,U,U,U,U,U,U,U,U,U,U,U,U,U,U,U,U,U,U,U,U,U] h e
@[simp] theorem c_w03_kinds : cfun Try.prog n_w03_kinds = some w03_kinds := by kernel_rfl
@[simp] theorem e_w03_kinds : hasBody Try.prog n_w03_kinds = true := by kernel_rfl

/- w03_placed: patchbay/patchbaylaw03.placed -/
abbrev w03_placed_p0 : List AG := [o 4 (.mv (.c (.bool true)))]
abbrev w03_placed_m1 : List Bool := [I,I,O,O,O,I,I,O,O,O,O,O,O,O,O,O,O,O,O,O,O,O,O,O,O,O,O,O,O,O,O,O,O,O,O,O,O,O,O,O,O,O,O,O,O,O,O,O,O,O,O,O,O,O,O,O,O,O,O,O,O,O,O,O,O,O,O,O,O,O,O,O,O,O,O,O,O,O,O,O,O,O,O,O,O,O,O,O,O,O,O,O,O,O,O,O,O,O,O,O,O,O]
abbrev w03_placed_x1 : List Bool := [O,O,O,O,O,O,O,O,O,O,O,O,O,O,O,O,O,O,O,O,O,O,O,O,O,O,O,O,O,O,O,O,O,O,O,O,O,O,O,O,O,O,O,O,O,O,O,O,O,O,O,O,O,O,O,O,O,O,O,O,O,O,O,O,O,O,O,O,O,O,O,O,O,O,O,O,O,O,O,O,O,O,O,O,O,O,O,O,O,O,O,O,O,O,O,O,O,O,O,O,O,O]
abbrev w03_placed_p2 : List AG := [o 13 (.mv (.t 6)), o 14 (.ibin .add (.t 13) (.c (.int .i64 1))), o 6 (.mv (.t 14))]
abbrev w03_placed_p3 : List AG := [o 99 (.mv (.t 7)), o 100 (.mv (.t 8)), o 101 (.ibin .add (.t 99) (.t 100)), o 5 (.mv (.t 101))]
abbrev w03_placed_p4 : List AG := [o 4 (.mv (.c (.bool false)))]
abbrev w03_placed_p5 : ACode := (.seq (.reg w03_placed_p4) .ret)
abbrev w03_placed_p6 : List AG := [o 51 (.mv (.t 8)), o 52 (.mv (.t 0)), o 53 (.lenStr (.t 52)), o 54 (.mv (.t 7)), o 55 (.ibin .sub (.t 53) (.t 54)), o 56 (.cmp .gtr (.sc .int) (.t 51) (.t 55)), o 57 (.mv (.t 56)), ⟨(some 58), (some (57, false)), .mv (.t 0)⟩, ⟨(some 59), (some (57, false)), .mv (.t 7)⟩, ⟨(some 60), (some (57, false)), .mv (.t 7)⟩, ⟨(some 61), (some (57, false)), .mv (.t 8)⟩, ⟨(some 62), (some (57, false)), .ibin .add (.t 60) (.t 61)⟩, ⟨(some 63), (some (57, false)), .sliceStr (.t 58) (some (.t 59)) (some (.t 62))⟩, ⟨(some 64), (some (57, false)), .mv (.t 1)⟩, ⟨(some 65), (some (57, false)), .mv (.t 6)⟩, ⟨(some 66), (some (57, false)), .ixAddr 3 (.t 64) (.t 65)⟩, ⟨(some 67), (some (57, false)), .off 1 (.t 66)⟩, ⟨(some 68), (some (57, false)), .load false 1 (.t 67)⟩, ⟨(some 69), (some (57, false)), .cmp .neq (.sc .str) (.t 63) (.t 68)⟩, o 70 (.pick (.t 57) (.c (.bool true)) (.t 69)), o 71 (.mv (.t 70)), ⟨(some 72), (some (71, false)), .mv (.t 8)⟩, ⟨(some 73), (some (71, false)), .cmp .eql (.sc .int) (.t 72) (.c (.int .i64 0))⟩, ⟨(some 74), (some (71, false)), .mv (.t 73)⟩, ⟨(some 75), (some (74, true)), .mv (.t 1)⟩, ⟨(some 76), (some (74, true)), .mv (.t 6)⟩, ⟨(some 77), (some (74, true)), .ixAddr 3 (.t 75) (.t 76)⟩, ⟨(some 78), (some (74, true)), .off 0 (.t 77)⟩, ⟨(some 79), (some (74, true)), .load false 1 (.t 78)⟩, ⟨(some 80), (some (74, true)), .cmp .neq (.sc .int) (.t 79) (.c (.int .i64 3))⟩, ⟨(some 81), (some (71, false)), .pick (.t 74) (.t 80) (.c (.bool false))⟩, o 82 (.pick (.t 71) (.c (.bool true)) (.t 81)), o 83 (.mv (.t 82)), ⟨(some 84), (some (83, false)), .mv (.t 1)⟩, ⟨(some 85), (some (83, false)), .mv (.t 6)⟩, ⟨(some 86), (some (83, false)), .ixAddr 3 (.t 84) (.t 85)⟩, ⟨(some 87), (some (83, false)), .off 0 (.t 86)⟩, ⟨(some 88), (some (83, false)), .load false 1 (.t 87)⟩, ⟨(some 89), (some (83, false)), .cmp .lss (.sc .int) (.t 88) (.c (.int .i64 0))⟩, o 90 (.pick (.t 83) (.c (.bool true)) (.t 89)), o 91 (.mv (.t 90)), ⟨(some 92), (some (91, false)), .mv (.t 1)⟩, ⟨(some 93), (some (91, false)), .mv (.t 6)⟩, ⟨(some 94), (some (91, false)), .ixAddr 3 (.t 92) (.t 93)⟩, ⟨(some 95), (some (91, false)), .off 0 (.t 94)⟩, ⟨(some 96), (some (91, false)), .load false 1 (.t 95)⟩, ⟨(some 97), (some (91, false)), .cmp .gtr (.sc .int) (.t 96) (.c (.int .i64 3))⟩, o 98 (.pick (.t 91) (.c (.bool true)) (.t 97))]
abbrev w03_placed_p7 : List AG := [o 49 (.mv (.t 7)), o 50 (.ibin .add (.t 49) (.c (.int .i64 1))), o 7 (.mv (.t 50))]
abbrev w03_placed_p8 : List AG := [o 43 (.mv (.t 1)), o 44 (.mv (.t 6)), o 45 (.ixAddr 3 (.t 43) (.t 44)), o 46 (.off 0 (.t 45)), o 47 (.load false 1 (.t 46)), o 48 (.cmp .eql (.sc .int) (.t 47) (.c (.int .i64 2)))]
abbrev w03_placed_p9 : List AG := [o 4 (.mv (.c (.bool false)))]
abbrev w03_placed_p10 : ACode := (.seq (.reg w03_placed_p9) .ret)
abbrev w03_placed_p11 : List AG := [o 26 (.mv (.t 7)), o 27 (.mv (.t 5)), o 28 (.cmp .lss (.sc .int) (.t 26) (.t 27)), o 29 (.mv (.t 28)), ⟨(some 30), (some (29, false)), .mv (.t 7)⟩, ⟨(some 31), (some (29, false)), .mv (.t 0)⟩, ⟨(some 32), (some (29, false)), .lenStr (.t 31)⟩, ⟨(some 33), (some (29, false)), .cmp .gtr (.sc .int) (.t 30) (.t 32)⟩, o 34 (.pick (.t 29) (.c (.bool true)) (.t 33)), o 35 (.mv (.t 34)), ⟨(some 36), (some (35, false)), .mv (.t 8)⟩, ⟨(some 37), (some (35, false)), .mv (.t 0)⟩, ⟨(some 38), (some (35, false)), .lenStr (.t 37)⟩, ⟨(some 39), (some (35, false)), .mv (.t 7)⟩, ⟨(some 40), (some (35, false)), .ibin .sub (.t 38) (.t 39)⟩, ⟨(some 41), (some (35, false)), .cmp .gtr (.sc .int) (.t 36) (.t 40)⟩, o 42 (.pick (.t 35) (.c (.bool true)) (.t 41))]
abbrev w03_placed_p12 : List AG := [o 20 (.mv (.t 1)), o 21 (.mv (.t 6)), o 22 (.ixAddr 3 (.t 20) (.t 21)), o 23 (.off 1 (.t 22)), o 24 (.load false 1 (.t 23)), o 25 (.lenStr (.t 24)), o 8 (.mv (.t 25))]
abbrev w03_placed_p13 : List AG := [o 15 (.mv (.t 1)), o 16 (.mv (.t 6)), o 17 (.ixAddr 3 (.t 15) (.t 16)), o 18 (.off 2 (.t 17)), o 19 (.load false 1 (.t 18)), o 7 (.mv (.t 19))]
abbrev w03_placed_p14 : ACode := (.seq (.reg w03_placed_p13) (.seq (.reg w03_placed_p12) (.seq (.seq (.reg w03_placed_p11) (.cond (.t 42) w03_placed_p10 .skip)) (.seq (.seq (.reg w03_placed_p8) (.cond (.t 48) (.reg w03_placed_p7) .skip)) (.seq (.seq (.dreg [O,O,O,O,O,O,O,O,O,O,O,O,O,O,O,O,O,O,O,O,O,O,O,O,O,O,O,O,O,O,O,O,O,O,O,O,O,O,O,O,O,O,O,O,O,O,O,O] w03_placed_p6) (.cond (.t 98) w03_placed_p5 .skip)) (.reg w03_placed_p3))))))
abbrev w03_placed_p15 : List AG := [o 9 (.mv (.t 6)), o 10 (.mv (.t 1)), o 11 (.len (.t 10)), o 12 (.cmp .lss (.sc .int) (.t 9) (.t 11))]
abbrev w03_placed_b1 : ACode := (.seq (.seq (.reg w03_placed_p15) (.cond (.t 12) .skip (.exit 0))) (.seq (.block 1 [] w03_placed_p14) (.reg w03_placed_p2)))
abbrev w03_placed_p16 : List AG := [o 6 (.mv (.c (.int .i64 0)))]
abbrev w03_placed_p17 : List AG := [o 5 (.mv (.c (.int .i64 0)))]
abbrev w03_placed_p18 : List AG := [o 4 (.mv (.c (.bool false)))]
abbrev w03_placed : AFun := ⟨(.seq (.reg w03_placed_p18) (.seq (.reg w03_placed_p17) (.seq (.seq (.reg w03_placed_p16) (.block 0 w03_placed_x1 (.loop w03_placed_m1 w03_placed_b1))) (.seq (.reg w03_placed_p0) .ret)))), 102, [.tmp 4]⟩
abbrev w03_placed_k1 : List It := [.code (.seq (.reg w03_placed_p0) .ret)]
abbrev w03_placed_L1 (x0 x1 x5 x6 : AV) (h : List Ob) (e : Cx := cx) : Cfg := atC n_w03_placed (.code w03_placed_b1 :: .inLoop w03_placed_m1 w03_placed_b1 :: .inBlock 0 w03_placed_x1 :: w03_placed_k1) [x0,x1,U,U,U,x5,x6,U,U,U,U,U,U,U,U,U,U,U,U,U,U,U,U,U,U,U,U,U,U,U,U,U,U,U,U,U,U,U,U,U,U,U,U,U,U,U,U,U,U,U,U,U,U,U,U,U,U,U,U,U,U,U,U,U,U,U,U,U,U,U,U,U,U,U,U,U,U,U,U,U,U,U,U,U,U,U,U,U,U,U,U,U,U,U,U,U,U,U,U,U,U,U] h e
abbrev w03_placed_E1 (h : List Ob) (e : Cx := cx) : Cfg := atC n_w03_placed w03_placed_k1 [U,U,U,U,U,U,U,U,U,U,U,U,U,U,U,U,U,U,U,U,U,U,U,U,U,U,U,U,U,U,U,U,U,U,U,U,U,U,U,U,U,U,U,U,U,U,U,U,U,U,U,U,U,U,U,U,U,U,U,U,U,U,U,U,U,U,U,U,U,U,U,U,U,U,U,U,U,U,U,U,U,U,U,U,U,U,U,U,U,U,U,U,U,U,U,U,U,U,U,U,U,U] h e
@[simp] theorem c_w03_placed : cfun Try.prog n_w03_placed = some w03_placed := by kernel_rfl
@[simp] theorem e_w03_placed : hasBody Try.prog n_w03_placed = true := by kernel_rfl

/- token_all: patchbay/token.all -/
abbrev token_all_p0 : List AG := [o 32 (.load false 1 (.t 4)), q (.store 1 (.t 4) (.t 32)), q (.store 1 (.t 5) (.c (.int .i64 0))), q (.store 1 (.t 6) (.c (.int .i64 0)))]
abbrev token_all_m1 : List Bool := [I,I,O,O,I,I,I,I,O,O,O,O,O,O,O,O,O,O,O,O,O,O,O,O,O,O,O,O,O,O,O,O,O]
abbrev token_all_x1 : List Bool := [O,O,O,O,I,I,I,O,O,O,O,O,O,O,O,O,O,O,O,O,O,O,O,O,O,O,O,O,O,O,O,O,O]
abbrev token_all_p2 : List AG := [o 29 (.mv (.t 7)), o 30 (.mv (.t 9)), o 31 (.ibin .add (.t 29) (.t 30)), o 7 (.mv (.t 31))]
abbrev token_all_p3 : List AG := [o 25 (.load false 1 (.t 4)), o 26 (.load true 3 (.t 8)), o 27 (.lit 3 [(.agg [(.int .i64 0), (.str []), (.int .i64 0)])] [(0, (.t 26))]), o 28 (.append 3 t_token_Token_2 32 (.t 25) (.t 27)), q (.store 1 (.t 4) (.t 28))]
abbrev token_all_p4 : List AG := [o 22 (.off 0 (.t 8)), o 23 (.load false 1 (.t 22)), o 24 (.cmp .geq (.sc .int) (.t 23) (.c (.int .i64 0)))]
abbrev token_all_p5 : List AG := [o 16 (.mv (.t 0)), o 17 (.mv (.t 1)), o 18 (.mv (.t 7)), o 19 (.invoke (.t 16) s_patchbay_token_read [(.t 17), (.t 18)]), o 15 (.mv (.t 19)), o 20 (.extract (.t 15) 0), o 21 (.extract (.t 15) 1), o 8 (.alloc [(.int .i64 0), (.str []), (.int .i64 0)]), q (.store 3 (.t 8) (.t 20)), o 9 (.mv (.t 21))]
abbrev token_all_p6 : ACode := (.seq (.reg token_all_p5) (.seq (.seq (.reg token_all_p4) (.cond (.t 24) (.reg token_all_p3) .skip)) (.reg token_all_p2)))
abbrev token_all_p7 : List AG := [o 11 (.mv (.t 7)), o 12 (.mv (.t 1)), o 13 (.lenStr (.t 12)), o 14 (.cmp .lss (.sc .int) (.t 11) (.t 13))]
abbrev token_all_b1 : ACode := (.seq (.seq (.reg token_all_p7) (.cond (.t 14) .skip (.exit 0))) (.block 1 [] token_all_p6))
abbrev token_all_p8 : List AG := [o 7 (.mv (.c (.int .i64 0)))]
abbrev token_all_p9 : List AG := [o 10 (.mkFunc (.func n_token_all_1) [] [(.t 4), (.t 5), (.t 6)]), q (.defer (.t 10) [])]
abbrev token_all_p10 : List AG := [o 4 (.alloc [(.own 3 t_token_Token_2 [])]), o 5 (.alloc [(.int .i64 0)]), o 6 (.alloc [(.int .i64 0)])]
abbrev token_all : AFun := ⟨(.seq (.reg token_all_p10) (.seq (.reg token_all_p9) (.seq (.seq (.reg token_all_p8) (.block 0 token_all_x1 (.loop token_all_m1 token_all_b1))) (.seq (.reg token_all_p0) .ret)))), 33, [.cell 4 false 1, .cell 5 false 1, .cell 6 false 1]⟩
abbrev token_all_k1 : List It := [.code (.seq (.reg token_all_p0) .ret)]
abbrev token_all_L1 (x0 x1 x4 x5 x6 x7 : AV) (h : List Ob) (e : Cx := cx) : Cfg := atC n_token_all (.code token_all_b1 :: .inLoop token_all_m1 token_all_b1 :: .inBlock 0 token_all_x1 :: token_all_k1) [x0,x1,U,U,x4,x5,x6,x7,U,U,U,U,U,U,U,U,U,U,U,U,U,U,U,U,U,U,U,U,U,U,U,U,U] h e
abbrev token_all_E1 (x4 x5 x6 : AV) (h : List Ob) (e : Cx := cx) : Cfg := atC n_token_all token_all_k1 [U,U,U,U,x4,x5,x6,U,U,U,U,U,U,U,U,U,U,U,U,U,U,U,U,U,U,U,U,U,U,U,U,U,U] h e
@[simp] theorem c_token_all : cfun Try.prog n_token_all = some token_all := by kernel_rfl
@[simp] theorem e_token_all : hasBody Try.prog n_token_all = true := by kernel_rfl

/- r03_line: patchbay/patchbayref03.line -/
abbrev r03_line_p0 : List AG := [o 17 (.mv (.t 1)), o 4 (.mv (.t 17))]
abbrev r03_line_m1 : List Bool := [I,I,O,O,O,O,O,O,O,O,O,O,O,O,O,O,O,O]
abbrev r03_line_x1 : List Bool := [O,I,O,O,O,O,O,O,O,O,O,O,O,O,O,O,O,O]
abbrev r03_line_p2 : List AG := [o 15 (.mv (.t 1)), o 16 (.ibin .add (.t 15) (.c (.int .i64 1))), o 1 (.mv (.t 16))]
abbrev r03_line_p3 : List AG := [o 5 (.mv (.t 1)), o 6 (.mv (.t 0)), o 7 (.lenStr (.t 6)), o 8 (.cmp .lss (.sc .int) (.t 5) (.t 7)), o 9 (.mv (.t 8)), ⟨(some 10), (some (9, true)), .mv (.t 0)⟩, ⟨(some 11), (some (9, true)), .mv (.t 1)⟩, ⟨(some 12), (some (9, true)), .ixStr (.t 10) (.t 11)⟩, ⟨(some 13), (some (9, true)), .cmp .neq (.sc .int) (.t 12) (.c (.int .u8 10))⟩, o 14 (.pick (.t 9) (.t 13) (.c (.bool false)))]
abbrev r03_line_b1 : ACode := (.seq (.seq (.reg r03_line_p3) (.cond (.t 14) .skip (.exit 0))) (.block 1 [] (.reg r03_line_p2)))
abbrev r03_line_p4 : List AG := [o 4 (.mv (.c (.int .i64 0)))]
abbrev r03_line : AFun := ⟨(.seq (.reg r03_line_p4) (.seq (.block 0 r03_line_x1 (.loop r03_line_m1 r03_line_b1)) (.seq (.reg r03_line_p0) .ret))), 18, [.tmp 4]⟩
abbrev r03_line_k1 : List It := [.code (.seq (.reg r03_line_p0) .ret)]
abbrev r03_line_L1 (x0 x1 : AV) (h : List Ob) (e : Cx := cx) : Cfg := atC n_r03_line (.code r03_line_b1 :: .inLoop r03_line_m1 r03_line_b1 :: .inBlock 0 r03_line_x1 :: r03_line_k1) [x0,x1,U,U,U,U,U,U,U,U,U,U,U,U,U,U,U,U] h e
abbrev r03_line_E1 (x1 : AV) (h : List Ob) (e : Cx := cx) : Cfg := atC n_r03_line r03_line_k1 [U,x1,U,U,U,U,U,U,U,U,U,U,U,U,U,U,U,U] h e
@[simp] theorem c_r03_line : cfun Try.prog n_r03_line = some r03_line := by kernel_rfl
@[simp] theorem e_r03_line : hasBody Try.prog n_r03_line = true := by kernel_rfl

/- r03_blank: patchbay/patchbayref03.blank -/
abbrev r03_blank_p0 : List AG := [o 3 (.mv (.t 0)), o 4 (.cmp .eql (.sc .int) (.t 3) (.c (.int .u8 9))), o 5 (.mv (.t 4)), ⟨(some 6), (some (5, false)), .mv (.t 0)⟩, ⟨(some 7), (some (5, false)), .cmp .eql (.sc .int) (.t 6) (.c (.int .u8 13))⟩, o 8 (.pick (.t 5) (.c (.bool true)) (.t 7)), o 9 (.mv (.t 8)), ⟨(some 10), (some (9, false)), .mv (.t 0)⟩, ⟨(some 11), (some (9, false)), .cmp .eql (.sc .int) (.t 10) (.c (.int .u8 32))⟩, o 12 (.pick (.t 9) (.c (.bool true)) (.t 11)), o 2 (.mv (.t 12))]
abbrev r03_blank_p1 : List AG := [o 2 (.mv (.c (.bool false)))]
abbrev r03_blank : AFun := ⟨(.seq (.reg r03_blank_p1) (.seq (.reg r03_blank_p0) .ret)), 13, [.tmp 2]⟩
@[simp] theorem c_r03_blank : cfun Try.prog n_r03_blank = some r03_blank := by kernel_rfl
@[simp] theorem e_r03_blank : hasBody Try.prog n_r03_blank = true := by kernel_rfl

/- r03_in: patchbay/patchbayref03.in -/
abbrev r03_in_p0 : List AG := [o 4 (.mv (.c (.bool false)))]
abbrev r03_in_m1 : List Bool := [I,I,O,O,O,I,O,O,O,O,O,O,O,O,O,O,O]
abbrev r03_in_x1 : List Bool := [O,O,O,O,O,O,O,O,O,O,O,O,O,O,O,O,O]
abbrev r03_in_p2 : List AG := [o 10 (.mv (.t 5)), o 11 (.ibin .add (.t 10) (.c (.int .i64 1))), o 5 (.mv (.t 11))]
abbrev r03_in_p3 : List AG := [o 4 (.mv (.c (.bool true)))]
abbrev r03_in_p4 : ACode := (.seq (.reg r03_in_p3) .ret)
abbrev r03_in_p5 : List AG := [o 12 (.mv (.t 1)), o 13 (.mv (.t 5)), o 14 (.ixStr (.t 12) (.t 13)), o 15 (.mv (.t 0)), o 16 (.cmp .eql (.sc .int) (.t 14) (.t 15))]
abbrev r03_in_p6 : ACode := (.seq (.reg r03_in_p5) (.cond (.t 16) r03_in_p4 .skip))
abbrev r03_in_p7 : List AG := [o 6 (.mv (.t 5)), o 7 (.mv (.t 1)), o 8 (.lenStr (.t 7)), o 9 (.cmp .lss (.sc .int) (.t 6) (.t 8))]
abbrev r03_in_b1 : ACode := (.seq (.seq (.reg r03_in_p7) (.cond (.t 9) .skip (.exit 0))) (.seq (.block 1 [] r03_in_p6) (.reg r03_in_p2)))
abbrev r03_in_p8 : List AG := [o 5 (.mv (.c (.int .i64 0)))]
abbrev r03_in_p9 : List AG := [o 4 (.mv (.c (.bool false)))]
abbrev r03_in : AFun := ⟨(.seq (.reg r03_in_p9) (.seq (.seq (.reg r03_in_p8) (.block 0 r03_in_x1 (.loop r03_in_m1 r03_in_b1))) (.seq (.reg r03_in_p0) .ret))), 17, [.tmp 4]⟩
abbrev r03_in_k1 : List It := [.code (.seq (.reg r03_in_p0) .ret)]
abbrev r03_in_L1 (x0 x1 x5 : AV) (h : List Ob) (e : Cx := cx) : Cfg := atC n_r03_in (.code r03_in_b1 :: .inLoop r03_in_m1 r03_in_b1 :: .inBlock 0 r03_in_x1 :: r03_in_k1) [x0,x1,U,U,U,x5,U,U,U,U,U,U,U,U,U,U,U] h e
abbrev r03_in_E1 (h : List Ob) (e : Cx := cx) : Cfg := atC n_r03_in r03_in_k1 [U,U,U,U,U,U,U,U,U,U,U,U,U,U,U,U,U] h e
@[simp] theorem c_r03_in : cfun Try.prog n_r03_in = some r03_in := by kernel_rfl
@[simp] theorem e_r03_in : hasBody Try.prog n_r03_in = true := by kernel_rfl

/- slices_Equal_token_Token_token_Token: slices.Equal[[]patchbay/token.Token,patchbay/token.Token] -/
abbrev slices_Equal_token_Token_token_Token_p0 : List AG := [o 4 (.mv (.c (.bool true)))]
abbrev slices_Equal_token_Token_token_Token_m1 : List Bool := [I,I,O,O,O,O,O,O,O,O,O,O,I,I,O,O,O,O,O,O,O,O,O,O,O,O]
abbrev slices_Equal_token_Token_token_Token_x1 : List Bool := [O,O,O,O,O,O,O,O,O,O,O,O,O,O,O,O,O,O,O,O,O,O,O,O,O,O]
abbrev slices_Equal_token_Token_token_Token_p2 : List AG := [o 25 (.ibin .add (.t 13) (.c (.int .i64 1))), o 13 (.mv (.t 25))]
abbrev slices_Equal_token_Token_token_Token_p3 : List AG := [o 4 (.mv (.c (.bool false)))]
abbrev slices_Equal_token_Token_token_Token_p4 : ACode := (.seq (.reg slices_Equal_token_Token_token_Token_p3) .ret)
abbrev slices_Equal_token_Token_token_Token_p5 : List AG := [o 16 (.mv (.t 0)), o 17 (.mv (.t 5)), o 18 (.ixAddr 3 (.t 16) (.t 17)), o 19 (.load true 3 (.t 18)), o 20 (.mv (.t 1)), o 21 (.mv (.t 5)), o 22 (.ixAddr 3 (.t 20) (.t 21)), o 23 (.load true 3 (.t 22)), o 24 (.cmp .neq (.strct [.int, .str, .int]) (.t 19) (.t 23))]
abbrev slices_Equal_token_Token_token_Token_p6 : List AG := [o 15 (.mv (.t 13)), o 5 (.mv (.t 15))]
abbrev slices_Equal_token_Token_token_Token_p7 : ACode := (.seq (.reg slices_Equal_token_Token_token_Token_p6) (.seq (.dreg [O,O,O,O,O,O,O,O,O] slices_Equal_token_Token_token_Token_p5) (.cond (.t 24) slices_Equal_token_Token_token_Token_p4 .skip)))
abbrev slices_Equal_token_Token_token_Token_p8 : List AG := [o 14 (.cmp .lss (.sc .int) (.t 13) (.t 12))]
abbrev slices_Equal_token_Token_token_Token_b1 : ACode := (.seq (.reg slices_Equal_token_Token_token_Token_p8) (.seq (.cond (.t 14) .skip (.exit 0)) (.seq (.block 1 [] slices_Equal_token_Token_token_Token_p7) (.reg slices_Equal_token_Token_token_Token_p2))))
abbrev slices_Equal_token_Token_token_Token_p9 : List AG := [o 11 (.mv (.t 0)), o 12 (.len (.t 11)), o 13 (.mv (.c (.int .i64 0)))]
abbrev slices_Equal_token_Token_token_Token_p10 : List AG := [o 4 (.mv (.c (.bool false)))]
abbrev slices_Equal_token_Token_token_Token_p11 : ACode := (.seq (.reg slices_Equal_token_Token_token_Token_p10) .ret)
abbrev slices_Equal_token_Token_token_Token_p12 : List AG := [o 6 (.mv (.t 0)), o 7 (.len (.t 6)), o 8 (.mv (.t 1)), o 9 (.len (.t 8)), o 10 (.cmp .neq (.sc .int) (.t 7) (.t 9))]
abbrev slices_Equal_token_Token_token_Token_p13 : List AG := [o 4 (.mv (.c (.bool false)))]
abbrev slices_Equal_token_Token_token_Token : AFun := ⟨(.seq (.reg slices_Equal_token_Token_token_Token_p13) (.seq (.seq (.reg slices_Equal_token_Token_token_Token_p12) (.cond (.t 10) slices_Equal_token_Token_token_Token_p11 .skip)) (.seq (.seq (.reg slices_Equal_token_Token_token_Token_p9) (.block 0 slices_Equal_token_Token_token_Token_x1 (.loop slices_Equal_token_Token_token_Token_m1 slices_Equal_token_Token_token_Token_b1))) (.seq (.reg slices_Equal_token_Token_token_Token_p0) .ret)))), 26, [.tmp 4]⟩
abbrev slices_Equal_token_Token_token_Token_k1 : List It := [.code (.seq (.reg slices_Equal_token_Token_token_Token_p0) .ret)]
abbrev slices_Equal_token_Token_token_Token_L1 (x0 x1 x12 x13 : AV) (h : List Ob) (e : Cx := cx) : Cfg := atC n_slices_Equal_token_Token_token_Token (.code slices_Equal_token_Token_token_Token_b1 :: .inLoop slices_Equal_token_Token_token_Token_m1 slices_Equal_token_Token_token_Token_b1 :: .inBlock 0 slices_Equal_token_Token_token_Token_x1 :: slices_Equal_token_Token_token_Token_k1) [x0,x1,U,U,U,U,U,U,U,U,U,U,x12,x13,U,U,U,U,U,U,U,U,U,U,U,U] h e
abbrev slices_Equal_token_Token_token_Token_E1 (h : List Ob) (e : Cx := cx) : Cfg := atC n_slices_Equal_token_Token_token_Token slices_Equal_token_Token_token_Token_k1 [U,U,U,U,U,U,U,U,U,U,U,U,U,U,U,U,U,U,U,U,U,U,U,U,U,U] h e
@[simp] theorem c_slices_Equal_token_Token_token_Token : cfun Try.prog n_slices_Equal_token_Token_token_Token = some slices_Equal_token_Token_token_Token := by kernel_rfl
@[simp] theorem e_slices_Equal_token_Token_token_Token : hasBody Try.prog n_slices_Equal_token_Token_token_Token = true := by kernel_rfl

/- token_all_1: patchbay/token.all$1 -/
abbrev token_all_1_p0 : List AG := [o 11 (.off 0 (.t 3)), o 12 (.load false 1 (.t 11)), q (.store 1 (.t 0) (.c (.list true 0 []))), q (.store 1 (.t 1) (.t 12)), q (.store 1 (.t 2) (.c (.int .i64 2)))]
abbrev token_all_1_p1 : List AG := [o 10 (.mv (.t 4))]
abbrev token_all_1_p2 : List AG := [o 6 (.recover), o 7 (.tassert (.t 6) t_token_odd (.agg [(.int .i64 0)]) true), o 5 (.mv (.t 7)), o 8 (.extract (.t 5) 0), o 9 (.extract (.t 5) 1), o 3 (.alloc [(.int .i64 0)]), q (.store 1 (.t 3) (.t 8)), o 4 (.mv (.t 9))]
abbrev token_all_1 : AFun := ⟨(.seq (.reg token_all_1_p2) (.seq (.reg token_all_1_p1) (.cond (.t 10) (.dreg [O,I,O,O,O] token_all_1_p0) .skip))), 13, []⟩
@[simp] theorem c_token_all_1 : cfun Try.prog n_token_all_1 = some token_all_1 := by kernel_rfl
@[simp] theorem e_token_all_1 : hasBody Try.prog n_token_all_1 = true := by kernel_rfl

/- token_bench_read: (patchbay/token.bench).read -/
abbrev token_bench_read_p0 : List AG := [o 37 (.mv (.t 1)), o 38 (.mv (.t 2)), o 39 (.mv (.t 1)), o 40 (.mv (.t 2)), o 41 (.call (.f n_token_run) [(.t 39), (.t 40), (.f n_token_bench_read_1)]), o 42 (.call (.f n_token_one) [(.c (.int .i64 0)), (.t 37), (.t 38), (.t 41)]), o 43 (.extract (.t 42) 0), o 44 (.extract (.t 42) 1), q (.store 3 (.t 6) (.t 43)), o 7 (.mv (.t 44))]
abbrev token_bench_read_p1 : List AG := [o 15 (.mv (.t 1)), o 16 (.mv (.t 2)), o 17 (.call (.f n_token_line) [(.t 15), (.t 16)]), o 18 (.call (.f n_token_none) [(.t 17)]), o 19 (.extract (.t 18) 0), o 20 (.extract (.t 18) 1), q (.store 3 (.t 6) (.t 19)), o 7 (.mv (.t 20))]
abbrev token_bench_read_p2 : List AG := [o 25 (.call (.f n_token_none) [(.c (.int .i64 1))]), o 26 (.extract (.t 25) 0), o 27 (.extract (.t 25) 1), q (.store 3 (.t 6) (.t 26)), o 7 (.mv (.t 27))]
abbrev token_bench_read_p3 : List AG := [o 32 (.mv (.t 1)), o 33 (.mv (.t 2)), o 34 (.call (.f n_token_one) [(.c (.int .i64 1)), (.t 32), (.t 33), (.c (.int .i64 1))]), o 35 (.extract (.t 34) 0), o 36 (.extract (.t 34) 1), q (.store 3 (.t 6) (.t 35)), o 7 (.mv (.t 36))]
abbrev token_bench_read_p4 : ACode := (.seq (.reg token_bench_read_p3) .ret)
abbrev token_bench_read_p5 : List AG := [o 29 (.mv (.t 8)), o 30 (.call (.f n_strings_IndexByte) [(.c (.str [61, 40, 41, 44])), (.t 29)]), o 31 (.cmp .geq (.sc .int) (.t 30) (.c (.int .i64 0))), o 28 (.mv (.t 31))]
abbrev token_bench_read_p6 : ACode := (.seq (.reg token_bench_read_p2) .ret)
abbrev token_bench_read_p7 : ACode := (.seq (.reg token_bench_read_p5) (.cond (.t 28) token_bench_read_p4 .skip))
abbrev token_bench_read_p8 : List AG := [o 22 (.mv (.t 8)), o 23 (.call (.f n_strings_IndexByte) [(.c (.str [32, 9, 13, 10])), (.t 22)]), o 24 (.cmp .geq (.sc .int) (.t 23) (.c (.int .i64 0))), o 21 (.mv (.t 24))]
abbrev token_bench_read_p9 : ACode := (.seq (.reg token_bench_read_p1) .ret)
abbrev token_bench_read_p10 : ACode := (.seq (.reg token_bench_read_p8) (.cond (.t 21) token_bench_read_p6 token_bench_read_p7))
abbrev token_bench_read_p11 : List AG := [o 13 (.mv (.t 8)), o 14 (.cmp .eql (.sc .int) (.t 13) (.c (.int .u8 35))), o 12 (.mv (.t 14))]
abbrev token_bench_read_p12 : ACode := (.seq (.reg token_bench_read_p11) (.cond (.t 12) token_bench_read_p9 token_bench_read_p10))
abbrev token_bench_read_p13 : List AG := [o 9 (.mv (.t 1)), o 10 (.mv (.t 2)), o 11 (.ixStr (.t 9) (.t 10)), o 8 (.mv (.t 11))]
abbrev token_bench_read_p14 : List AG := [o 3 (.box 0 (.t 0)), o 6 (.alloc [(.int .i64 0), (.str []), (.int .i64 0)]), o 7 (.mv (.c (.int .i64 0)))]
abbrev token_bench_read : AFun := ⟨(.seq (.reg token_bench_read_p14) (.seq (.seq (.reg token_bench_read_p13) (.block 0 [] token_bench_read_p12)) (.seq (.reg token_bench_read_p0) .ret))), 45, [.cell 6 true 3, .tmp 7]⟩
@[simp] theorem c_token_bench_read : cfun Try.prog n_token_bench_read = some token_bench_read := by kernel_rfl
@[simp] theorem e_token_bench_read : hasBody Try.prog n_token_bench_read = true := by kernel_rfl

/- token_none: patchbay/token.none -/
abbrev token_none_p0 : List AG := [o 4 (.build [(.int .i64 0), (.str []), (.int .i64 0)] [(0, 1, (.c (.int .i64 (-1))))]), o 5 (.mv (.t 0)), q (.store 3 (.t 2) (.t 4)), o 3 (.mv (.t 5))]
abbrev token_none_p1 : List AG := [o 2 (.alloc [(.int .i64 0), (.str []), (.int .i64 0)]), o 3 (.mv (.c (.int .i64 0)))]
abbrev token_none : AFun := ⟨(.seq (.reg token_none_p1) (.seq (.reg token_none_p0) .ret)), 6, [.cell 2 true 3, .tmp 3]⟩
@[simp] theorem c_token_none : cfun Try.prog n_token_none = some token_none := by kernel_rfl
@[simp] theorem e_token_none : hasBody Try.prog n_token_none = true := by kernel_rfl

/- token_line: patchbay/token.line -/
abbrev token_line_p0 : List AG := [o 5 (.mv (.t 0)), o 6 (.mv (.t 1)), o 7 (.call (.f n_token_run) [(.t 5), (.t 6), (.f n_token_line_1)]), o 4 (.mv (.t 7))]
abbrev token_line_p1 : List AG := [o 4 (.mv (.c (.int .i64 0)))]
abbrev token_line : AFun := ⟨(.seq (.reg token_line_p1) (.seq (.reg token_line_p0) .ret)), 8, [.tmp 4]⟩
@[simp] theorem c_token_line : cfun Try.prog n_token_line = some token_line := by kernel_rfl
@[simp] theorem e_token_line : hasBody Try.prog n_token_line = true := by kernel_rfl

/- strings_IndexByte: strings.IndexByte -/
abbrev strings_IndexByte_p0 : List AG := [o 5 (.mv (.t 0)), o 6 (.mv (.t 1)), o 7 (.call (.f n_stringslite_IndexByte) [(.t 5), (.t 6)]), o 4 (.mv (.t 7))]
abbrev strings_IndexByte_p1 : List AG := [o 4 (.mv (.c (.int .i64 0)))]
abbrev strings_IndexByte : AFun := ⟨(.seq (.reg strings_IndexByte_p1) (.seq (.reg strings_IndexByte_p0) .ret)), 8, [.tmp 4]⟩
@[simp] theorem c_strings_IndexByte : cfun Try.prog n_strings_IndexByte = some strings_IndexByte := by kernel_rfl
@[simp] theorem e_strings_IndexByte : hasBody Try.prog n_strings_IndexByte = true := by kernel_rfl

/- token_one: patchbay/token.one -/
abbrev token_one_p0 : List AG := [o 15 (.mv (.t 0)), o 16 (.mv (.t 1)), o 17 (.mv (.t 2)), o 18 (.mv (.t 2)), o 19 (.mv (.t 3)), o 20 (.ibin .add (.t 18) (.t 19)), o 21 (.sliceStr (.t 16) (some (.t 17)) (some (.t 20))), o 22 (.mv (.t 2)), o 23 (.build [(.int .i64 0), (.str []), (.int .i64 0)] [(0, 1, (.t 15)), (1, 1, (.t 21)), (2, 1, (.t 22))]), o 24 (.mv (.t 3)), q (.store 3 (.t 8) (.t 23)), o 9 (.mv (.t 24))]
abbrev token_one_p1 : List AG := [o 12 (.mv (.t 2)), o 13 (.build [(.int .i64 0)] [(0, 1, (.t 12))]), o 14 (.mkIface t_token_odd (.t 13)), q (.panic (.t 14))]
abbrev token_one_p2 : List AG := [o 10 (.mv (.t 3)), o 11 (.cmp .eql (.sc .int) (.t 10) (.c (.int .i64 0)))]
abbrev token_one_p3 : List AG := [o 8 (.alloc [(.int .i64 0), (.str []), (.int .i64 0)]), o 9 (.mv (.c (.int .i64 0)))]
abbrev token_one : AFun := ⟨(.seq (.reg token_one_p3) (.seq (.seq (.reg token_one_p2) (.cond (.t 11) (.reg token_one_p1) .skip)) (.seq (.reg token_one_p0) .ret))), 25, [.cell 8 true 3, .tmp 9]⟩
@[simp] theorem c_token_one : cfun Try.prog n_token_one = some token_one := by kernel_rfl
@[simp] theorem e_token_one : hasBody Try.prog n_token_one = true := by kernel_rfl

/- token_run: patchbay/token.run -/
abbrev token_run_p0 : List AG := [o 25 (.mv (.t 7)), o 6 (.mv (.t 25))]
abbrev token_run_m1 : List Bool := [I,I,I,O,O,O,O,I,O,O,O,O,O,O,O,O,O,O,O,O,O,O,O,O,O,O]
abbrev token_run_x1 : List Bool := [O,O,O,O,O,O,O,I,O,O,O,O,O,O,O,O,O,O,O,O,O,O,O,O,O,O]
abbrev token_run_p2 : List AG := [o 23 (.mv (.t 7)), o 24 (.ibin .add (.t 23) (.c (.int .i64 1))), o 7 (.mv (.t 24))]
abbrev token_run_p3 : List AG := [o 8 (.mv (.t 1)), o 9 (.mv (.t 7)), o 10 (.ibin .add (.t 8) (.t 9)), o 11 (.mv (.t 0)), o 12 (.lenStr (.t 11)), o 13 (.cmp .lss (.sc .int) (.t 10) (.t 12)), o 14 (.mv (.t 13)), ⟨(some 15), (some (14, true)), .mv (.t 2)⟩, ⟨(some 16), (some (14, true)), .mv (.t 0)⟩, ⟨(some 17), (some (14, true)), .mv (.t 1)⟩, ⟨(some 18), (some (14, true)), .mv (.t 7)⟩, ⟨(some 19), (some (14, true)), .ibin .add (.t 17) (.t 18)⟩, ⟨(some 20), (some (14, true)), .ixStr (.t 16) (.t 19)⟩, ⟨(some 21), (some (14, true)), .call (.t 15) [(.t 20)]⟩, o 22 (.pick (.t 14) (.t 21) (.c (.bool false)))]
abbrev token_run_b1 : ACode := (.seq (.seq (.reg token_run_p3) (.cond (.t 22) .skip (.exit 0))) (.block 1 [] (.reg token_run_p2)))
abbrev token_run_p4 : List AG := [o 7 (.mv (.c (.int .i64 0)))]
abbrev token_run_p5 : List AG := [o 6 (.mv (.c (.int .i64 0)))]
abbrev token_run : AFun := ⟨(.seq (.reg token_run_p5) (.seq (.reg token_run_p4) (.seq (.block 0 token_run_x1 (.loop token_run_m1 token_run_b1)) (.seq (.reg token_run_p0) .ret)))), 26, [.tmp 6]⟩
abbrev token_run_k1 : List It := [.code (.seq (.reg token_run_p0) .ret)]
abbrev token_run_L1 (x0 x1 x2 x7 : AV) (h : List Ob) (e : Cx := cx) : Cfg := atC n_token_run (.code token_run_b1 :: .inLoop token_run_m1 token_run_b1 :: .inBlock 0 token_run_x1 :: token_run_k1) [x0,x1,x2,U,U,U,U,x7,U,U,U,U,U,U,U,U,U,U,U,U,U,U,U,U,U,U] h e
abbrev token_run_E1 (x7 : AV) (h : List Ob) (e : Cx := cx) : Cfg := atC n_token_run token_run_k1 [U,U,U,U,U,U,U,x7,U,U,U,U,U,U,U,U,U,U,U,U,U,U,U,U,U,U] h e
@[simp] theorem c_token_run : cfun Try.prog n_token_run = some token_run := by kernel_rfl
@[simp] theorem e_token_run : hasBody Try.prog n_token_run = true := by kernel_rfl

/- token_bench_read_1: (patchbay/token.bench).read$1 -/
abbrev token_bench_read_1_p0 : List AG := [o 3 (.mv (.t 0)), o 4 (.call (.f n_token_graph) [(.t 3)]), o 5 (.mv (.t 4)), ⟨(some 6), (some (5, true)), .mv (.t 0)⟩, ⟨(some 7), (some (5, true)), .call (.f n_strings_IndexByte) [(.c (.str [61, 40, 41, 44, 35])), (.t 6)]⟩, ⟨(some 8), (some (5, true)), .cmp .lss (.sc .int) (.t 7) (.c (.int .i64 0))⟩, o 9 (.pick (.t 5) (.t 8) (.c (.bool false))), o 2 (.mv (.t 9))]
abbrev token_bench_read_1_p1 : List AG := [o 2 (.mv (.c (.bool false)))]
abbrev token_bench_read_1 : AFun := ⟨(.seq (.reg token_bench_read_1_p1) (.seq (.reg token_bench_read_1_p0) .ret)), 10, [.tmp 2]⟩
@[simp] theorem c_token_bench_read_1 : cfun Try.prog n_token_bench_read_1 = some token_bench_read_1 := by kernel_rfl
@[simp] theorem e_token_bench_read_1 : hasBody Try.prog n_token_bench_read_1 = true := by kernel_rfl

/- token_graph: patchbay/token.graph -/
abbrev token_graph_p0 : List AG := [o 3 (.mv (.t 0)), o 4 (.cmp .gtr (.sc .int) (.t 3) (.c (.int .u8 32))), o 5 (.mv (.t 4)), ⟨(some 6), (some (5, true)), .mv (.t 0)⟩, ⟨(some 7), (some (5, true)), .cmp .leq (.sc .int) (.t 6) (.c (.int .u8 126))⟩, o 8 (.pick (.t 5) (.t 7) (.c (.bool false))), o 2 (.mv (.t 8))]
abbrev token_graph_p1 : List AG := [o 2 (.mv (.c (.bool false)))]
abbrev token_graph : AFun := ⟨(.seq (.reg token_graph_p1) (.seq (.reg token_graph_p0) .ret)), 9, [.tmp 2]⟩
@[simp] theorem c_token_graph : cfun Try.prog n_token_graph = some token_graph := by kernel_rfl
@[simp] theorem e_token_graph : hasBody Try.prog n_token_graph = true := by kernel_rfl

/- token_line_1: patchbay/token.line$1 -/
abbrev token_line_1_p0 : List AG := [o 3 (.mv (.t 0)), o 4 (.cmp .neq (.sc .int) (.t 3) (.c (.int .u8 10))), o 2 (.mv (.t 4))]
abbrev token_line_1_p1 : List AG := [o 2 (.mv (.c (.bool false)))]
abbrev token_line_1 : AFun := ⟨(.seq (.reg token_line_1_p1) (.seq (.reg token_line_1_p0) .ret)), 5, [.tmp 2]⟩
@[simp] theorem c_token_line_1 : cfun Try.prog n_token_line_1 = some token_line_1 := by kernel_rfl
@[simp] theorem e_token_line_1 : hasBody Try.prog n_token_line_1 = true := by kernel_rfl

/- stringslite_IndexByte: internal/stringslite.IndexByte -/
abbrev stringslite_IndexByte_p0 : List AG := [o 5 (.mv (.t 0)), o 6 (.mv (.t 1)), o 7 (.call (.f n_bytealg_IndexByteString) [(.t 5), (.t 6)]), o 4 (.mv (.t 7))]
abbrev stringslite_IndexByte_p1 : List AG := [o 4 (.mv (.c (.int .i64 0)))]
abbrev stringslite_IndexByte : AFun := ⟨(.seq (.reg stringslite_IndexByte_p1) (.seq (.reg stringslite_IndexByte_p0) .ret)), 8, [.tmp 4]⟩
@[simp] theorem c_stringslite_IndexByte : cfun Try.prog n_stringslite_IndexByte = some stringslite_IndexByte := by kernel_rfl
@[simp] theorem e_stringslite_IndexByte : hasBody Try.prog n_stringslite_IndexByte = true := by kernel_rfl

/- token_blif_read: (patchbay/token.blif).read -/
abbrev token_blif_read_p0 : List AG := [o 49 (.mv (.t 1)), o 50 (.mv (.t 2)), o 51 (.mv (.t 1)), o 52 (.mv (.t 2)), o 53 (.call (.f n_token_run) [(.t 51), (.t 52), (.f n_token_blif_read_1)]), o 54 (.call (.f n_token_one) [(.c (.int .i64 0)), (.t 49), (.t 50), (.t 53)]), o 55 (.extract (.t 54) 0), o 56 (.extract (.t 54) 1), q (.store 3 (.t 6) (.t 55)), o 7 (.mv (.t 56))]
abbrev token_blif_read_p1 : List AG := [o 15 (.mv (.t 1)), o 16 (.mv (.t 2)), o 17 (.call (.f n_token_line) [(.t 15), (.t 16)]), o 18 (.call (.f n_token_none) [(.t 17)]), o 19 (.extract (.t 18) 0), o 20 (.extract (.t 18) 1), q (.store 3 (.t 6) (.t 19)), o 7 (.mv (.t 20))]
abbrev token_blif_read_p2 : List AG := [o 26 (.call (.f n_token_none) [(.c (.int .i64 2))]), o 27 (.extract (.t 26) 0), o 28 (.extract (.t 26) 1), q (.store 3 (.t 6) (.t 27)), o 7 (.mv (.t 28))]
abbrev token_blif_read_p3 : List AG := [o 33 (.call (.f n_token_none) [(.c (.int .i64 1))]), o 34 (.extract (.t 33) 0), o 35 (.extract (.t 33) 1), q (.store 3 (.t 6) (.t 34)), o 7 (.mv (.t 35))]
abbrev token_blif_read_p4 : List AG := [o 39 (.mv (.t 2)), o 40 (.build [(.int .i64 0), (.str []), (.int .i64 0)] [(0, 1, (.c (.int .i64 3))), (2, 1, (.t 39))]), q (.store 3 (.t 6) (.t 40)), o 7 (.mv (.c (.int .i64 1)))]
abbrev token_blif_read_p5 : List AG := [o 44 (.mv (.t 1)), o 45 (.mv (.t 2)), o 46 (.call (.f n_token_one) [(.c (.int .i64 0)), (.t 44), (.t 45), (.c (.int .i64 1))]), o 47 (.extract (.t 46) 0), o 48 (.extract (.t 46) 1), q (.store 3 (.t 6) (.t 47)), o 7 (.mv (.t 48))]
abbrev token_blif_read_p6 : ACode := (.seq (.reg token_blif_read_p5) .ret)
abbrev token_blif_read_p7 : List AG := [o 42 (.mv (.t 8)), o 43 (.cmp .eql (.sc .int) (.t 42) (.c (.int .u8 92))), o 41 (.mv (.t 43))]
abbrev token_blif_read_p8 : ACode := (.seq (.reg token_blif_read_p4) .ret)
abbrev token_blif_read_p9 : ACode := (.seq (.reg token_blif_read_p7) (.cond (.t 41) token_blif_read_p6 .skip))
abbrev token_blif_read_p10 : List AG := [o 37 (.mv (.t 8)), o 38 (.cmp .eql (.sc .int) (.t 37) (.c (.int .u8 10))), o 36 (.mv (.t 38))]
abbrev token_blif_read_p11 : ACode := (.seq (.reg token_blif_read_p3) .ret)
abbrev token_blif_read_p12 : ACode := (.seq (.reg token_blif_read_p10) (.cond (.t 36) token_blif_read_p8 token_blif_read_p9))
abbrev token_blif_read_p13 : List AG := [o 30 (.mv (.t 8)), o 31 (.call (.f n_strings_IndexByte) [(.c (.str [32, 9, 13])), (.t 30)]), o 32 (.cmp .geq (.sc .int) (.t 31) (.c (.int .i64 0))), o 29 (.mv (.t 32))]
abbrev token_blif_read_p14 : ACode := (.seq (.reg token_blif_read_p2) .ret)
abbrev token_blif_read_p15 : ACode := (.seq (.reg token_blif_read_p13) (.cond (.t 29) token_blif_read_p11 token_blif_read_p12))
abbrev token_blif_read_p16 : List AG := [o 22 (.mv (.t 1)), o 23 (.mv (.t 2)), o 24 (.sliceStr (.t 22) (some (.t 23)) none), o 25 (.call (.f n_strings_HasPrefix) [(.t 24), (.c (.str [92, 10]))]), o 21 (.mv (.t 25))]
abbrev token_blif_read_p17 : ACode := (.seq (.reg token_blif_read_p1) .ret)
abbrev token_blif_read_p18 : ACode := (.seq (.reg token_blif_read_p16) (.cond (.t 21) token_blif_read_p14 token_blif_read_p15))
abbrev token_blif_read_p19 : List AG := [o 13 (.mv (.t 8)), o 14 (.cmp .eql (.sc .int) (.t 13) (.c (.int .u8 35))), o 12 (.mv (.t 14))]
abbrev token_blif_read_p20 : ACode := (.seq (.reg token_blif_read_p19) (.cond (.t 12) token_blif_read_p17 token_blif_read_p18))
abbrev token_blif_read_p21 : List AG := [o 9 (.mv (.t 1)), o 10 (.mv (.t 2)), o 11 (.ixStr (.t 9) (.t 10)), o 8 (.mv (.t 11))]
abbrev token_blif_read_p22 : List AG := [o 3 (.box 0 (.t 0)), o 6 (.alloc [(.int .i64 0), (.str []), (.int .i64 0)]), o 7 (.mv (.c (.int .i64 0)))]
abbrev token_blif_read : AFun := ⟨(.seq (.reg token_blif_read_p22) (.seq (.seq (.reg token_blif_read_p21) (.block 0 [] token_blif_read_p20)) (.seq (.reg token_blif_read_p0) .ret))), 57, [.cell 6 true 3, .tmp 7]⟩
@[simp] theorem c_token_blif_read : cfun Try.prog n_token_blif_read = some token_blif_read := by kernel_rfl
@[simp] theorem e_token_blif_read : hasBody Try.prog n_token_blif_read = true := by kernel_rfl

/- strings_HasPrefix: strings.HasPrefix -/
abbrev strings_HasPrefix_p0 : List AG := [o 5 (.mv (.t 0)), o 6 (.mv (.t 1)), o 7 (.call (.f n_stringslite_HasPrefix) [(.t 5), (.t 6)]), o 4 (.mv (.t 7))]
abbrev strings_HasPrefix_p1 : List AG := [o 4 (.mv (.c (.bool false)))]
abbrev strings_HasPrefix : AFun := ⟨(.seq (.reg strings_HasPrefix_p1) (.seq (.reg strings_HasPrefix_p0) .ret)), 8, [.tmp 4]⟩
@[simp] theorem c_strings_HasPrefix : cfun Try.prog n_strings_HasPrefix = some strings_HasPrefix := by kernel_rfl
@[simp] theorem e_strings_HasPrefix : hasBody Try.prog n_strings_HasPrefix = true := by kernel_rfl

/- token_blif_read_1: (patchbay/token.blif).read$1 -/
abbrev token_blif_read_1_p0 : List AG := [o 3 (.mv (.t 0)), o 4 (.call (.f n_strings_IndexByte) [(.c (.str [32, 9, 13, 10, 35, 92])), (.t 3)]), o 5 (.cmp .lss (.sc .int) (.t 4) (.c (.int .i64 0))), o 2 (.mv (.t 5))]
abbrev token_blif_read_1_p1 : List AG := [o 2 (.mv (.c (.bool false)))]
abbrev token_blif_read_1 : AFun := ⟨(.seq (.reg token_blif_read_1_p1) (.seq (.reg token_blif_read_1_p0) .ret)), 6, [.tmp 2]⟩
@[simp] theorem c_token_blif_read_1 : cfun Try.prog n_token_blif_read_1 = some token_blif_read_1 := by kernel_rfl
@[simp] theorem e_token_blif_read_1 : hasBody Try.prog n_token_blif_read_1 = true := by kernel_rfl

/- stringslite_HasPrefix: internal/stringslite.HasPrefix -/
abbrev stringslite_HasPrefix_p0 : List AG := [o 5 (.mv (.t 0)), o 6 (.lenStr (.t 5)), o 7 (.mv (.t 1)), o 8 (.lenStr (.t 7)), o 9 (.cmp .geq (.sc .int) (.t 6) (.t 8)), o 10 (.mv (.t 9)), ⟨(some 11), (some (10, true)), .mv (.t 0)⟩, ⟨(some 12), (some (10, true)), .mv (.t 1)⟩, ⟨(some 13), (some (10, true)), .lenStr (.t 12)⟩, ⟨(some 14), (some (10, true)), .sliceStr (.t 11) none (some (.t 13))⟩, ⟨(some 15), (some (10, true)), .mv (.t 1)⟩, ⟨(some 16), (some (10, true)), .cmp .eql (.sc .str) (.t 14) (.t 15)⟩, o 17 (.pick (.t 10) (.t 16) (.c (.bool false))), o 4 (.mv (.t 17))]
abbrev stringslite_HasPrefix_p1 : List AG := [o 4 (.mv (.c (.bool false)))]
abbrev stringslite_HasPrefix : AFun := ⟨(.seq (.reg stringslite_HasPrefix_p1) (.seq (.reg stringslite_HasPrefix_p0) .ret)), 18, [.tmp 4]⟩
@[simp] theorem c_stringslite_HasPrefix : cfun Try.prog n_stringslite_HasPrefix = some stringslite_HasPrefix := by kernel_rfl
@[simp] theorem e_stringslite_HasPrefix : hasBody Try.prog n_stringslite_HasPrefix = true := by kernel_rfl

/- token_verilog_read: (patchbay/token.verilog).read -/
abbrev token_verilog_read_p0 : List AG := [o 85 (.mv (.t 1)), o 86 (.mv (.t 2)), o 87 (.mv (.t 1)), o 88 (.mv (.t 2)), o 89 (.call (.f n_token_run) [(.t 87), (.t 88), (.f n_token_named)]), o 90 (.call (.f n_token_one) [(.c (.int .i64 0)), (.t 85), (.t 86), (.t 89)]), o 91 (.extract (.t 90) 0), o 92 (.extract (.t 90) 1), q (.store 3 (.t 6) (.t 91)), o 7 (.mv (.t 92))]
abbrev token_verilog_read_p1 : List AG := [o 18 (.call (.f n_token_none) [(.c (.int .i64 1))]), o 19 (.extract (.t 18) 0), o 20 (.extract (.t 18) 1), q (.store 3 (.t 6) (.t 19)), o 7 (.mv (.t 20))]
abbrev token_verilog_read_p2 : List AG := [o 26 (.mv (.t 1)), o 27 (.mv (.t 2)), o 28 (.call (.f n_token_line) [(.t 26), (.t 27)]), o 29 (.call (.f n_token_none) [(.t 28)]), o 30 (.extract (.t 29) 0), o 31 (.extract (.t 29) 1), q (.store 3 (.t 6) (.t 30)), o 7 (.mv (.t 31))]
abbrev token_verilog_read_p3 : List AG := [o 47 (.mv (.t 9)), o 48 (.ibin .add (.t 47) (.c (.int .i64 4))), o 49 (.call (.f n_token_none) [(.t 48)]), o 50 (.extract (.t 49) 0), o 51 (.extract (.t 49) 1), q (.store 3 (.t 6) (.t 50)), o 7 (.mv (.t 51))]
abbrev token_verilog_read_p4 : List AG := [o 44 (.mv (.t 2)), o 45 (.build [(.int .i64 0)] [(0, 1, (.t 44))]), o 46 (.mkIface t_token_odd (.t 45)), q (.panic (.t 46))]
abbrev token_verilog_read_p5 : List AG := [o 42 (.mv (.t 9)), o 43 (.cmp .lss (.sc .int) (.t 42) (.c (.int .i64 0)))]
abbrev token_verilog_read_p6 : List AG := [o 37 (.mv (.t 1)), o 38 (.mv (.t 2)), o 39 (.ibin .add (.t 38) (.c (.int .i64 2))), o 40 (.sliceStr (.t 37) (some (.t 39)) none), o 41 (.call (.f n_strings_Index) [(.t 40), (.c (.str [42, 47]))]), o 9 (.mv (.t 41))]
abbrev token_verilog_read_p7 : List AG := [o 56 (.mv (.t 1)), o 57 (.mv (.t 2)), o 58 (.call (.f n_token_one) [(.c (.int .i64 1)), (.t 56), (.t 57), (.c (.int .i64 1))]), o 59 (.extract (.t 58) 0), o 60 (.extract (.t 58) 1), q (.store 3 (.t 6) (.t 59)), o 7 (.mv (.t 60))]
abbrev token_verilog_read_p8 : List AG := [o 73 (.mv (.t 1)), o 74 (.mv (.t 2)), o 75 (.ibin .add (.t 74) (.c (.int .i64 1))), o 76 (.mv (.t 2)), o 77 (.ibin .add (.t 76) (.c (.int .i64 1))), o 78 (.mv (.t 10)), o 79 (.ibin .add (.t 77) (.t 78)), o 80 (.sliceStr (.t 73) (some (.t 75)) (some (.t 79))), o 81 (.mv (.t 2)), o 82 (.build [(.int .i64 0), (.str []), (.int .i64 0)] [(0, 1, (.c (.int .i64 2))), (1, 1, (.t 80)), (2, 1, (.t 81))]), o 83 (.mv (.t 10)), o 84 (.ibin .add (.t 83) (.c (.int .i64 1))), q (.store 3 (.t 6) (.t 82)), o 7 (.mv (.t 84))]
abbrev token_verilog_read_p9 : List AG := [o 70 (.mv (.t 2)), o 71 (.build [(.int .i64 0)] [(0, 1, (.t 70))]), o 72 (.mkIface t_token_odd (.t 71)), q (.panic (.t 72))]
abbrev token_verilog_read_p10 : List AG := [o 68 (.mv (.t 10)), o 69 (.cmp .eql (.sc .int) (.t 68) (.c (.int .i64 0)))]
abbrev token_verilog_read_p11 : List AG := [o 64 (.mv (.t 1)), o 65 (.mv (.t 2)), o 66 (.ibin .add (.t 65) (.c (.int .i64 1))), o 67 (.call (.f n_token_run) [(.t 64), (.t 66), (.f n_token_graph)]), o 10 (.mv (.t 67))]
abbrev token_verilog_read_p12 : ACode := (.seq (.reg token_verilog_read_p11) (.seq (.seq (.reg token_verilog_read_p10) (.cond (.t 69) (.reg token_verilog_read_p9) .skip)) (.seq (.reg token_verilog_read_p8) .ret)))
abbrev token_verilog_read_p13 : List AG := [o 62 (.mv (.t 8)), o 63 (.cmp .eql (.sc .int) (.t 62) (.c (.int .u8 92))), o 61 (.mv (.t 63))]
abbrev token_verilog_read_p14 : ACode := (.seq (.reg token_verilog_read_p7) .ret)
abbrev token_verilog_read_p15 : ACode := (.seq (.reg token_verilog_read_p13) (.cond (.t 61) token_verilog_read_p12 .skip))
abbrev token_verilog_read_p16 : List AG := [o 53 (.mv (.t 8)), o 54 (.call (.f n_strings_IndexByte) [(.c (.str [40, 41, 59, 44, 61, 126, 38, 124, 94])), (.t 53)]), o 55 (.cmp .geq (.sc .int) (.t 54) (.c (.int .i64 0))), o 52 (.mv (.t 55))]
abbrev token_verilog_read_p17 : ACode := (.seq (.reg token_verilog_read_p6) (.seq (.seq (.reg token_verilog_read_p5) (.cond (.t 43) (.reg token_verilog_read_p4) .skip)) (.seq (.reg token_verilog_read_p3) .ret)))
abbrev token_verilog_read_p18 : ACode := (.seq (.reg token_verilog_read_p16) (.cond (.t 52) token_verilog_read_p14 token_verilog_read_p15))
abbrev token_verilog_read_p19 : List AG := [o 33 (.mv (.t 1)), o 34 (.mv (.t 2)), o 35 (.sliceStr (.t 33) (some (.t 34)) none), o 36 (.call (.f n_strings_HasPrefix) [(.t 35), (.c (.str [47, 42]))]), o 32 (.mv (.t 36))]
abbrev token_verilog_read_p20 : ACode := (.seq (.reg token_verilog_read_p2) .ret)
abbrev token_verilog_read_p21 : ACode := (.seq (.reg token_verilog_read_p19) (.cond (.t 32) token_verilog_read_p17 token_verilog_read_p18))
abbrev token_verilog_read_p22 : List AG := [o 22 (.mv (.t 1)), o 23 (.mv (.t 2)), o 24 (.sliceStr (.t 22) (some (.t 23)) none), o 25 (.call (.f n_strings_HasPrefix) [(.t 24), (.c (.str [47, 47]))]), o 21 (.mv (.t 25))]
abbrev token_verilog_read_p23 : ACode := (.seq (.reg token_verilog_read_p1) .ret)
abbrev token_verilog_read_p24 : ACode := (.seq (.reg token_verilog_read_p22) (.cond (.t 21) token_verilog_read_p20 token_verilog_read_p21))
abbrev token_verilog_read_p25 : List AG := [o 15 (.mv (.t 8)), o 16 (.call (.f n_strings_IndexByte) [(.c (.str [32, 9, 13, 10])), (.t 15)]), o 17 (.cmp .geq (.sc .int) (.t 16) (.c (.int .i64 0))), o 14 (.mv (.t 17))]
abbrev token_verilog_read_p26 : ACode := (.seq (.reg token_verilog_read_p25) (.cond (.t 14) token_verilog_read_p23 token_verilog_read_p24))
abbrev token_verilog_read_p27 : List AG := [o 11 (.mv (.t 1)), o 12 (.mv (.t 2)), o 13 (.ixStr (.t 11) (.t 12)), o 8 (.mv (.t 13))]
abbrev token_verilog_read_p28 : List AG := [o 3 (.box 0 (.t 0)), o 6 (.alloc [(.int .i64 0), (.str []), (.int .i64 0)]), o 7 (.mv (.c (.int .i64 0)))]
abbrev token_verilog_read : AFun := ⟨(.seq (.reg token_verilog_read_p28) (.seq (.seq (.reg token_verilog_read_p27) (.block 0 [] token_verilog_read_p26)) (.seq (.reg token_verilog_read_p0) .ret))), 93, [.cell 6 true 3, .tmp 7]⟩
@[simp] theorem c_token_verilog_read : cfun Try.prog n_token_verilog_read = some token_verilog_read := by kernel_rfl
@[simp] theorem e_token_verilog_read : hasBody Try.prog n_token_verilog_read = true := by kernel_rfl

/- strings_Index: strings.Index -/
abbrev strings_Index_p0 : List AG := [o 5 (.mv (.t 0)), o 6 (.mv (.t 1)), o 7 (.call (.f n_stringslite_Index) [(.t 5), (.t 6)]), o 4 (.mv (.t 7))]
abbrev strings_Index_p1 : List AG := [o 4 (.mv (.c (.int .i64 0)))]
abbrev strings_Index : AFun := ⟨(.seq (.reg strings_Index_p1) (.seq (.reg strings_Index_p0) .ret)), 8, [.tmp 4]⟩
@[simp] theorem c_strings_Index : cfun Try.prog n_strings_Index = some strings_Index := by kernel_rfl
@[simp] theorem e_strings_Index : hasBody Try.prog n_strings_Index = true := by kernel_rfl

/- token_named: patchbay/token.named -/
abbrev token_named_p0 : List AG := [o 22 (.mv (.t 0)), o 23 (.call (.f n_strings_IndexByte) [(.c (.str [95, 36, 39])), (.t 22)]), o 24 (.cmp .geq (.sc .int) (.t 23) (.c (.int .i64 0))), o 2 (.mv (.t 24))]
abbrev token_named_p1 : List AG := [o 2 (.mv (.c (.bool true)))]
abbrev token_named_p2 : ACode := (.seq (.reg token_named_p1) .ret)
abbrev token_named_p3 : List AG := [o 16 (.mv (.t 0)), o 17 (.cmp .geq (.sc .int) (.t 16) (.c (.int .u8 48))), o 18 (.mv (.t 17)), ⟨(some 19), (some (18, true)), .mv (.t 0)⟩, ⟨(some 20), (some (18, true)), .cmp .leq (.sc .int) (.t 19) (.c (.int .u8 57))⟩, o 21 (.pick (.t 18) (.t 20) (.c (.bool false))), o 3 (.mv (.t 21))]
abbrev token_named_p4 : List AG := [o 10 (.mv (.t 0)), o 11 (.cmp .geq (.sc .int) (.t 10) (.c (.int .u8 65))), o 12 (.mv (.t 11)), ⟨(some 13), (some (12, true)), .mv (.t 0)⟩, ⟨(some 14), (some (12, true)), .cmp .leq (.sc .int) (.t 13) (.c (.int .u8 90))⟩, o 15 (.pick (.t 12) (.t 14) (.c (.bool false))), o 3 (.mv (.t 15))]
abbrev token_named_p5 : ACode := (.seq (.reg token_named_p4) (.cond (.t 3) .skip (.reg token_named_p3)))
abbrev token_named_p6 : List AG := [o 4 (.mv (.t 0)), o 5 (.cmp .geq (.sc .int) (.t 4) (.c (.int .u8 97))), o 6 (.mv (.t 5)), ⟨(some 7), (some (6, true)), .mv (.t 0)⟩, ⟨(some 8), (some (6, true)), .cmp .leq (.sc .int) (.t 7) (.c (.int .u8 122))⟩, o 9 (.pick (.t 6) (.t 8) (.c (.bool false))), o 3 (.mv (.t 9))]
abbrev token_named_p7 : ACode := (.seq (.seq (.reg token_named_p6) (.cond (.t 3) .skip token_named_p5)) (.cond (.t 3) token_named_p2 .skip))
abbrev token_named_p8 : List AG := [o 2 (.mv (.c (.bool false)))]
abbrev token_named : AFun := ⟨(.seq (.reg token_named_p8) (.seq (.block 0 [] token_named_p7) (.seq (.reg token_named_p0) .ret))), 25, [.tmp 2]⟩
@[simp] theorem c_token_named : cfun Try.prog n_token_named = some token_named := by kernel_rfl
@[simp] theorem e_token_named : hasBody Try.prog n_token_named = true := by kernel_rfl

/- stringslite_Index: internal/stringslite.Index -/
abbrev stringslite_Index_p0 : List AG := [o 4 (.mv (.c (.int .i64 (-1))))]
abbrev stringslite_Index_m1 : List Bool := [I,I,O,O,O,I,I,I,I,I,I,O,O,O,O,O,O,O,O,O,O,O,O,O,O,O,O,O,O,O,O,O,O,O,O,O,O,O,O,O,O,O,O,O,O,O,O,O,O,O,O,O,O,O,O,O,O,O,O,O,O,O,O,O,O,O,O,O,O,O,O,O,O,O,O,O,O,O,O,O,O,O,O,O,O,O,O,O,O,O,O,O,O,O,O,O,O,O,O,O,O,O,O,O,O,O,O,O,O,O,O,O,O,O,O,O,O,O,O,O,O,O,O,O,O,O,O,O,O,O,O,O,O,O,O,O,O,O,O,O,O,O,O]
abbrev stringslite_Index_x1 : List Bool := [O,O,O,O,O,O,O,O,O,O,O,O,O,O,O,O,O,O,O,O,O,O,O,O,O,O,O,O,O,O,O,O,O,O,O,O,O,O,O,O,O,O,O,O,O,O,O,O,O,O,O,O,O,O,O,O,O,O,O,O,O,O,O,O,O,O,O,O,O,O,O,O,O,O,O,O,O,O,O,O,O,O,O,O,O,O,O,O,O,O,O,O,O,O,O,O,O,O,O,O,O,O,O,O,O,O,O,O,O,O,O,O,O,O,O,O,O,O,O,O,O,O,O,O,O,O,O,O,O,O,O,O,O,O,O,O,O,O,O,O,O,O,O]
abbrev stringslite_Index_p2 : List AG := [o 4 (.mv (.c (.int .i64 (-1))))]
abbrev stringslite_Index_p3 : List AG := [o 115 (.mv (.t 12)), o 116 (.mv (.t 8)), o 117 (.ibin .add (.t 115) (.t 116)), o 4 (.mv (.t 117))]
abbrev stringslite_Index_p4 : ACode := (.seq (.reg stringslite_Index_p3) .ret)
abbrev stringslite_Index_p5 : List AG := [o 113 (.mv (.t 12)), o 114 (.cmp .geq (.sc .int) (.t 113) (.c (.int .i64 0)))]
abbrev stringslite_Index_p6 : List AG := [o 108 (.mv (.t 0)), o 109 (.mv (.t 8)), o 110 (.sliceStr (.t 108) (some (.t 109)) none), o 111 (.mv (.t 1)), o 112 (.call (.f n_bytealg_IndexString) [(.t 110), (.t 111)]), o 12 (.mv (.t 112))]
abbrev stringslite_Index_p7 : List AG := [o 140 (.mv (.t 8)), o 141 (.mv (.t 13)), o 142 (.ibin .add (.t 140) (.t 141)), o 4 (.mv (.t 142))]
abbrev stringslite_Index_p8 : List AG := [o 4 (.mv (.c (.int .i64 (-1))))]
abbrev stringslite_Index_p9 : ACode := (.seq (.reg stringslite_Index_p8) .ret)
abbrev stringslite_Index_p10 : List AG := [o 138 (.mv (.t 13)), o 139 (.cmp .lss (.sc .int) (.t 138) (.c (.int .i64 0)))]
abbrev stringslite_Index_p11 : List AG := [o 133 (.mv (.t 0)), o 134 (.mv (.t 8)), o 135 (.sliceStr (.t 133) (some (.t 134)) none), o 136 (.mv (.t 1)), o 137 (.call (.f n_bytealg_IndexRabinKarp_string) [(.t 135), (.t 136)]), o 13 (.mv (.t 137))]
abbrev stringslite_Index_p12 : ACode := (.seq (.reg stringslite_Index_p11) (.seq (.seq (.reg stringslite_Index_p10) (.cond (.t 139) stringslite_Index_p9 .skip)) (.seq (.reg stringslite_Index_p7) .ret)))
abbrev stringslite_Index_p13 : List AG := [o 118 (.mv (.t 5)), o 119 (.load false 1 (.g 0)), o 120 (.cmp .gtr (.sc .int) (.t 118) (.t 119)), o 121 (.mv (.t 120)), ⟨(some 122), (some (121, true)), .mv (.t 10)⟩, ⟨(some 123), (some (121, true)), .mv (.t 8)⟩, ⟨(some 124), (some (121, true)), .ibin .shr (.t 123) (.c (.int .u64 4))⟩, ⟨(some 125), (some (121, true)), .ibin .add (.c (.int .i64 4)) (.t 124)⟩, ⟨(some 126), (some (121, true)), .cmp .geq (.sc .int) (.t 122) (.t 125)⟩, o 127 (.pick (.t 121) (.t 126) (.c (.bool false))), o 128 (.mv (.t 127)), ⟨(some 129), (some (128, true)), .mv (.t 8)⟩, ⟨(some 130), (some (128, true)), .mv (.t 9)⟩, ⟨(some 131), (some (128, true)), .cmp .lss (.sc .int) (.t 129) (.t 130)⟩, o 132 (.pick (.t 128) (.t 131) (.c (.bool false)))]
abbrev stringslite_Index_p14 : ACode := (.seq (.reg stringslite_Index_p6) (.seq (.seq (.reg stringslite_Index_p5) (.cond (.t 114) stringslite_Index_p4 .skip)) (.seq (.reg stringslite_Index_p2) .ret)))
abbrev stringslite_Index_p15 : ACode := (.seq (.reg stringslite_Index_p13) (.cond (.t 132) stringslite_Index_p12 .skip))
abbrev stringslite_Index_p16 : List AG := [o 99 (.mv (.t 5)), o 100 (.load false 1 (.g 0)), o 101 (.cmp .leq (.sc .int) (.t 99) (.t 100)), o 102 (.mv (.t 101)), ⟨(some 103), (some (102, true)), .mv (.t 10)⟩, ⟨(some 104), (some (102, true)), .mv (.t 8)⟩, ⟨(some 105), (some (102, true)), .call (.f n_bytealg_Cutover) [(.t 104)]⟩, ⟨(some 106), (some (102, true)), .cmp .gtr (.sc .int) (.t 103) (.t 105)⟩, o 107 (.pick (.t 102) (.t 106) (.c (.bool false)))]
abbrev stringslite_Index_p17 : List AG := [o 97 (.mv (.t 10)), o 98 (.ibin .add (.t 97) (.c (.int .i64 1))), o 10 (.mv (.t 98))]
abbrev stringslite_Index_p18 : List AG := [o 95 (.mv (.t 8)), o 96 (.ibin .add (.t 95) (.c (.int .i64 1))), o 8 (.mv (.t 96))]
abbrev stringslite_Index_p19 : List AG := [o 94 (.mv (.t 8)), o 4 (.mv (.t 94))]
abbrev stringslite_Index_p20 : ACode := (.seq (.reg stringslite_Index_p19) .ret)
abbrev stringslite_Index_p21 : List AG := [o 78 (.mv (.t 0)), o 79 (.mv (.t 8)), o 80 (.ibin .add (.t 79) (.c (.int .i64 1))), o 81 (.ixStr (.t 78) (.t 80)), o 82 (.mv (.t 7)), o 83 (.cmp .eql (.sc .int) (.t 81) (.t 82)), o 84 (.mv (.t 83)), ⟨(some 85), (some (84, true)), .mv (.t 0)⟩, ⟨(some 86), (some (84, true)), .mv (.t 8)⟩, ⟨(some 87), (some (84, true)), .mv (.t 8)⟩, ⟨(some 88), (some (84, true)), .mv (.t 5)⟩, ⟨(some 89), (some (84, true)), .ibin .add (.t 87) (.t 88)⟩, ⟨(some 90), (some (84, true)), .sliceStr (.t 85) (some (.t 86)) (some (.t 89))⟩, ⟨(some 91), (some (84, true)), .mv (.t 1)⟩, ⟨(some 92), (some (84, true)), .cmp .eql (.sc .str) (.t 90) (.t 91)⟩, o 93 (.pick (.t 84) (.t 92) (.c (.bool false)))]
abbrev stringslite_Index_p22 : List AG := [o 74 (.mv (.t 8)), o 75 (.mv (.t 11)), o 76 (.ibin .add (.t 75) (.c (.int .i64 1))), o 77 (.ibin .add (.t 74) (.t 76)), o 8 (.mv (.t 77))]
abbrev stringslite_Index_p23 : List AG := [o 4 (.mv (.c (.int .i64 (-1))))]
abbrev stringslite_Index_p24 : ACode := (.seq (.reg stringslite_Index_p23) .ret)
abbrev stringslite_Index_p25 : List AG := [o 72 (.mv (.t 11)), o 73 (.cmp .lss (.sc .int) (.t 72) (.c (.int .i64 0)))]
abbrev stringslite_Index_p26 : List AG := [o 65 (.mv (.t 0)), o 66 (.mv (.t 8)), o 67 (.ibin .add (.t 66) (.c (.int .i64 1))), o 68 (.mv (.t 9)), o 69 (.sliceStr (.t 65) (some (.t 67)) (some (.t 68))), o 70 (.mv (.t 6)), o 71 (.call (.f n_stringslite_IndexByte) [(.t 69), (.t 70)]), o 11 (.mv (.t 71))]
abbrev stringslite_Index_p27 : ACode := (.seq (.reg stringslite_Index_p26) (.seq (.seq (.reg stringslite_Index_p25) (.cond (.t 73) stringslite_Index_p24 .skip)) (.reg stringslite_Index_p22)))
abbrev stringslite_Index_p28 : List AG := [o 60 (.mv (.t 0)), o 61 (.mv (.t 8)), o 62 (.ixStr (.t 60) (.t 61)), o 63 (.mv (.t 6)), o 64 (.cmp .neq (.sc .int) (.t 62) (.t 63))]
abbrev stringslite_Index_p29 : ACode := (.seq (.seq (.reg stringslite_Index_p28) (.cond (.t 64) stringslite_Index_p27 .skip)) (.seq (.seq (.reg stringslite_Index_p21) (.cond (.t 93) stringslite_Index_p20 .skip)) (.seq (.reg stringslite_Index_p18) (.seq (.reg stringslite_Index_p17) (.seq (.reg stringslite_Index_p16) (.cond (.t 107) stringslite_Index_p14 stringslite_Index_p15))))))
abbrev stringslite_Index_p30 : List AG := [o 57 (.mv (.t 8)), o 58 (.mv (.t 9)), o 59 (.cmp .lss (.sc .int) (.t 57) (.t 58))]
abbrev stringslite_Index_b1 : ACode := (.seq (.seq (.reg stringslite_Index_p30) (.cond (.t 59) .skip (.exit 1))) (.block 2 [] stringslite_Index_p29))
abbrev stringslite_Index_p31 : List AG := [o 10 (.mv (.c (.int .i64 0)))]
abbrev stringslite_Index_p32 : List AG := [o 52 (.mv (.t 0)), o 53 (.lenStr (.t 52)), o 54 (.mv (.t 5)), o 55 (.ibin .sub (.t 53) (.t 54)), o 56 (.ibin .add (.t 55) (.c (.int .i64 1))), o 9 (.mv (.t 56))]
abbrev stringslite_Index_p33 : List AG := [o 8 (.mv (.c (.int .i64 0)))]
abbrev stringslite_Index_p34 : List AG := [o 50 (.mv (.t 1)), o 51 (.ixStr (.t 50) (.c (.int .i64 1))), o 7 (.mv (.t 51))]
abbrev stringslite_Index_p35 : List AG := [o 48 (.mv (.t 1)), o 49 (.ixStr (.t 48) (.c (.int .i64 0))), o 6 (.mv (.t 49))]
abbrev stringslite_Index_p36 : List AG := [o 4 (.mv (.c (.int .i64 0)))]
abbrev stringslite_Index_p37 : List AG := [o 27 (.mv (.t 0)), o 28 (.mv (.t 1)), o 29 (.ixStr (.t 28) (.c (.int .i64 0))), o 30 (.call (.f n_stringslite_IndexByte) [(.t 27), (.t 29)]), o 4 (.mv (.t 30))]
abbrev stringslite_Index_p38 : List AG := [o 4 (.mv (.c (.int .i64 (-1))))]
abbrev stringslite_Index_p39 : List AG := [o 45 (.mv (.t 0)), o 46 (.mv (.t 1)), o 47 (.call (.f n_bytealg_IndexString) [(.t 45), (.t 46)]), o 4 (.mv (.t 47))]
abbrev stringslite_Index_p40 : ACode := (.seq (.reg stringslite_Index_p39) .ret)
abbrev stringslite_Index_p41 : List AG := [o 37 (.mv (.t 5)), o 38 (.load false 1 (.g 0)), o 39 (.cmp .leq (.sc .int) (.t 37) (.t 38)), o 40 (.mv (.t 39)), ⟨(some 41), (some (40, true)), .mv (.t 0)⟩, ⟨(some 42), (some (40, true)), .lenStr (.t 41)⟩, ⟨(some 43), (some (40, true)), .cmp .leq (.sc .int) (.t 42) (.c (.int .i64 64))⟩, o 44 (.pick (.t 40) (.t 43) (.c (.bool false))), o 36 (.mv (.t 44))]
abbrev stringslite_Index_p42 : ACode := (.seq (.reg stringslite_Index_p38) .ret)
abbrev stringslite_Index_p43 : ACode := (.seq (.reg stringslite_Index_p41) (.cond (.t 36) stringslite_Index_p40 .skip))
abbrev stringslite_Index_p44 : List AG := [o 32 (.mv (.t 5)), o 33 (.mv (.t 0)), o 34 (.lenStr (.t 33)), o 35 (.cmp .geq (.sc .int) (.t 32) (.t 34)), o 31 (.mv (.t 35))]
abbrev stringslite_Index_p45 : ACode := (.seq (.reg stringslite_Index_p37) .ret)
abbrev stringslite_Index_p46 : ACode := (.seq (.reg stringslite_Index_p44) (.cond (.t 31) stringslite_Index_p42 stringslite_Index_p43))
abbrev stringslite_Index_p47 : List AG := [o 25 (.mv (.t 5)), o 26 (.cmp .eql (.sc .int) (.t 25) (.c (.int .i64 1))), o 24 (.mv (.t 26))]
abbrev stringslite_Index_p48 : ACode := (.seq (.reg stringslite_Index_p36) .ret)
abbrev stringslite_Index_p49 : ACode := (.seq (.reg stringslite_Index_p47) (.cond (.t 24) stringslite_Index_p45 stringslite_Index_p46))
abbrev stringslite_Index_p50 : List AG := [o 17 (.mv (.t 5)), o 18 (.cmp .eql (.sc .int) (.t 17) (.c (.int .i64 0))), o 19 (.mv (.t 18)), ⟨(some 20), (some (19, false)), .mv (.t 1)⟩, ⟨(some 21), (some (19, false)), .mv (.t 0)⟩, ⟨(some 22), (some (19, false)), .cmp .eql (.sc .str) (.t 20) (.t 21)⟩, o 23 (.pick (.t 19) (.c (.bool true)) (.t 22)), o 16 (.mv (.t 23))]
abbrev stringslite_Index_p51 : ACode := (.seq (.reg stringslite_Index_p50) (.cond (.t 16) stringslite_Index_p48 stringslite_Index_p49))
abbrev stringslite_Index_p52 : List AG := [o 14 (.mv (.t 1)), o 15 (.lenStr (.t 14)), o 5 (.mv (.t 15))]
abbrev stringslite_Index_p53 : List AG := [o 4 (.mv (.c (.int .i64 0)))]
abbrev stringslite_Index : AFun := ⟨(.seq (.reg stringslite_Index_p53) (.seq (.reg stringslite_Index_p52) (.seq (.block 0 [] stringslite_Index_p51) (.seq (.reg stringslite_Index_p35) (.seq (.reg stringslite_Index_p34) (.seq (.reg stringslite_Index_p33) (.seq (.reg stringslite_Index_p32) (.seq (.reg stringslite_Index_p31) (.seq (.block 1 stringslite_Index_x1 (.loop stringslite_Index_m1 stringslite_Index_b1)) (.seq (.reg stringslite_Index_p0) .ret)))))))))), 143, [.tmp 4]⟩
abbrev stringslite_Index_k1 : List It := [.code (.seq (.reg stringslite_Index_p0) .ret)]
abbrev stringslite_Index_L1 (x0 x1 x5 x6 x7 x8 x9 x10 : AV) (h : List Ob) (e : Cx := cx) : Cfg := atC n_stringslite_Index (.code stringslite_Index_b1 :: .inLoop stringslite_Index_m1 stringslite_Index_b1 :: .inBlock 1 stringslite_Index_x1 :: stringslite_Index_k1) [x0,x1,U,U,U,x5,x6,x7,x8,x9,x10,U,U,U,U,U,U,U,U,U,U,U,U,U,U,U,U,U,U,U,U,U,U,U,U,U,U,U,U,U,U,U,U,U,U,U,U,U,U,U,U,U,U,U,U,U,U,U,U,U,U,U,U,U,U,U,U,U,U,U,U,U,U,U,U,U,U,U,U,U,U,U,U,U,U,U,U,U,U,U,U,U,U,U,U,U,U,U,U,U,U,U,U,U,U,U,U,U,U,U,U,U,U,U,U,U,U,U,U,U,U,U,U,U,U,U,U,U,U,U,U,U,U,U,U,U,U,U,U,U,U,U,U] h e
abbrev stringslite_Index_E1 (h : List Ob) (e : Cx := cx) : Cfg := atC n_stringslite_Index stringslite_Index_k1 [U,U,U,U,U,U,U,U,U,U,U,U,U,U,U,U,U,U,U,U,U,U,U,U,U,U,U,U,U,U,U,U,U,U,U,U,U,U,U,U,U,U,U,U,U,U,U,U,U,U,U,U,U,U,U,U,U,U,U,U,U,U,U,U,U,U,U,U,U,U,U,U,U,U,U,U,U,U,U,U,U,U,U,U,U,U,U,U,U,U,U,U,U,U,U,U,U,U,U,U,U,U,U,U,U,U,U,U,U,U,U,U,U,U,U,U,U,U,U,U,U,U,U,U,U,U,U,U,U,U,U,U,U,U,U,U,U,U,U,U,U,U,U] h e
@[simp] theorem c_stringslite_Index : cfun Try.prog n_stringslite_Index = some stringslite_Index := by kernel_rfl
@[simp] theorem e_stringslite_Index : hasBody Try.prog n_stringslite_Index = true := by kernel_rfl

/- bytealg_Cutover: internal/bytealg.Cutover -/
abbrev bytealg_Cutover_p0 : List AG := [o 3 (.mv (.t 0)), o 4 (.ibin .add (.t 3) (.c (.int .i64 16))), o 5 (.ibin .quo (.t 4) (.c (.int .i64 8))), o 2 (.mv (.t 5))]
abbrev bytealg_Cutover_p1 : List AG := [o 2 (.mv (.c (.int .i64 0)))]
abbrev bytealg_Cutover : AFun := ⟨(.seq (.reg bytealg_Cutover_p1) (.seq (.reg bytealg_Cutover_p0) .ret)), 6, [.tmp 2]⟩
@[simp] theorem c_bytealg_Cutover : cfun Try.prog n_bytealg_Cutover = some bytealg_Cutover := by kernel_rfl
@[simp] theorem e_bytealg_Cutover : hasBody Try.prog n_bytealg_Cutover = true := by kernel_rfl

/- bytealg_IndexRabinKarp_string: internal/bytealg.IndexRabinKarp[string] -/
abbrev bytealg_IndexRabinKarp_string_p0 : List AG := [o 4 (.mv (.c (.int .i64 (-1))))]
abbrev bytealg_IndexRabinKarp_string_m1 : List Bool := [I,I,O,O,O,I,I,I,I,O,I,O,O,O,O,O,O,O,O,O,O,O,O,O,O,O,O,O,O,O,O,O,O,O,O,O,O,O,O,O,O,O,O,O,O,O,O,O,O,O,O,O,O,O,O,O,O,O,O,O,O,O,O,O,O,O,O,O,O,O,O,O,O,O,O,O,O,O,O,O,O]
abbrev bytealg_IndexRabinKarp_string_x1 : List Bool := [O,O,O,O,O,O,O,O,O,O,O,O,O,O,O,O,O,O,O,O,O,O,O,O,O,O,O,O,O,O,O,O,O,O,O,O,O,O,O,O,O,O,O,O,O,O,O,O,O,O,O,O,O,O,O,O,O,O,O,O,O,O,O,O,O,O,O,O,O,O,O,O,O,O,O,O,O,O,O,O,O]
abbrev bytealg_IndexRabinKarp_string_p2 : List AG := [o 78 (.mv (.t 10)), o 79 (.mv (.t 7)), o 80 (.ibin .sub (.t 78) (.t 79)), o 4 (.mv (.t 80))]
abbrev bytealg_IndexRabinKarp_string_p3 : ACode := (.seq (.reg bytealg_IndexRabinKarp_string_p2) .ret)
abbrev bytealg_IndexRabinKarp_string_p4 : List AG := [o 65 (.mv (.t 8)), o 66 (.mv (.t 5)), o 67 (.cmp .eql (.sc .int) (.t 65) (.t 66)), o 68 (.mv (.t 67)), ⟨(some 69), (some (68, true)), .mv (.t 0)⟩, ⟨(some 70), (some (68, true)), .mv (.t 10)⟩, ⟨(some 71), (some (68, true)), .mv (.t 7)⟩, ⟨(some 72), (some (68, true)), .ibin .sub (.t 70) (.t 71)⟩, ⟨(some 73), (some (68, true)), .mv (.t 10)⟩, ⟨(some 74), (some (68, true)), .sliceStr (.t 69) (some (.t 72)) (some (.t 73))⟩, ⟨(some 75), (some (68, true)), .mv (.t 1)⟩, ⟨(some 76), (some (68, true)), .cmp .eql (.sc .str) (.t 74) (.t 75)⟩, o 77 (.pick (.t 68) (.t 76) (.c (.bool false)))]
abbrev bytealg_IndexRabinKarp_string_p5 : List AG := [o 63 (.mv (.t 10)), o 64 (.ibin .add (.t 63) (.c (.int .i64 1))), o 10 (.mv (.t 64))]
abbrev bytealg_IndexRabinKarp_string_p6 : List AG := [o 53 (.mv (.t 8)), o 54 (.mv (.t 6)), o 55 (.mv (.t 0)), o 56 (.mv (.t 10)), o 57 (.mv (.t 7)), o 58 (.ibin .sub (.t 56) (.t 57)), o 59 (.ixStr (.t 55) (.t 58)), o 60 (.conv .u32 (.t 59)), o 61 (.ibin .mul (.t 54) (.t 60)), o 62 (.ibin .sub (.t 53) (.t 61)), o 8 (.mv (.t 62))]
abbrev bytealg_IndexRabinKarp_string_p7 : List AG := [o 47 (.mv (.t 8)), o 48 (.mv (.t 0)), o 49 (.mv (.t 10)), o 50 (.ixStr (.t 48) (.t 49)), o 51 (.conv .u32 (.t 50)), o 52 (.ibin .add (.t 47) (.t 51)), o 8 (.mv (.t 52))]
abbrev bytealg_IndexRabinKarp_string_p8 : List AG := [o 45 (.mv (.t 8)), o 46 (.ibin .mul (.t 45) (.c (.int .u32 16777619))), o 8 (.mv (.t 46))]
abbrev bytealg_IndexRabinKarp_string_p9 : ACode := (.seq (.reg bytealg_IndexRabinKarp_string_p8) (.seq (.reg bytealg_IndexRabinKarp_string_p7) (.seq (.reg bytealg_IndexRabinKarp_string_p6) (.seq (.reg bytealg_IndexRabinKarp_string_p5) (.seq (.reg bytealg_IndexRabinKarp_string_p4) (.cond (.t 77) bytealg_IndexRabinKarp_string_p3 .skip))))))
abbrev bytealg_IndexRabinKarp_string_p10 : List AG := [o 41 (.mv (.t 10)), o 42 (.mv (.t 0)), o 43 (.lenStr (.t 42)), o 44 (.cmp .lss (.sc .int) (.t 41) (.t 43))]
abbrev bytealg_IndexRabinKarp_string_b1 : ACode := (.seq (.seq (.reg bytealg_IndexRabinKarp_string_p10) (.cond (.t 44) .skip (.exit 2))) (.block 3 [] bytealg_IndexRabinKarp_string_p9))
abbrev bytealg_IndexRabinKarp_string_p11 : List AG := [o 40 (.mv (.t 7)), o 10 (.mv (.t 40))]
abbrev bytealg_IndexRabinKarp_string_p12 : List AG := [o 4 (.mv (.c (.int .i64 0)))]
abbrev bytealg_IndexRabinKarp_string_p13 : ACode := (.seq (.reg bytealg_IndexRabinKarp_string_p12) .ret)
abbrev bytealg_IndexRabinKarp_string_p14 : List AG := [o 30 (.mv (.t 8)), o 31 (.mv (.t 5)), o 32 (.cmp .eql (.sc .int) (.t 30) (.t 31)), o 33 (.mv (.t 32)), ⟨(some 34), (some (33, true)), .mv (.t 0)⟩, ⟨(some 35), (some (33, true)), .mv (.t 7)⟩, ⟨(some 36), (some (33, true)), .sliceStr (.t 34) none (some (.t 35))⟩, ⟨(some 37), (some (33, true)), .mv (.t 1)⟩, ⟨(some 38), (some (33, true)), .cmp .eql (.sc .str) (.t 36) (.t 37)⟩, o 39 (.pick (.t 33) (.t 38) (.c (.bool false)))]
abbrev bytealg_IndexRabinKarp_string_m15 : List Bool := [I,I,O,O,O,I,I,I,I,I,O,O,O,O,O,O,O,O,O,O,O,O,O,O,O,O,O,O,O,O,O,O,O,O,O,O,O,O,O,O,O,O,O,O,O,O,O,O,O,O,O,O,O,O,O,O,O,O,O,O,O,O,O,O,O,O,O,O,O,O,O,O,O,O,O,O,O,O,O,O,O]
abbrev bytealg_IndexRabinKarp_string_x15 : List Bool := [I,I,O,O,O,I,I,I,I,O,O,O,O,O,O,O,O,O,O,O,O,O,O,O,O,O,O,O,O,O,O,O,O,O,O,O,O,O,O,O,O,O,O,O,O,O,O,O,O,O,O,O,O,O,O,O,O,O,O,O,O,O,O,O,O,O,O,O,O,O,O,O,O,O,O,O,O,O,O,O,O]
abbrev bytealg_IndexRabinKarp_string_p16 : List AG := [o 21 (.mv (.t 9)), o 22 (.ibin .add (.t 21) (.c (.int .i64 1))), o 9 (.mv (.t 22))]
abbrev bytealg_IndexRabinKarp_string_p17 : List AG := [o 23 (.mv (.t 8)), o 24 (.ibin .mul (.t 23) (.c (.int .u32 16777619))), o 25 (.mv (.t 0)), o 26 (.mv (.t 9)), o 27 (.ixStr (.t 25) (.t 26)), o 28 (.conv .u32 (.t 27)), o 29 (.ibin .add (.t 24) (.t 28)), o 8 (.mv (.t 29))]
abbrev bytealg_IndexRabinKarp_string_p18 : List AG := [o 18 (.mv (.t 9)), o 19 (.mv (.t 7)), o 20 (.cmp .lss (.sc .int) (.t 18) (.t 19))]
abbrev bytealg_IndexRabinKarp_string_b15 : ACode := (.seq (.seq (.reg bytealg_IndexRabinKarp_string_p18) (.cond (.t 20) .skip (.exit 0))) (.seq (.block 1 [] (.reg bytealg_IndexRabinKarp_string_p17)) (.reg bytealg_IndexRabinKarp_string_p16)))
abbrev bytealg_IndexRabinKarp_string_p19 : List AG := [o 9 (.mv (.c (.int .i64 0)))]
abbrev bytealg_IndexRabinKarp_string_p20 : List AG := [o 8 (.mv (.c (.int .u32 0)))]
abbrev bytealg_IndexRabinKarp_string_p21 : List AG := [o 16 (.mv (.t 1)), o 17 (.lenStr (.t 16)), o 7 (.mv (.t 17))]
abbrev bytealg_IndexRabinKarp_string_p22 : List AG := [o 12 (.mv (.t 1)), o 13 (.call (.f n_bytealg_hashStr_string) [(.t 12)]), o 11 (.mv (.t 13)), o 14 (.extract (.t 11) 0), o 15 (.extract (.t 11) 1), o 5 (.mv (.t 14)), o 6 (.mv (.t 15))]
abbrev bytealg_IndexRabinKarp_string_p23 : List AG := [o 4 (.mv (.c (.int .i64 0)))]
abbrev bytealg_IndexRabinKarp_string : AFun := ⟨(.seq (.reg bytealg_IndexRabinKarp_string_p23) (.seq (.reg bytealg_IndexRabinKarp_string_p22) (.seq (.reg bytealg_IndexRabinKarp_string_p21) (.seq (.reg bytealg_IndexRabinKarp_string_p20) (.seq (.seq (.reg bytealg_IndexRabinKarp_string_p19) (.block 0 bytealg_IndexRabinKarp_string_x15 (.loop bytealg_IndexRabinKarp_string_m15 bytealg_IndexRabinKarp_string_b15))) (.seq (.seq (.reg bytealg_IndexRabinKarp_string_p14) (.cond (.t 39) bytealg_IndexRabinKarp_string_p13 .skip)) (.seq (.seq (.reg bytealg_IndexRabinKarp_string_p11) (.block 2 bytealg_IndexRabinKarp_string_x1 (.loop bytealg_IndexRabinKarp_string_m1 bytealg_IndexRabinKarp_string_b1))) (.seq (.reg bytealg_IndexRabinKarp_string_p0) .ret)))))))), 81, [.tmp 4]⟩
abbrev bytealg_IndexRabinKarp_string_k1 : List It := [.code (.seq (.reg bytealg_IndexRabinKarp_string_p0) .ret)]
abbrev bytealg_IndexRabinKarp_string_L1 (x0 x1 x5 x6 x7 x8 x10 : AV) (h : List Ob) (e : Cx := cx) : Cfg := atC n_bytealg_IndexRabinKarp_string (.code bytealg_IndexRabinKarp_string_b1 :: .inLoop bytealg_IndexRabinKarp_string_m1 bytealg_IndexRabinKarp_string_b1 :: .inBlock 2 bytealg_IndexRabinKarp_string_x1 :: bytealg_IndexRabinKarp_string_k1) [x0,x1,U,U,U,x5,x6,x7,x8,U,x10,U,U,U,U,U,U,U,U,U,U,U,U,U,U,U,U,U,U,U,U,U,U,U,U,U,U,U,U,U,U,U,U,U,U,U,U,U,U,U,U,U,U,U,U,U,U,U,U,U,U,U,U,U,U,U,U,U,U,U,U,U,U,U,U,U,U,U,U,U,U] h e
abbrev bytealg_IndexRabinKarp_string_E1 (h : List Ob) (e : Cx := cx) : Cfg := atC n_bytealg_IndexRabinKarp_string bytealg_IndexRabinKarp_string_k1 [U,U,U,U,U,U,U,U,U,U,U,U,U,U,U,U,U,U,U,U,U,U,U,U,U,U,U,U,U,U,U,U,U,U,U,U,U,U,U,U,U,U,U,U,U,U,U,U,U,U,U,U,U,U,U,U,U,U,U,U,U,U,U,U,U,U,U,U,U,U,U,U,U,U,U,U,U,U,U,U,U] h e
abbrev bytealg_IndexRabinKarp_string_k15 : List It := [.code (.seq (.seq (.reg bytealg_IndexRabinKarp_string_p14) (.cond (.t 39) bytealg_IndexRabinKarp_string_p13 .skip)) (.seq (.seq (.reg bytealg_IndexRabinKarp_string_p11) (.block 2 bytealg_IndexRabinKarp_string_x1 (.loop bytealg_IndexRabinKarp_string_m1 bytealg_IndexRabinKarp_string_b1))) (.seq (.reg bytealg_IndexRabinKarp_string_p0) .ret)))]
abbrev bytealg_IndexRabinKarp_string_L15 (x0 x1 x5 x6 x7 x8 x9 : AV) (h : List Ob) (e : Cx := cx) : Cfg := atC n_bytealg_IndexRabinKarp_string (.code bytealg_IndexRabinKarp_string_b15 :: .inLoop bytealg_IndexRabinKarp_string_m15 bytealg_IndexRabinKarp_string_b15 :: .inBlock 0 bytealg_IndexRabinKarp_string_x15 :: bytealg_IndexRabinKarp_string_k15) [x0,x1,U,U,U,x5,x6,x7,x8,x9,U,U,U,U,U,U,U,U,U,U,U,U,U,U,U,U,U,U,U,U,U,U,U,U,U,U,U,U,U,U,U,U,U,U,U,U,U,U,U,U,U,U,U,U,U,U,U,U,U,U,U,U,U,U,U,U,U,U,U,U,U,U,U,U,U,U,U,U,U,U,U] h e
abbrev bytealg_IndexRabinKarp_string_E15 (x0 x1 x5 x6 x7 x8 : AV) (h : List Ob) (e : Cx := cx) : Cfg := atC n_bytealg_IndexRabinKarp_string bytealg_IndexRabinKarp_string_k15 [x0,x1,U,U,U,x5,x6,x7,x8,U,U,U,U,U,U,U,U,U,U,U,U,U,U,U,U,U,U,U,U,U,U,U,U,U,U,U,U,U,U,U,U,U,U,U,U,U,U,U,U,U,U,U,U,U,U,U,U,U,U,U,U,U,U,U,U,U,U,U,U,U,U,U,U,U,U,U,U,U,U,U,U] h e
@[simp] theorem c_bytealg_IndexRabinKarp_string : cfun Try.prog n_bytealg_IndexRabinKarp_string = some bytealg_IndexRabinKarp_string := by kernel_rfl
@[simp] theorem e_bytealg_IndexRabinKarp_string : hasBody Try.prog n_bytealg_IndexRabinKarp_string = true := by kernel_rfl

/- bytealg_hashStr_string: internal/bytealg.hashStr[string] -/
abbrev bytealg_hashStr_string_p0 : List AG := [o 37 (.mv (.t 4)), o 38 (.mv (.t 6)), o 2 (.mv (.t 37)), o 3 (.mv (.t 38))]
abbrev bytealg_hashStr_string_m1 : List Bool := [O,O,O,O,I,O,I,I,I,O,O,O,O,O,O,O,O,O,O,O,O,O,O,O,O,O,O,O,O,O,O,O,O,O,O,O,O,O,O]
abbrev bytealg_hashStr_string_x1 : List Bool := [O,O,O,O,I,O,I,O,O,O,O,O,O,O,O,O,O,O,O,O,O,O,O,O,O,O,O,O,O,O,O,O,O,O,O,O,O,O,O]
abbrev bytealg_hashStr_string_p2 : List AG := [o 26 (.mv (.t 8)), o 27 (.ibin .shr (.t 26) (.c (.int .u64 1))), o 8 (.mv (.t 27))]
abbrev bytealg_hashStr_string_p3 : List AG := [o 34 (.mv (.t 7)), o 35 (.mv (.t 7)), o 36 (.ibin .mul (.t 34) (.t 35)), o 7 (.mv (.t 36))]
abbrev bytealg_hashStr_string_p4 : List AG := [o 31 (.mv (.t 6)), o 32 (.mv (.t 7)), o 33 (.ibin .mul (.t 31) (.t 32)), o 6 (.mv (.t 33))]
abbrev bytealg_hashStr_string_p5 : List AG := [o 28 (.mv (.t 8)), o 29 (.ibin .and (.t 28) (.c (.int .i64 1))), o 30 (.cmp .neq (.sc .int) (.t 29) (.c (.int .i64 0)))]
abbrev bytealg_hashStr_string_p6 : ACode := (.seq (.seq (.reg bytealg_hashStr_string_p5) (.cond (.t 30) (.reg bytealg_hashStr_string_p4) .skip)) (.reg bytealg_hashStr_string_p3))
abbrev bytealg_hashStr_string_p7 : List AG := [o 24 (.mv (.t 8)), o 25 (.cmp .gtr (.sc .int) (.t 24) (.c (.int .i64 0)))]
abbrev bytealg_hashStr_string_b1 : ACode := (.seq (.seq (.reg bytealg_hashStr_string_p7) (.cond (.t 25) .skip (.exit 2))) (.seq (.block 3 [] bytealg_hashStr_string_p6) (.reg bytealg_hashStr_string_p2)))
abbrev bytealg_hashStr_string_p8 : List AG := [o 22 (.mv (.t 0)), o 23 (.lenStr (.t 22)), o 8 (.mv (.t 23))]
abbrev bytealg_hashStr_string_p9 : List AG := [o 6 (.mv (.c (.int .u32 1))), o 7 (.mv (.c (.int .u32 16777619)))]
abbrev bytealg_hashStr_string_m10 : List Bool := [I,O,O,O,I,I,O,O,O,O,O,O,O,O,O,O,O,O,O,O,O,O,O,O,O,O,O,O,O,O,O,O,O,O,O,O,O,O,O]
abbrev bytealg_hashStr_string_x10 : List Bool := [I,O,O,O,I,O,O,O,O,O,O,O,O,O,O,O,O,O,O,O,O,O,O,O,O,O,O,O,O,O,O,O,O,O,O,O,O,O,O]
abbrev bytealg_hashStr_string_p11 : List AG := [o 13 (.mv (.t 5)), o 14 (.ibin .add (.t 13) (.c (.int .i64 1))), o 5 (.mv (.t 14))]
abbrev bytealg_hashStr_string_p12 : List AG := [o 15 (.mv (.t 4)), o 16 (.ibin .mul (.t 15) (.c (.int .u32 16777619))), o 17 (.mv (.t 0)), o 18 (.mv (.t 5)), o 19 (.ixStr (.t 17) (.t 18)), o 20 (.conv .u32 (.t 19)), o 21 (.ibin .add (.t 16) (.t 20)), o 4 (.mv (.t 21))]
abbrev bytealg_hashStr_string_p13 : List AG := [o 9 (.mv (.t 5)), o 10 (.mv (.t 0)), o 11 (.lenStr (.t 10)), o 12 (.cmp .lss (.sc .int) (.t 9) (.t 11))]
abbrev bytealg_hashStr_string_b10 : ACode := (.seq (.seq (.reg bytealg_hashStr_string_p13) (.cond (.t 12) .skip (.exit 0))) (.seq (.block 1 [] (.reg bytealg_hashStr_string_p12)) (.reg bytealg_hashStr_string_p11)))
abbrev bytealg_hashStr_string_p14 : List AG := [o 5 (.mv (.c (.int .i64 0)))]
abbrev bytealg_hashStr_string_p15 : List AG := [o 4 (.mv (.c (.int .u32 0)))]
abbrev bytealg_hashStr_string_p16 : List AG := [o 2 (.mv (.c (.int .u32 0))), o 3 (.mv (.c (.int .u32 0)))]
abbrev bytealg_hashStr_string : AFun := ⟨(.seq (.reg bytealg_hashStr_string_p16) (.seq (.reg bytealg_hashStr_string_p15) (.seq (.seq (.reg bytealg_hashStr_string_p14) (.block 0 bytealg_hashStr_string_x10 (.loop bytealg_hashStr_string_m10 bytealg_hashStr_string_b10))) (.seq (.reg bytealg_hashStr_string_p9) (.seq (.seq (.reg bytealg_hashStr_string_p8) (.block 2 bytealg_hashStr_string_x1 (.loop bytealg_hashStr_string_m1 bytealg_hashStr_string_b1))) (.seq (.reg bytealg_hashStr_string_p0) .ret)))))), 39, [.tmp 2, .tmp 3]⟩
abbrev bytealg_hashStr_string_k1 : List It := [.code (.seq (.reg bytealg_hashStr_string_p0) .ret)]
abbrev bytealg_hashStr_string_L1 (x4 x6 x7 x8 : AV) (h : List Ob) (e : Cx := cx) : Cfg := atC n_bytealg_hashStr_string (.code bytealg_hashStr_string_b1 :: .inLoop bytealg_hashStr_string_m1 bytealg_hashStr_string_b1 :: .inBlock 2 bytealg_hashStr_string_x1 :: bytealg_hashStr_string_k1) [U,U,U,U,x4,U,x6,x7,x8,U,U,U,U,U,U,U,U,U,U,U,U,U,U,U,U,U,U,U,U,U,U,U,U,U,U,U,U,U,U] h e
abbrev bytealg_hashStr_string_E1 (x4 x6 : AV) (h : List Ob) (e : Cx := cx) : Cfg := atC n_bytealg_hashStr_string bytealg_hashStr_string_k1 [U,U,U,U,x4,U,x6,U,U,U,U,U,U,U,U,U,U,U,U,U,U,U,U,U,U,U,U,U,U,U,U,U,U,U,U,U,U,U,U] h e
abbrev bytealg_hashStr_string_k10 : List It := [.code (.seq (.reg bytealg_hashStr_string_p9) (.seq (.seq (.reg bytealg_hashStr_string_p8) (.block 2 bytealg_hashStr_string_x1 (.loop bytealg_hashStr_string_m1 bytealg_hashStr_string_b1))) (.seq (.reg bytealg_hashStr_string_p0) .ret)))]
abbrev bytealg_hashStr_string_L10 (x0 x4 x5 : AV) (h : List Ob) (e : Cx := cx) : Cfg := atC n_bytealg_hashStr_string (.code bytealg_hashStr_string_b10 :: .inLoop bytealg_hashStr_string_m10 bytealg_hashStr_string_b10 :: .inBlock 0 bytealg_hashStr_string_x10 :: bytealg_hashStr_string_k10) [x0,U,U,U,x4,x5,U,U,U,U,U,U,U,U,U,U,U,U,U,U,U,U,U,U,U,U,U,U,U,U,U,U,U,U,U,U,U,U,U] h e
abbrev bytealg_hashStr_string_E10 (x0 x4 : AV) (h : List Ob) (e : Cx := cx) : Cfg := atC n_bytealg_hashStr_string bytealg_hashStr_string_k10 [x0,U,U,U,x4,U,U,U,U,U,U,U,U,U,U,U,U,U,U,U,U,U,U,U,U,U,U,U,U,U,U,U,U,U,U,U,U,U,U] h e
@[simp] theorem c_bytealg_hashStr_string : cfun Try.prog n_bytealg_hashStr_string = some bytealg_hashStr_string := by kernel_rfl
@[simp] theorem e_bytealg_hashStr_string : hasBody Try.prog n_bytealg_hashStr_string = true := by kernel_rfl

end Go.Proofs.Ytbdnncbigmcdjaa
