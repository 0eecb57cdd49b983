/- The functions, as the abstract machine has them. Printed by a program. -/
import Derived.Test.YthnplnkddbbojaaDoorAMc
import Derived.Test.YthnplnkddbbojaaDoorChecked
import Derived.KernelRfl
namespace Go.Proofs.YthnplnkddbbojaaDoor
open Go.AM Go.Proofs
abbrev n_gosem_cut : FuncId := 1
abbrev n_gosem_cut_init : FuncId := 2
abbrev n_w01_SpotPlaces : FuncId := 3
abbrev n_w01_SpotLines : FuncId := 4
abbrev n_w01_SpotBack : FuncId := 5
abbrev n_w01_SpotOrder : FuncId := 6
abbrev n_w01_SpotMoves : FuncId := 7
abbrev n_w01_SpotEnds : FuncId := 8
abbrev n_w01_works : FuncId := 9
abbrev n_spot_Place : FuncId := 10
abbrev n_r01_Place : FuncId := 11
abbrev n_spot_At : FuncId := 12
abbrev n_r01_At : FuncId := 13
abbrev n_r01_Fail : FuncId := 14
abbrev n_spot_Fail : FuncId := 15
abbrev n_spot_Lines : FuncId := 16
abbrev n_r01_Texts : FuncId := 17
abbrev n_r01_Lines : FuncId := 18
abbrev n_spot_Move : FuncId := 19
abbrev n_spot_spot_over : FuncId := 20
abbrev n_spot_At_1 : FuncId := 21
abbrev n_spot_lines : FuncId := 22
abbrev n_strings_Count : FuncId := 23
abbrev n_strings_LastIndex : FuncId := 24
abbrev n_spot_lines_1 : FuncId := 25
abbrev n_strings_Cut : FuncId := 26
abbrev n_unicode_utf8_RuneCountInString : FuncId := 27
abbrev n_bytealg_CountString : FuncId := 28
abbrev n_strings_Index : FuncId := 29
abbrev n_bytealg_LastIndexByteString : FuncId := 30
abbrev n_bytealg_LastIndexRabinKarp_string : FuncId := 31
abbrev n_stringslite_Cut : FuncId := 32
abbrev n_stringslite_Index : FuncId := 33
abbrev n_bytealg_hashStrRev_string : FuncId := 34
abbrev n_stringslite_IndexByte : FuncId := 35
abbrev n_bytealg_IndexString : FuncId := 36
abbrev n_bytealg_Cutover : FuncId := 37
abbrev n_bytealg_IndexRabinKarp_string : FuncId := 38
abbrev n_bytealg_IndexByteString : FuncId := 39
abbrev n_bytealg_hashStr_string : FuncId := 40
abbrev n_gosem_cut_vars : FuncId := 61
abbrev t_string : TypeId := 9
/- w01_SpotPlaces: patchbay/patchbaylaw01.SpotPlaces -/
abbrev w01_SpotPlaces_p0 : List AG := [o 55 (.mv (.t 11)), o 56 (.mv (.t 55)), ⟨(some 57), (some (56, true)), .mv (.t 12)⟩, ⟨(some 58), (some (56, true)), .off 0 (.t 14)⟩, ⟨(some 59), (some (56, true)), .load false 1 (.t 58)⟩, ⟨(some 60), (some (56, true)), .cmp .eql (.sc .int) (.t 57) (.t 59)⟩, o 61 (.pick (.t 56) (.t 60) (.c (.bool false))), o 62 (.mv (.t 61)), ⟨(some 63), (some (62, true)), .mv (.t 13)⟩, ⟨(some 64), (some (62, true)), .off 1 (.t 14)⟩, ⟨(some 65), (some (62, true)), .load false 1 (.t 64)⟩, ⟨(some 66), (some (62, true)), .cmp .eql (.sc .int) (.t 63) (.t 65)⟩, o 67 (.pick (.t 62) (.t 66) (.c (.bool false))), o 68 (.mv (.t 67)), ⟨(some 69), (some (68, true)), .mv (.t 15)⟩, ⟨(some 70), (some (68, true)), .mv (.t 17)⟩, ⟨(some 71), (some (68, true)), .cmp .eql (.sc .int) (.t 69) (.t 70)⟩, o 72 (.pick (.t 68) (.t 71) (.c (.bool false))), o 73 (.mv (.t 72)), ⟨(some 74), (some (73, true)), .mv (.t 16)⟩, ⟨(some 75), (some (73, true)), .mv (.t 18)⟩, ⟨(some 76), (some (73, true)), .cmp .eql (.sc .bool) (.t 74) (.t 75)⟩, o 77 (.pick (.t 73) (.t 76) (.c (.bool false))), o 78 (.mv (.t 77)), ⟨(some 79), (some (78, true)), .mv (.t 0)⟩, ⟨(some 80), (some (78, true)), .mv (.t 1)⟩, ⟨(some 81), (some (78, true)), .mv (.t 4)⟩, ⟨(some 82), (some (78, true)), .call (.f n_spot_Fail) [(.t 79), (.t 80), (.t 81)]⟩, ⟨(some 83), (some (78, true)), .load true 3 (.t 19)⟩, ⟨(some 84), (some (78, true)), .cmp .eql (.strct [.int, .int, .int]) (.t 82) (.t 83)⟩, o 85 (.pick (.t 78) (.t 84) (.c (.bool false))), o 10 (.mv (.t 85))]
abbrev w01_SpotPlaces_p1 : List AG := [o 51 (.mv (.t 0)), o 52 (.mv (.t 1)), o 53 (.mv (.t 4)), o 54 (.call (.f n_r01_Fail) [(.t 51), (.t 52), (.t 53)]), o 19 (.alloc [(.int .i64 0), (.int .i64 0), (.int .i64 0)]), q (.store 3 (.t 19) (.t 54))]
abbrev w01_SpotPlaces_p2 : List AG := [o 44 (.mv (.t 0)), o 45 (.mv (.t 2)), o 46 (.mv (.t 3)), o 47 (.build [(.int .i64 0), (.int .i64 0)] [(0, 1, (.t 45)), (1, 1, (.t 46))]), o 48 (.call (.f n_r01_At) [(.t 44), (.t 47)]), o 43 (.mv (.t 48)), o 49 (.extract (.t 43) 0), o 50 (.extract (.t 43) 1), o 17 (.mv (.t 49)), o 18 (.mv (.t 50))]
abbrev w01_SpotPlaces_p3 : List AG := [o 37 (.mv (.t 0)), o 38 (.mv (.t 2)), o 39 (.mv (.t 3)), o 40 (.call (.f n_spot_At) [(.t 37), (.t 38), (.t 39)]), o 36 (.mv (.t 40)), o 41 (.extract (.t 36) 0), o 42 (.extract (.t 36) 1), o 15 (.mv (.t 41)), o 16 (.mv (.t 42))]
abbrev w01_SpotPlaces_p4 : List AG := [o 33 (.mv (.t 0)), o 34 (.mv (.t 1)), o 35 (.call (.f n_r01_Place) [(.t 33), (.t 34)]), o 14 (.alloc [(.int .i64 0), (.int .i64 0)]), q (.store 2 (.t 14) (.t 35))]
abbrev w01_SpotPlaces_p5 : List AG := [o 28 (.mv (.t 0)), o 29 (.mv (.t 1)), o 30 (.call (.f n_spot_Place) [(.t 28), (.t 29)]), o 27 (.mv (.t 30)), o 31 (.extract (.t 27) 0), o 32 (.extract (.t 27) 1), o 12 (.mv (.t 31)), o 13 (.mv (.t 32))]
abbrev w01_SpotPlaces_p6 : List AG := [o 26 (.mv (.t 11)), o 10 (.mv (.t 26))]
abbrev w01_SpotPlaces_p7 : ACode := (.seq (.reg w01_SpotPlaces_p6) .ret)
abbrev w01_SpotPlaces_p8 : List AG := [o 23 (.mv (.t 0)), o 24 (.lenStr (.t 23)), o 25 (.cmp .gtr (.sc .int) (.t 24) (.c (.int .i64 200)))]
abbrev w01_SpotPlaces_p9 : List AG := [o 10 (.mv (.c (.bool false)))]
abbrev w01_SpotPlaces_p10 : ACode := (.seq (.reg w01_SpotPlaces_p9) .ret)
abbrev w01_SpotPlaces_p11 : List AG := [o 21 (.mv (.t 11)), o 22 (.not (.t 21))]
abbrev w01_SpotPlaces_p12 : List AG := [o 20 (.call (.f n_w01_works) []), o 11 (.mv (.t 20))]
abbrev w01_SpotPlaces_p13 : List AG := [o 10 (.mv (.c (.bool false)))]
abbrev w01_SpotPlaces : AFun := ⟨(.seq (.reg w01_SpotPlaces_p13) (.seq (.reg w01_SpotPlaces_p12) (.seq (.seq (.reg w01_SpotPlaces_p11) (.cond (.t 22) w01_SpotPlaces_p10 .skip)) (.seq (.seq (.reg w01_SpotPlaces_p8) (.cond (.t 25) w01_SpotPlaces_p7 .skip)) (.seq (.reg w01_SpotPlaces_p5) (.seq (.reg w01_SpotPlaces_p4) (.seq (.reg w01_SpotPlaces_p3) (.seq (.reg w01_SpotPlaces_p2) (.seq (.reg w01_SpotPlaces_p1) (.seq (.dreg [O,O,O,O,O,O,O,O,O,O,O,O,O,O,O,O,O,O,O,O,O,O,O,O,O,O,O,O,I,O,O,O] w01_SpotPlaces_p0) .ret)))))))))), 86, [.tmp 10]⟩
@[simp] theorem c_w01_SpotPlaces : cfun Tryd.prog n_w01_SpotPlaces = some w01_SpotPlaces := by kernel_rfl
@[simp] theorem e_w01_SpotPlaces : hasBody Tryd.prog n_w01_SpotPlaces = true := by kernel_rfl

/- w01_SpotLines: patchbay/patchbaylaw01.SpotLines -/
abbrev w01_SpotLines_p0 : List AG := [o 37 (.mv (.t 3)), o 38 (.mv (.t 37)), ⟨(some 39), (some (38, true)), .mv (.t 5)⟩, o 40 (.pick (.t 38) (.t 39) (.c (.bool false))), o 41 (.mv (.t 40)), ⟨(some 42), (some (41, true)), .mv (.t 6)⟩, ⟨(some 43), (some (41, true)), .mv (.t 0)⟩, ⟨(some 44), (some (41, true)), .cmp .eql (.sc .str) (.t 42) (.t 43)⟩, o 45 (.pick (.t 41) (.t 44) (.c (.bool false))), o 2 (.mv (.t 45))]
abbrev w01_SpotLines_m1 : List Bool := [I,O,O,I,I,I,I,I,O,O,O,O,O,O,O,O,O,O,O,O,O,O,O,O,O,O,O,O,O,O,O,O,O,O,O,O,O,O,O,O,O,O,O,O,O,O]
abbrev w01_SpotLines_x1 : List Bool := [I,O,O,I,O,I,I,O,O,O,O,O,O,O,O,O,O,O,O,O,O,O,O,O,O,O,O,O,O,O,O,O,O,O,O,O,O,O,O,O,O,O,O,O,O,O]
abbrev w01_SpotLines_p2 : List AG := [o 25 (.mv (.t 7)), o 26 (.ibin .add (.t 25) (.c (.int .i64 1))), o 7 (.mv (.t 26))]
abbrev w01_SpotLines_p3 : List AG := [o 31 (.mv (.t 6)), o 32 (.mv (.t 4)), o 33 (.mv (.t 7)), o 34 (.ixAddr 1 (.t 32) (.t 33)), o 35 (.load false 1 (.t 34)), o 36 (.concat (.t 31) (.t 35)), o 6 (.mv (.t 36))]
abbrev w01_SpotLines_p4 : List AG := [o 29 (.mv (.t 6)), o 30 (.concat (.t 29) (.c (.str [10]))), o 6 (.mv (.t 30))]
abbrev w01_SpotLines_p5 : List AG := [o 27 (.mv (.t 7)), o 28 (.cmp .gtr (.sc .int) (.t 27) (.c (.int .i64 0)))]
abbrev w01_SpotLines_p6 : ACode := (.seq (.seq (.reg w01_SpotLines_p5) (.cond (.t 28) (.reg w01_SpotLines_p4) .skip)) (.reg w01_SpotLines_p3))
abbrev w01_SpotLines_p7 : List AG := [o 21 (.mv (.t 7)), o 22 (.mv (.t 4)), o 23 (.len (.t 22)), o 24 (.cmp .lss (.sc .int) (.t 21) (.t 23))]
abbrev w01_SpotLines_b1 : ACode := (.seq (.seq (.reg w01_SpotLines_p7) (.cond (.t 24) .skip (.exit 0))) (.seq (.block 1 [] w01_SpotLines_p6) (.reg w01_SpotLines_p2)))
abbrev w01_SpotLines_p8 : List AG := [o 7 (.mv (.c (.int .i64 0)))]
abbrev w01_SpotLines_p9 : List AG := [o 6 (.mv (.c (.str [])))]
abbrev w01_SpotLines_p10 : List AG := [o 17 (.mv (.t 4)), o 18 (.mv (.t 0)), o 19 (.call (.f n_r01_Lines) [(.t 18)]), o 20 (.call (.f n_r01_Texts) [(.t 17), (.t 19)]), o 5 (.mv (.t 20))]
abbrev w01_SpotLines_p11 : List AG := [o 15 (.mv (.t 0)), o 16 (.call (.f n_spot_Lines) [(.t 15)]), o 4 (.mv (.t 16))]
abbrev w01_SpotLines_p12 : List AG := [o 14 (.mv (.t 3)), o 2 (.mv (.t 14))]
abbrev w01_SpotLines_p13 : ACode := (.seq (.reg w01_SpotLines_p12) .ret)
abbrev w01_SpotLines_p14 : List AG := [o 11 (.mv (.t 0)), o 12 (.lenStr (.t 11)), o 13 (.cmp .gtr (.sc .int) (.t 12) (.c (.int .i64 200)))]
abbrev w01_SpotLines_p15 : List AG := [o 2 (.mv (.c (.bool false)))]
abbrev w01_SpotLines_p16 : ACode := (.seq (.reg w01_SpotLines_p15) .ret)
abbrev w01_SpotLines_p17 : List AG := [o 9 (.mv (.t 3)), o 10 (.not (.t 9))]
abbrev w01_SpotLines_p18 : List AG := [o 8 (.call (.f n_w01_works) []), o 3 (.mv (.t 8))]
abbrev w01_SpotLines_p19 : List AG := [o 2 (.mv (.c (.bool false)))]
abbrev w01_SpotLines : AFun := ⟨(.seq (.reg w01_SpotLines_p19) (.seq (.reg w01_SpotLines_p18) (.seq (.seq (.reg w01_SpotLines_p17) (.cond (.t 10) w01_SpotLines_p16 .skip)) (.seq (.seq (.reg w01_SpotLines_p14) (.cond (.t 13) w01_SpotLines_p13 .skip)) (.seq (.reg w01_SpotLines_p11) (.seq (.reg w01_SpotLines_p10) (.seq (.reg w01_SpotLines_p9) (.seq (.seq (.reg w01_SpotLines_p8) (.block 0 w01_SpotLines_x1 (.loop w01_SpotLines_m1 w01_SpotLines_b1))) (.seq (.reg w01_SpotLines_p0) .ret))))))))), 46, [.tmp 2]⟩
abbrev w01_SpotLines_k1 : List It := [.code (.seq (.reg w01_SpotLines_p0) .ret)]
abbrev w01_SpotLines_L1 (x0 x3 x4 x5 x6 x7 : AV) (h : List Ob) (e : Cx := cx) : Cfg := atC n_w01_SpotLines (.code w01_SpotLines_b1 :: .inLoop w01_SpotLines_m1 w01_SpotLines_b1 :: .inBlock 0 w01_SpotLines_x1 :: w01_SpotLines_k1) [x0,U,U,x3,x4,x5,x6,x7,U,U,U,U,U,U,U,U,U,U,U,U,U,U,U,U,U,U,U,U,U,U,U,U,U,U,U,U,U,U,U,U,U,U,U,U,U,U] h e
abbrev w01_SpotLines_E1 (x0 x3 x5 x6 : AV) (h : List Ob) (e : Cx := cx) : Cfg := atC n_w01_SpotLines w01_SpotLines_k1 [x0,U,U,x3,U,x5,x6,U,U,U,U,U,U,U,U,U,U,U,U,U,U,U,U,U,U,U,U,U,U,U,U,U,U,U,U,U,U,U,U,U,U,U,U,U,U,U] h e
@[simp] theorem c_w01_SpotLines : cfun Tryd.prog n_w01_SpotLines = some w01_SpotLines := by kernel_rfl
@[simp] theorem e_w01_SpotLines : hasBody Tryd.prog n_w01_SpotLines = true := by kernel_rfl

/- w01_SpotBack: patchbay/patchbaylaw01.SpotBack -/
abbrev w01_SpotBack_p0 : List AG := [o 40 (.mv (.t 5)), o 41 (.mv (.t 40)), ⟨(some 42), (some (41, true)), .mv (.t 10)⟩, o 43 (.pick (.t 41) (.t 42) (.c (.bool false))), o 44 (.mv (.t 43)), ⟨(some 45), (some (44, true)), .mv (.t 9)⟩, ⟨(some 46), (some (44, true)), .mv (.t 6)⟩, ⟨(some 47), (some (44, true)), .cmp .eql (.sc .int) (.t 45) (.t 46)⟩, o 48 (.pick (.t 44) (.t 47) (.c (.bool false))), o 49 (.mv (.t 48)), ⟨(some 50), (some (49, true)), .mv (.t 7)⟩, ⟨(some 51), (some (49, true)), .cmp .geq (.sc .int) (.t 50) (.c (.int .i64 1))⟩, o 52 (.pick (.t 49) (.t 51) (.c (.bool false))), o 53 (.mv (.t 52)), ⟨(some 54), (some (53, true)), .mv (.t 7)⟩, ⟨(some 55), (some (53, true)), .mv (.t 11)⟩, ⟨(some 56), (some (53, true)), .len (.t 55)⟩, ⟨(some 57), (some (53, true)), .cmp .leq (.sc .int) (.t 54) (.t 56)⟩, o 58 (.pick (.t 53) (.t 57) (.c (.bool false))), o 59 (.mv (.t 58)), ⟨(some 60), (some (59, true)), .mv (.t 8)⟩, ⟨(some 61), (some (59, true)), .cmp .geq (.sc .int) (.t 60) (.c (.int .i64 1))⟩, o 62 (.pick (.t 59) (.t 61) (.c (.bool false))), o 63 (.mv (.t 62)), ⟨(some 64), (some (63, true)), .mv (.t 8)⟩, ⟨(some 65), (some (63, true)), .mv (.t 11)⟩, ⟨(some 66), (some (63, true)), .mv (.t 7)⟩, ⟨(some 67), (some (63, true)), .ibin .sub (.t 66) (.c (.int .i64 1))⟩, ⟨(some 68), (some (63, true)), .ixAddr 1 (.t 65) (.t 67)⟩, ⟨(some 69), (some (63, true)), .load false 1 (.t 68)⟩, ⟨(some 70), (some (63, true)), .lenStr (.t 69)⟩, ⟨(some 71), (some (63, true)), .ibin .add (.t 70) (.c (.int .i64 1))⟩, ⟨(some 72), (some (63, true)), .cmp .leq (.sc .int) (.t 64) (.t 71)⟩, o 73 (.pick (.t 63) (.t 72) (.c (.bool false))), o 4 (.mv (.t 73))]
abbrev w01_SpotBack_p1 : List AG := [o 38 (.mv (.t 0)), o 39 (.call (.f n_spot_Lines) [(.t 38)]), o 11 (.mv (.t 39))]
abbrev w01_SpotBack_p2 : List AG := [o 32 (.mv (.t 0)), o 33 (.mv (.t 7)), o 34 (.mv (.t 8)), o 35 (.call (.f n_spot_At) [(.t 32), (.t 33), (.t 34)]), o 31 (.mv (.t 35)), o 36 (.extract (.t 31) 0), o 37 (.extract (.t 31) 1), o 9 (.mv (.t 36)), o 10 (.mv (.t 37))]
abbrev w01_SpotBack_p3 : List AG := [o 26 (.mv (.t 0)), o 27 (.mv (.t 6)), o 28 (.call (.f n_spot_Place) [(.t 26), (.t 27)]), o 25 (.mv (.t 28)), o 29 (.extract (.t 25) 0), o 30 (.extract (.t 25) 1), o 7 (.mv (.t 29)), o 8 (.mv (.t 30))]
abbrev w01_SpotBack_p4 : List AG := [o 19 (.mv (.t 1)), o 20 (.conv .i64 (.t 19)), o 21 (.mv (.t 0)), o 22 (.lenStr (.t 21)), o 23 (.ibin .add (.t 22) (.c (.int .i64 1))), o 24 (.ibin .rem (.t 20) (.t 23)), o 6 (.mv (.t 24))]
abbrev w01_SpotBack_p5 : List AG := [o 18 (.mv (.t 5)), o 4 (.mv (.t 18))]
abbrev w01_SpotBack_p6 : ACode := (.seq (.reg w01_SpotBack_p5) .ret)
abbrev w01_SpotBack_p7 : List AG := [o 15 (.mv (.t 0)), o 16 (.lenStr (.t 15)), o 17 (.cmp .gtr (.sc .int) (.t 16) (.c (.int .i64 200)))]
abbrev w01_SpotBack_p8 : List AG := [o 4 (.mv (.c (.bool false)))]
abbrev w01_SpotBack_p9 : ACode := (.seq (.reg w01_SpotBack_p8) .ret)
abbrev w01_SpotBack_p10 : List AG := [o 13 (.mv (.t 5)), o 14 (.not (.t 13))]
abbrev w01_SpotBack_p11 : List AG := [o 12 (.call (.f n_w01_works) []), o 5 (.mv (.t 12))]
abbrev w01_SpotBack_p12 : List AG := [o 4 (.mv (.c (.bool false)))]
abbrev w01_SpotBack : AFun := ⟨(.seq (.reg w01_SpotBack_p12) (.seq (.reg w01_SpotBack_p11) (.seq (.seq (.reg w01_SpotBack_p10) (.cond (.t 14) w01_SpotBack_p9 .skip)) (.seq (.seq (.reg w01_SpotBack_p7) (.cond (.t 17) w01_SpotBack_p6 .skip)) (.seq (.reg w01_SpotBack_p4) (.seq (.reg w01_SpotBack_p3) (.seq (.reg w01_SpotBack_p2) (.seq (.reg w01_SpotBack_p1) (.seq (.reg w01_SpotBack_p0) .ret))))))))), 74, [.tmp 4]⟩
@[simp] theorem c_w01_SpotBack : cfun Tryd.prog n_w01_SpotBack = some w01_SpotBack := by kernel_rfl
@[simp] theorem e_w01_SpotBack : hasBody Tryd.prog n_w01_SpotBack = true := by kernel_rfl

/- w01_SpotOrder: patchbay/patchbaylaw01.SpotOrder -/
abbrev w01_SpotOrder_p0 : List AG := [o 45 (.mv (.t 7)), o 46 (.mv (.t 45)), ⟨(some 47), (some (46, true)), .mv (.t 8)⟩, ⟨(some 48), (some (46, true)), .mv (.t 9)⟩, ⟨(some 49), (some (46, true)), .cmp .lss (.sc .int) (.t 47) (.t 48)⟩, ⟨(some 50), (some (46, true)), .mv (.t 10)⟩, ⟨(some 51), (some (46, true)), .mv (.t 12)⟩, ⟨(some 52), (some (46, true)), .cmp .lss (.sc .int) (.t 50) (.t 51)⟩, ⟨(some 53), (some (46, true)), .mv (.t 52)⟩, ⟨(some 54), (some (53, false)), .mv (.t 10)⟩, ⟨(some 55), (some (53, false)), .mv (.t 12)⟩, ⟨(some 56), (some (53, false)), .cmp .eql (.sc .int) (.t 54) (.t 55)⟩, ⟨(some 57), (some (53, false)), .mv (.t 56)⟩, ⟨(some 58), (some (57, true)), .mv (.t 11)⟩, ⟨(some 59), (some (57, true)), .mv (.t 13)⟩, ⟨(some 60), (some (57, true)), .cmp .lss (.sc .int) (.t 58) (.t 59)⟩, ⟨(some 61), (some (53, false)), .pick (.t 57) (.t 60) (.c (.bool false))⟩, ⟨(some 62), (some (46, true)), .pick (.t 53) (.c (.bool true)) (.t 61)⟩, ⟨(some 63), (some (46, true)), .cmp .eql (.sc .bool) (.t 49) (.t 62)⟩, o 64 (.pick (.t 46) (.t 63) (.c (.bool false))), o 6 (.mv (.t 64))]
abbrev w01_SpotOrder_p1 : List AG := [o 40 (.mv (.t 0)), o 41 (.mv (.t 9)), o 42 (.call (.f n_spot_Place) [(.t 40), (.t 41)]), o 39 (.mv (.t 42)), o 43 (.extract (.t 39) 0), o 44 (.extract (.t 39) 1), o 12 (.mv (.t 43)), o 13 (.mv (.t 44))]
abbrev w01_SpotOrder_p2 : List AG := [o 34 (.mv (.t 0)), o 35 (.mv (.t 8)), o 36 (.call (.f n_spot_Place) [(.t 34), (.t 35)]), o 33 (.mv (.t 36)), o 37 (.extract (.t 33) 0), o 38 (.extract (.t 33) 1), o 10 (.mv (.t 37)), o 11 (.mv (.t 38))]
abbrev w01_SpotOrder_p3 : List AG := [o 27 (.mv (.t 2)), o 28 (.conv .i64 (.t 27)), o 29 (.mv (.t 0)), o 30 (.lenStr (.t 29)), o 31 (.ibin .add (.t 30) (.c (.int .i64 1))), o 32 (.ibin .rem (.t 28) (.t 31)), o 9 (.mv (.t 32))]
abbrev w01_SpotOrder_p4 : List AG := [o 21 (.mv (.t 1)), o 22 (.conv .i64 (.t 21)), o 23 (.mv (.t 0)), o 24 (.lenStr (.t 23)), o 25 (.ibin .add (.t 24) (.c (.int .i64 1))), o 26 (.ibin .rem (.t 22) (.t 25)), o 8 (.mv (.t 26))]
abbrev w01_SpotOrder_p5 : List AG := [o 20 (.mv (.t 7)), o 6 (.mv (.t 20))]
abbrev w01_SpotOrder_p6 : ACode := (.seq (.reg w01_SpotOrder_p5) .ret)
abbrev w01_SpotOrder_p7 : List AG := [o 17 (.mv (.t 0)), o 18 (.lenStr (.t 17)), o 19 (.cmp .gtr (.sc .int) (.t 18) (.c (.int .i64 200)))]
abbrev w01_SpotOrder_p8 : List AG := [o 6 (.mv (.c (.bool false)))]
abbrev w01_SpotOrder_p9 : ACode := (.seq (.reg w01_SpotOrder_p8) .ret)
abbrev w01_SpotOrder_p10 : List AG := [o 15 (.mv (.t 7)), o 16 (.not (.t 15))]
abbrev w01_SpotOrder_p11 : List AG := [o 14 (.call (.f n_w01_works) []), o 7 (.mv (.t 14))]
abbrev w01_SpotOrder_p12 : List AG := [o 6 (.mv (.c (.bool false)))]
abbrev w01_SpotOrder : AFun := ⟨(.seq (.reg w01_SpotOrder_p12) (.seq (.reg w01_SpotOrder_p11) (.seq (.seq (.reg w01_SpotOrder_p10) (.cond (.t 16) w01_SpotOrder_p9 .skip)) (.seq (.seq (.reg w01_SpotOrder_p7) (.cond (.t 19) w01_SpotOrder_p6 .skip)) (.seq (.reg w01_SpotOrder_p4) (.seq (.reg w01_SpotOrder_p3) (.seq (.reg w01_SpotOrder_p2) (.seq (.reg w01_SpotOrder_p1) (.seq (.reg w01_SpotOrder_p0) .ret))))))))), 65, [.tmp 6]⟩
@[simp] theorem c_w01_SpotOrder : cfun Tryd.prog n_w01_SpotOrder = some w01_SpotOrder := by kernel_rfl
@[simp] theorem e_w01_SpotOrder : hasBody Tryd.prog n_w01_SpotOrder = true := by kernel_rfl

/- w01_SpotMoves: patchbay/patchbaylaw01.SpotMoves -/
abbrev w01_SpotMoves_p0 : List AG := [o 94 (.mv (.t 9)), o 95 (.mv (.t 94)), ⟨(some 96), (some (95, true)), .mv (.t 10)⟩, ⟨(some 97), (some (95, true)), .mv (.t 12)⟩, ⟨(some 98), (some (95, true)), .cmp .eql (.sc .int) (.t 96) (.t 97)⟩, o 99 (.pick (.t 95) (.t 98) (.c (.bool false))), o 100 (.mv (.t 99)), ⟨(some 101), (some (100, true)), .mv (.t 11)⟩, ⟨(some 102), (some (100, true)), .mv (.t 13)⟩, ⟨(some 103), (some (100, true)), .cmp .eql (.sc .int) (.t 101) (.t 102)⟩, o 104 (.pick (.t 100) (.t 103) (.c (.bool false))), o 105 (.mv (.t 104)), ⟨(some 106), (some (105, true)), .mv (.t 14)⟩, ⟨(some 107), (some (105, true)), .mv (.t 16)⟩, ⟨(some 108), (some (105, true)), .cmp .eql (.sc .int) (.t 106) (.t 107)⟩, o 109 (.pick (.t 105) (.t 108) (.c (.bool false))), o 110 (.mv (.t 109)), ⟨(some 111), (some (110, true)), .mv (.t 15)⟩, ⟨(some 112), (some (110, true)), .mv (.t 17)⟩, ⟨(some 113), (some (110, true)), .cmp .eql (.sc .int) (.t 111) (.t 112)⟩, o 114 (.pick (.t 110) (.t 113) (.c (.bool false))), o 115 (.mv (.t 114)), ⟨(some 116), (some (115, true)), .mv (.t 20)⟩, ⟨(some 117), (some (115, true)), .mv (.t 22)⟩, ⟨(some 118), (some (115, true)), .cmp .eql (.sc .int) (.t 116) (.t 117)⟩, o 119 (.pick (.t 115) (.t 118) (.c (.bool false))), o 120 (.mv (.t 119)), ⟨(some 121), (some (120, true)), .mv (.t 21)⟩, ⟨(some 122), (some (120, true)), .mv (.t 23)⟩, ⟨(some 123), (some (120, true)), .cmp .eql (.sc .int) (.t 121) (.t 122)⟩, o 124 (.pick (.t 120) (.t 123) (.c (.bool false))), o 8 (.mv (.t 124))]
abbrev w01_SpotMoves_p1 : List AG := [o 84 (.mv (.t 2)), o 85 (.conv .i64 (.t 84)), o 86 (.mv (.t 3)), o 87 (.conv .i64 (.t 86)), o 88 (.mv (.t 0)), o 89 (.mv (.t 1)), o 90 (.concat (.t 88) (.t 89)), o 91 (.call (.f n_spot_Move) [(.t 85), (.t 87), (.t 90)]), o 83 (.mv (.t 91)), o 92 (.extract (.t 83) 0), o 93 (.extract (.t 83) 1), o 22 (.mv (.t 92)), o 23 (.mv (.t 93))]
abbrev w01_SpotMoves_p2 : List AG := [o 77 (.mv (.t 18)), o 78 (.mv (.t 19)), o 79 (.mv (.t 1)), o 80 (.call (.f n_spot_Move) [(.t 77), (.t 78), (.t 79)]), o 76 (.mv (.t 80)), o 81 (.extract (.t 76) 0), o 82 (.extract (.t 76) 1), o 20 (.mv (.t 81)), o 21 (.mv (.t 82))]
abbrev w01_SpotMoves_p3 : List AG := [o 68 (.mv (.t 2)), o 69 (.conv .i64 (.t 68)), o 70 (.mv (.t 3)), o 71 (.conv .i64 (.t 70)), o 72 (.mv (.t 0)), o 73 (.call (.f n_spot_Move) [(.t 69), (.t 71), (.t 72)]), o 67 (.mv (.t 73)), o 74 (.extract (.t 67) 0), o 75 (.extract (.t 67) 1), o 18 (.mv (.t 74)), o 19 (.mv (.t 75))]
abbrev w01_SpotMoves_p4 : List AG := [o 56 (.mv (.t 0)), o 57 (.mv (.t 1)), o 58 (.concat (.t 56) (.t 57)), o 59 (.mv (.t 0)), o 60 (.lenStr (.t 59)), o 61 (.mv (.t 1)), o 62 (.lenStr (.t 61)), o 63 (.ibin .add (.t 60) (.t 62)), o 64 (.call (.f n_spot_Place) [(.t 58), (.t 63)]), o 55 (.mv (.t 64)), o 65 (.extract (.t 55) 0), o 66 (.extract (.t 55) 1), o 16 (.mv (.t 65)), o 17 (.mv (.t 66))]
abbrev w01_SpotMoves_p5 : List AG := [o 49 (.mv (.t 10)), o 50 (.mv (.t 11)), o 51 (.mv (.t 1)), o 52 (.call (.f n_spot_Move) [(.t 49), (.t 50), (.t 51)]), o 48 (.mv (.t 52)), o 53 (.extract (.t 48) 0), o 54 (.extract (.t 48) 1), o 14 (.mv (.t 53)), o 15 (.mv (.t 54))]
abbrev w01_SpotMoves_p6 : List AG := [o 42 (.mv (.t 0)), o 43 (.mv (.t 0)), o 44 (.lenStr (.t 43)), o 45 (.call (.f n_spot_Place) [(.t 42), (.t 44)]), o 41 (.mv (.t 45)), o 46 (.extract (.t 41) 0), o 47 (.extract (.t 41) 1), o 12 (.mv (.t 46)), o 13 (.mv (.t 47))]
abbrev w01_SpotMoves_p7 : List AG := [o 37 (.mv (.t 0)), o 38 (.call (.f n_spot_Move) [(.c (.int .i64 1)), (.c (.int .i64 1)), (.t 37)]), o 36 (.mv (.t 38)), o 39 (.extract (.t 36) 0), o 40 (.extract (.t 36) 1), o 10 (.mv (.t 39)), o 11 (.mv (.t 40))]
abbrev w01_SpotMoves_p8 : List AG := [o 35 (.mv (.t 9)), o 8 (.mv (.t 35))]
abbrev w01_SpotMoves_p9 : ACode := (.seq (.reg w01_SpotMoves_p8) .ret)
abbrev w01_SpotMoves_p10 : List AG := [o 27 (.mv (.t 0)), o 28 (.lenStr (.t 27)), o 29 (.cmp .gtr (.sc .int) (.t 28) (.c (.int .i64 200))), o 30 (.mv (.t 29)), ⟨(some 31), (some (30, false)), .mv (.t 1)⟩, ⟨(some 32), (some (30, false)), .lenStr (.t 31)⟩, ⟨(some 33), (some (30, false)), .cmp .gtr (.sc .int) (.t 32) (.c (.int .i64 200))⟩, o 34 (.pick (.t 30) (.c (.bool true)) (.t 33))]
abbrev w01_SpotMoves_p11 : List AG := [o 8 (.mv (.c (.bool false)))]
abbrev w01_SpotMoves_p12 : ACode := (.seq (.reg w01_SpotMoves_p11) .ret)
abbrev w01_SpotMoves_p13 : List AG := [o 25 (.mv (.t 9)), o 26 (.not (.t 25))]
abbrev w01_SpotMoves_p14 : List AG := [o 24 (.call (.f n_w01_works) []), o 9 (.mv (.t 24))]
abbrev w01_SpotMoves_p15 : List AG := [o 8 (.mv (.c (.bool false)))]
abbrev w01_SpotMoves : AFun := ⟨(.seq (.reg w01_SpotMoves_p15) (.seq (.reg w01_SpotMoves_p14) (.seq (.seq (.reg w01_SpotMoves_p13) (.cond (.t 26) w01_SpotMoves_p12 .skip)) (.seq (.seq (.reg w01_SpotMoves_p10) (.cond (.t 34) w01_SpotMoves_p9 .skip)) (.seq (.reg w01_SpotMoves_p7) (.seq (.reg w01_SpotMoves_p6) (.seq (.reg w01_SpotMoves_p5) (.seq (.reg w01_SpotMoves_p4) (.seq (.reg w01_SpotMoves_p3) (.seq (.reg w01_SpotMoves_p2) (.seq (.reg w01_SpotMoves_p1) (.seq (.reg w01_SpotMoves_p0) .ret)))))))))))), 125, [.tmp 8]⟩
@[simp] theorem c_w01_SpotMoves : cfun Tryd.prog n_w01_SpotMoves = some w01_SpotMoves := by kernel_rfl
@[simp] theorem e_w01_SpotMoves : hasBody Tryd.prog n_w01_SpotMoves = true := by kernel_rfl

/- w01_SpotEnds: patchbay/patchbaylaw01.SpotEnds -/
abbrev w01_SpotEnds_p0 : List AG := [o 45 (.mv (.t 7)), o 46 (.mv (.t 45)), ⟨(some 47), (some (46, true)), .load true 3 (.t 12)⟩, ⟨(some 48), (some (46, true)), .mv (.t 2)⟩, ⟨(some 49), (some (46, true)), .mv (.t 8)⟩, ⟨(some 50), (some (46, true)), .mv (.t 9)⟩, ⟨(some 51), (some (46, true)), .build [(.int .i64 0), (.int .i64 0), (.int .i64 0)] [(0, 1, (.t 48)), (1, 1, (.t 49)), (2, 1, (.t 50))]⟩, ⟨(some 52), (some (46, true)), .cmp .eql (.strct [.int, .int, .int]) (.t 47) (.t 51)⟩, o 53 (.pick (.t 46) (.t 52) (.c (.bool false))), o 54 (.mv (.t 53)), ⟨(some 55), (some (54, true)), .mv (.t 1)⟩, ⟨(some 56), (some (54, true)), .cmp .gtr (.sc .int) (.t 55) (.c (.int .i64 0))⟩, ⟨(some 57), (some (54, true)), .mv (.t 56)⟩, ⟨(some 58), (some (57, false)), .mv (.t 8)⟩, ⟨(some 59), (some (57, false)), .cmp .eql (.sc .int) (.t 58) (.c (.int .i64 1))⟩, ⟨(some 60), (some (57, false)), .mv (.t 59)⟩, ⟨(some 61), (some (60, true)), .mv (.t 9)⟩, ⟨(some 62), (some (60, true)), .cmp .eql (.sc .int) (.t 61) (.c (.int .i64 1))⟩, ⟨(some 63), (some (57, false)), .pick (.t 60) (.t 62) (.c (.bool false))⟩, ⟨(some 64), (some (54, true)), .pick (.t 57) (.c (.bool true)) (.t 63)⟩, o 65 (.pick (.t 54) (.t 64) (.c (.bool false))), o 66 (.mv (.t 65)), ⟨(some 67), (some (66, true)), .mv (.t 1)⟩, ⟨(some 68), (some (66, true)), .mv (.t 0)⟩, ⟨(some 69), (some (66, true)), .lenStr (.t 68)⟩, ⟨(some 70), (some (66, true)), .cmp .lss (.sc .int) (.t 67) (.t 69)⟩, ⟨(some 71), (some (66, true)), .mv (.t 70)⟩, ⟨(some 72), (some (71, false)), .mv (.t 8)⟩, ⟨(some 73), (some (71, false)), .mv (.t 10)⟩, ⟨(some 74), (some (71, false)), .cmp .eql (.sc .int) (.t 72) (.t 73)⟩, ⟨(some 75), (some (71, false)), .mv (.t 74)⟩, ⟨(some 76), (some (75, true)), .mv (.t 9)⟩, ⟨(some 77), (some (75, true)), .mv (.t 11)⟩, ⟨(some 78), (some (75, true)), .cmp .eql (.sc .int) (.t 76) (.t 77)⟩, ⟨(some 79), (some (71, false)), .pick (.t 75) (.t 78) (.c (.bool false))⟩, ⟨(some 80), (some (66, true)), .pick (.t 71) (.c (.bool true)) (.t 79)⟩, o 81 (.pick (.t 66) (.t 80) (.c (.bool false))), o 6 (.mv (.t 81))]
abbrev w01_SpotEnds_p1 : List AG := [o 39 (.mv (.t 7)), o 40 (.mv (.t 39)), ⟨(some 41), (some (40, true)), .load true 3 (.t 12)⟩, ⟨(some 42), (some (40, true)), .build [(.int .i64 0), (.int .i64 0), (.int .i64 0)] []⟩, ⟨(some 43), (some (40, true)), .cmp .eql (.strct [.int, .int, .int]) (.t 41) (.t 42)⟩, o 44 (.pick (.t 40) (.t 43) (.c (.bool false))), o 6 (.mv (.t 44))]
abbrev w01_SpotEnds_p2 : ACode := (.seq (.reg w01_SpotEnds_p1) .ret)
abbrev w01_SpotEnds_p3 : List AG := [o 37 (.mv (.t 2)), o 38 (.cmp .eql (.sc .int) (.t 37) (.c (.int .i64 0)))]
abbrev w01_SpotEnds_p4 : List AG := [o 33 (.mv (.t 0)), o 34 (.mv (.t 1)), o 35 (.mv (.t 2)), o 36 (.call (.f n_spot_Fail) [(.t 33), (.t 34), (.t 35)]), o 12 (.alloc [(.int .i64 0), (.int .i64 0), (.int .i64 0)]), q (.store 3 (.t 12) (.t 36))]
abbrev w01_SpotEnds_p5 : List AG := [o 27 (.mv (.t 0)), o 28 (.mv (.t 0)), o 29 (.lenStr (.t 28)), o 30 (.call (.f n_spot_Place) [(.t 27), (.t 29)]), o 26 (.mv (.t 30)), o 31 (.extract (.t 26) 0), o 32 (.extract (.t 26) 1), o 10 (.mv (.t 31)), o 11 (.mv (.t 32))]
abbrev w01_SpotEnds_p6 : List AG := [o 21 (.mv (.t 0)), o 22 (.mv (.t 1)), o 23 (.call (.f n_spot_Place) [(.t 21), (.t 22)]), o 20 (.mv (.t 23)), o 24 (.extract (.t 20) 0), o 25 (.extract (.t 20) 1), o 8 (.mv (.t 24)), o 9 (.mv (.t 25))]
abbrev w01_SpotEnds_p7 : List AG := [o 19 (.mv (.t 7)), o 6 (.mv (.t 19))]
abbrev w01_SpotEnds_p8 : ACode := (.seq (.reg w01_SpotEnds_p7) .ret)
abbrev w01_SpotEnds_p9 : List AG := [o 16 (.mv (.t 0)), o 17 (.lenStr (.t 16)), o 18 (.cmp .gtr (.sc .int) (.t 17) (.c (.int .i64 200)))]
abbrev w01_SpotEnds_p10 : List AG := [o 6 (.mv (.c (.bool false)))]
abbrev w01_SpotEnds_p11 : ACode := (.seq (.reg w01_SpotEnds_p10) .ret)
abbrev w01_SpotEnds_p12 : List AG := [o 14 (.mv (.t 7)), o 15 (.not (.t 14))]
abbrev w01_SpotEnds_p13 : List AG := [o 13 (.call (.f n_w01_works) []), o 7 (.mv (.t 13))]
abbrev w01_SpotEnds_p14 : List AG := [o 6 (.mv (.c (.bool false)))]
abbrev w01_SpotEnds : AFun := ⟨(.seq (.reg w01_SpotEnds_p14) (.seq (.reg w01_SpotEnds_p13) (.seq (.seq (.reg w01_SpotEnds_p12) (.cond (.t 15) w01_SpotEnds_p11 .skip)) (.seq (.seq (.reg w01_SpotEnds_p9) (.cond (.t 18) w01_SpotEnds_p8 .skip)) (.seq (.reg w01_SpotEnds_p6) (.seq (.reg w01_SpotEnds_p5) (.seq (.reg w01_SpotEnds_p4) (.seq (.seq (.reg w01_SpotEnds_p3) (.cond (.t 38) w01_SpotEnds_p2 .skip)) (.seq (.reg w01_SpotEnds_p0) .ret))))))))), 82, [.tmp 6]⟩
@[simp] theorem c_w01_SpotEnds : cfun Tryd.prog n_w01_SpotEnds = some w01_SpotEnds := by kernel_rfl
@[simp] theorem e_w01_SpotEnds : hasBody Tryd.prog n_w01_SpotEnds = true := by kernel_rfl

/- w01_works: patchbay/patchbaylaw01.works -/
abbrev w01_works_p0 : List AG := [o 31 (.mv (.t 1)), o 32 (.cmp .eql (.sc .int) (.t 31) (.c (.int .i64 2))), o 33 (.mv (.t 32)), ⟨(some 34), (some (33, true)), .mv (.t 2)⟩, ⟨(some 35), (some (33, true)), .cmp .eql (.sc .int) (.t 34) (.c (.int .i64 1))⟩, o 36 (.pick (.t 33) (.t 35) (.c (.bool false))), o 37 (.mv (.t 36)), ⟨(some 38), (some (37, true)), .mv (.t 3)⟩, ⟨(some 39), (some (37, true)), .cmp .eql (.sc .int) (.t 38) (.c (.int .i64 3))⟩, o 40 (.pick (.t 37) (.t 39) (.c (.bool false))), o 41 (.mv (.t 40)), ⟨(some 42), (some (41, true)), .mv (.t 4)⟩, o 43 (.pick (.t 41) (.t 42) (.c (.bool false))), o 44 (.mv (.t 43)), ⟨(some 45), (some (44, true)), .mv (.t 6)⟩, ⟨(some 46), (some (44, true)), .not (.t 45)⟩, o 47 (.pick (.t 44) (.t 46) (.c (.bool false))), o 48 (.mv (.t 47)), ⟨(some 49), (some (48, true)), .mv (.t 7)⟩, ⟨(some 50), (some (48, true)), .len (.t 49)⟩, ⟨(some 51), (some (48, true)), .cmp .eql (.sc .int) (.t 50) (.c (.int .i64 2))⟩, o 52 (.pick (.t 48) (.t 51) (.c (.bool false))), o 53 (.mv (.t 52)), ⟨(some 54), (some (53, true)), .mv (.t 7)⟩, ⟨(some 55), (some (53, true)), .ixAddr 1 (.t 54) (.c (.int .i64 1))⟩, ⟨(some 56), (some (53, true)), .load false 1 (.t 55)⟩, ⟨(some 57), (some (53, true)), .cmp .eql (.sc .str) (.t 56) (.c (.str [99]))⟩, o 58 (.pick (.t 53) (.t 57) (.c (.bool false))), o 59 (.mv (.t 58)), ⟨(some 60), (some (59, true)), .load true 3 (.t 8)⟩, ⟨(some 61), (some (59, true)), .build [(.int .i64 0), (.int .i64 0), (.int .i64 0)] [(0, 1, (.c (.int .i64 4))), (1, 1, (.c (.int .i64 2))), (2, 1, (.c (.int .i64 2)))]⟩, ⟨(some 62), (some (59, true)), .cmp .eql (.strct [.int, .int, .int]) (.t 60) (.t 61)⟩, o 63 (.pick (.t 59) (.t 62) (.c (.bool false))), o 64 (.mv (.t 63)), ⟨(some 65), (some (64, true)), .load true 3 (.t 9)⟩, ⟨(some 66), (some (64, true)), .build [(.int .i64 0), (.int .i64 0), (.int .i64 0)] []⟩, ⟨(some 67), (some (64, true)), .cmp .eql (.strct [.int, .int, .int]) (.t 65) (.t 66)⟩, o 68 (.pick (.t 64) (.t 67) (.c (.bool false))), o 69 (.mv (.t 68)), ⟨(some 70), (some (69, true)), .mv (.t 10)⟩, ⟨(some 71), (some (69, true)), .cmp .eql (.sc .int) (.t 70) (.c (.int .i64 4))⟩, o 72 (.pick (.t 69) (.t 71) (.c (.bool false))), o 73 (.mv (.t 72)), ⟨(some 74), (some (73, true)), .mv (.t 11)⟩, ⟨(some 75), (some (73, true)), .cmp .eql (.sc .int) (.t 74) (.c (.int .i64 3))⟩, o 76 (.pick (.t 73) (.t 75) (.c (.bool false))), o 0 (.mv (.t 76))]
abbrev w01_works_p1 : List AG := [o 28 (.call (.f n_spot_Move) [(.c (.int .i64 3)), (.c (.int .i64 5)), (.c (.str [120, 10, 121, 122]))]), o 27 (.mv (.t 28)), o 29 (.extract (.t 27) 0), o 30 (.extract (.t 27) 1), o 10 (.mv (.t 29)), o 11 (.mv (.t 30))]
abbrev w01_works_p2 : List AG := [o 26 (.call (.f n_spot_Fail) [(.c (.str [97, 98, 10, 99])), (.c (.int .i64 4)), (.c (.int .i64 0))]), o 9 (.alloc [(.int .i64 0), (.int .i64 0), (.int .i64 0)]), q (.store 3 (.t 9) (.t 26))]
abbrev w01_works_p3 : List AG := [o 25 (.call (.f n_spot_Fail) [(.c (.str [97, 98, 10, 99])), (.c (.int .i64 4)), (.c (.int .i64 4))]), o 8 (.alloc [(.int .i64 0), (.int .i64 0), (.int .i64 0)]), q (.store 3 (.t 8) (.t 25))]
abbrev w01_works_p4 : List AG := [o 24 (.call (.f n_spot_Lines) [(.c (.str [97, 98, 10, 99]))]), o 7 (.mv (.t 24))]
abbrev w01_works_p5 : List AG := [o 21 (.call (.f n_spot_At) [(.c (.str [97, 98, 10, 99])), (.c (.int .i64 1)), (.c (.int .i64 9))]), o 20 (.mv (.t 21)), o 22 (.extract (.t 20) 0), o 23 (.extract (.t 20) 1), o 5 (.mv (.t 22)), o 6 (.mv (.t 23))]
abbrev w01_works_p6 : List AG := [o 17 (.call (.f n_spot_At) [(.c (.str [97, 98, 10, 99])), (.c (.int .i64 2)), (.c (.int .i64 1))]), o 16 (.mv (.t 17)), o 18 (.extract (.t 16) 0), o 19 (.extract (.t 16) 1), o 3 (.mv (.t 18)), o 4 (.mv (.t 19))]
abbrev w01_works_p7 : List AG := [o 13 (.call (.f n_spot_Place) [(.c (.str [97, 98, 10, 99])), (.c (.int .i64 3))]), o 12 (.mv (.t 13)), o 14 (.extract (.t 12) 0), o 15 (.extract (.t 12) 1), o 1 (.mv (.t 14)), o 2 (.mv (.t 15))]
abbrev w01_works_p8 : List AG := [o 0 (.mv (.c (.bool false)))]
abbrev w01_works : AFun := ⟨(.seq (.reg w01_works_p8) (.seq (.reg w01_works_p7) (.seq (.reg w01_works_p6) (.seq (.reg w01_works_p5) (.seq (.reg w01_works_p4) (.seq (.reg w01_works_p3) (.seq (.reg w01_works_p2) (.seq (.reg w01_works_p1) (.seq (.reg w01_works_p0) .ret))))))))), 77, [.tmp 0]⟩
@[simp] theorem c_w01_works : cfun Tryd.prog n_w01_works = some w01_works := by kernel_rfl
@[simp] theorem e_w01_works : hasBody Tryd.prog n_w01_works = true := by kernel_rfl

/- spot_Place: patchbay/spot.Place -/
abbrev spot_Place_p0 : List AG := [o 16 (.arrAddr 2 1 (.t 6) (.c (.int .i64 0))), o 17 (.load false 1 (.t 16)), o 18 (.arrAddr 2 1 (.t 6) (.c (.int .i64 1))), o 19 (.load false 1 (.t 18)), o 4 (.mv (.t 17)), o 5 (.mv (.t 19))]
abbrev spot_Place_p1 : List AG := [o 7 (.load true 2 (.g 0)), o 8 (.mv (.t 0)), o 9 (.mv (.t 1)), o 10 (.max [(.t 9), (.c (.int .i64 0))]), o 11 (.mv (.t 0)), o 12 (.lenStr (.t 11)), o 13 (.min [(.t 10), (.t 12)]), o 14 (.sliceStr (.t 8) none (some (.t 13))), o 15 (.call (.f n_spot_spot_over) [(.t 7), (.t 14)]), o 6 (.alloc [(.int .i64 0), (.int .i64 0)]), q (.store 2 (.t 6) (.t 15))]
abbrev spot_Place_p2 : List AG := [o 4 (.mv (.c (.int .i64 0))), o 5 (.mv (.c (.int .i64 0)))]
abbrev spot_Place : AFun := ⟨(.seq (.reg spot_Place_p2) (.seq (.dreg [I,O,O,O,O,O,O,O,I,O,O] spot_Place_p1) (.seq (.dreg [O,O,O,O,O,O] spot_Place_p0) .ret))), 20, [.tmp 4, .tmp 5]⟩
@[simp] theorem c_spot_Place : cfun Tryd.prog n_spot_Place = some spot_Place := by kernel_rfl
@[simp] theorem e_spot_Place : hasBody Tryd.prog n_spot_Place = true := by kernel_rfl

/- r01_Place: patchbay/patchbayref01.Place -/
abbrev r01_Place_p0 : List AG := [o 32 (.load true 2 (.t 5)), q (.store 2 (.t 4) (.t 32))]
abbrev r01_Place_m1 : List Bool := [I,I,O,O,I,I,I,O,O,O,O,O,O,O,O,O,O,O,O,O,O,O,O,O,O,O,O,O,O,O,O,O,O]
abbrev r01_Place_x1 : List Bool := [O,O,O,O,I,I,O,O,O,O,O,O,O,O,O,O,O,O,O,O,O,O,O,O,O,O,O,O,O,O,O,O,O]
abbrev r01_Place_p2 : List AG := [o 17 (.mv (.t 6)), o 18 (.ibin .add (.t 17) (.c (.int .i64 1))), o 6 (.mv (.t 18))]
abbrev r01_Place_p3 : List AG := [o 31 (.off 1 (.t 5)), q (.store 1 (.t 31) (.c (.int .i64 1)))]
abbrev r01_Place_p4 : List AG := [o 27 (.off 0 (.t 5)), o 28 (.load false 1 (.t 27)), o 29 (.ibin .add (.t 28) (.c (.int .i64 1))), o 30 (.off 0 (.t 5)), q (.store 1 (.t 30) (.t 29))]
abbrev r01_Place_p5 : ACode := (.seq (.reg r01_Place_p4) (.reg r01_Place_p3))
abbrev r01_Place_p6 : List AG := [o 23 (.mv (.t 0)), o 24 (.mv (.t 6)), o 25 (.ixStr (.t 23) (.t 24)), o 26 (.cmp .eql (.sc .int) (.t 25) (.c (.int .u8 10)))]
abbrev r01_Place_p7 : List AG := [o 19 (.off 1 (.t 5)), o 20 (.load false 1 (.t 19)), o 21 (.ibin .add (.t 20) (.c (.int .i64 1))), o 22 (.off 1 (.t 5)), q (.store 1 (.t 22) (.t 21))]
abbrev r01_Place_p8 : ACode := (.seq (.reg r01_Place_p7) (.seq (.reg r01_Place_p6) (.cond (.t 26) r01_Place_p5 .skip)))
abbrev r01_Place_p9 : List AG := [o 8 (.mv (.t 6)), o 9 (.mv (.t 0)), o 10 (.lenStr (.t 9)), o 11 (.cmp .lss (.sc .int) (.t 8) (.t 10)), o 12 (.mv (.t 11)), ⟨(some 13), (some (12, true)), .mv (.t 6)⟩, ⟨(some 14), (some (12, true)), .mv (.t 1)⟩, ⟨(some 15), (some (12, true)), .cmp .lss (.sc .int) (.t 13) (.t 14)⟩, o 16 (.pick (.t 12) (.t 15) (.c (.bool false)))]
abbrev r01_Place_b1 : ACode := (.seq (.seq (.reg r01_Place_p9) (.cond (.t 16) .skip (.exit 0))) (.seq (.block 1 [] r01_Place_p8) (.reg r01_Place_p2)))
abbrev r01_Place_p10 : List AG := [o 6 (.mv (.c (.int .i64 0)))]
abbrev r01_Place_p11 : List AG := [o 7 (.build [(.int .i64 0), (.int .i64 0)] [(0, 1, (.c (.int .i64 1))), (1, 1, (.c (.int .i64 1)))]), o 5 (.alloc [(.int .i64 0), (.int .i64 0)]), q (.store 2 (.t 5) (.t 7))]
abbrev r01_Place_p12 : List AG := [o 4 (.alloc [(.int .i64 0), (.int .i64 0)])]
abbrev r01_Place : AFun := ⟨(.seq (.reg r01_Place_p12) (.seq (.reg r01_Place_p11) (.seq (.seq (.reg r01_Place_p10) (.block 0 r01_Place_x1 (.loop r01_Place_m1 r01_Place_b1))) (.seq (.reg r01_Place_p0) .ret)))), 33, [.cell 4 true 2]⟩
abbrev r01_Place_k1 : List It := [.code (.seq (.reg r01_Place_p0) .ret)]
abbrev r01_Place_L1 (x0 x1 x4 x5 x6 : AV) (h : List Ob) (e : Cx := cx) : Cfg := atC n_r01_Place (.code r01_Place_b1 :: .inLoop r01_Place_m1 r01_Place_b1 :: .inBlock 0 r01_Place_x1 :: r01_Place_k1) [x0,x1,U,U,x4,x5,x6,U,U,U,U,U,U,U,U,U,U,U,U,U,U,U,U,U,U,U,U,U,U,U,U,U,U] h e
abbrev r01_Place_E1 (x4 x5 : AV) (h : List Ob) (e : Cx := cx) : Cfg := atC n_r01_Place r01_Place_k1 [U,U,U,U,x4,x5,U,U,U,U,U,U,U,U,U,U,U,U,U,U,U,U,U,U,U,U,U,U,U,U,U,U,U] h e
@[simp] theorem c_r01_Place : cfun Tryd.prog n_r01_Place = some r01_Place := by kernel_rfl
@[simp] theorem e_r01_Place : hasBody Tryd.prog n_r01_Place = true := by kernel_rfl

/- spot_At: patchbay/spot.At -/
abbrev spot_At_p0 : List AG := [q (.store 1 (.t 6) (.c (.int .i64 0))), q (.store 1 (.t 7) (.c (.bool false)))]
abbrev spot_At_p1 : List AG := [o 12 (.mv (.t 20))]
abbrev spot_At_p2 : List AG := [o 46 (.load false 1 (.t 9)), o 47 (.mv (.t 12)), o 48 (.lenStr (.t 47)), o 49 (.ibin .add (.t 48) (.c (.int .i64 1))), o 50 (.ibin .add (.t 46) (.t 49)), q (.store 1 (.t 9) (.t 50))]
abbrev spot_At_p3 : List AG := [o 42 (.arrAddr 2 1 (.t 11) (.c (.int .i64 0))), o 43 (.load false 1 (.t 42)), o 44 (.ibin .add (.t 43) (.c (.int .i64 1))), o 45 (.build [(.int .i64 0), (.int .i64 0)] [(0, 1, (.t 44)), (1, 1, (.c (.int .i64 1)))]), q (.store 2 (.t 11) (.t 45))]
abbrev spot_At_p4 : List AG := [o 38 (.load false 1 (.t 9)), o 39 (.load false 1 (.t 5)), o 40 (.ibin .add (.t 38) (.t 39)), o 41 (.ibin .sub (.t 40) (.c (.int .i64 1))), q (.store 1 (.t 6) (.t 41)), q (.store 1 (.t 7) (.c (.bool true)))]
abbrev spot_At_p5 : ACode := (.seq (.reg spot_At_p4) .ret)
abbrev spot_At_p6 : List AG := [o 21 (.load false 1 (.t 5)), o 22 (.mv (.t 12)), o 23 (.lenStr (.t 22)), o 24 (.ibin .add (.t 23) (.c (.int .i64 1))), o 25 (.cmp .leq (.sc .int) (.t 21) (.t 24)), o 26 (.mv (.t 25)), ⟨(some 27), (some (26, true)), .load false 1 (.t 10)⟩, ⟨(some 28), (some (26, true)), .arrAddr 2 1 (.t 11) (.c (.int .i64 0))⟩, ⟨(some 29), (some (26, true)), .load false 1 (.t 28)⟩, ⟨(some 30), (some (26, true)), .load false 1 (.t 5)⟩, ⟨(some 31), (some (26, true)), .build [(.int .i64 0), (.int .i64 0)] [(0, 1, (.t 29)), (1, 1, (.t 30))]⟩, ⟨(some 32), (some (26, true)), .call (.t 27) [(.t 31)]⟩, o 33 (.pick (.t 26) (.t 32) (.c (.bool false))), o 34 (.mv (.t 33)), ⟨(some 35), (some (34, true)), .load false 1 (.t 5)⟩, ⟨(some 36), (some (34, true)), .cmp .gtr (.sc .int) (.t 35) (.c (.int .i64 0))⟩, o 37 (.pick (.t 34) (.t 36) (.c (.bool false)))]
abbrev spot_At_p7 : ACode := (.seq (.seq (.reg spot_At_p6) (.cond (.t 37) spot_At_p5 .skip)) (.seq (.reg spot_At_p3) (.reg spot_At_p2)))
abbrev spot_At_p8 : ACode := (.block 1 [] spot_At_p7)
abbrev spot_At_p9 : ACode := (.rangeFunc (.t 19) [20] [O,O,O,O,O,I,I,I,O,I,I,I,O,O,O,O,O,O,O,O,O,O,O,O,O,O,O,O,O,O,O,O,O,O,O,O,O,O,O,O,O,O,O,O,O,O,O,O,O,O,O] (.reg spot_At_p1) spot_At_p8)
abbrev spot_At_p10 : List AG := [o 18 (.mv (.t 0)), o 19 (.call (.f n_spot_lines) [(.t 18)])]
abbrev spot_At_p11 : List AG := [o 17 (.load true 2 (.g 0)), o 11 (.alloc [(.int .i64 0), (.int .i64 0)]), q (.store 2 (.t 11) (.t 17))]
abbrev spot_At_p12 : List AG := [o 16 (.mkFunc (.func n_spot_At_1) [] [(.t 8)]), o 10 (.alloc [.nilf]), q (.store 1 (.t 10) (.t 16))]
abbrev spot_At_p13 : List AG := [o 13 (.mv (.t 1)), o 14 (.load false 1 (.t 5)), o 15 (.build [(.int .i64 0), (.int .i64 0)] [(0, 1, (.t 13)), (1, 1, (.t 14))]), o 8 (.alloc [(.int .i64 0), (.int .i64 0)]), o 9 (.alloc [(.int .i64 0)]), q (.store 2 (.t 8) (.t 15)), q (.store 1 (.t 9) (.c (.int .i64 0)))]
abbrev spot_At_p14 : List AG := [o 5 (.box 1 (.t 2)), o 6 (.alloc [(.int .i64 0)]), o 7 (.alloc [(.bool false)])]
abbrev spot_At : AFun := ⟨(.seq (.reg spot_At_p14) (.seq (.reg spot_At_p13) (.seq (.reg spot_At_p12) (.seq (.reg spot_At_p11) (.seq (.seq (.reg spot_At_p10) (.block 0 [] spot_At_p9)) (.seq (.reg spot_At_p0) .ret)))))), 51, [.cell 6 false 1, .cell 7 false 1]⟩
@[simp] theorem c_spot_At : cfun Tryd.prog n_spot_At = some spot_At := by kernel_rfl
@[simp] theorem e_spot_At : hasBody Tryd.prog n_spot_At = true := by kernel_rfl

/- r01_At: patchbay/patchbayref01.At -/
abbrev r01_At_p0 : List AG := [o 4 (.mv (.c (.int .i64 0))), o 5 (.mv (.c (.bool false)))]
abbrev r01_At_m1 : List Bool := [I,O,O,I,O,O,I,O,O,O,O,O,O,O,O,O,O,O,O]
abbrev r01_At_x1 : List Bool := [O,O,O,O,O,O,O,O,O,O,O,O,O,O,O,O,O,O,O]
abbrev r01_At_p2 : List AG := [o 11 (.mv (.t 6)), o 12 (.ibin .add (.t 11) (.c (.int .i64 1))), o 6 (.mv (.t 12))]
abbrev r01_At_p3 : List AG := [o 18 (.mv (.t 6)), o 4 (.mv (.t 18)), o 5 (.mv (.c (.bool true)))]
abbrev r01_At_p4 : ACode := (.seq (.reg r01_At_p3) .ret)
abbrev r01_At_p5 : List AG := [o 13 (.mv (.t 0)), o 14 (.mv (.t 6)), o 15 (.call (.f n_r01_Place) [(.t 13), (.t 14)]), o 16 (.load true 2 (.t 3)), o 17 (.cmp .eql (.strct [.int, .int]) (.t 15) (.t 16))]
abbrev r01_At_p6 : ACode := (.seq (.dreg [O,O,O,I,O] r01_At_p5) (.cond (.t 17) r01_At_p4 .skip))
abbrev r01_At_p7 : List AG := [o 7 (.mv (.t 6)), o 8 (.mv (.t 0)), o 9 (.lenStr (.t 8)), o 10 (.cmp .leq (.sc .int) (.t 7) (.t 9))]
abbrev r01_At_b1 : ACode := (.seq (.seq (.reg r01_At_p7) (.cond (.t 10) .skip (.exit 0))) (.seq (.block 1 [] r01_At_p6) (.reg r01_At_p2)))
abbrev r01_At_p8 : List AG := [o 6 (.mv (.c (.int .i64 0)))]
abbrev r01_At_p9 : List AG := [o 3 (.box 2 (.t 1)), o 4 (.mv (.c (.int .i64 0))), o 5 (.mv (.c (.bool false)))]
abbrev r01_At : AFun := ⟨(.seq (.reg r01_At_p9) (.seq (.seq (.reg r01_At_p8) (.block 0 r01_At_x1 (.loop r01_At_m1 r01_At_b1))) (.seq (.reg r01_At_p0) .ret))), 19, [.tmp 4, .tmp 5]⟩
abbrev r01_At_k1 : List It := [.code (.seq (.reg r01_At_p0) .ret)]
abbrev r01_At_L1 (x0 x3 x6 : AV) (h : List Ob) (e : Cx := cx) : Cfg := atC n_r01_At (.code r01_At_b1 :: .inLoop r01_At_m1 r01_At_b1 :: .inBlock 0 r01_At_x1 :: r01_At_k1) [x0,U,U,x3,U,U,x6,U,U,U,U,U,U,U,U,U,U,U,U] h e
abbrev r01_At_E1 (h : List Ob) (e : Cx := cx) : Cfg := atC n_r01_At r01_At_k1 [U,U,U,U,U,U,U,U,U,U,U,U,U,U,U,U,U,U,U] h e
@[simp] theorem c_r01_At : cfun Tryd.prog n_r01_At = some r01_At := by kernel_rfl
@[simp] theorem e_r01_At : hasBody Tryd.prog n_r01_At = true := by kernel_rfl

/- r01_Fail: patchbay/patchbayref01.Fail -/
abbrev r01_Fail_p0 : List AG := [o 14 (.mv (.t 2)), o 15 (.off 0 (.t 7)), o 16 (.load false 1 (.t 15)), o 17 (.off 1 (.t 7)), o 18 (.load false 1 (.t 17)), o 19 (.build [(.int .i64 0), (.int .i64 0), (.int .i64 0)] [(0, 1, (.t 14)), (1, 1, (.t 16)), (2, 1, (.t 18))]), q (.store 3 (.t 6) (.t 19))]
abbrev r01_Fail_p1 : List AG := [o 11 (.mv (.t 0)), o 12 (.mv (.t 1)), o 13 (.call (.f n_r01_Place) [(.t 11), (.t 12)]), o 7 (.alloc [(.int .i64 0), (.int .i64 0)]), q (.store 2 (.t 7) (.t 13))]
abbrev r01_Fail_p2 : List AG := [o 10 (.build [(.int .i64 0), (.int .i64 0), (.int .i64 0)] []), q (.store 3 (.t 6) (.t 10))]
abbrev r01_Fail_p3 : ACode := (.seq (.reg r01_Fail_p2) .ret)
abbrev r01_Fail_p4 : List AG := [o 8 (.mv (.t 2)), o 9 (.cmp .eql (.sc .int) (.t 8) (.c (.int .i64 0)))]
abbrev r01_Fail_p5 : List AG := [o 6 (.alloc [(.int .i64 0), (.int .i64 0), (.int .i64 0)])]
abbrev r01_Fail : AFun := ⟨(.seq (.reg r01_Fail_p5) (.seq (.seq (.reg r01_Fail_p4) (.cond (.t 9) r01_Fail_p3 .skip)) (.seq (.reg r01_Fail_p1) (.seq (.reg r01_Fail_p0) .ret)))), 20, [.cell 6 true 3]⟩
@[simp] theorem c_r01_Fail : cfun Tryd.prog n_r01_Fail = some r01_Fail := by kernel_rfl
@[simp] theorem e_r01_Fail : hasBody Tryd.prog n_r01_Fail = true := by kernel_rfl

/- spot_Fail: patchbay/spot.Fail -/
abbrev spot_Fail_p0 : List AG := [o 18 (.mv (.t 2)), o 19 (.mv (.t 7)), o 20 (.mv (.t 8)), o 21 (.build [(.int .i64 0), (.int .i64 0), (.int .i64 0)] [(0, 1, (.t 18)), (1, 1, (.t 19)), (2, 1, (.t 20))]), q (.store 3 (.t 6) (.t 21))]
abbrev spot_Fail_p1 : List AG := [o 13 (.mv (.t 0)), o 14 (.mv (.t 1)), o 15 (.call (.f n_spot_Place) [(.t 13), (.t 14)]), o 12 (.mv (.t 15)), o 16 (.extract (.t 12) 0), o 17 (.extract (.t 12) 1), o 7 (.mv (.t 16)), o 8 (.mv (.t 17))]
abbrev spot_Fail_p2 : List AG := [o 11 (.build [(.int .i64 0), (.int .i64 0), (.int .i64 0)] []), q (.store 3 (.t 6) (.t 11))]
abbrev spot_Fail_p3 : ACode := (.seq (.reg spot_Fail_p2) .ret)
abbrev spot_Fail_p4 : List AG := [o 9 (.mv (.t 2)), o 10 (.cmp .eql (.sc .int) (.t 9) (.c (.int .i64 0)))]
abbrev spot_Fail_p5 : List AG := [o 6 (.alloc [(.int .i64 0), (.int .i64 0), (.int .i64 0)])]
abbrev spot_Fail : AFun := ⟨(.seq (.reg spot_Fail_p5) (.seq (.seq (.reg spot_Fail_p4) (.cond (.t 10) spot_Fail_p3 .skip)) (.seq (.reg spot_Fail_p1) (.seq (.reg spot_Fail_p0) .ret)))), 22, [.cell 6 true 3]⟩
@[simp] theorem c_spot_Fail : cfun Tryd.prog n_spot_Fail = some spot_Fail := by kernel_rfl
@[simp] theorem e_spot_Fail : hasBody Tryd.prog n_spot_Fail = true := by kernel_rfl

/- spot_Lines: patchbay/spot.Lines -/
abbrev spot_Lines_p0 : List AG := [o 12 (.load false 1 (.t 3)), o 2 (.mv (.t 12))]
abbrev spot_Lines_p1 : List AG := [o 4 (.mv (.t 7))]
abbrev spot_Lines_p2 : List AG := [o 8 (.load false 1 (.t 3)), o 9 (.mv (.t 4)), o 10 (.lit 1 [(.str [])] [(0, (.t 9))]), o 11 (.append 1 t_string 16 (.t 8) (.t 10)), q (.store 1 (.t 3) (.t 11))]
abbrev spot_Lines_p3 : ACode := (.block 1 [] (.reg spot_Lines_p2))
abbrev spot_Lines_p4 : ACode := (.rangeFunc (.t 6) [7] [O,O,I,I,O,O,O,O,O,O,O,O,O] (.reg spot_Lines_p1) spot_Lines_p3)
abbrev spot_Lines_p5 : List AG := [o 5 (.mv (.t 0)), o 6 (.call (.f n_spot_lines) [(.t 5)])]
abbrev spot_Lines_p6 : List AG := [o 3 (.alloc [(.own 1 t_string [])])]
abbrev spot_Lines_p7 : List AG := [o 2 (.nilrow 1 t_string)]
abbrev spot_Lines : AFun := ⟨(.seq (.reg spot_Lines_p7) (.seq (.reg spot_Lines_p6) (.seq (.seq (.reg spot_Lines_p5) (.block 0 [] spot_Lines_p4)) (.seq (.reg spot_Lines_p0) .ret)))), 13, [.tmp 2]⟩
@[simp] theorem c_spot_Lines : cfun Tryd.prog n_spot_Lines = some spot_Lines := by kernel_rfl
@[simp] theorem e_spot_Lines : hasBody Tryd.prog n_spot_Lines = true := by kernel_rfl

/- r01_Texts: patchbay/patchbayref01.Texts -/
abbrev r01_Texts_p0 : List AG := [o 4 (.mv (.c (.bool true)))]
abbrev r01_Texts_m1 : List Bool := [I,I,O,O,O,I,O,O,O,O,O,O,O,O,O,O,O,O,O,O,O,O,O,O,O,O]
abbrev r01_Texts_x1 : List Bool := [O,O,O,O,O,O,O,O,O,O,O,O,O,O,O,O,O,O,O,O,O,O,O,O,O,O]
abbrev r01_Texts_p2 : List AG := [o 15 (.mv (.t 5)), o 16 (.ibin .add (.t 15) (.c (.int .i64 1))), o 5 (.mv (.t 16))]
abbrev r01_Texts_p3 : List AG := [o 4 (.mv (.c (.bool false)))]
abbrev r01_Texts_p4 : ACode := (.seq (.reg r01_Texts_p3) .ret)
abbrev r01_Texts_p5 : List AG := [o 17 (.mv (.t 0)), o 18 (.mv (.t 5)), o 19 (.ixAddr 1 (.t 17) (.t 18)), o 20 (.load false 1 (.t 19)), o 21 (.mv (.t 1)), o 22 (.mv (.t 5)), o 23 (.ixAddr 1 (.t 21) (.t 22)), o 24 (.load false 1 (.t 23)), o 25 (.cmp .neq (.sc .str) (.t 20) (.t 24))]
abbrev r01_Texts_p6 : ACode := (.seq (.dreg [O,O,O,O,O,O,O,O,O] r01_Texts_p5) (.cond (.t 25) r01_Texts_p4 .skip))
abbrev r01_Texts_p7 : List AG := [o 11 (.mv (.t 5)), o 12 (.mv (.t 0)), o 13 (.len (.t 12)), o 14 (.cmp .lss (.sc .int) (.t 11) (.t 13))]
abbrev r01_Texts_b1 : ACode := (.seq (.seq (.reg r01_Texts_p7) (.cond (.t 14) .skip (.exit 0))) (.seq (.block 1 [] r01_Texts_p6) (.reg r01_Texts_p2)))
abbrev r01_Texts_p8 : List AG := [o 5 (.mv (.c (.int .i64 0)))]
abbrev r01_Texts_p9 : List AG := [o 4 (.mv (.c (.bool false)))]
abbrev r01_Texts_p10 : ACode := (.seq (.reg r01_Texts_p9) .ret)
abbrev r01_Texts_p11 : List AG := [o 6 (.mv (.t 0)), o 7 (.len (.t 6)), o 8 (.mv (.t 1)), o 9 (.len (.t 8)), o 10 (.cmp .neq (.sc .int) (.t 7) (.t 9))]
abbrev r01_Texts_p12 : List AG := [o 4 (.mv (.c (.bool false)))]
abbrev r01_Texts : AFun := ⟨(.seq (.reg r01_Texts_p12) (.seq (.seq (.reg r01_Texts_p11) (.cond (.t 10) r01_Texts_p10 .skip)) (.seq (.seq (.reg r01_Texts_p8) (.block 0 r01_Texts_x1 (.loop r01_Texts_m1 r01_Texts_b1))) (.seq (.reg r01_Texts_p0) .ret)))), 26, [.tmp 4]⟩
abbrev r01_Texts_k1 : List It := [.code (.seq (.reg r01_Texts_p0) .ret)]
abbrev r01_Texts_L1 (x0 x1 x5 : AV) (h : List Ob) (e : Cx := cx) : Cfg := atC n_r01_Texts (.code r01_Texts_b1 :: .inLoop r01_Texts_m1 r01_Texts_b1 :: .inBlock 0 r01_Texts_x1 :: r01_Texts_k1) [x0,x1,U,U,U,x5,U,U,U,U,U,U,U,U,U,U,U,U,U,U,U,U,U,U,U,U] h e
abbrev r01_Texts_E1 (h : List Ob) (e : Cx := cx) : Cfg := atC n_r01_Texts r01_Texts_k1 [U,U,U,U,U,U,U,U,U,U,U,U,U,U,U,U,U,U,U,U,U,U,U,U,U,U] h e
@[simp] theorem c_r01_Texts : cfun Tryd.prog n_r01_Texts = some r01_Texts := by kernel_rfl
@[simp] theorem e_r01_Texts : hasBody Tryd.prog n_r01_Texts = true := by kernel_rfl

/- r01_Lines: patchbay/patchbayref01.Lines -/
abbrev r01_Lines_p0 : List AG := [o 27 (.mv (.t 3)), o 28 (.mv (.t 4)), o 29 (.lit 1 [(.str [])] [(0, (.t 28))]), o 30 (.append 1 t_string 16 (.t 27) (.t 29)), o 2 (.mv (.t 30))]
abbrev r01_Lines_m1 : List Bool := [I,O,O,I,I,I,O,O,O,O,O,O,O,O,O,O,O,O,O,O,O,O,O,O,O,O,O,O,O,O,O]
abbrev r01_Lines_x1 : List Bool := [O,O,O,I,I,O,O,O,O,O,O,O,O,O,O,O,O,O,O,O,O,O,O,O,O,O,O,O,O,O,O]
abbrev r01_Lines_p2 : List AG := [o 10 (.mv (.t 5)), o 11 (.ibin .add (.t 10) (.c (.int .i64 1))), o 5 (.mv (.t 11))]
abbrev r01_Lines_p3 : List AG := [o 4 (.mv (.c (.str [])))]
abbrev r01_Lines_p4 : List AG := [o 16 (.mv (.t 3)), o 17 (.mv (.t 4)), o 18 (.lit 1 [(.str [])] [(0, (.t 17))]), o 19 (.append 1 t_string 16 (.t 16) (.t 18)), o 3 (.mv (.t 19))]
abbrev r01_Lines_p5 : List AG := [o 20 (.mv (.t 4)), o 21 (.mv (.t 0)), o 22 (.mv (.t 5)), o 23 (.mv (.t 5)), o 24 (.ibin .add (.t 23) (.c (.int .i64 1))), o 25 (.sliceStr (.t 21) (some (.t 22)) (some (.t 24))), o 26 (.concat (.t 20) (.t 25)), o 4 (.mv (.t 26))]
abbrev r01_Lines_p6 : ACode := (.seq (.reg r01_Lines_p4) (.reg r01_Lines_p3))
abbrev r01_Lines_p7 : List AG := [o 12 (.mv (.t 0)), o 13 (.mv (.t 5)), o 14 (.ixStr (.t 12) (.t 13)), o 15 (.cmp .eql (.sc .int) (.t 14) (.c (.int .u8 10)))]
abbrev r01_Lines_p8 : ACode := (.seq (.reg r01_Lines_p7) (.cond (.t 15) r01_Lines_p6 (.reg r01_Lines_p5)))
abbrev r01_Lines_p9 : List AG := [o 6 (.mv (.t 5)), o 7 (.mv (.t 0)), o 8 (.lenStr (.t 7)), o 9 (.cmp .lss (.sc .int) (.t 6) (.t 8))]
abbrev r01_Lines_b1 : ACode := (.seq (.seq (.reg r01_Lines_p9) (.cond (.t 9) .skip (.exit 0))) (.seq (.block 1 [] r01_Lines_p8) (.reg r01_Lines_p2)))
abbrev r01_Lines_p10 : List AG := [o 5 (.mv (.c (.int .i64 0)))]
abbrev r01_Lines_p11 : List AG := [o 4 (.mv (.c (.str [])))]
abbrev r01_Lines_p12 : List AG := [o 3 (.nilrow 1 t_string)]
abbrev r01_Lines_p13 : List AG := [o 2 (.nilrow 1 t_string)]
abbrev r01_Lines : AFun := ⟨(.seq (.reg r01_Lines_p13) (.seq (.reg r01_Lines_p12) (.seq (.reg r01_Lines_p11) (.seq (.seq (.reg r01_Lines_p10) (.block 0 r01_Lines_x1 (.loop r01_Lines_m1 r01_Lines_b1))) (.seq (.reg r01_Lines_p0) .ret))))), 31, [.tmp 2]⟩
abbrev r01_Lines_k1 : List It := [.code (.seq (.reg r01_Lines_p0) .ret)]
abbrev r01_Lines_L1 (x0 x3 x4 x5 : AV) (h : List Ob) (e : Cx := cx) : Cfg := atC n_r01_Lines (.code r01_Lines_b1 :: .inLoop r01_Lines_m1 r01_Lines_b1 :: .inBlock 0 r01_Lines_x1 :: r01_Lines_k1) [x0,U,U,x3,x4,x5,U,U,U,U,U,U,U,U,U,U,U,U,U,U,U,U,U,U,U,U,U,U,U,U,U] h e
abbrev r01_Lines_E1 (x3 x4 : AV) (h : List Ob) (e : Cx := cx) : Cfg := atC n_r01_Lines r01_Lines_k1 [U,U,U,x3,x4,U,U,U,U,U,U,U,U,U,U,U,U,U,U,U,U,U,U,U,U,U,U,U,U,U,U] h e
@[simp] theorem c_r01_Lines : cfun Tryd.prog n_r01_Lines = some r01_Lines := by kernel_rfl
@[simp] theorem e_r01_Lines : hasBody Tryd.prog n_r01_Lines = true := by kernel_rfl

/- spot_Move: patchbay/spot.Move -/
abbrev spot_Move_p0 : List AG := [o 14 (.arrAddr 2 1 (.t 8) (.c (.int .i64 0))), o 15 (.load false 1 (.t 14)), o 16 (.arrAddr 2 1 (.t 8) (.c (.int .i64 1))), o 17 (.load false 1 (.t 16)), o 6 (.mv (.t 15)), o 7 (.mv (.t 17))]
abbrev spot_Move_p1 : List AG := [o 9 (.mv (.t 0)), o 10 (.mv (.t 1)), o 11 (.build [(.int .i64 0), (.int .i64 0)] [(0, 1, (.t 9)), (1, 1, (.t 10))]), o 12 (.mv (.t 2)), o 13 (.call (.f n_spot_spot_over) [(.t 11), (.t 12)]), o 8 (.alloc [(.int .i64 0), (.int .i64 0)]), q (.store 2 (.t 8) (.t 13))]
abbrev spot_Move_p2 : List AG := [o 6 (.mv (.c (.int .i64 0))), o 7 (.mv (.c (.int .i64 0)))]
abbrev spot_Move : AFun := ⟨(.seq (.reg spot_Move_p2) (.seq (.reg spot_Move_p1) (.seq (.dreg [O,O,O,O,O,O] spot_Move_p0) .ret))), 18, [.tmp 6, .tmp 7]⟩
@[simp] theorem c_spot_Move : cfun Tryd.prog n_spot_Move = some spot_Move := by kernel_rfl
@[simp] theorem e_spot_Move : hasBody Tryd.prog n_spot_Move = true := by kernel_rfl

/- spot_spot_over: (patchbay/spot.spot).over -/
abbrev spot_spot_over_p0 : List AG := [o 18 (.arrAddr 2 1 (.t 2) (.c (.int .i64 0))), o 19 (.load false 1 (.t 18)), o 20 (.mv (.t 5)), o 21 (.ibin .add (.t 19) (.t 20)), o 22 (.mv (.t 1)), o 23 (.lenStr (.t 22)), o 24 (.mv (.t 1)), o 25 (.call (.f n_strings_LastIndex) [(.t 24), (.c (.str [10]))]), o 26 (.ibin .sub (.t 23) (.t 25)), o 27 (.build [(.int .i64 0), (.int .i64 0)] [(0, 1, (.t 21)), (1, 1, (.t 26))]), q (.store 2 (.t 4) (.t 27))]
abbrev spot_spot_over_p1 : List AG := [o 10 (.arrAddr 2 1 (.t 2) (.c (.int .i64 0))), o 11 (.load false 1 (.t 10)), o 12 (.arrAddr 2 1 (.t 2) (.c (.int .i64 1))), o 13 (.load false 1 (.t 12)), o 14 (.mv (.t 1)), o 15 (.lenStr (.t 14)), o 16 (.ibin .add (.t 13) (.t 15)), o 17 (.build [(.int .i64 0), (.int .i64 0)] [(0, 1, (.t 11)), (1, 1, (.t 16))]), q (.store 2 (.t 4) (.t 17))]
abbrev spot_spot_over_p2 : ACode := (.seq (.reg spot_spot_over_p1) .ret)
abbrev spot_spot_over_p3 : List AG := [o 8 (.mv (.t 5)), o 9 (.cmp .eql (.sc .int) (.t 8) (.c (.int .i64 0)))]
abbrev spot_spot_over_p4 : List AG := [o 6 (.mv (.t 1)), o 7 (.call (.f n_strings_Count) [(.t 6), (.c (.str [10]))]), o 5 (.mv (.t 7))]
abbrev spot_spot_over_p5 : List AG := [o 2 (.box 2 (.t 0)), o 4 (.alloc [(.int .i64 0), (.int .i64 0)])]
abbrev spot_spot_over : AFun := ⟨(.seq (.reg spot_spot_over_p5) (.seq (.reg spot_spot_over_p4) (.seq (.seq (.reg spot_spot_over_p3) (.cond (.t 9) spot_spot_over_p2 .skip)) (.seq (.dreg [O,I,O,O,O,O,O,O,O,O,O] spot_spot_over_p0) .ret)))), 28, [.cell 4 true 2]⟩
@[simp] theorem c_spot_spot_over : cfun Tryd.prog n_spot_spot_over = some spot_spot_over := by kernel_rfl
@[simp] theorem e_spot_spot_over : hasBody Tryd.prog n_spot_spot_over = true := by kernel_rfl

/- spot_At_1: patchbay/spot.At$1 -/
abbrev spot_At_1_p0 : List AG := [o 4 (.load true 2 (.t 2)), o 5 (.load true 2 (.t 1)), o 6 (.cmp .eql (.strct [.int, .int]) (.t 4) (.t 5)), o 3 (.mv (.t 6))]
abbrev spot_At_1_p1 : List AG := [o 2 (.box 2 (.t 0)), o 3 (.mv (.c (.bool false)))]
abbrev spot_At_1 : AFun := ⟨(.seq (.reg spot_At_1_p1) (.seq (.reg spot_At_1_p0) .ret)), 7, [.tmp 3]⟩
@[simp] theorem c_spot_At_1 : cfun Tryd.prog n_spot_At_1 = some spot_At_1 := by kernel_rfl
@[simp] theorem e_spot_At_1 : hasBody Tryd.prog n_spot_At_1 = true := by kernel_rfl

/- spot_lines: patchbay/spot.lines -/
abbrev spot_lines_p0 : List AG := [o 3 (.mkFunc (.func n_spot_lines_1) [] [(.t 1)]), o 2 (.mv (.t 3))]
abbrev spot_lines_p1 : List AG := [o 1 (.box 1 (.t 0)), o 2 (.mv (.c .nilf))]
abbrev spot_lines : AFun := ⟨(.seq (.reg spot_lines_p1) (.seq (.reg spot_lines_p0) .ret)), 4, [.tmp 2]⟩
@[simp] theorem c_spot_lines : cfun Tryd.prog n_spot_lines = some spot_lines := by kernel_rfl
@[simp] theorem e_spot_lines : hasBody Tryd.prog n_spot_lines = true := by kernel_rfl

/- strings_Count: strings.Count -/
abbrev strings_Count_m0 : List Bool := [I,I,O,O,O,I,O,O,O,O,O,O,O,O,O,O,O,O,O,O,O,O,O,O,O,O,O,O,O,O,O,O,O,O]
abbrev strings_Count_x0 : List Bool := [O,O,O,O,I,O,O,O,O,O,O,O,O,O,O,O,O,O,O,O,O,O,O,O,O,O,O,O,O,O,O,O,O,O]
abbrev strings_Count_p1 : List AG := [o 28 (.mv (.t 0)), o 29 (.mv (.t 6)), o 30 (.mv (.t 1)), o 31 (.lenStr (.t 30)), o 32 (.ibin .add (.t 29) (.t 31)), o 33 (.sliceStr (.t 28) (some (.t 32)) none), o 0 (.mv (.t 33))]
abbrev strings_Count_p2 : List AG := [o 26 (.mv (.t 5)), o 27 (.ibin .add (.t 26) (.c (.int .i64 1))), o 5 (.mv (.t 27))]
abbrev strings_Count_p3 : List AG := [o 25 (.mv (.t 5)), o 4 (.mv (.t 25))]
abbrev strings_Count_p4 : ACode := (.seq (.reg strings_Count_p3) .ret)
abbrev strings_Count_p5 : List AG := [o 23 (.mv (.t 6)), o 24 (.cmp .eql (.sc .int) (.t 23) (.c (.int .i64 (-1))))]
abbrev strings_Count_p6 : List AG := [o 20 (.mv (.t 0)), o 21 (.mv (.t 1)), o 22 (.call (.f n_strings_Index) [(.t 20), (.t 21)]), o 6 (.mv (.t 22))]
abbrev strings_Count_p7 : ACode := (.seq (.reg strings_Count_p6) (.seq (.seq (.reg strings_Count_p5) (.cond (.t 24) strings_Count_p4 .skip)) (.seq (.reg strings_Count_p2) (.reg strings_Count_p1))))
abbrev strings_Count_b0 : ACode := (.block 1 [] strings_Count_p7)
abbrev strings_Count_p8 : List AG := [o 5 (.mv (.c (.int .i64 0)))]
abbrev strings_Count_p9 : List AG := [o 16 (.mv (.t 0)), o 17 (.mv (.t 1)), o 18 (.ixStr (.t 17) (.c (.int .i64 0))), o 19 (.call (.f n_bytealg_CountString) [(.t 16), (.t 18)]), o 4 (.mv (.t 19))]
abbrev strings_Count_p10 : ACode := (.seq (.reg strings_Count_p9) .ret)
abbrev strings_Count_p11 : List AG := [o 13 (.mv (.t 1)), o 14 (.lenStr (.t 13)), o 15 (.cmp .eql (.sc .int) (.t 14) (.c (.int .i64 1)))]
abbrev strings_Count_p12 : List AG := [o 10 (.mv (.t 0)), o 11 (.call (.f n_unicode_utf8_RuneCountInString) [(.t 10)]), o 12 (.ibin .add (.t 11) (.c (.int .i64 1))), o 4 (.mv (.t 12))]
abbrev strings_Count_p13 : ACode := (.seq (.reg strings_Count_p12) .ret)
abbrev strings_Count_p14 : List AG := [o 7 (.mv (.t 1)), o 8 (.lenStr (.t 7)), o 9 (.cmp .eql (.sc .int) (.t 8) (.c (.int .i64 0)))]
abbrev strings_Count_p15 : List AG := [o 4 (.mv (.c (.int .i64 0)))]
abbrev strings_Count : AFun := ⟨(.seq (.reg strings_Count_p15) (.seq (.seq (.reg strings_Count_p14) (.cond (.t 9) strings_Count_p13 .skip)) (.seq (.seq (.reg strings_Count_p11) (.cond (.t 15) strings_Count_p10 .skip)) (.seq (.reg strings_Count_p8) (.block 0 strings_Count_x0 (.loop strings_Count_m0 strings_Count_b0)))))), 34, [.tmp 4]⟩
abbrev strings_Count_k0 : List It := []
abbrev strings_Count_L0 (x0 x1 x5 : AV) (h : List Ob) (e : Cx := cx) : Cfg := atC n_strings_Count (.code strings_Count_b0 :: .inLoop strings_Count_m0 strings_Count_b0 :: .inBlock 0 strings_Count_x0 :: strings_Count_k0) [x0,x1,U,U,U,x5,U,U,U,U,U,U,U,U,U,U,U,U,U,U,U,U,U,U,U,U,U,U,U,U,U,U,U,U] h e
abbrev strings_Count_E0 (x4 : AV) (h : List Ob) (e : Cx := cx) : Cfg := atC n_strings_Count strings_Count_k0 [U,U,U,U,x4,U,U,U,U,U,U,U,U,U,U,U,U,U,U,U,U,U,U,U,U,U,U,U,U,U,U,U,U,U] h e
@[simp] theorem c_strings_Count : cfun Tryd.prog n_strings_Count = some strings_Count := by kernel_rfl
@[simp] theorem e_strings_Count : hasBody Tryd.prog n_strings_Count = true := by kernel_rfl

/- strings_LastIndex: strings.LastIndex -/
abbrev strings_LastIndex_p0 : List AG := [o 33 (.mv (.t 0)), o 34 (.mv (.t 1)), o 35 (.call (.f n_bytealg_LastIndexRabinKarp_string) [(.t 33), (.t 34)]), o 4 (.mv (.t 35))]
abbrev strings_LastIndex_p1 : List AG := [o 11 (.mv (.t 0)), o 12 (.lenStr (.t 11)), o 4 (.mv (.t 12))]
abbrev strings_LastIndex_p2 : List AG := [o 16 (.mv (.t 0)), o 17 (.mv (.t 1)), o 18 (.ixStr (.t 17) (.c (.int .i64 0))), o 19 (.call (.f n_bytealg_LastIndexByteString) [(.t 16), (.t 18)]), o 4 (.mv (.t 19))]
abbrev strings_LastIndex_p3 : List AG := [o 4 (.mv (.c (.int .i64 (-1))))]
abbrev strings_LastIndex_p4 : List AG := [o 4 (.mv (.c (.int .i64 0)))]
abbrev strings_LastIndex_p5 : ACode := (.seq (.reg strings_LastIndex_p4) .ret)
abbrev strings_LastIndex_p6 : List AG := [o 25 (.mv (.t 1)), o 26 (.mv (.t 0)), o 27 (.cmp .eql (.sc .str) (.t 25) (.t 26))]
abbrev strings_LastIndex_p7 : List AG := [o 4 (.mv (.c (.int .i64 (-1))))]
abbrev strings_LastIndex_p8 : ACode := (.seq (.reg strings_LastIndex_p7) .ret)
abbrev strings_LastIndex_p9 : List AG := [o 29 (.mv (.t 5)), o 30 (.mv (.t 0)), o 31 (.lenStr (.t 30)), o 32 (.cmp .gtr (.sc .int) (.t 29) (.t 31)), o 28 (.mv (.t 32))]
abbrev strings_LastIndex_p10 : ACode := (.seq (.seq (.reg strings_LastIndex_p6) (.cond (.t 27) strings_LastIndex_p5 .skip)) (.seq (.reg strings_LastIndex_p3) .ret))
abbrev strings_LastIndex_p11 : ACode := (.seq (.reg strings_LastIndex_p9) (.cond (.t 28) strings_LastIndex_p8 .skip))
abbrev strings_LastIndex_p12 : List AG := [o 21 (.mv (.t 5)), o 22 (.mv (.t 0)), o 23 (.lenStr (.t 22)), o 24 (.cmp .eql (.sc .int) (.t 21) (.t 23)), o 20 (.mv (.t 24))]
abbrev strings_LastIndex_p13 : ACode := (.seq (.reg strings_LastIndex_p2) .ret)
abbrev strings_LastIndex_p14 : ACode := (.seq (.reg strings_LastIndex_p12) (.cond (.t 20) strings_LastIndex_p10 strings_LastIndex_p11))
abbrev strings_LastIndex_p15 : List AG := [o 14 (.mv (.t 5)), o 15 (.cmp .eql (.sc .int) (.t 14) (.c (.int .i64 1))), o 13 (.mv (.t 15))]
abbrev strings_LastIndex_p16 : ACode := (.seq (.reg strings_LastIndex_p1) .ret)
abbrev strings_LastIndex_p17 : ACode := (.seq (.reg strings_LastIndex_p15) (.cond (.t 13) strings_LastIndex_p13 strings_LastIndex_p14))
abbrev strings_LastIndex_p18 : List AG := [o 9 (.mv (.t 5)), o 10 (.cmp .eql (.sc .int) (.t 9) (.c (.int .i64 0))), o 8 (.mv (.t 10))]
abbrev strings_LastIndex_p19 : ACode := (.seq (.reg strings_LastIndex_p18) (.cond (.t 8) strings_LastIndex_p16 strings_LastIndex_p17))
abbrev strings_LastIndex_p20 : List AG := [o 6 (.mv (.t 1)), o 7 (.lenStr (.t 6)), o 5 (.mv (.t 7))]
abbrev strings_LastIndex_p21 : List AG := [o 4 (.mv (.c (.int .i64 0)))]
abbrev strings_LastIndex : AFun := ⟨(.seq (.reg strings_LastIndex_p21) (.seq (.reg strings_LastIndex_p20) (.seq (.block 0 [] strings_LastIndex_p19) (.seq (.reg strings_LastIndex_p0) .ret)))), 36, [.tmp 4]⟩
@[simp] theorem c_strings_LastIndex : cfun Tryd.prog n_strings_LastIndex = some strings_LastIndex := by kernel_rfl
@[simp] theorem e_strings_LastIndex : hasBody Tryd.prog n_strings_LastIndex = true := by kernel_rfl

/- spot_lines_1: patchbay/spot.lines$1 -/
abbrev spot_lines_1_m0 : List Bool := [I,I,O,O,O,O,O,O,O,O,O,O,O,O,O,O,O,O,O,O,O]
abbrev spot_lines_1_x0 : List Bool := [O,O,O,O,O,O,O,O,O,O,O,O,O,O,O,O,O,O,O,O,O]
abbrev spot_lines_1_p1 : List AG := [o 20 (.mv (.t 4)), q (.store 1 (.t 1) (.t 20))]
abbrev spot_lines_1_p2 : List AG := [o 12 (.mv (.t 0)), o 13 (.mv (.t 3)), o 14 (.call (.t 12) [(.t 13)]), o 15 (.not (.t 14)), o 16 (.mv (.t 15)), ⟨(some 17), (some (16, false)), .mv (.t 5)⟩, ⟨(some 18), (some (16, false)), .not (.t 17)⟩, o 19 (.pick (.t 16) (.c (.bool true)) (.t 18))]
abbrev spot_lines_1_p3 : List AG := [o 7 (.load false 1 (.t 1)), o 8 (.call (.f n_strings_Cut) [(.t 7), (.c (.str [10]))]), o 6 (.mv (.t 8)), o 9 (.extract (.t 6) 0), o 10 (.extract (.t 6) 1), o 11 (.extract (.t 6) 2), o 3 (.mv (.t 9)), o 4 (.mv (.t 10)), o 5 (.mv (.t 11))]
abbrev spot_lines_1_p4 : ACode := (.seq (.reg spot_lines_1_p3) (.seq (.seq (.reg spot_lines_1_p2) (.cond (.t 19) .ret .skip)) (.reg spot_lines_1_p1)))
abbrev spot_lines_1_b0 : ACode := (.block 1 [] spot_lines_1_p4)
abbrev spot_lines_1 : AFun := ⟨(.block 0 spot_lines_1_x0 (.loop spot_lines_1_m0 spot_lines_1_b0)), 21, []⟩
abbrev spot_lines_1_k0 : List It := []
abbrev spot_lines_1_L0 (x0 x1 : AV) (h : List Ob) (e : Cx := cx) : Cfg := atC n_spot_lines_1 (.code spot_lines_1_b0 :: .inLoop spot_lines_1_m0 spot_lines_1_b0 :: .inBlock 0 spot_lines_1_x0 :: spot_lines_1_k0) [x0,x1,U,U,U,U,U,U,U,U,U,U,U,U,U,U,U,U,U,U,U] h e
abbrev spot_lines_1_E0 (h : List Ob) (e : Cx := cx) : Cfg := atC n_spot_lines_1 spot_lines_1_k0 [U,U,U,U,U,U,U,U,U,U,U,U,U,U,U,U,U,U,U,U,U] h e
@[simp] theorem c_spot_lines_1 : cfun Tryd.prog n_spot_lines_1 = some spot_lines_1 := by kernel_rfl
@[simp] theorem e_spot_lines_1 : hasBody Tryd.prog n_spot_lines_1 = true := by kernel_rfl

/- strings_Cut: strings.Cut -/
abbrev strings_Cut_p0 : List AG := [o 7 (.mv (.t 0)), o 8 (.mv (.t 1)), o 9 (.call (.f n_stringslite_Cut) [(.t 7), (.t 8)]), o 10 (.extract (.t 9) 0), o 11 (.extract (.t 9) 1), o 12 (.extract (.t 9) 2), o 4 (.mv (.t 10)), o 5 (.mv (.t 11)), o 6 (.mv (.t 12))]
abbrev strings_Cut_p1 : List AG := [o 4 (.mv (.c (.str []))), o 5 (.mv (.c (.str []))), o 6 (.mv (.c (.bool false)))]
abbrev strings_Cut : AFun := ⟨(.seq (.reg strings_Cut_p1) (.seq (.reg strings_Cut_p0) .ret)), 13, [.tmp 4, .tmp 5, .tmp 6]⟩
@[simp] theorem c_strings_Cut : cfun Tryd.prog n_strings_Cut = some strings_Cut := by kernel_rfl
@[simp] theorem e_strings_Cut : hasBody Tryd.prog n_strings_Cut = true := by kernel_rfl

/- unicode_utf8_RuneCountInString: unicode/utf8.RuneCountInString -/
abbrev unicode_utf8_RuneCountInString_p0 : List AG := [o 9 (.mv (.t 2)), o 2 (.mv (.t 9))]
abbrev unicode_utf8_RuneCountInString_m1 : List Bool := [O,O,I,O,I,O,O,O,O,O]
abbrev unicode_utf8_RuneCountInString_x1 : List Bool := [O,O,I,O,O,O,O,O,O,O]
abbrev unicode_utf8_RuneCountInString_p2 : List AG := [o 7 (.mv (.t 2)), o 8 (.ibin .add (.t 7) (.c (.int .i64 1))), o 2 (.mv (.t 8))]
abbrev unicode_utf8_RuneCountInString_p3 : List AG := [o 5 (.next (.t 4)), o 6 (.extract (.t 5) 0)]
abbrev unicode_utf8_RuneCountInString_b1 : ACode := (.seq (.reg unicode_utf8_RuneCountInString_p3) (.seq (.cond (.t 6) .skip (.exit 0)) (.block 1 [] (.reg unicode_utf8_RuneCountInString_p2))))
abbrev unicode_utf8_RuneCountInString_p4 : List AG := [o 3 (.mv (.t 0)), o 4 (.range (.t 3))]
abbrev unicode_utf8_RuneCountInString_p5 : List AG := [o 2 (.mv (.c (.int .i64 0)))]
abbrev unicode_utf8_RuneCountInString : AFun := ⟨(.seq (.reg unicode_utf8_RuneCountInString_p5) (.seq (.seq (.reg unicode_utf8_RuneCountInString_p4) (.block 0 unicode_utf8_RuneCountInString_x1 (.loop unicode_utf8_RuneCountInString_m1 unicode_utf8_RuneCountInString_b1))) (.seq (.reg unicode_utf8_RuneCountInString_p0) .ret))), 10, [.tmp 2]⟩
abbrev unicode_utf8_RuneCountInString_k1 : List It := [.code (.seq (.reg unicode_utf8_RuneCountInString_p0) .ret)]
abbrev unicode_utf8_RuneCountInString_L1 (x2 x4 : AV) (h : List Ob) (e : Cx := cx) : Cfg := atC n_unicode_utf8_RuneCountInString (.code unicode_utf8_RuneCountInString_b1 :: .inLoop unicode_utf8_RuneCountInString_m1 unicode_utf8_RuneCountInString_b1 :: .inBlock 0 unicode_utf8_RuneCountInString_x1 :: unicode_utf8_RuneCountInString_k1) [U,U,x2,U,x4,U,U,U,U,U] h e
abbrev unicode_utf8_RuneCountInString_E1 (x2 : AV) (h : List Ob) (e : Cx := cx) : Cfg := atC n_unicode_utf8_RuneCountInString unicode_utf8_RuneCountInString_k1 [U,U,x2,U,U,U,U,U,U,U] h e
@[simp] theorem c_unicode_utf8_RuneCountInString : cfun Tryd.prog n_unicode_utf8_RuneCountInString = some unicode_utf8_RuneCountInString := by kernel_rfl
@[simp] theorem e_unicode_utf8_RuneCountInString : hasBody Tryd.prog n_unicode_utf8_RuneCountInString = true := by kernel_rfl

/- strings_Index: strings.Index -/
abbrev strings_Index_p0 : List AG := [o 5 (.mv (.t 0)), o 6 (.mv (.t 1)), o 7 (.call (.f n_stringslite_Index) [(.t 5), (.t 6)]), o 4 (.mv (.t 7))]
abbrev strings_Index_p1 : List AG := [o 4 (.mv (.c (.int .i64 0)))]
abbrev strings_Index : AFun := ⟨(.seq (.reg strings_Index_p1) (.seq (.reg strings_Index_p0) .ret)), 8, [.tmp 4]⟩
@[simp] theorem c_strings_Index : cfun Tryd.prog n_strings_Index = some strings_Index := by kernel_rfl
@[simp] theorem e_strings_Index : hasBody Tryd.prog n_strings_Index = true := by kernel_rfl

/- bytealg_LastIndexByteString: internal/bytealg.LastIndexByteString -/
abbrev bytealg_LastIndexByteString_p0 : List AG := [o 4 (.mv (.c (.int .i64 (-1))))]
abbrev bytealg_LastIndexByteString_m1 : List Bool := [I,I,O,O,O,I,O,O,O,O,O,O,O,O,O,O,O,O,O]
abbrev bytealg_LastIndexByteString_x1 : List Bool := [O,O,O,O,O,O,O,O,O,O,O,O,O,O,O,O,O,O,O]
abbrev bytealg_LastIndexByteString_p2 : List AG := [o 11 (.mv (.t 5)), o 12 (.ibin .sub (.t 11) (.c (.int .i64 1))), o 5 (.mv (.t 12))]
abbrev bytealg_LastIndexByteString_p3 : List AG := [o 18 (.mv (.t 5)), o 4 (.mv (.t 18))]
abbrev bytealg_LastIndexByteString_p4 : ACode := (.seq (.reg bytealg_LastIndexByteString_p3) .ret)
abbrev bytealg_LastIndexByteString_p5 : List AG := [o 13 (.mv (.t 0)), o 14 (.mv (.t 5)), o 15 (.ixStr (.t 13) (.t 14)), o 16 (.mv (.t 1)), o 17 (.cmp .eql (.sc .int) (.t 15) (.t 16))]
abbrev bytealg_LastIndexByteString_p6 : ACode := (.seq (.reg bytealg_LastIndexByteString_p5) (.cond (.t 17) bytealg_LastIndexByteString_p4 .skip))
abbrev bytealg_LastIndexByteString_p7 : List AG := [o 9 (.mv (.t 5)), o 10 (.cmp .geq (.sc .int) (.t 9) (.c (.int .i64 0)))]
abbrev bytealg_LastIndexByteString_b1 : ACode := (.seq (.seq (.reg bytealg_LastIndexByteString_p7) (.cond (.t 10) .skip (.exit 0))) (.seq (.block 1 [] bytealg_LastIndexByteString_p6) (.reg bytealg_LastIndexByteString_p2)))
abbrev bytealg_LastIndexByteString_p8 : List AG := [o 6 (.mv (.t 0)), o 7 (.lenStr (.t 6)), o 8 (.ibin .sub (.t 7) (.c (.int .i64 1))), o 5 (.mv (.t 8))]
abbrev bytealg_LastIndexByteString_p9 : List AG := [o 4 (.mv (.c (.int .i64 0)))]
abbrev bytealg_LastIndexByteString : AFun := ⟨(.seq (.reg bytealg_LastIndexByteString_p9) (.seq (.seq (.reg bytealg_LastIndexByteString_p8) (.block 0 bytealg_LastIndexByteString_x1 (.loop bytealg_LastIndexByteString_m1 bytealg_LastIndexByteString_b1))) (.seq (.reg bytealg_LastIndexByteString_p0) .ret))), 19, [.tmp 4]⟩
abbrev bytealg_LastIndexByteString_k1 : List It := [.code (.seq (.reg bytealg_LastIndexByteString_p0) .ret)]
abbrev bytealg_LastIndexByteString_L1 (x0 x1 x5 : AV) (h : List Ob) (e : Cx := cx) : Cfg := atC n_bytealg_LastIndexByteString (.code bytealg_LastIndexByteString_b1 :: .inLoop bytealg_LastIndexByteString_m1 bytealg_LastIndexByteString_b1 :: .inBlock 0 bytealg_LastIndexByteString_x1 :: bytealg_LastIndexByteString_k1) [x0,x1,U,U,U,x5,U,U,U,U,U,U,U,U,U,U,U,U,U] h e
abbrev bytealg_LastIndexByteString_E1 (h : List Ob) (e : Cx := cx) : Cfg := atC n_bytealg_LastIndexByteString bytealg_LastIndexByteString_k1 [U,U,U,U,U,U,U,U,U,U,U,U,U,U,U,U,U,U,U] h e
@[simp] theorem c_bytealg_LastIndexByteString : cfun Tryd.prog n_bytealg_LastIndexByteString = some bytealg_LastIndexByteString := by kernel_rfl
@[simp] theorem e_bytealg_LastIndexByteString : hasBody Tryd.prog n_bytealg_LastIndexByteString = true := by kernel_rfl

/- bytealg_LastIndexRabinKarp_string: internal/bytealg.LastIndexRabinKarp[string] -/
abbrev bytealg_LastIndexRabinKarp_string_p0 : List AG := [o 4 (.mv (.c (.int .i64 (-1))))]
abbrev bytealg_LastIndexRabinKarp_string_m1 : List Bool := [I,I,O,O,O,I,I,I,O,I,O,I,O,O,O,O,O,O,O,O,O,O,O,O,O,O,O,O,O,O,O,O,O,O,O,O,O,O,O,O,O,O,O,O,O,O,O,O,O,O,O,O,O,O,O,O,O,O,O,O,O,O,O,O,O,O,O,O,O,O,O,O,O,O,O,O,O,O,O,O,O,O,O,O,O,O,O]
abbrev bytealg_LastIndexRabinKarp_string_x1 : List Bool := [O,O,O,O,O,O,O,O,O,O,O,O,O,O,O,O,O,O,O,O,O,O,O,O,O,O,O,O,O,O,O,O,O,O,O,O,O,O,O,O,O,O,O,O,O,O,O,O,O,O,O,O,O,O,O,O,O,O,O,O,O,O,O,O,O,O,O,O,O,O,O,O,O,O,O,O,O,O,O,O,O,O,O,O,O,O,O]
abbrev bytealg_LastIndexRabinKarp_string_p2 : List AG := [o 53 (.mv (.t 11)), o 54 (.ibin .sub (.t 53) (.c (.int .i64 1))), o 11 (.mv (.t 54))]
abbrev bytealg_LastIndexRabinKarp_string_p3 : List AG := [o 86 (.mv (.t 11)), o 4 (.mv (.t 86))]
abbrev bytealg_LastIndexRabinKarp_string_p4 : ACode := (.seq (.reg bytealg_LastIndexRabinKarp_string_p3) .ret)
abbrev bytealg_LastIndexRabinKarp_string_p5 : List AG := [o 73 (.mv (.t 9)), o 74 (.mv (.t 5)), o 75 (.cmp .eql (.sc .int) (.t 73) (.t 74)), o 76 (.mv (.t 75)), ⟨(some 77), (some (76, true)), .mv (.t 0)⟩, ⟨(some 78), (some (76, true)), .mv (.t 11)⟩, ⟨(some 79), (some (76, true)), .mv (.t 11)⟩, ⟨(some 80), (some (76, true)), .mv (.t 7)⟩, ⟨(some 81), (some (76, true)), .ibin .add (.t 79) (.t 80)⟩, ⟨(some 82), (some (76, true)), .sliceStr (.t 77) (some (.t 78)) (some (.t 81))⟩, ⟨(some 83), (some (76, true)), .mv (.t 1)⟩, ⟨(some 84), (some (76, true)), .cmp .eql (.sc .str) (.t 82) (.t 83)⟩, o 85 (.pick (.t 76) (.t 84) (.c (.bool false)))]
abbrev bytealg_LastIndexRabinKarp_string_p6 : List AG := [o 63 (.mv (.t 9)), o 64 (.mv (.t 6)), o 65 (.mv (.t 0)), o 66 (.mv (.t 11)), o 67 (.mv (.t 7)), o 68 (.ibin .add (.t 66) (.t 67)), o 69 (.ixStr (.t 65) (.t 68)), o 70 (.conv .u32 (.t 69)), o 71 (.ibin .mul (.t 64) (.t 70)), o 72 (.ibin .sub (.t 63) (.t 71)), o 9 (.mv (.t 72))]
abbrev bytealg_LastIndexRabinKarp_string_p7 : List AG := [o 57 (.mv (.t 9)), o 58 (.mv (.t 0)), o 59 (.mv (.t 11)), o 60 (.ixStr (.t 58) (.t 59)), o 61 (.conv .u32 (.t 60)), o 62 (.ibin .add (.t 57) (.t 61)), o 9 (.mv (.t 62))]
abbrev bytealg_LastIndexRabinKarp_string_p8 : List AG := [o 55 (.mv (.t 9)), o 56 (.ibin .mul (.t 55) (.c (.int .u32 16777619))), o 9 (.mv (.t 56))]
abbrev bytealg_LastIndexRabinKarp_string_p9 : ACode := (.seq (.reg bytealg_LastIndexRabinKarp_string_p8) (.seq (.reg bytealg_LastIndexRabinKarp_string_p7) (.seq (.reg bytealg_LastIndexRabinKarp_string_p6) (.seq (.reg bytealg_LastIndexRabinKarp_string_p5) (.cond (.t 85) bytealg_LastIndexRabinKarp_string_p4 .skip)))))
abbrev bytealg_LastIndexRabinKarp_string_p10 : List AG := [o 51 (.mv (.t 11)), o 52 (.cmp .geq (.sc .int) (.t 51) (.c (.int .i64 0)))]
abbrev bytealg_LastIndexRabinKarp_string_b1 : ACode := (.seq (.seq (.reg bytealg_LastIndexRabinKarp_string_p10) (.cond (.t 52) .skip (.exit 2))) (.seq (.block 3 [] bytealg_LastIndexRabinKarp_string_p9) (.reg bytealg_LastIndexRabinKarp_string_p2)))
abbrev bytealg_LastIndexRabinKarp_string_p11 : List AG := [o 49 (.mv (.t 8)), o 50 (.ibin .sub (.t 49) (.c (.int .i64 1))), o 11 (.mv (.t 50))]
abbrev bytealg_LastIndexRabinKarp_string_p12 : List AG := [o 48 (.mv (.t 8)), o 4 (.mv (.t 48))]
abbrev bytealg_LastIndexRabinKarp_string_p13 : ACode := (.seq (.reg bytealg_LastIndexRabinKarp_string_p12) .ret)
abbrev bytealg_LastIndexRabinKarp_string_p14 : List AG := [o 38 (.mv (.t 9)), o 39 (.mv (.t 5)), o 40 (.cmp .eql (.sc .int) (.t 38) (.t 39)), o 41 (.mv (.t 40)), ⟨(some 42), (some (41, true)), .mv (.t 0)⟩, ⟨(some 43), (some (41, true)), .mv (.t 8)⟩, ⟨(some 44), (some (41, true)), .sliceStr (.t 42) (some (.t 43)) none⟩, ⟨(some 45), (some (41, true)), .mv (.t 1)⟩, ⟨(some 46), (some (41, true)), .cmp .eql (.sc .str) (.t 44) (.t 45)⟩, o 47 (.pick (.t 41) (.t 46) (.c (.bool false)))]
abbrev bytealg_LastIndexRabinKarp_string_m15 : List Bool := [I,I,O,O,O,I,I,I,I,I,I,O,O,O,O,O,O,O,O,O,O,O,O,O,O,O,O,O,O,O,O,O,O,O,O,O,O,O,O,O,O,O,O,O,O,O,O,O,O,O,O,O,O,O,O,O,O,O,O,O,O,O,O,O,O,O,O,O,O,O,O,O,O,O,O,O,O,O,O,O,O,O,O,O,O,O,O]
abbrev bytealg_LastIndexRabinKarp_string_x15 : List Bool := [I,I,O,O,O,I,I,I,I,I,O,O,O,O,O,O,O,O,O,O,O,O,O,O,O,O,O,O,O,O,O,O,O,O,O,O,O,O,O,O,O,O,O,O,O,O,O,O,O,O,O,O,O,O,O,O,O,O,O,O,O,O,O,O,O,O,O,O,O,O,O,O,O,O,O,O,O,O,O,O,O,O,O,O,O,O,O]
abbrev bytealg_LastIndexRabinKarp_string_p16 : List AG := [o 29 (.mv (.t 10)), o 30 (.ibin .sub (.t 29) (.c (.int .i64 1))), o 10 (.mv (.t 30))]
abbrev bytealg_LastIndexRabinKarp_string_p17 : List AG := [o 31 (.mv (.t 9)), o 32 (.ibin .mul (.t 31) (.c (.int .u32 16777619))), o 33 (.mv (.t 0)), o 34 (.mv (.t 10)), o 35 (.ixStr (.t 33) (.t 34)), o 36 (.conv .u32 (.t 35)), o 37 (.ibin .add (.t 32) (.t 36)), o 9 (.mv (.t 37))]
abbrev bytealg_LastIndexRabinKarp_string_p18 : List AG := [o 26 (.mv (.t 10)), o 27 (.mv (.t 8)), o 28 (.cmp .geq (.sc .int) (.t 26) (.t 27))]
abbrev bytealg_LastIndexRabinKarp_string_b15 : ACode := (.seq (.seq (.reg bytealg_LastIndexRabinKarp_string_p18) (.cond (.t 28) .skip (.exit 0))) (.seq (.block 1 [] (.reg bytealg_LastIndexRabinKarp_string_p17)) (.reg bytealg_LastIndexRabinKarp_string_p16)))
abbrev bytealg_LastIndexRabinKarp_string_p19 : List AG := [o 23 (.mv (.t 0)), o 24 (.lenStr (.t 23)), o 25 (.ibin .sub (.t 24) (.c (.int .i64 1))), o 10 (.mv (.t 25))]
abbrev bytealg_LastIndexRabinKarp_string_p20 : List AG := [o 9 (.mv (.c (.int .u32 0)))]
abbrev bytealg_LastIndexRabinKarp_string_p21 : List AG := [o 19 (.mv (.t 0)), o 20 (.lenStr (.t 19)), o 21 (.mv (.t 7)), o 22 (.ibin .sub (.t 20) (.t 21)), o 8 (.mv (.t 22))]
abbrev bytealg_LastIndexRabinKarp_string_p22 : List AG := [o 17 (.mv (.t 1)), o 18 (.lenStr (.t 17)), o 7 (.mv (.t 18))]
abbrev bytealg_LastIndexRabinKarp_string_p23 : List AG := [o 13 (.mv (.t 1)), o 14 (.call (.f n_bytealg_hashStrRev_string) [(.t 13)]), o 12 (.mv (.t 14)), o 15 (.extract (.t 12) 0), o 16 (.extract (.t 12) 1), o 5 (.mv (.t 15)), o 6 (.mv (.t 16))]
abbrev bytealg_LastIndexRabinKarp_string_p24 : List AG := [o 4 (.mv (.c (.int .i64 0)))]
abbrev bytealg_LastIndexRabinKarp_string : AFun := ⟨(.seq (.reg bytealg_LastIndexRabinKarp_string_p24) (.seq (.reg bytealg_LastIndexRabinKarp_string_p23) (.seq (.reg bytealg_LastIndexRabinKarp_string_p22) (.seq (.reg bytealg_LastIndexRabinKarp_string_p21) (.seq (.reg bytealg_LastIndexRabinKarp_string_p20) (.seq (.seq (.reg bytealg_LastIndexRabinKarp_string_p19) (.block 0 bytealg_LastIndexRabinKarp_string_x15 (.loop bytealg_LastIndexRabinKarp_string_m15 bytealg_LastIndexRabinKarp_string_b15))) (.seq (.seq (.reg bytealg_LastIndexRabinKarp_string_p14) (.cond (.t 47) bytealg_LastIndexRabinKarp_string_p13 .skip)) (.seq (.seq (.reg bytealg_LastIndexRabinKarp_string_p11) (.block 2 bytealg_LastIndexRabinKarp_string_x1 (.loop bytealg_LastIndexRabinKarp_string_m1 bytealg_LastIndexRabinKarp_string_b1))) (.seq (.reg bytealg_LastIndexRabinKarp_string_p0) .ret))))))))), 87, [.tmp 4]⟩
abbrev bytealg_LastIndexRabinKarp_string_k1 : List It := [.code (.seq (.reg bytealg_LastIndexRabinKarp_string_p0) .ret)]
abbrev bytealg_LastIndexRabinKarp_string_L1 (x0 x1 x5 x6 x7 x9 x11 : AV) (h : List Ob) (e : Cx := cx) : Cfg := atC n_bytealg_LastIndexRabinKarp_string (.code bytealg_LastIndexRabinKarp_string_b1 :: .inLoop bytealg_LastIndexRabinKarp_string_m1 bytealg_LastIndexRabinKarp_string_b1 :: .inBlock 2 bytealg_LastIndexRabinKarp_string_x1 :: bytealg_LastIndexRabinKarp_string_k1) [x0,x1,U,U,U,x5,x6,x7,U,x9,U,x11,U,U,U,U,U,U,U,U,U,U,U,U,U,U,U,U,U,U,U,U,U,U,U,U,U,U,U,U,U,U,U,U,U,U,U,U,U,U,U,U,U,U,U,U,U,U,U,U,U,U,U,U,U,U,U,U,U,U,U,U,U,U,U,U,U,U,U,U,U,U,U,U,U,U,U] h e
abbrev bytealg_LastIndexRabinKarp_string_E1 (h : List Ob) (e : Cx := cx) : Cfg := atC n_bytealg_LastIndexRabinKarp_string bytealg_LastIndexRabinKarp_string_k1 [U,U,U,U,U,U,U,U,U,U,U,U,U,U,U,U,U,U,U,U,U,U,U,U,U,U,U,U,U,U,U,U,U,U,U,U,U,U,U,U,U,U,U,U,U,U,U,U,U,U,U,U,U,U,U,U,U,U,U,U,U,U,U,U,U,U,U,U,U,U,U,U,U,U,U,U,U,U,U,U,U,U,U,U,U,U,U] h e
abbrev bytealg_LastIndexRabinKarp_string_k15 : List It := [.code (.seq (.seq (.reg bytealg_LastIndexRabinKarp_string_p14) (.cond (.t 47) bytealg_LastIndexRabinKarp_string_p13 .skip)) (.seq (.seq (.reg bytealg_LastIndexRabinKarp_string_p11) (.block 2 bytealg_LastIndexRabinKarp_string_x1 (.loop bytealg_LastIndexRabinKarp_string_m1 bytealg_LastIndexRabinKarp_string_b1))) (.seq (.reg bytealg_LastIndexRabinKarp_string_p0) .ret)))]
abbrev bytealg_LastIndexRabinKarp_string_L15 (x0 x1 x5 x6 x7 x8 x9 x10 : AV) (h : List Ob) (e : Cx := cx) : Cfg := atC n_bytealg_LastIndexRabinKarp_string (.code bytealg_LastIndexRabinKarp_string_b15 :: .inLoop bytealg_LastIndexRabinKarp_string_m15 bytealg_LastIndexRabinKarp_string_b15 :: .inBlock 0 bytealg_LastIndexRabinKarp_string_x15 :: bytealg_LastIndexRabinKarp_string_k15) [x0,x1,U,U,U,x5,x6,x7,x8,x9,x10,U,U,U,U,U,U,U,U,U,U,U,U,U,U,U,U,U,U,U,U,U,U,U,U,U,U,U,U,U,U,U,U,U,U,U,U,U,U,U,U,U,U,U,U,U,U,U,U,U,U,U,U,U,U,U,U,U,U,U,U,U,U,U,U,U,U,U,U,U,U,U,U,U,U,U,U] h e
abbrev bytealg_LastIndexRabinKarp_string_E15 (x0 x1 x5 x6 x7 x8 x9 : AV) (h : List Ob) (e : Cx := cx) : Cfg := atC n_bytealg_LastIndexRabinKarp_string bytealg_LastIndexRabinKarp_string_k15 [x0,x1,U,U,U,x5,x6,x7,x8,x9,U,U,U,U,U,U,U,U,U,U,U,U,U,U,U,U,U,U,U,U,U,U,U,U,U,U,U,U,U,U,U,U,U,U,U,U,U,U,U,U,U,U,U,U,U,U,U,U,U,U,U,U,U,U,U,U,U,U,U,U,U,U,U,U,U,U,U,U,U,U,U,U,U,U,U,U,U] h e
@[simp] theorem c_bytealg_LastIndexRabinKarp_string : cfun Tryd.prog n_bytealg_LastIndexRabinKarp_string = some bytealg_LastIndexRabinKarp_string := by kernel_rfl
@[simp] theorem e_bytealg_LastIndexRabinKarp_string : hasBody Tryd.prog n_bytealg_LastIndexRabinKarp_string = true := by kernel_rfl

/- stringslite_Cut: internal/stringslite.Cut -/
abbrev stringslite_Cut_p0 : List AG := [o 22 (.mv (.t 0)), o 4 (.mv (.t 22)), o 5 (.mv (.c (.str []))), o 6 (.mv (.c (.bool false)))]
abbrev stringslite_Cut_p1 : List AG := [o 13 (.mv (.t 0)), o 14 (.mv (.t 7)), o 15 (.sliceStr (.t 13) none (some (.t 14))), o 16 (.mv (.t 0)), o 17 (.mv (.t 7)), o 18 (.mv (.t 1)), o 19 (.lenStr (.t 18)), o 20 (.ibin .add (.t 17) (.t 19)), o 21 (.sliceStr (.t 16) (some (.t 20)) none), o 4 (.mv (.t 15)), o 5 (.mv (.t 21)), o 6 (.mv (.c (.bool true)))]
abbrev stringslite_Cut_p2 : ACode := (.seq (.dreg [O,O,O,O,O,O,O,O,O,O,O,O] stringslite_Cut_p1) .ret)
abbrev stringslite_Cut_p3 : List AG := [o 11 (.mv (.t 7)), o 12 (.cmp .geq (.sc .int) (.t 11) (.c (.int .i64 0)))]
abbrev stringslite_Cut_p4 : List AG := [o 8 (.mv (.t 0)), o 9 (.mv (.t 1)), o 10 (.call (.f n_stringslite_Index) [(.t 8), (.t 9)]), o 7 (.mv (.t 10))]
abbrev stringslite_Cut_p5 : List AG := [o 4 (.mv (.c (.str []))), o 5 (.mv (.c (.str []))), o 6 (.mv (.c (.bool false)))]
abbrev stringslite_Cut : AFun := ⟨(.seq (.reg stringslite_Cut_p5) (.seq (.seq (.reg stringslite_Cut_p4) (.seq (.reg stringslite_Cut_p3) (.cond (.t 12) stringslite_Cut_p2 .skip))) (.seq (.reg stringslite_Cut_p0) .ret))), 23, [.tmp 4, .tmp 5, .tmp 6]⟩
@[simp] theorem c_stringslite_Cut : cfun Tryd.prog n_stringslite_Cut = some stringslite_Cut := by kernel_rfl
@[simp] theorem e_stringslite_Cut : hasBody Tryd.prog n_stringslite_Cut = true := by kernel_rfl

/- stringslite_Index: internal/stringslite.Index -/
abbrev stringslite_Index_p0 : List AG := [o 4 (.mv (.c (.int .i64 (-1))))]
abbrev stringslite_Index_m1 : List Bool := [I,I,O,O,O,I,I,I,I,I,I,O,O,O,O,O,O,O,O,O,O,O,O,O,O,O,O,O,O,O,O,O,O,O,O,O,O,O,O,O,O,O,O,O,O,O,O,O,O,O,O,O,O,O,O,O,O,O,O,O,O,O,O,O,O,O,O,O,O,O,O,O,O,O,O,O,O,O,O,O,O,O,O,O,O,O,O,O,O,O,O,O,O,O,O,O,O,O,O,O,O,O,O,O,O,O,O,O,O,O,O,O,O,O,O,O,O,O,O,O,O,O,O,O,O,O,O,O,O,O,O,O,O,O,O,O,O,O,O,O,O,O,O]
abbrev stringslite_Index_x1 : List Bool := [O,O,O,O,O,O,O,O,O,O,O,O,O,O,O,O,O,O,O,O,O,O,O,O,O,O,O,O,O,O,O,O,O,O,O,O,O,O,O,O,O,O,O,O,O,O,O,O,O,O,O,O,O,O,O,O,O,O,O,O,O,O,O,O,O,O,O,O,O,O,O,O,O,O,O,O,O,O,O,O,O,O,O,O,O,O,O,O,O,O,O,O,O,O,O,O,O,O,O,O,O,O,O,O,O,O,O,O,O,O,O,O,O,O,O,O,O,O,O,O,O,O,O,O,O,O,O,O,O,O,O,O,O,O,O,O,O,O,O,O,O,O,O]
abbrev stringslite_Index_p2 : List AG := [o 4 (.mv (.c (.int .i64 (-1))))]
abbrev stringslite_Index_p3 : List AG := [o 115 (.mv (.t 12)), o 116 (.mv (.t 8)), o 117 (.ibin .add (.t 115) (.t 116)), o 4 (.mv (.t 117))]
abbrev stringslite_Index_p4 : ACode := (.seq (.reg stringslite_Index_p3) .ret)
abbrev stringslite_Index_p5 : List AG := [o 113 (.mv (.t 12)), o 114 (.cmp .geq (.sc .int) (.t 113) (.c (.int .i64 0)))]
abbrev stringslite_Index_p6 : List AG := [o 108 (.mv (.t 0)), o 109 (.mv (.t 8)), o 110 (.sliceStr (.t 108) (some (.t 109)) none), o 111 (.mv (.t 1)), o 112 (.call (.f n_bytealg_IndexString) [(.t 110), (.t 111)]), o 12 (.mv (.t 112))]
abbrev stringslite_Index_p7 : List AG := [o 140 (.mv (.t 8)), o 141 (.mv (.t 13)), o 142 (.ibin .add (.t 140) (.t 141)), o 4 (.mv (.t 142))]
abbrev stringslite_Index_p8 : List AG := [o 4 (.mv (.c (.int .i64 (-1))))]
abbrev stringslite_Index_p9 : ACode := (.seq (.reg stringslite_Index_p8) .ret)
abbrev stringslite_Index_p10 : List AG := [o 138 (.mv (.t 13)), o 139 (.cmp .lss (.sc .int) (.t 138) (.c (.int .i64 0)))]
abbrev stringslite_Index_p11 : List AG := [o 133 (.mv (.t 0)), o 134 (.mv (.t 8)), o 135 (.sliceStr (.t 133) (some (.t 134)) none), o 136 (.mv (.t 1)), o 137 (.call (.f n_bytealg_IndexRabinKarp_string) [(.t 135), (.t 136)]), o 13 (.mv (.t 137))]
abbrev stringslite_Index_p12 : ACode := (.seq (.reg stringslite_Index_p11) (.seq (.seq (.reg stringslite_Index_p10) (.cond (.t 139) stringslite_Index_p9 .skip)) (.seq (.reg stringslite_Index_p7) .ret)))
abbrev stringslite_Index_p13 : List AG := [o 118 (.mv (.t 5)), o 119 (.load false 1 (.g 1)), o 120 (.cmp .gtr (.sc .int) (.t 118) (.t 119)), o 121 (.mv (.t 120)), ⟨(some 122), (some (121, true)), .mv (.t 10)⟩, ⟨(some 123), (some (121, true)), .mv (.t 8)⟩, ⟨(some 124), (some (121, true)), .ibin .shr (.t 123) (.c (.int .u64 4))⟩, ⟨(some 125), (some (121, true)), .ibin .add (.c (.int .i64 4)) (.t 124)⟩, ⟨(some 126), (some (121, true)), .cmp .geq (.sc .int) (.t 122) (.t 125)⟩, o 127 (.pick (.t 121) (.t 126) (.c (.bool false))), o 128 (.mv (.t 127)), ⟨(some 129), (some (128, true)), .mv (.t 8)⟩, ⟨(some 130), (some (128, true)), .mv (.t 9)⟩, ⟨(some 131), (some (128, true)), .cmp .lss (.sc .int) (.t 129) (.t 130)⟩, o 132 (.pick (.t 128) (.t 131) (.c (.bool false)))]
abbrev stringslite_Index_p14 : ACode := (.seq (.reg stringslite_Index_p6) (.seq (.seq (.reg stringslite_Index_p5) (.cond (.t 114) stringslite_Index_p4 .skip)) (.seq (.reg stringslite_Index_p2) .ret)))
abbrev stringslite_Index_p15 : ACode := (.seq (.reg stringslite_Index_p13) (.cond (.t 132) stringslite_Index_p12 .skip))
abbrev stringslite_Index_p16 : List AG := [o 99 (.mv (.t 5)), o 100 (.load false 1 (.g 1)), o 101 (.cmp .leq (.sc .int) (.t 99) (.t 100)), o 102 (.mv (.t 101)), ⟨(some 103), (some (102, true)), .mv (.t 10)⟩, ⟨(some 104), (some (102, true)), .mv (.t 8)⟩, ⟨(some 105), (some (102, true)), .call (.f n_bytealg_Cutover) [(.t 104)]⟩, ⟨(some 106), (some (102, true)), .cmp .gtr (.sc .int) (.t 103) (.t 105)⟩, o 107 (.pick (.t 102) (.t 106) (.c (.bool false)))]
abbrev stringslite_Index_p17 : List AG := [o 97 (.mv (.t 10)), o 98 (.ibin .add (.t 97) (.c (.int .i64 1))), o 10 (.mv (.t 98))]
abbrev stringslite_Index_p18 : List AG := [o 95 (.mv (.t 8)), o 96 (.ibin .add (.t 95) (.c (.int .i64 1))), o 8 (.mv (.t 96))]
abbrev stringslite_Index_p19 : List AG := [o 94 (.mv (.t 8)), o 4 (.mv (.t 94))]
abbrev stringslite_Index_p20 : ACode := (.seq (.reg stringslite_Index_p19) .ret)
abbrev stringslite_Index_p21 : List AG := [o 78 (.mv (.t 0)), o 79 (.mv (.t 8)), o 80 (.ibin .add (.t 79) (.c (.int .i64 1))), o 81 (.ixStr (.t 78) (.t 80)), o 82 (.mv (.t 7)), o 83 (.cmp .eql (.sc .int) (.t 81) (.t 82)), o 84 (.mv (.t 83)), ⟨(some 85), (some (84, true)), .mv (.t 0)⟩, ⟨(some 86), (some (84, true)), .mv (.t 8)⟩, ⟨(some 87), (some (84, true)), .mv (.t 8)⟩, ⟨(some 88), (some (84, true)), .mv (.t 5)⟩, ⟨(some 89), (some (84, true)), .ibin .add (.t 87) (.t 88)⟩, ⟨(some 90), (some (84, true)), .sliceStr (.t 85) (some (.t 86)) (some (.t 89))⟩, ⟨(some 91), (some (84, true)), .mv (.t 1)⟩, ⟨(some 92), (some (84, true)), .cmp .eql (.sc .str) (.t 90) (.t 91)⟩, o 93 (.pick (.t 84) (.t 92) (.c (.bool false)))]
abbrev stringslite_Index_p22 : List AG := [o 74 (.mv (.t 8)), o 75 (.mv (.t 11)), o 76 (.ibin .add (.t 75) (.c (.int .i64 1))), o 77 (.ibin .add (.t 74) (.t 76)), o 8 (.mv (.t 77))]
abbrev stringslite_Index_p23 : List AG := [o 4 (.mv (.c (.int .i64 (-1))))]
abbrev stringslite_Index_p24 : ACode := (.seq (.reg stringslite_Index_p23) .ret)
abbrev stringslite_Index_p25 : List AG := [o 72 (.mv (.t 11)), o 73 (.cmp .lss (.sc .int) (.t 72) (.c (.int .i64 0)))]
abbrev stringslite_Index_p26 : List AG := [o 65 (.mv (.t 0)), o 66 (.mv (.t 8)), o 67 (.ibin .add (.t 66) (.c (.int .i64 1))), o 68 (.mv (.t 9)), o 69 (.sliceStr (.t 65) (some (.t 67)) (some (.t 68))), o 70 (.mv (.t 6)), o 71 (.call (.f n_stringslite_IndexByte) [(.t 69), (.t 70)]), o 11 (.mv (.t 71))]
abbrev stringslite_Index_p27 : ACode := (.seq (.reg stringslite_Index_p26) (.seq (.seq (.reg stringslite_Index_p25) (.cond (.t 73) stringslite_Index_p24 .skip)) (.reg stringslite_Index_p22)))
abbrev stringslite_Index_p28 : List AG := [o 60 (.mv (.t 0)), o 61 (.mv (.t 8)), o 62 (.ixStr (.t 60) (.t 61)), o 63 (.mv (.t 6)), o 64 (.cmp .neq (.sc .int) (.t 62) (.t 63))]
abbrev stringslite_Index_p29 : ACode := (.seq (.seq (.reg stringslite_Index_p28) (.cond (.t 64) stringslite_Index_p27 .skip)) (.seq (.seq (.reg stringslite_Index_p21) (.cond (.t 93) stringslite_Index_p20 .skip)) (.seq (.reg stringslite_Index_p18) (.seq (.reg stringslite_Index_p17) (.seq (.reg stringslite_Index_p16) (.cond (.t 107) stringslite_Index_p14 stringslite_Index_p15))))))
abbrev stringslite_Index_p30 : List AG := [o 57 (.mv (.t 8)), o 58 (.mv (.t 9)), o 59 (.cmp .lss (.sc .int) (.t 57) (.t 58))]
abbrev stringslite_Index_b1 : ACode := (.seq (.seq (.reg stringslite_Index_p30) (.cond (.t 59) .skip (.exit 1))) (.block 2 [] stringslite_Index_p29))
abbrev stringslite_Index_p31 : List AG := [o 10 (.mv (.c (.int .i64 0)))]
abbrev stringslite_Index_p32 : List AG := [o 52 (.mv (.t 0)), o 53 (.lenStr (.t 52)), o 54 (.mv (.t 5)), o 55 (.ibin .sub (.t 53) (.t 54)), o 56 (.ibin .add (.t 55) (.c (.int .i64 1))), o 9 (.mv (.t 56))]
abbrev stringslite_Index_p33 : List AG := [o 8 (.mv (.c (.int .i64 0)))]
abbrev stringslite_Index_p34 : List AG := [o 50 (.mv (.t 1)), o 51 (.ixStr (.t 50) (.c (.int .i64 1))), o 7 (.mv (.t 51))]
abbrev stringslite_Index_p35 : List AG := [o 48 (.mv (.t 1)), o 49 (.ixStr (.t 48) (.c (.int .i64 0))), o 6 (.mv (.t 49))]
abbrev stringslite_Index_p36 : List AG := [o 4 (.mv (.c (.int .i64 0)))]
abbrev stringslite_Index_p37 : List AG := [o 27 (.mv (.t 0)), o 28 (.mv (.t 1)), o 29 (.ixStr (.t 28) (.c (.int .i64 0))), o 30 (.call (.f n_stringslite_IndexByte) [(.t 27), (.t 29)]), o 4 (.mv (.t 30))]
abbrev stringslite_Index_p38 : List AG := [o 4 (.mv (.c (.int .i64 (-1))))]
abbrev stringslite_Index_p39 : List AG := [o 45 (.mv (.t 0)), o 46 (.mv (.t 1)), o 47 (.call (.f n_bytealg_IndexString) [(.t 45), (.t 46)]), o 4 (.mv (.t 47))]
abbrev stringslite_Index_p40 : ACode := (.seq (.reg stringslite_Index_p39) .ret)
abbrev stringslite_Index_p41 : List AG := [o 37 (.mv (.t 5)), o 38 (.load false 1 (.g 1)), o 39 (.cmp .leq (.sc .int) (.t 37) (.t 38)), o 40 (.mv (.t 39)), ⟨(some 41), (some (40, true)), .mv (.t 0)⟩, ⟨(some 42), (some (40, true)), .lenStr (.t 41)⟩, ⟨(some 43), (some (40, true)), .cmp .leq (.sc .int) (.t 42) (.c (.int .i64 64))⟩, o 44 (.pick (.t 40) (.t 43) (.c (.bool false))), o 36 (.mv (.t 44))]
abbrev stringslite_Index_p42 : ACode := (.seq (.reg stringslite_Index_p38) .ret)
abbrev stringslite_Index_p43 : ACode := (.seq (.reg stringslite_Index_p41) (.cond (.t 36) stringslite_Index_p40 .skip))
abbrev stringslite_Index_p44 : List AG := [o 32 (.mv (.t 5)), o 33 (.mv (.t 0)), o 34 (.lenStr (.t 33)), o 35 (.cmp .geq (.sc .int) (.t 32) (.t 34)), o 31 (.mv (.t 35))]
abbrev stringslite_Index_p45 : ACode := (.seq (.reg stringslite_Index_p37) .ret)
abbrev stringslite_Index_p46 : ACode := (.seq (.reg stringslite_Index_p44) (.cond (.t 31) stringslite_Index_p42 stringslite_Index_p43))
abbrev stringslite_Index_p47 : List AG := [o 25 (.mv (.t 5)), o 26 (.cmp .eql (.sc .int) (.t 25) (.c (.int .i64 1))), o 24 (.mv (.t 26))]
abbrev stringslite_Index_p48 : ACode := (.seq (.reg stringslite_Index_p36) .ret)
abbrev stringslite_Index_p49 : ACode := (.seq (.reg stringslite_Index_p47) (.cond (.t 24) stringslite_Index_p45 stringslite_Index_p46))
abbrev stringslite_Index_p50 : List AG := [o 17 (.mv (.t 5)), o 18 (.cmp .eql (.sc .int) (.t 17) (.c (.int .i64 0))), o 19 (.mv (.t 18)), ⟨(some 20), (some (19, false)), .mv (.t 1)⟩, ⟨(some 21), (some (19, false)), .mv (.t 0)⟩, ⟨(some 22), (some (19, false)), .cmp .eql (.sc .str) (.t 20) (.t 21)⟩, o 23 (.pick (.t 19) (.c (.bool true)) (.t 22)), o 16 (.mv (.t 23))]
abbrev stringslite_Index_p51 : ACode := (.seq (.reg stringslite_Index_p50) (.cond (.t 16) stringslite_Index_p48 stringslite_Index_p49))
abbrev stringslite_Index_p52 : List AG := [o 14 (.mv (.t 1)), o 15 (.lenStr (.t 14)), o 5 (.mv (.t 15))]
abbrev stringslite_Index_p53 : List AG := [o 4 (.mv (.c (.int .i64 0)))]
abbrev stringslite_Index : AFun := ⟨(.seq (.reg stringslite_Index_p53) (.seq (.reg stringslite_Index_p52) (.seq (.block 0 [] stringslite_Index_p51) (.seq (.reg stringslite_Index_p35) (.seq (.reg stringslite_Index_p34) (.seq (.reg stringslite_Index_p33) (.seq (.reg stringslite_Index_p32) (.seq (.reg stringslite_Index_p31) (.seq (.block 1 stringslite_Index_x1 (.loop stringslite_Index_m1 stringslite_Index_b1)) (.seq (.reg stringslite_Index_p0) .ret)))))))))), 143, [.tmp 4]⟩
abbrev stringslite_Index_k1 : List It := [.code (.seq (.reg stringslite_Index_p0) .ret)]
abbrev stringslite_Index_L1 (x0 x1 x5 x6 x7 x8 x9 x10 : AV) (h : List Ob) (e : Cx := cx) : Cfg := atC n_stringslite_Index (.code stringslite_Index_b1 :: .inLoop stringslite_Index_m1 stringslite_Index_b1 :: .inBlock 1 stringslite_Index_x1 :: stringslite_Index_k1) [x0,x1,U,U,U,x5,x6,x7,x8,x9,x10,U,U,U,U,U,U,U,U,U,U,U,U,U,U,U,U,U,U,U,U,U,U,U,U,U,U,U,U,U,U,U,U,U,U,U,U,U,U,U,U,U,U,U,U,U,U,U,U,U,U,U,U,U,U,U,U,U,U,U,U,U,U,U,U,U,U,U,U,U,U,U,U,U,U,U,U,U,U,U,U,U,U,U,U,U,U,U,U,U,U,U,U,U,U,U,U,U,U,U,U,U,U,U,U,U,U,U,U,U,U,U,U,U,U,U,U,U,U,U,U,U,U,U,U,U,U,U,U,U,U,U,U] h e
abbrev stringslite_Index_E1 (h : List Ob) (e : Cx := cx) : Cfg := atC n_stringslite_Index stringslite_Index_k1 [U,U,U,U,U,U,U,U,U,U,U,U,U,U,U,U,U,U,U,U,U,U,U,U,U,U,U,U,U,U,U,U,U,U,U,U,U,U,U,U,U,U,U,U,U,U,U,U,U,U,U,U,U,U,U,U,U,U,U,U,U,U,U,U,U,U,U,U,U,U,U,U,U,U,U,U,U,U,U,U,U,U,U,U,U,U,U,U,U,U,U,U,U,U,U,U,U,U,U,U,U,U,U,U,U,U,U,U,U,U,U,U,U,U,U,U,U,U,U,U,U,U,U,U,U,U,U,U,U,U,U,U,U,U,U,U,U,U,U,U,U,U,U] h e
@[simp] theorem c_stringslite_Index : cfun Tryd.prog n_stringslite_Index = some stringslite_Index := by kernel_rfl
@[simp] theorem e_stringslite_Index : hasBody Tryd.prog n_stringslite_Index = true := by kernel_rfl

/- bytealg_hashStrRev_string: internal/bytealg.hashStrRev[string] -/
abbrev bytealg_hashStrRev_string_p0 : List AG := [o 38 (.mv (.t 4)), o 39 (.mv (.t 6)), o 2 (.mv (.t 38)), o 3 (.mv (.t 39))]
abbrev bytealg_hashStrRev_string_m1 : List Bool := [O,O,O,O,I,O,I,I,I,O,O,O,O,O,O,O,O,O,O,O,O,O,O,O,O,O,O,O,O,O,O,O,O,O,O,O,O,O,O,O]
abbrev bytealg_hashStrRev_string_x1 : List Bool := [O,O,O,O,I,O,I,O,O,O,O,O,O,O,O,O,O,O,O,O,O,O,O,O,O,O,O,O,O,O,O,O,O,O,O,O,O,O,O,O]
abbrev bytealg_hashStrRev_string_p2 : List AG := [o 27 (.mv (.t 8)), o 28 (.ibin .shr (.t 27) (.c (.int .u64 1))), o 8 (.mv (.t 28))]
abbrev bytealg_hashStrRev_string_p3 : List AG := [o 35 (.mv (.t 7)), o 36 (.mv (.t 7)), o 37 (.ibin .mul (.t 35) (.t 36)), o 7 (.mv (.t 37))]
abbrev bytealg_hashStrRev_string_p4 : List AG := [o 32 (.mv (.t 6)), o 33 (.mv (.t 7)), o 34 (.ibin .mul (.t 32) (.t 33)), o 6 (.mv (.t 34))]
abbrev bytealg_hashStrRev_string_p5 : List AG := [o 29 (.mv (.t 8)), o 30 (.ibin .and (.t 29) (.c (.int .i64 1))), o 31 (.cmp .neq (.sc .int) (.t 30) (.c (.int .i64 0)))]
abbrev bytealg_hashStrRev_string_p6 : ACode := (.seq (.seq (.reg bytealg_hashStrRev_string_p5) (.cond (.t 31) (.reg bytealg_hashStrRev_string_p4) .skip)) (.reg bytealg_hashStrRev_string_p3))
abbrev bytealg_hashStrRev_string_p7 : List AG := [o 25 (.mv (.t 8)), o 26 (.cmp .gtr (.sc .int) (.t 25) (.c (.int .i64 0)))]
abbrev bytealg_hashStrRev_string_b1 : ACode := (.seq (.seq (.reg bytealg_hashStrRev_string_p7) (.cond (.t 26) .skip (.exit 2))) (.seq (.block 3 [] bytealg_hashStrRev_string_p6) (.reg bytealg_hashStrRev_string_p2)))
abbrev bytealg_hashStrRev_string_p8 : List AG := [o 23 (.mv (.t 0)), o 24 (.lenStr (.t 23)), o 8 (.mv (.t 24))]
abbrev bytealg_hashStrRev_string_p9 : List AG := [o 6 (.mv (.c (.int .u32 1))), o 7 (.mv (.c (.int .u32 16777619)))]
abbrev bytealg_hashStrRev_string_m10 : List Bool := [I,O,O,O,I,I,O,O,O,O,O,O,O,O,O,O,O,O,O,O,O,O,O,O,O,O,O,O,O,O,O,O,O,O,O,O,O,O,O,O]
abbrev bytealg_hashStrRev_string_x10 : List Bool := [I,O,O,O,I,O,O,O,O,O,O,O,O,O,O,O,O,O,O,O,O,O,O,O,O,O,O,O,O,O,O,O,O,O,O,O,O,O,O,O]
abbrev bytealg_hashStrRev_string_p11 : List AG := [o 14 (.mv (.t 5)), o 15 (.ibin .sub (.t 14) (.c (.int .i64 1))), o 5 (.mv (.t 15))]
abbrev bytealg_hashStrRev_string_p12 : List AG := [o 16 (.mv (.t 4)), o 17 (.ibin .mul (.t 16) (.c (.int .u32 16777619))), o 18 (.mv (.t 0)), o 19 (.mv (.t 5)), o 20 (.ixStr (.t 18) (.t 19)), o 21 (.conv .u32 (.t 20)), o 22 (.ibin .add (.t 17) (.t 21)), o 4 (.mv (.t 22))]
abbrev bytealg_hashStrRev_string_p13 : List AG := [o 12 (.mv (.t 5)), o 13 (.cmp .geq (.sc .int) (.t 12) (.c (.int .i64 0)))]
abbrev bytealg_hashStrRev_string_b10 : ACode := (.seq (.seq (.reg bytealg_hashStrRev_string_p13) (.cond (.t 13) .skip (.exit 0))) (.seq (.block 1 [] (.reg bytealg_hashStrRev_string_p12)) (.reg bytealg_hashStrRev_string_p11)))
abbrev bytealg_hashStrRev_string_p14 : List AG := [o 9 (.mv (.t 0)), o 10 (.lenStr (.t 9)), o 11 (.ibin .sub (.t 10) (.c (.int .i64 1))), o 5 (.mv (.t 11))]
abbrev bytealg_hashStrRev_string_p15 : List AG := [o 4 (.mv (.c (.int .u32 0)))]
abbrev bytealg_hashStrRev_string_p16 : List AG := [o 2 (.mv (.c (.int .u32 0))), o 3 (.mv (.c (.int .u32 0)))]
abbrev bytealg_hashStrRev_string : AFun := ⟨(.seq (.reg bytealg_hashStrRev_string_p16) (.seq (.reg bytealg_hashStrRev_string_p15) (.seq (.seq (.reg bytealg_hashStrRev_string_p14) (.block 0 bytealg_hashStrRev_string_x10 (.loop bytealg_hashStrRev_string_m10 bytealg_hashStrRev_string_b10))) (.seq (.reg bytealg_hashStrRev_string_p9) (.seq (.seq (.reg bytealg_hashStrRev_string_p8) (.block 2 bytealg_hashStrRev_string_x1 (.loop bytealg_hashStrRev_string_m1 bytealg_hashStrRev_string_b1))) (.seq (.reg bytealg_hashStrRev_string_p0) .ret)))))), 40, [.tmp 2, .tmp 3]⟩
abbrev bytealg_hashStrRev_string_k1 : List It := [.code (.seq (.reg bytealg_hashStrRev_string_p0) .ret)]
abbrev bytealg_hashStrRev_string_L1 (x4 x6 x7 x8 : AV) (h : List Ob) (e : Cx := cx) : Cfg := atC n_bytealg_hashStrRev_string (.code bytealg_hashStrRev_string_b1 :: .inLoop bytealg_hashStrRev_string_m1 bytealg_hashStrRev_string_b1 :: .inBlock 2 bytealg_hashStrRev_string_x1 :: bytealg_hashStrRev_string_k1) [U,U,U,U,x4,U,x6,x7,x8,U,U,U,U,U,U,U,U,U,U,U,U,U,U,U,U,U,U,U,U,U,U,U,U,U,U,U,U,U,U,U] h e
abbrev bytealg_hashStrRev_string_E1 (x4 x6 : AV) (h : List Ob) (e : Cx := cx) : Cfg := atC n_bytealg_hashStrRev_string bytealg_hashStrRev_string_k1 [U,U,U,U,x4,U,x6,U,U,U,U,U,U,U,U,U,U,U,U,U,U,U,U,U,U,U,U,U,U,U,U,U,U,U,U,U,U,U,U,U] h e
abbrev bytealg_hashStrRev_string_k10 : List It := [.code (.seq (.reg bytealg_hashStrRev_string_p9) (.seq (.seq (.reg bytealg_hashStrRev_string_p8) (.block 2 bytealg_hashStrRev_string_x1 (.loop bytealg_hashStrRev_string_m1 bytealg_hashStrRev_string_b1))) (.seq (.reg bytealg_hashStrRev_string_p0) .ret)))]
abbrev bytealg_hashStrRev_string_L10 (x0 x4 x5 : AV) (h : List Ob) (e : Cx := cx) : Cfg := atC n_bytealg_hashStrRev_string (.code bytealg_hashStrRev_string_b10 :: .inLoop bytealg_hashStrRev_string_m10 bytealg_hashStrRev_string_b10 :: .inBlock 0 bytealg_hashStrRev_string_x10 :: bytealg_hashStrRev_string_k10) [x0,U,U,U,x4,x5,U,U,U,U,U,U,U,U,U,U,U,U,U,U,U,U,U,U,U,U,U,U,U,U,U,U,U,U,U,U,U,U,U,U] h e
abbrev bytealg_hashStrRev_string_E10 (x0 x4 : AV) (h : List Ob) (e : Cx := cx) : Cfg := atC n_bytealg_hashStrRev_string bytealg_hashStrRev_string_k10 [x0,U,U,U,x4,U,U,U,U,U,U,U,U,U,U,U,U,U,U,U,U,U,U,U,U,U,U,U,U,U,U,U,U,U,U,U,U,U,U,U] h e
@[simp] theorem c_bytealg_hashStrRev_string : cfun Tryd.prog n_bytealg_hashStrRev_string = some bytealg_hashStrRev_string := by kernel_rfl
@[simp] theorem e_bytealg_hashStrRev_string : hasBody Tryd.prog n_bytealg_hashStrRev_string = true := by kernel_rfl

/- stringslite_IndexByte: internal/stringslite.IndexByte -/
abbrev stringslite_IndexByte_p0 : List AG := [o 5 (.mv (.t 0)), o 6 (.mv (.t 1)), o 7 (.call (.f n_bytealg_IndexByteString) [(.t 5), (.t 6)]), o 4 (.mv (.t 7))]
abbrev stringslite_IndexByte_p1 : List AG := [o 4 (.mv (.c (.int .i64 0)))]
abbrev stringslite_IndexByte : AFun := ⟨(.seq (.reg stringslite_IndexByte_p1) (.seq (.reg stringslite_IndexByte_p0) .ret)), 8, [.tmp 4]⟩
@[simp] theorem c_stringslite_IndexByte : cfun Tryd.prog n_stringslite_IndexByte = some stringslite_IndexByte := by kernel_rfl
@[simp] theorem e_stringslite_IndexByte : hasBody Tryd.prog n_stringslite_IndexByte = true := by kernel_rfl

/- bytealg_Cutover: internal/bytealg.Cutover -/
abbrev bytealg_Cutover_p0 : List AG := [o 3 (.mv (.t 0)), o 4 (.ibin .add (.t 3) (.c (.int .i64 16))), o 5 (.ibin .quo (.t 4) (.c (.int .i64 8))), o 2 (.mv (.t 5))]
abbrev bytealg_Cutover_p1 : List AG := [o 2 (.mv (.c (.int .i64 0)))]
abbrev bytealg_Cutover : AFun := ⟨(.seq (.reg bytealg_Cutover_p1) (.seq (.reg bytealg_Cutover_p0) .ret)), 6, [.tmp 2]⟩
@[simp] theorem c_bytealg_Cutover : cfun Tryd.prog n_bytealg_Cutover = some bytealg_Cutover := by kernel_rfl
@[simp] theorem e_bytealg_Cutover : hasBody Tryd.prog n_bytealg_Cutover = true := by kernel_rfl

/- bytealg_IndexRabinKarp_string: internal/bytealg.IndexRabinKarp[string] -/
abbrev bytealg_IndexRabinKarp_string_p0 : List AG := [o 4 (.mv (.c (.int .i64 (-1))))]
abbrev bytealg_IndexRabinKarp_string_m1 : List Bool := [I,I,O,O,O,I,I,I,I,O,I,O,O,O,O,O,O,O,O,O,O,O,O,O,O,O,O,O,O,O,O,O,O,O,O,O,O,O,O,O,O,O,O,O,O,O,O,O,O,O,O,O,O,O,O,O,O,O,O,O,O,O,O,O,O,O,O,O,O,O,O,O,O,O,O,O,O,O,O,O,O]
abbrev bytealg_IndexRabinKarp_string_x1 : List Bool := [O,O,O,O,O,O,O,O,O,O,O,O,O,O,O,O,O,O,O,O,O,O,O,O,O,O,O,O,O,O,O,O,O,O,O,O,O,O,O,O,O,O,O,O,O,O,O,O,O,O,O,O,O,O,O,O,O,O,O,O,O,O,O,O,O,O,O,O,O,O,O,O,O,O,O,O,O,O,O,O,O]
abbrev bytealg_IndexRabinKarp_string_p2 : List AG := [o 78 (.mv (.t 10)), o 79 (.mv (.t 7)), o 80 (.ibin .sub (.t 78) (.t 79)), o 4 (.mv (.t 80))]
abbrev bytealg_IndexRabinKarp_string_p3 : ACode := (.seq (.reg bytealg_IndexRabinKarp_string_p2) .ret)
abbrev bytealg_IndexRabinKarp_string_p4 : List AG := [o 65 (.mv (.t 8)), o 66 (.mv (.t 5)), o 67 (.cmp .eql (.sc .int) (.t 65) (.t 66)), o 68 (.mv (.t 67)), ⟨(some 69), (some (68, true)), .mv (.t 0)⟩, ⟨(some 70), (some (68, true)), .mv (.t 10)⟩, ⟨(some 71), (some (68, true)), .mv (.t 7)⟩, ⟨(some 72), (some (68, true)), .ibin .sub (.t 70) (.t 71)⟩, ⟨(some 73), (some (68, true)), .mv (.t 10)⟩, ⟨(some 74), (some (68, true)), .sliceStr (.t 69) (some (.t 72)) (some (.t 73))⟩, ⟨(some 75), (some (68, true)), .mv (.t 1)⟩, ⟨(some 76), (some (68, true)), .cmp .eql (.sc .str) (.t 74) (.t 75)⟩, o 77 (.pick (.t 68) (.t 76) (.c (.bool false)))]
abbrev bytealg_IndexRabinKarp_string_p5 : List AG := [o 63 (.mv (.t 10)), o 64 (.ibin .add (.t 63) (.c (.int .i64 1))), o 10 (.mv (.t 64))]
abbrev bytealg_IndexRabinKarp_string_p6 : List AG := [o 53 (.mv (.t 8)), o 54 (.mv (.t 6)), o 55 (.mv (.t 0)), o 56 (.mv (.t 10)), o 57 (.mv (.t 7)), o 58 (.ibin .sub (.t 56) (.t 57)), o 59 (.ixStr (.t 55) (.t 58)), o 60 (.conv .u32 (.t 59)), o 61 (.ibin .mul (.t 54) (.t 60)), o 62 (.ibin .sub (.t 53) (.t 61)), o 8 (.mv (.t 62))]
abbrev bytealg_IndexRabinKarp_string_p7 : List AG := [o 47 (.mv (.t 8)), o 48 (.mv (.t 0)), o 49 (.mv (.t 10)), o 50 (.ixStr (.t 48) (.t 49)), o 51 (.conv .u32 (.t 50)), o 52 (.ibin .add (.t 47) (.t 51)), o 8 (.mv (.t 52))]
abbrev bytealg_IndexRabinKarp_string_p8 : List AG := [o 45 (.mv (.t 8)), o 46 (.ibin .mul (.t 45) (.c (.int .u32 16777619))), o 8 (.mv (.t 46))]
abbrev bytealg_IndexRabinKarp_string_p9 : ACode := (.seq (.reg bytealg_IndexRabinKarp_string_p8) (.seq (.reg bytealg_IndexRabinKarp_string_p7) (.seq (.reg bytealg_IndexRabinKarp_string_p6) (.seq (.reg bytealg_IndexRabinKarp_string_p5) (.seq (.reg bytealg_IndexRabinKarp_string_p4) (.cond (.t 77) bytealg_IndexRabinKarp_string_p3 .skip))))))
abbrev bytealg_IndexRabinKarp_string_p10 : List AG := [o 41 (.mv (.t 10)), o 42 (.mv (.t 0)), o 43 (.lenStr (.t 42)), o 44 (.cmp .lss (.sc .int) (.t 41) (.t 43))]
abbrev bytealg_IndexRabinKarp_string_b1 : ACode := (.seq (.seq (.reg bytealg_IndexRabinKarp_string_p10) (.cond (.t 44) .skip (.exit 2))) (.block 3 [] bytealg_IndexRabinKarp_string_p9))
abbrev bytealg_IndexRabinKarp_string_p11 : List AG := [o 40 (.mv (.t 7)), o 10 (.mv (.t 40))]
abbrev bytealg_IndexRabinKarp_string_p12 : List AG := [o 4 (.mv (.c (.int .i64 0)))]
abbrev bytealg_IndexRabinKarp_string_p13 : ACode := (.seq (.reg bytealg_IndexRabinKarp_string_p12) .ret)
abbrev bytealg_IndexRabinKarp_string_p14 : List AG := [o 30 (.mv (.t 8)), o 31 (.mv (.t 5)), o 32 (.cmp .eql (.sc .int) (.t 30) (.t 31)), o 33 (.mv (.t 32)), ⟨(some 34), (some (33, true)), .mv (.t 0)⟩, ⟨(some 35), (some (33, true)), .mv (.t 7)⟩, ⟨(some 36), (some (33, true)), .sliceStr (.t 34) none (some (.t 35))⟩, ⟨(some 37), (some (33, true)), .mv (.t 1)⟩, ⟨(some 38), (some (33, true)), .cmp .eql (.sc .str) (.t 36) (.t 37)⟩, o 39 (.pick (.t 33) (.t 38) (.c (.bool false)))]
abbrev bytealg_IndexRabinKarp_string_m15 : List Bool := [I,I,O,O,O,I,I,I,I,I,O,O,O,O,O,O,O,O,O,O,O,O,O,O,O,O,O,O,O,O,O,O,O,O,O,O,O,O,O,O,O,O,O,O,O,O,O,O,O,O,O,O,O,O,O,O,O,O,O,O,O,O,O,O,O,O,O,O,O,O,O,O,O,O,O,O,O,O,O,O,O]
abbrev bytealg_IndexRabinKarp_string_x15 : List Bool := [I,I,O,O,O,I,I,I,I,O,O,O,O,O,O,O,O,O,O,O,O,O,O,O,O,O,O,O,O,O,O,O,O,O,O,O,O,O,O,O,O,O,O,O,O,O,O,O,O,O,O,O,O,O,O,O,O,O,O,O,O,O,O,O,O,O,O,O,O,O,O,O,O,O,O,O,O,O,O,O,O]
abbrev bytealg_IndexRabinKarp_string_p16 : List AG := [o 21 (.mv (.t 9)), o 22 (.ibin .add (.t 21) (.c (.int .i64 1))), o 9 (.mv (.t 22))]
abbrev bytealg_IndexRabinKarp_string_p17 : List AG := [o 23 (.mv (.t 8)), o 24 (.ibin .mul (.t 23) (.c (.int .u32 16777619))), o 25 (.mv (.t 0)), o 26 (.mv (.t 9)), o 27 (.ixStr (.t 25) (.t 26)), o 28 (.conv .u32 (.t 27)), o 29 (.ibin .add (.t 24) (.t 28)), o 8 (.mv (.t 29))]
abbrev bytealg_IndexRabinKarp_string_p18 : List AG := [o 18 (.mv (.t 9)), o 19 (.mv (.t 7)), o 20 (.cmp .lss (.sc .int) (.t 18) (.t 19))]
abbrev bytealg_IndexRabinKarp_string_b15 : ACode := (.seq (.seq (.reg bytealg_IndexRabinKarp_string_p18) (.cond (.t 20) .skip (.exit 0))) (.seq (.block 1 [] (.reg bytealg_IndexRabinKarp_string_p17)) (.reg bytealg_IndexRabinKarp_string_p16)))
abbrev bytealg_IndexRabinKarp_string_p19 : List AG := [o 9 (.mv (.c (.int .i64 0)))]
abbrev bytealg_IndexRabinKarp_string_p20 : List AG := [o 8 (.mv (.c (.int .u32 0)))]
abbrev bytealg_IndexRabinKarp_string_p21 : List AG := [o 16 (.mv (.t 1)), o 17 (.lenStr (.t 16)), o 7 (.mv (.t 17))]
abbrev bytealg_IndexRabinKarp_string_p22 : List AG := [o 12 (.mv (.t 1)), o 13 (.call (.f n_bytealg_hashStr_string) [(.t 12)]), o 11 (.mv (.t 13)), o 14 (.extract (.t 11) 0), o 15 (.extract (.t 11) 1), o 5 (.mv (.t 14)), o 6 (.mv (.t 15))]
abbrev bytealg_IndexRabinKarp_string_p23 : List AG := [o 4 (.mv (.c (.int .i64 0)))]
abbrev bytealg_IndexRabinKarp_string : AFun := ⟨(.seq (.reg bytealg_IndexRabinKarp_string_p23) (.seq (.reg bytealg_IndexRabinKarp_string_p22) (.seq (.reg bytealg_IndexRabinKarp_string_p21) (.seq (.reg bytealg_IndexRabinKarp_string_p20) (.seq (.seq (.reg bytealg_IndexRabinKarp_string_p19) (.block 0 bytealg_IndexRabinKarp_string_x15 (.loop bytealg_IndexRabinKarp_string_m15 bytealg_IndexRabinKarp_string_b15))) (.seq (.seq (.reg bytealg_IndexRabinKarp_string_p14) (.cond (.t 39) bytealg_IndexRabinKarp_string_p13 .skip)) (.seq (.seq (.reg bytealg_IndexRabinKarp_string_p11) (.block 2 bytealg_IndexRabinKarp_string_x1 (.loop bytealg_IndexRabinKarp_string_m1 bytealg_IndexRabinKarp_string_b1))) (.seq (.reg bytealg_IndexRabinKarp_string_p0) .ret)))))))), 81, [.tmp 4]⟩
abbrev bytealg_IndexRabinKarp_string_k1 : List It := [.code (.seq (.reg bytealg_IndexRabinKarp_string_p0) .ret)]
abbrev bytealg_IndexRabinKarp_string_L1 (x0 x1 x5 x6 x7 x8 x10 : AV) (h : List Ob) (e : Cx := cx) : Cfg := atC n_bytealg_IndexRabinKarp_string (.code bytealg_IndexRabinKarp_string_b1 :: .inLoop bytealg_IndexRabinKarp_string_m1 bytealg_IndexRabinKarp_string_b1 :: .inBlock 2 bytealg_IndexRabinKarp_string_x1 :: bytealg_IndexRabinKarp_string_k1) [x0,x1,U,U,U,x5,x6,x7,x8,U,x10,U,U,U,U,U,U,U,U,U,U,U,U,U,U,U,U,U,U,U,U,U,U,U,U,U,U,U,U,U,U,U,U,U,U,U,U,U,U,U,U,U,U,U,U,U,U,U,U,U,U,U,U,U,U,U,U,U,U,U,U,U,U,U,U,U,U,U,U,U,U] h e
abbrev bytealg_IndexRabinKarp_string_E1 (h : List Ob) (e : Cx := cx) : Cfg := atC n_bytealg_IndexRabinKarp_string bytealg_IndexRabinKarp_string_k1 [U,U,U,U,U,U,U,U,U,U,U,U,U,U,U,U,U,U,U,U,U,U,U,U,U,U,U,U,U,U,U,U,U,U,U,U,U,U,U,U,U,U,U,U,U,U,U,U,U,U,U,U,U,U,U,U,U,U,U,U,U,U,U,U,U,U,U,U,U,U,U,U,U,U,U,U,U,U,U,U,U] h e
abbrev bytealg_IndexRabinKarp_string_k15 : List It := [.code (.seq (.seq (.reg bytealg_IndexRabinKarp_string_p14) (.cond (.t 39) bytealg_IndexRabinKarp_string_p13 .skip)) (.seq (.seq (.reg bytealg_IndexRabinKarp_string_p11) (.block 2 bytealg_IndexRabinKarp_string_x1 (.loop bytealg_IndexRabinKarp_string_m1 bytealg_IndexRabinKarp_string_b1))) (.seq (.reg bytealg_IndexRabinKarp_string_p0) .ret)))]
abbrev bytealg_IndexRabinKarp_string_L15 (x0 x1 x5 x6 x7 x8 x9 : AV) (h : List Ob) (e : Cx := cx) : Cfg := atC n_bytealg_IndexRabinKarp_string (.code bytealg_IndexRabinKarp_string_b15 :: .inLoop bytealg_IndexRabinKarp_string_m15 bytealg_IndexRabinKarp_string_b15 :: .inBlock 0 bytealg_IndexRabinKarp_string_x15 :: bytealg_IndexRabinKarp_string_k15) [x0,x1,U,U,U,x5,x6,x7,x8,x9,U,U,U,U,U,U,U,U,U,U,U,U,U,U,U,U,U,U,U,U,U,U,U,U,U,U,U,U,U,U,U,U,U,U,U,U,U,U,U,U,U,U,U,U,U,U,U,U,U,U,U,U,U,U,U,U,U,U,U,U,U,U,U,U,U,U,U,U,U,U,U] h e
abbrev bytealg_IndexRabinKarp_string_E15 (x0 x1 x5 x6 x7 x8 : AV) (h : List Ob) (e : Cx := cx) : Cfg := atC n_bytealg_IndexRabinKarp_string bytealg_IndexRabinKarp_string_k15 [x0,x1,U,U,U,x5,x6,x7,x8,U,U,U,U,U,U,U,U,U,U,U,U,U,U,U,U,U,U,U,U,U,U,U,U,U,U,U,U,U,U,U,U,U,U,U,U,U,U,U,U,U,U,U,U,U,U,U,U,U,U,U,U,U,U,U,U,U,U,U,U,U,U,U,U,U,U,U,U,U,U,U,U] h e
@[simp] theorem c_bytealg_IndexRabinKarp_string : cfun Tryd.prog n_bytealg_IndexRabinKarp_string = some bytealg_IndexRabinKarp_string := by kernel_rfl
@[simp] theorem e_bytealg_IndexRabinKarp_string : hasBody Tryd.prog n_bytealg_IndexRabinKarp_string = true := by kernel_rfl

/- bytealg_hashStr_string: internal/bytealg.hashStr[string] -/
abbrev bytealg_hashStr_string_p0 : List AG := [o 37 (.mv (.t 4)), o 38 (.mv (.t 6)), o 2 (.mv (.t 37)), o 3 (.mv (.t 38))]
abbrev bytealg_hashStr_string_m1 : List Bool := [O,O,O,O,I,O,I,I,I,O,O,O,O,O,O,O,O,O,O,O,O,O,O,O,O,O,O,O,O,O,O,O,O,O,O,O,O,O,O]
abbrev bytealg_hashStr_string_x1 : List Bool := [O,O,O,O,I,O,I,O,O,O,O,O,O,O,O,O,O,O,O,O,O,O,O,O,O,O,O,O,O,O,O,O,O,O,O,O,O,O,O]
abbrev bytealg_hashStr_string_p2 : List AG := [o 26 (.mv (.t 8)), o 27 (.ibin .shr (.t 26) (.c (.int .u64 1))), o 8 (.mv (.t 27))]
abbrev bytealg_hashStr_string_p3 : List AG := [o 34 (.mv (.t 7)), o 35 (.mv (.t 7)), o 36 (.ibin .mul (.t 34) (.t 35)), o 7 (.mv (.t 36))]
abbrev bytealg_hashStr_string_p4 : List AG := [o 31 (.mv (.t 6)), o 32 (.mv (.t 7)), o 33 (.ibin .mul (.t 31) (.t 32)), o 6 (.mv (.t 33))]
abbrev bytealg_hashStr_string_p5 : List AG := [o 28 (.mv (.t 8)), o 29 (.ibin .and (.t 28) (.c (.int .i64 1))), o 30 (.cmp .neq (.sc .int) (.t 29) (.c (.int .i64 0)))]
abbrev bytealg_hashStr_string_p6 : ACode := (.seq (.seq (.reg bytealg_hashStr_string_p5) (.cond (.t 30) (.reg bytealg_hashStr_string_p4) .skip)) (.reg bytealg_hashStr_string_p3))
abbrev bytealg_hashStr_string_p7 : List AG := [o 24 (.mv (.t 8)), o 25 (.cmp .gtr (.sc .int) (.t 24) (.c (.int .i64 0)))]
abbrev bytealg_hashStr_string_b1 : ACode := (.seq (.seq (.reg bytealg_hashStr_string_p7) (.cond (.t 25) .skip (.exit 2))) (.seq (.block 3 [] bytealg_hashStr_string_p6) (.reg bytealg_hashStr_string_p2)))
abbrev bytealg_hashStr_string_p8 : List AG := [o 22 (.mv (.t 0)), o 23 (.lenStr (.t 22)), o 8 (.mv (.t 23))]
abbrev bytealg_hashStr_string_p9 : List AG := [o 6 (.mv (.c (.int .u32 1))), o 7 (.mv (.c (.int .u32 16777619)))]
abbrev bytealg_hashStr_string_m10 : List Bool := [I,O,O,O,I,I,O,O,O,O,O,O,O,O,O,O,O,O,O,O,O,O,O,O,O,O,O,O,O,O,O,O,O,O,O,O,O,O,O]
abbrev bytealg_hashStr_string_x10 : List Bool := [I,O,O,O,I,O,O,O,O,O,O,O,O,O,O,O,O,O,O,O,O,O,O,O,O,O,O,O,O,O,O,O,O,O,O,O,O,O,O]
abbrev bytealg_hashStr_string_p11 : List AG := [o 13 (.mv (.t 5)), o 14 (.ibin .add (.t 13) (.c (.int .i64 1))), o 5 (.mv (.t 14))]
abbrev bytealg_hashStr_string_p12 : List AG := [o 15 (.mv (.t 4)), o 16 (.ibin .mul (.t 15) (.c (.int .u32 16777619))), o 17 (.mv (.t 0)), o 18 (.mv (.t 5)), o 19 (.ixStr (.t 17) (.t 18)), o 20 (.conv .u32 (.t 19)), o 21 (.ibin .add (.t 16) (.t 20)), o 4 (.mv (.t 21))]
abbrev bytealg_hashStr_string_p13 : List AG := [o 9 (.mv (.t 5)), o 10 (.mv (.t 0)), o 11 (.lenStr (.t 10)), o 12 (.cmp .lss (.sc .int) (.t 9) (.t 11))]
abbrev bytealg_hashStr_string_b10 : ACode := (.seq (.seq (.reg bytealg_hashStr_string_p13) (.cond (.t 12) .skip (.exit 0))) (.seq (.block 1 [] (.reg bytealg_hashStr_string_p12)) (.reg bytealg_hashStr_string_p11)))
abbrev bytealg_hashStr_string_p14 : List AG := [o 5 (.mv (.c (.int .i64 0)))]
abbrev bytealg_hashStr_string_p15 : List AG := [o 4 (.mv (.c (.int .u32 0)))]
abbrev bytealg_hashStr_string_p16 : List AG := [o 2 (.mv (.c (.int .u32 0))), o 3 (.mv (.c (.int .u32 0)))]
abbrev bytealg_hashStr_string : AFun := ⟨(.seq (.reg bytealg_hashStr_string_p16) (.seq (.reg bytealg_hashStr_string_p15) (.seq (.seq (.reg bytealg_hashStr_string_p14) (.block 0 bytealg_hashStr_string_x10 (.loop bytealg_hashStr_string_m10 bytealg_hashStr_string_b10))) (.seq (.reg bytealg_hashStr_string_p9) (.seq (.seq (.reg bytealg_hashStr_string_p8) (.block 2 bytealg_hashStr_string_x1 (.loop bytealg_hashStr_string_m1 bytealg_hashStr_string_b1))) (.seq (.reg bytealg_hashStr_string_p0) .ret)))))), 39, [.tmp 2, .tmp 3]⟩
abbrev bytealg_hashStr_string_k1 : List It := [.code (.seq (.reg bytealg_hashStr_string_p0) .ret)]
abbrev bytealg_hashStr_string_L1 (x4 x6 x7 x8 : AV) (h : List Ob) (e : Cx := cx) : Cfg := atC n_bytealg_hashStr_string (.code bytealg_hashStr_string_b1 :: .inLoop bytealg_hashStr_string_m1 bytealg_hashStr_string_b1 :: .inBlock 2 bytealg_hashStr_string_x1 :: bytealg_hashStr_string_k1) [U,U,U,U,x4,U,x6,x7,x8,U,U,U,U,U,U,U,U,U,U,U,U,U,U,U,U,U,U,U,U,U,U,U,U,U,U,U,U,U,U] h e
abbrev bytealg_hashStr_string_E1 (x4 x6 : AV) (h : List Ob) (e : Cx := cx) : Cfg := atC n_bytealg_hashStr_string bytealg_hashStr_string_k1 [U,U,U,U,x4,U,x6,U,U,U,U,U,U,U,U,U,U,U,U,U,U,U,U,U,U,U,U,U,U,U,U,U,U,U,U,U,U,U,U] h e
abbrev bytealg_hashStr_string_k10 : List It := [.code (.seq (.reg bytealg_hashStr_string_p9) (.seq (.seq (.reg bytealg_hashStr_string_p8) (.block 2 bytealg_hashStr_string_x1 (.loop bytealg_hashStr_string_m1 bytealg_hashStr_string_b1))) (.seq (.reg bytealg_hashStr_string_p0) .ret)))]
abbrev bytealg_hashStr_string_L10 (x0 x4 x5 : AV) (h : List Ob) (e : Cx := cx) : Cfg := atC n_bytealg_hashStr_string (.code bytealg_hashStr_string_b10 :: .inLoop bytealg_hashStr_string_m10 bytealg_hashStr_string_b10 :: .inBlock 0 bytealg_hashStr_string_x10 :: bytealg_hashStr_string_k10) [x0,U,U,U,x4,x5,U,U,U,U,U,U,U,U,U,U,U,U,U,U,U,U,U,U,U,U,U,U,U,U,U,U,U,U,U,U,U,U,U] h e
abbrev bytealg_hashStr_string_E10 (x0 x4 : AV) (h : List Ob) (e : Cx := cx) : Cfg := atC n_bytealg_hashStr_string bytealg_hashStr_string_k10 [x0,U,U,U,x4,U,U,U,U,U,U,U,U,U,U,U,U,U,U,U,U,U,U,U,U,U,U,U,U,U,U,U,U,U,U,U,U,U,U] h e
@[simp] theorem c_bytealg_hashStr_string : cfun Tryd.prog n_bytealg_hashStr_string = some bytealg_hashStr_string := by kernel_rfl
@[simp] theorem e_bytealg_hashStr_string : hasBody Tryd.prog n_bytealg_hashStr_string = true := by kernel_rfl

/- gosem_cut_vars: gosem.cut.vars -/
abbrev gosem_cut_vars_p0 : List AG := [o 0 (.build [(.int .i64 0), (.int .i64 0)] [(0, 1, (.c (.int .i64 1))), (1, 1, (.c (.int .i64 1)))]), q (.store 2 (.g 0) (.t 0))]
abbrev gosem_cut_vars : AFun := ⟨(.reg gosem_cut_vars_p0), 1, []⟩
@[simp] theorem c_gosem_cut_vars : cfun Tryd.prog n_gosem_cut_vars = some gosem_cut_vars := by kernel_rfl
@[simp] theorem e_gosem_cut_vars : hasBody Tryd.prog n_gosem_cut_vars = true := by kernel_rfl

end Go.Proofs.YthnplnkddbbojaaDoor
