/- The functions, as the abstract machine has them. Printed by a program. -/
import Derived.Test.YtpkngebjapfibaaDoorAMd
import Derived.Test.YtpkngebjapfibaaDoorChecked
import Derived.KernelRfl
set_option linter.unusedSimpArgs false
set_option linter.unusedVariables false
namespace Go.Proofs.YtpkngebjapfibaaDoor
open Go.AM Go.Proofs
abbrev n_w07_OrderTells:FuncId:=3
abbrev n_w07_OrderRises:FuncId:=5
abbrev n_w07_OrderWaits:FuncId:=6
abbrev n_w07_OrderLevels:FuncId:=7
abbrev n_w07_works:FuncId:=9
abbrev n_w07_Little:FuncId:=10
abbrev n_order_Sort:FuncId:=11
abbrev n_r07_Sort:FuncId:=12
abbrev n_order_Check:FuncId:=13
abbrev n_r07_Check:FuncId:=14
abbrev n_r01_Ints:FuncId:=15
abbrev n_order_Levels:FuncId:=16
abbrev n_r07_Levels:FuncId:=17
abbrev n_r01_Texts:FuncId:=18
abbrev n_w05_Texts:FuncId:=19
abbrev n_order_Cone:FuncId:=20
abbrev n_order_Trim:FuncId:=23
abbrev n_w06_Few:FuncId:=25
abbrev n_net_Check:FuncId:=26
abbrev n_net_Place:FuncId:=27
abbrev n_r01_Has:FuncId:=28
abbrev n_order_right:FuncId:=30
abbrev n_order_places:FuncId:=31
abbrev n_order_coming:FuncId:=32
abbrev n_r07_right:FuncId:=33
abbrev n_r07_waits:FuncId:=34
abbrev n_r06_Check:FuncId:=35
abbrev n_order_wait:FuncId:=36
abbrev n_slices_Clone_string_string:FuncId:=37
abbrev n_net_Nets:FuncId:=38
abbrev n_r06_Nets:FuncId:=39
abbrev n_slices_Contains_string_string:FuncId:=42
abbrev n_w06_FewGate:FuncId:=43
abbrev n_net_Check_1:FuncId:=44
abbrev n_net_Check_2:FuncId:=45
abbrev n_net_need:FuncId:=46
abbrev n_slices_ContainsFunc_api_Gate_api_Gate:FuncId:=47
abbrev n_net_told:FuncId:=48
abbrev n_ident_Name:FuncId:=49
abbrev n_net_once:FuncId:=50
abbrev n_net_Gate:FuncId:=51
abbrev n_net_used:FuncId:=52
abbrev n_slices_Index_string_string:FuncId:=53
abbrev n_order_coming_1:FuncId:=58
abbrev n_container_heap_Push:FuncId:=59
abbrev n_order_pile_Len:FuncId:=60
abbrev n_container_heap_Pop:FuncId:=61
abbrev n_r06_limit:FuncId:=62
abbrev n_r06_Told:FuncId:=63
abbrev n_r04_Name:FuncId:=64
abbrev n_r06_twice:FuncId:=65
abbrev n_r06_Gate:FuncId:=66
abbrev n_r06_Used:FuncId:=67
abbrev n_slices_IndexFunc_api_Gate_api_Gate:FuncId:=68
abbrev n_slices_Concat_string_string:FuncId:=69
abbrev n_ident_name_plain:FuncId:=70
abbrev n_net_Gate_1:FuncId:=71
abbrev n_net_row:FuncId:=72
abbrev n_net_has:FuncId:=73
abbrev n_slices_ContainsFunc_string_string:FuncId:=74
abbrev n_container_heap_up:FuncId:=75
abbrev n_container_heap_down:FuncId:=76
abbrev n_r06_row:FuncId:=77
abbrev n_slices_Grow_string_string:FuncId:=78
abbrev n_ident_name_plain_1:FuncId:=79
abbrev n_strings_IndexFunc:FuncId:=80
abbrev n_strings_Trim:FuncId:=81
abbrev n_slices_IndexFunc_string_string:FuncId:=82
abbrev n_strings_indexFunc:FuncId:=83
abbrev n_order_pile_Less:FuncId:=121
abbrev n_order_pile_Pop:FuncId:=122
abbrev n_order_pile_Push:FuncId:=123
abbrev n_order_pile_Swap:FuncId:=124
abbrev t_int:TypeId:=3
abbrev t_bool:TypeId:=4
abbrev t_string:TypeId:=9
abbrev t_int_2:TypeId:=29
abbrev t_api_Gate_2:TypeId:=45
abbrev t_map_int_bool_2:TypeId:=61
abbrev t_api_Latch_2:TypeId:=64
abbrev t_net_wrong:TypeId:=72
abbrev t_order_pile:TypeId:=82
@[simp] theorem m_order_pile_Push:cmeth Tryd.prog t_order_pile "Push" = some (n_order_pile_Push,none):=by kernel_rfl
@[simp] theorem m_order_pile_Len:cmeth Tryd.prog t_order_pile "Len" = some (n_order_pile_Len,some (false,1)):=by kernel_rfl
@[simp] theorem m_order_pile_Swap:cmeth Tryd.prog t_order_pile "Swap" = some (n_order_pile_Swap,some (false,1)):=by kernel_rfl
@[simp] theorem m_order_pile_Pop:cmeth Tryd.prog t_order_pile "Pop" = some (n_order_pile_Pop,none):=by kernel_rfl
@[simp] theorem m_order_pile_Less:cmeth Tryd.prog t_order_pile "Less" = some (n_order_pile_Less,some (false,1)):=by kernel_rfl
abbrev t_order_pile_2:TypeId:=83
@[simp] theorem m_order_pile_2_Len:cmeth Tryd.prog t_order_pile_2 "Len" = some (n_order_pile_Len,none):=by kernel_rfl
@[simp] theorem m_order_pile_2_Swap:cmeth Tryd.prog t_order_pile_2 "Swap" = some (n_order_pile_Swap,none):=by kernel_rfl
@[simp] theorem m_order_pile_2_Less:cmeth Tryd.prog t_order_pile_2 "Less" = some (n_order_pile_Less,none):=by kernel_rfl
abbrev w07_OrderTells_p0:List AG:=[o 47 (.mv (.t 3)),o 48 (.mv (.t 47)),oy 49 48 (.mv (.t 5)),oy 50 48 (.mv (.t 7)),oy 51 48 (.call (.f n_r01_Ints) [(.t 49),(.t 50)]),o 52 (.pick (.t 48) (.t 51) (.c (.bool false))),o 53 (.mv (.t 52)),oy 54 53 (.mv (.t 6)),oy 55 53 (.mv (.t 8)),oy 56 53 (.call (.f n_r01_Texts) [(.t 54),(.t 55)]),o 57 (.pick (.t 53) (.t 56) (.c (.bool false))),o 58 (.mv (.t 57)),oy 59 58 (.mv (.t 9)),oy 60 58 (.mv (.t 11)),oy 61 58 (.cmp .eql (.sc .int) (.t 59) (.t 60)),o 62 (.pick (.t 58) (.t 61) (.c (.bool false))),o 63 (.mv (.t 62)),oy 64 63 (.mv (.t 10)),oy 65 63 (.mv (.t 12)),oy 66 63 (.cmp .eql (.sc .str) (.t 64) (.t 65)),o 67 (.pick (.t 63) (.t 66) (.c (.bool false))),o 68 (.mv (.t 67)),oy 69 68 (.mv (.t 13)),o 70 (.pick (.t 68) (.t 69) (.c (.bool false))),o 2 (.mv (.t 70))]
abbrev w07_OrderTells_p1:List AG:=[o 42 (.load true 4 (.t 1)),o 43 (.call (.f n_order_Levels) [(.t 42)]),o 44 (.load true 4 (.t 1)),o 45 (.call (.f n_r07_Levels) [(.t 44)]),o 46 (.call (.f n_r01_Ints) [(.t 43),(.t 45)]),o 13 (.mv (.t 46))]
abbrev w07_OrderTells_p2:List AG:=[o 38 (.load true 4 (.t 1)),o 39 (.call (.f n_r07_Check) [(.t 38)]),o 37 (.mv (.t 39)),o 40 (.extract (.t 37) 0),o 41 (.extract (.t 37) 1),o 11 (.mv (.t 40)),o 12 (.mv (.t 41))]
abbrev w07_OrderTells_p3:List AG:=[o 33 (.load true 4 (.t 1)),o 34 (.call (.f n_order_Check) [(.t 33)]),o 32 (.mv (.t 34)),o 35 (.extract (.t 32) 0),o 36 (.extract (.t 32) 1),o 9 (.mv (.t 35)),o 10 (.mv (.t 36))]
abbrev w07_OrderTells_p4:List AG:=[o 28 (.load true 4 (.t 1)),o 29 (.call (.f n_r07_Sort) [(.t 28)]),o 27 (.mv (.t 29)),o 30 (.extract (.t 27) 0),o 31 (.extract (.t 27) 1),o 7 (.mv (.t 30)),o 8 (.mv (.t 31))]
abbrev w07_OrderTells_p5:List AG:=[o 23 (.load true 4 (.t 1)),o 24 (.call (.f n_order_Sort) [(.t 23)]),o 22 (.mv (.t 24)),o 25 (.extract (.t 22) 0),o 26 (.extract (.t 22) 1),o 5 (.mv (.t 25)),o 6 (.mv (.t 26))]
abbrev w07_OrderTells_p6:List AG:=[o 21 (.mv (.t 3)),o 2 (.mv (.t 21))]
abbrev w07_OrderTells_p7:ACode:=(.seq (.reg w07_OrderTells_p6) .ret)
abbrev w07_OrderTells_p8:List AG:=[o 19 (.mv (.t 4)),o 20 (.not (.t 19))]
abbrev w07_OrderTells_p9:List AG:=[o 17 (.load true 4 (.t 1)),o 18 (.call (.f n_w07_Little) [(.t 17)]),o 4 (.mv (.t 18))]
abbrev w07_OrderTells_p10:List AG:=[o 2 (.mv (.c (.bool false)))]
abbrev w07_OrderTells_p11:ACode:=(.seq (.reg w07_OrderTells_p10) .ret)
abbrev w07_OrderTells_p12:List AG:=[o 15 (.mv (.t 3)),o 16 (.not (.t 15))]
abbrev w07_OrderTells_p13:List AG:=[o 14 (.call (.f n_w07_works) []),o 3 (.mv (.t 14))]
abbrev w07_OrderTells_p14:List AG:=[o 1 (.box 4 (.t 0)),o 2 (.mv (.c (.bool false)))]
abbrev w07_OrderTells:AFun:=⟨(.seq (.reg w07_OrderTells_p14) (.seq (.reg w07_OrderTells_p13) (.seq (.seq (.reg w07_OrderTells_p12) (.cond (.t 16) w07_OrderTells_p11 .skip)) (.seq (.reg w07_OrderTells_p9) (.seq (.seq (.reg w07_OrderTells_p8) (.cond (.t 20) w07_OrderTells_p7 .skip)) (.seq (.reg w07_OrderTells_p5) (.seq (.reg w07_OrderTells_p4) (.seq (.reg w07_OrderTells_p3) (.seq (.reg w07_OrderTells_p2) (.seq (.dreg [O,O,I,O,O,O] [2,4,4,5,7,7] w07_OrderTells_p1) (.seq (.reg w07_OrderTells_p0) .ret))))))))))),71,[.tmp 2]⟩
@[simp] theorem c_w07_OrderTells:cfun Tryd.prog n_w07_OrderTells=some w07_OrderTells:=by kernel_rfl
@[simp] theorem e_w07_OrderTells:hasBody Tryd.prog n_w07_OrderTells=true:=by kernel_rfl
abbrev w07_OrderRises_p0:List AG:=[o 81 (.mv (.t 3)),o 82 (.mv (.t 81)),oy 83 82 (.mv (.t 14)),oy 84 82 (.cmp .eql (.sc .int) (.t 83) (.c (.int .i64 0))),o 85 (.pick (.t 82) (.t 84) (.c (.bool false))),o 86 (.mv (.t 85)),oy 87 86 (.mv (.t 11)),oy 88 86 (.len (.t 87)),oy 89 86 (.off 3 (.t 1)),oy 90 86 (.load false 1 (.t 89)),oy 91 86 (.len (.t 90)),oy 92 86 (.cmp .eql (.sc .int) (.t 88) (.t 91)),o 93 (.pick (.t 86) (.t 92) (.c (.bool false))),o 2 (.mv (.t 93))]
abbrev w07_OrderRises_p1:List AG:=[o 77 (.load true 4 (.t 9)),o 78 (.call (.f n_order_Check) [(.t 77)]),o 76 (.mv (.t 78)),o 79 (.extract (.t 76) 0),o 80 (.extract (.t 76) 1),o 14 (.mv (.t 79)),o 15 (.mv (.t 80))]
abbrev w07_OrderRises_m2:List Bool:=[O,I,O,I,O,O,O,O,O,I,O,I,O,I,O,O,O,O,O,O,O,O,O,O,O,O,O,O,O,O,O,O,O,O,O,O,O,O,O,O,O,O,O,O,O,O,O,O,O,O,O,O,O,O,O,O,O,O,O,O,O,O,O,O,O,O,O,O,O,O,O,O,O,O,O,O,O,O,O,O,O,O,O,O,O,O,O,O,O,O,O,O,O,O]
abbrev w07_OrderRises_x2:List Bool:=[O,I,O,I,O,O,O,O,O,I,O,I,O,O,O,O,O,O,O,O,O,O,O,O,O,O,O,O,O,O,O,O,O,O,O,O,O,O,O,O,O,O,O,O,O,O,O,O,O,O,O,O,O,O,O,O,O,O,O,O,O,O,O,O,O,O,O,O,O,O,O,O,O,O,O,O,O,O,O,O,O,O,O,O,O,O,O,O,O,O,O,O,O,O]
abbrev w07_OrderRises_p3:List AG:=[o 68 (.mv (.t 13)),o 69 (.ibin .add (.t 68) (.c (.int .i64 1))),o 13 (.mv (.t 69))]
abbrev w07_OrderRises_p4:List AG:=[o 2 (.mv (.c (.bool false)))]
abbrev w07_OrderRises_p5:ACode:=(.seq (.reg w07_OrderRises_p4) .ret)
abbrev w07_OrderRises_p6:List AG:=[o 70 (.mv (.t 11)),o 71 (.mv (.t 13)),o 72 (.ixAddr 1 (.t 70) (.t 71)),o 73 (.load false 1 (.t 72)),o 74 (.mv (.t 13)),o 75 (.cmp .neq (.sc .int) (.t 73) (.t 74))]
abbrev w07_OrderRises_p7:ACode:=(.seq (.reg w07_OrderRises_p6) (.cond (.t 75) w07_OrderRises_p5 .skip))
abbrev w07_OrderRises_p8:List AG:=[o 64 (.mv (.t 13)),o 65 (.mv (.t 11)),o 66 (.len (.t 65)),o 67 (.cmp .lss (.sc .int) (.t 64) (.t 66))]
abbrev w07_OrderRises_b2:ACode:=(.seq (.seq (.reg w07_OrderRises_p8) (.cond (.t 67) .skip (.exit 2))) (.seq (.block 3 [] w07_OrderRises_p7) (.reg w07_OrderRises_p3)))
abbrev w07_OrderRises_p9:List AG:=[o 13 (.mv (.c (.int .i64 0)))]
abbrev w07_OrderRises_p10:List AG:=[o 60 (.load true 4 (.t 9)),o 61 (.call (.f n_order_Sort) [(.t 60)]),o 59 (.mv (.t 61)),o 62 (.extract (.t 59) 0),o 63 (.extract (.t 59) 1),o 11 (.mv (.t 62)),o 12 (.mv (.t 63))]
abbrev w07_OrderRises_m11:List Bool:=[O,I,O,I,O,O,O,I,O,I,I,O,O,O,O,O,O,O,O,O,O,O,O,O,O,O,O,O,O,O,O,O,O,O,O,O,O,O,O,O,O,O,O,O,O,O,O,O,O,O,O,O,O,O,O,O,O,O,O,O,O,O,O,O,O,O,O,O,O,O,O,O,O,O,O,O,O,O,O,O,O,O,O,O,O,O,O,O,O,O,O,O,O,O]
abbrev w07_OrderRises_x11:List Bool:=[O,I,O,I,O,O,O,O,O,I,O,O,O,O,O,O,O,O,O,O,O,O,O,O,O,O,O,O,O,O,O,O,O,O,O,O,O,O,O,O,O,O,O,O,O,O,O,O,O,O,O,O,O,O,O,O,O,O,O,O,O,O,O,O,O,O,O,O,O,O,O,O,O,O,O,O,O,O,O,O,O,O,O,O,O,O,O,O,O,O,O,O,O,O]
abbrev w07_OrderRises_p12:List AG:=[o 44 (.mv (.t 10)),o 45 (.ibin .add (.t 44) (.c (.int .i64 1))),o 10 (.mv (.t 45))]
abbrev w07_OrderRises_p13:List AG:=[o 46 (.off 3 (.t 9)),o 47 (.load false 1 (.t 46)),o 48 (.off 3 (.t 1)),o 49 (.load false 1 (.t 48)),o 50 (.mv (.t 7)),o 51 (.mv (.t 10)),o 52 (.ixAddr 1 (.t 50) (.t 51)),o 53 (.load false 1 (.t 52)),o 54 (.ixAddr 5 (.t 49) (.t 53)),o 55 (.load true 5 (.t 54)),o 56 (.lit 5 [(.agg [(.str []),(.int .i64 0),(.list true 0 []),(.list true 0 []),(.bool false)])] [(0,(.t 55))]),o 57 (.append 5 t_api_Gate_2 80 (.t 47) (.t 56)),o 58 (.off 3 (.t 9)),q (.store 1 (.t 58) (.t 57))]
abbrev w07_OrderRises_p14:List AG:=[o 40 (.mv (.t 10)),o 41 (.mv (.t 7)),o 42 (.len (.t 41)),o 43 (.cmp .lss (.sc .int) (.t 40) (.t 42))]
abbrev w07_OrderRises_b11:ACode:=(.seq (.seq (.reg w07_OrderRises_p14) (.cond (.t 43) .skip (.exit 0))) (.seq (.block 1 [] (.dreg [O,I,O,O,O,O,O,O,O,O,O,O,O,O] [12,12,11,11,11,11,11,11,11,11,12,14,14,15] w07_OrderRises_p13)) (.reg w07_OrderRises_p12)))
abbrev w07_OrderRises_p15:List AG:=[o 10 (.mv (.c (.int .i64 0)))]
abbrev w07_OrderRises_p16:List AG:=[o 39 (.off 3 (.t 9)),q (.store 1 (.t 39) (.c (.list true 0 [])))]
abbrev w07_OrderRises_p17:List AG:=[o 38 (.load true 4 (.t 1)),o 9 (.alloc [(.own 1 t_string []),(.own 1 t_string []),(.own 3 t_api_Latch_2 []),(.own 5 t_api_Gate_2 [])]),q (.store 4 (.t 9) (.t 38))]
abbrev w07_OrderRises_p18:List AG:=[o 34 (.load true 4 (.t 1)),o 35 (.call (.f n_order_Sort) [(.t 34)]),o 33 (.mv (.t 35)),o 36 (.extract (.t 33) 0),o 37 (.extract (.t 33) 1),o 7 (.mv (.t 36)),o 8 (.mv (.t 37))]
abbrev w07_OrderRises_p19:List AG:=[o 32 (.mv (.t 3)),o 2 (.mv (.t 32))]
abbrev w07_OrderRises_p20:ACode:=(.seq (.reg w07_OrderRises_p19) .ret)
abbrev w07_OrderRises_p21:List AG:=[o 26 (.mv (.t 4)),o 27 (.not (.t 26)),o 28 (.mv (.t 27)),on 29 28 (.mv (.t 5)),on 30 28 (.cmp .neq (.sc .int) (.t 29) (.c (.int .i64 0))),o 31 (.pick (.t 28) (.c (.bool true)) (.t 30))]
abbrev w07_OrderRises_p22:List AG:=[o 22 (.load true 4 (.t 1)),o 23 (.call (.f n_order_Check) [(.t 22)]),o 21 (.mv (.t 23)),o 24 (.extract (.t 21) 0),o 25 (.extract (.t 21) 1),o 5 (.mv (.t 24)),o 6 (.mv (.t 25))]
abbrev w07_OrderRises_p23:List AG:=[o 19 (.load true 4 (.t 1)),o 20 (.call (.f n_w06_Few) [(.t 19)]),o 4 (.mv (.t 20))]
abbrev w07_OrderRises_p24:List AG:=[o 2 (.mv (.c (.bool false)))]
abbrev w07_OrderRises_p25:ACode:=(.seq (.reg w07_OrderRises_p24) .ret)
abbrev w07_OrderRises_p26:List AG:=[o 17 (.mv (.t 3)),o 18 (.not (.t 17))]
abbrev w07_OrderRises_p27:List AG:=[o 16 (.call (.f n_w07_works) []),o 3 (.mv (.t 16))]
abbrev w07_OrderRises_p28:List AG:=[o 1 (.box 4 (.t 0)),o 2 (.mv (.c (.bool false)))]
abbrev w07_OrderRises:AFun:=⟨(.seq (.reg w07_OrderRises_p28) (.seq (.reg w07_OrderRises_p27) (.seq (.seq (.reg w07_OrderRises_p26) (.cond (.t 18) w07_OrderRises_p25 .skip)) (.seq (.reg w07_OrderRises_p23) (.seq (.reg w07_OrderRises_p22) (.seq (.seq (.reg w07_OrderRises_p21) (.cond (.t 31) w07_OrderRises_p20 .skip)) (.seq (.reg w07_OrderRises_p18) (.seq (.reg w07_OrderRises_p17) (.seq (.reg w07_OrderRises_p16) (.seq (.seq (.reg w07_OrderRises_p15) (.block 0 w07_OrderRises_x11 (.loop w07_OrderRises_m11 w07_OrderRises_b11))) (.seq (.reg w07_OrderRises_p10) (.seq (.seq (.reg w07_OrderRises_p9) (.block 2 w07_OrderRises_x2 (.loop w07_OrderRises_m2 w07_OrderRises_b2))) (.seq (.reg w07_OrderRises_p1) (.seq (.reg w07_OrderRises_p0) .ret)))))))))))))),94,[.tmp 2]⟩
abbrev w07_OrderRises_k2:List It:=[.code (.seq (.reg w07_OrderRises_p1) (.seq (.reg w07_OrderRises_p0) .ret))]
abbrev w07_OrderRises_L2 (x1 x3 x9 x11 x13:AV) (h:List Ob) (e:Cx:=cx):Cfg:=atC n_w07_OrderRises (.code w07_OrderRises_b2::.inLoop w07_OrderRises_m2 w07_OrderRises_b2::.inBlock 2 w07_OrderRises_x2::w07_OrderRises_k2) [U,x1,U,x3,U,U,U,U,U,x9,U,x11,U,x13,U,U,U,U,U,U,U,U,U,U,U,U,U,U,U,U,U,U,U,U,U,U,U,U,U,U,U,U,U,U,U,U,U,U,U,U,U,U,U,U,U,U,U,U,U,U,U,U,U,U,U,U,U,U,U,U,U,U,U,U,U,U,U,U,U,U,U,U,U,U,U,U,U,U,U,U,U,U,U,U] h e
abbrev w07_OrderRises_k11:List It:=[.code (.seq (.reg w07_OrderRises_p10) (.seq (.seq (.reg w07_OrderRises_p9) (.block 2 w07_OrderRises_x2 (.loop w07_OrderRises_m2 w07_OrderRises_b2))) (.seq (.reg w07_OrderRises_p1) (.seq (.reg w07_OrderRises_p0) .ret))))]
abbrev w07_OrderRises_L11 (x1 x3 x7 x9 x10:AV) (h:List Ob) (e:Cx:=cx):Cfg:=atC n_w07_OrderRises (.code w07_OrderRises_b11::.inLoop w07_OrderRises_m11 w07_OrderRises_b11::.inBlock 0 w07_OrderRises_x11::w07_OrderRises_k11) [U,x1,U,x3,U,U,U,x7,U,x9,x10,U,U,U,U,U,U,U,U,U,U,U,U,U,U,U,U,U,U,U,U,U,U,U,U,U,U,U,U,U,U,U,U,U,U,U,U,U,U,U,U,U,U,U,U,U,U,U,U,U,U,U,U,U,U,U,U,U,U,U,U,U,U,U,U,U,U,U,U,U,U,U,U,U,U,U,U,U,U,U,U,U,U,U] h e
abbrev w07_OrderRises_E11 (x1 x3 x9:AV) (h:List Ob) (e:Cx:=cx):Cfg:=atC n_w07_OrderRises w07_OrderRises_k11 [U,x1,U,x3,U,U,U,U,U,x9,U,U,U,U,U,U,U,U,U,U,U,U,U,U,U,U,U,U,U,U,U,U,U,U,U,U,U,U,U,U,U,U,U,U,U,U,U,U,U,U,U,U,U,U,U,U,U,U,U,U,U,U,U,U,U,U,U,U,U,U,U,U,U,U,U,U,U,U,U,U,U,U,U,U,U,U,U,U,U,U,U,U,U,U] h e
@[simp] theorem c_w07_OrderRises:cfun Tryd.prog n_w07_OrderRises=some w07_OrderRises:=by kernel_rfl
@[simp] theorem e_w07_OrderRises:hasBody Tryd.prog n_w07_OrderRises=true:=by kernel_rfl
abbrev w07_OrderWaits_p0:List AG:=[o 157 (.mv (.t 3)),o 158 (.mv (.t 157)),oy 159 158 (.mv (.t 7)),oy 160 158 (.len (.t 159)),oy 161 158 (.mv (.t 8)),oy 162 158 (.len (.t 161)),oy 163 158 (.ibin .add (.t 160) (.t 162)),oy 164 158 (.off 3 (.t 1)),oy 165 158 (.load false 1 (.t 164)),oy 166 158 (.len (.t 165)),oy 167 158 (.cmp .eql (.sc .int) (.t 163) (.t 166)),o 168 (.pick (.t 158) (.t 167) (.c (.bool false))),o 2 (.mv (.t 168))]
abbrev w07_OrderWaits_m1:List Bool:=[O,I,O,I,O,O,O,I,I,I,O,O,O,I,O,O,O,O,O,O,O,O,O,O,O,O,O,O,O,O,O,O,O,O,O,O,O,O,O,O,O,O,O,O,O,O,O,O,O,O,O,O,O,O,O,O,O,O,O,O,O,O,O,O,O,O,O,O,O,O,O,O,O,O,O,O,O,O,O,O,O,O,O,O,O,O,O,O,O,O,O,O,O,O,O,O,O,O,O,O,O,O,O,O,O,O,O,O,O,O,O,O,O,O,O,O,O,O,O,O,O,O,O,O,O,O,O,O,O,O,O,O,O,O,O,O,O,O,O,O,O,O,O,O,O,O,O,O,O,O,O,O,O,O,O,O,O,O,O,O,O,O,O,O,O,O,O,O,O]
abbrev w07_OrderWaits_x1:List Bool:=[O,I,O,I,O,O,O,I,I,O,O,O,O,O,O,O,O,O,O,O,O,O,O,O,O,O,O,O,O,O,O,O,O,O,O,O,O,O,O,O,O,O,O,O,O,O,O,O,O,O,O,O,O,O,O,O,O,O,O,O,O,O,O,O,O,O,O,O,O,O,O,O,O,O,O,O,O,O,O,O,O,O,O,O,O,O,O,O,O,O,O,O,O,O,O,O,O,O,O,O,O,O,O,O,O,O,O,O,O,O,O,O,O,O,O,O,O,O,O,O,O,O,O,O,O,O,O,O,O,O,O,O,O,O,O,O,O,O,O,O,O,O,O,O,O,O,O,O,O,O,O,O,O,O,O,O,O,O,O,O,O,O,O,O,O,O,O,O,O]
abbrev w07_OrderWaits_p2:List AG:=[o 114 (.mv (.t 13)),o 115 (.ibin .add (.t 114) (.c (.int .i64 1))),o 13 (.mv (.t 115))]
abbrev w07_OrderWaits_p3:List AG:=[o 2 (.mv (.c (.bool false)))]
abbrev w07_OrderWaits_p4:ACode:=(.seq (.reg w07_OrderWaits_p3) .ret)
abbrev w07_OrderWaits_p5:List AG:=[o 138 (.mv (.t 8)),o 139 (.off 0 (.t 14)),o 140 (.load false 1 (.t 139)),o 141 (.call (.f n_r01_Has) [(.t 138),(.t 140)]),o 142 (.mv (.t 9)),o 143 (.off 0 (.t 14)),o 144 (.load false 1 (.t 143)),o 145 (.call (.f n_r01_Has) [(.t 142),(.t 144)]),o 146 (.cmp .eql (.sc .bool) (.t 141) (.t 145)),o 147 (.mv (.t 146)),on 148 147 (.mv (.t 8)),on 149 147 (.off 0 (.t 14)),on 150 147 (.load false 1 (.t 149)),on 151 147 (.call (.f n_r01_Has) [(.t 148),(.t 150)]),on 152 147 (.mv (.t 151)),oy 153 152 (.mv (.t 15)),oy 154 152 (.not (.t 153)),on 155 147 (.pick (.t 152) (.t 154) (.c (.bool false))),o 156 (.pick (.t 147) (.c (.bool true)) (.t 155))]
abbrev w07_OrderWaits_m6:List Bool:=[O,I,O,I,O,O,O,I,I,I,O,O,O,I,I,I,I,O,O,O,O,O,O,O,O,O,O,O,O,O,O,O,O,O,O,O,O,O,O,O,O,O,O,O,O,O,O,O,O,O,O,O,O,O,O,O,O,O,O,O,O,O,O,O,O,O,O,O,O,O,O,O,O,O,O,O,O,O,O,O,O,O,O,O,O,O,O,O,O,O,O,O,O,O,O,O,O,O,O,O,O,O,O,O,O,O,O,O,O,O,O,O,O,O,O,O,O,O,O,O,O,O,O,O,O,O,O,O,O,O,O,O,O,O,O,O,O,O,O,O,O,O,O,O,O,O,O,O,O,O,O,O,O,O,O,O,O,O,O,O,O,O,O,O,O,O,O,O,O]
abbrev w07_OrderWaits_x6:List Bool:=[O,I,O,I,O,O,O,I,I,I,O,O,O,I,I,I,O,O,O,O,O,O,O,O,O,O,O,O,O,O,O,O,O,O,O,O,O,O,O,O,O,O,O,O,O,O,O,O,O,O,O,O,O,O,O,O,O,O,O,O,O,O,O,O,O,O,O,O,O,O,O,O,O,O,O,O,O,O,O,O,O,O,O,O,O,O,O,O,O,O,O,O,O,O,O,O,O,O,O,O,O,O,O,O,O,O,O,O,O,O,O,O,O,O,O,O,O,O,O,O,O,O,O,O,O,O,O,O,O,O,O,O,O,O,O,O,O,O,O,O,O,O,O,O,O,O,O,O,O,O,O,O,O,O,O,O,O,O,O,O,O,O,O,O,O,O,O,O,O]
abbrev w07_OrderWaits_p7:List AG:=[o 126 (.mv (.t 16)),o 127 (.ibin .add (.t 126) (.c (.int .i64 1))),o 16 (.mv (.t 127))]
abbrev w07_OrderWaits_p8:List AG:=[o 128 (.mv (.t 15)),o 129 (.mv (.t 128)),on 130 129 (.mv (.t 8)),on 131 129 (.off 2 (.t 14)),on 132 129 (.load false 1 (.t 131)),on 133 129 (.mv (.t 16)),on 134 129 (.ixAddr 1 (.t 132) (.t 133)),on 135 129 (.load false 1 (.t 134)),on 136 129 (.call (.f n_r01_Has) [(.t 130),(.t 135)]),o 137 (.pick (.t 129) (.c (.bool true)) (.t 136)),o 15 (.mv (.t 137))]
abbrev w07_OrderWaits_p9:List AG:=[o 121 (.mv (.t 16)),o 122 (.off 2 (.t 14)),o 123 (.load false 1 (.t 122)),o 124 (.len (.t 123)),o 125 (.cmp .lss (.sc .int) (.t 121) (.t 124))]
abbrev w07_OrderWaits_b6:ACode:=(.seq (.seq (.reg w07_OrderWaits_p9) (.cond (.t 125) .skip (.exit 6))) (.seq (.block 7 [] (.reg w07_OrderWaits_p8)) (.reg w07_OrderWaits_p7)))
abbrev w07_OrderWaits_p10:List AG:=[o 16 (.mv (.c (.int .i64 0)))]
abbrev w07_OrderWaits_p11:List AG:=[o 15 (.mv (.c (.bool false)))]
abbrev w07_OrderWaits_p12:List AG:=[o 116 (.off 3 (.t 1)),o 117 (.load false 1 (.t 116)),o 118 (.mv (.t 13)),o 119 (.ixAddr 5 (.t 117) (.t 118)),o 120 (.load true 5 (.t 119)),o 14 (.alloc [(.str []),(.int .i64 0),(.own 1 t_string []),(.own 1 t_string []),(.bool false)]),q (.store 5 (.t 14) (.t 120))]
abbrev w07_OrderWaits_p13:ACode:=(.seq (.reg w07_OrderWaits_p12) (.seq (.reg w07_OrderWaits_p11) (.seq (.seq (.reg w07_OrderWaits_p10) (.block 6 w07_OrderWaits_x6 (.loop w07_OrderWaits_m6 w07_OrderWaits_b6))) (.seq (.dreg [O,O,O,O,O,O,I,O,O,O,O,O,O,O,O,O,O,O,O] [4,4,4,8,8,8,8,14,14,14,14,14,14,20,20,20,20,20,20] w07_OrderWaits_p5) (.cond (.t 156) w07_OrderWaits_p4 .skip)))))
abbrev w07_OrderWaits_p14:List AG:=[o 109 (.mv (.t 13)),o 110 (.off 3 (.t 1)),o 111 (.load false 1 (.t 110)),o 112 (.len (.t 111)),o 113 (.cmp .lss (.sc .int) (.t 109) (.t 112))]
abbrev w07_OrderWaits_b1:ACode:=(.seq (.seq (.reg w07_OrderWaits_p14) (.cond (.t 113) .skip (.exit 4))) (.seq (.block 5 [] w07_OrderWaits_p13) (.reg w07_OrderWaits_p2)))
abbrev w07_OrderWaits_p15:List AG:=[o 13 (.mv (.c (.int .i64 0)))]
abbrev w07_OrderWaits_m16:List Bool:=[O,I,O,I,O,O,O,I,I,I,I,O,O,O,O,O,O,O,O,O,O,O,O,O,O,O,O,O,O,O,O,O,O,O,O,O,O,O,O,O,O,O,O,O,O,O,O,O,O,O,O,O,O,O,O,O,O,O,O,O,O,O,O,O,O,O,O,O,O,O,O,O,O,O,O,O,O,O,O,O,O,O,O,O,O,O,O,O,O,O,O,O,O,O,O,O,O,O,O,O,O,O,O,O,O,O,O,O,O,O,O,O,O,O,O,O,O,O,O,O,O,O,O,O,O,O,O,O,O,O,O,O,O,O,O,O,O,O,O,O,O,O,O,O,O,O,O,O,O,O,O,O,O,O,O,O,O,O,O,O,O,O,O,O,O,O,O,O,O]
abbrev w07_OrderWaits_x16:List Bool:=[O,I,O,I,O,O,O,I,I,I,O,O,O,O,O,O,O,O,O,O,O,O,O,O,O,O,O,O,O,O,O,O,O,O,O,O,O,O,O,O,O,O,O,O,O,O,O,O,O,O,O,O,O,O,O,O,O,O,O,O,O,O,O,O,O,O,O,O,O,O,O,O,O,O,O,O,O,O,O,O,O,O,O,O,O,O,O,O,O,O,O,O,O,O,O,O,O,O,O,O,O,O,O,O,O,O,O,O,O,O,O,O,O,O,O,O,O,O,O,O,O,O,O,O,O,O,O,O,O,O,O,O,O,O,O,O,O,O,O,O,O,O,O,O,O,O,O,O,O,O,O,O,O,O,O,O,O,O,O,O,O,O,O,O,O,O,O,O,O]
abbrev w07_OrderWaits_p17:List AG:=[o 43 (.mv (.t 10)),o 44 (.ibin .add (.t 43) (.c (.int .i64 1))),o 10 (.mv (.t 44))]
abbrev w07_OrderWaits_p18:List AG:=[o 104 (.mv (.t 9)),o 105 (.off 0 (.t 11)),o 106 (.load false 1 (.t 105)),o 107 (.lit 1 [(.str [])] [(0,(.t 106))]),o 108 (.append 1 t_string 16 (.t 104) (.t 107)),o 9 (.mv (.t 108))]
abbrev w07_OrderWaits_p19:List AG:=[o 2 (.mv (.c (.bool false)))]
abbrev w07_OrderWaits_p20:ACode:=(.seq (.reg w07_OrderWaits_p19) .ret)
abbrev w07_OrderWaits_p21:List AG:=[o 100 (.mv (.t 9)),o 101 (.off 0 (.t 11)),o 102 (.load false 1 (.t 101)),o 103 (.call (.f n_r01_Has) [(.t 100),(.t 102)])]
abbrev w07_OrderWaits_m22:List Bool:=[O,I,O,I,O,O,O,I,I,I,I,I,I,O,O,O,O,O,O,O,O,O,O,O,O,O,O,O,O,O,O,O,O,O,O,O,O,O,O,O,O,O,O,O,O,O,O,O,O,O,O,O,O,O,O,O,O,O,O,O,O,O,O,O,O,O,O,O,O,O,O,O,O,O,O,O,O,O,O,O,O,O,O,O,O,O,O,O,O,O,O,O,O,O,O,O,O,O,O,O,O,O,O,O,O,O,O,O,O,O,O,O,O,O,O,O,O,O,O,O,O,O,O,O,O,O,O,O,O,O,O,O,O,O,O,O,O,O,O,O,O,O,O,O,O,O,O,O,O,O,O,O,O,O,O,O,O,O,O,O,O,O,O,O,O,O,O,O,O]
abbrev w07_OrderWaits_x22:List Bool:=[O,I,O,I,O,O,O,I,I,I,I,I,O,O,O,O,O,O,O,O,O,O,O,O,O,O,O,O,O,O,O,O,O,O,O,O,O,O,O,O,O,O,O,O,O,O,O,O,O,O,O,O,O,O,O,O,O,O,O,O,O,O,O,O,O,O,O,O,O,O,O,O,O,O,O,O,O,O,O,O,O,O,O,O,O,O,O,O,O,O,O,O,O,O,O,O,O,O,O,O,O,O,O,O,O,O,O,O,O,O,O,O,O,O,O,O,O,O,O,O,O,O,O,O,O,O,O,O,O,O,O,O,O,O,O,O,O,O,O,O,O,O,O,O,O,O,O,O,O,O,O,O,O,O,O,O,O,O,O,O,O,O,O,O,O,O,O,O,O]
abbrev w07_OrderWaits_p23:List AG:=[o 73 (.mv (.t 12)),o 74 (.ibin .add (.t 73) (.c (.int .i64 1))),o 12 (.mv (.t 74))]
abbrev w07_OrderWaits_p24:List AG:=[o 2 (.mv (.c (.bool false)))]
abbrev w07_OrderWaits_p25:ACode:=(.seq (.reg w07_OrderWaits_p24) .ret)
abbrev w07_OrderWaits_p26:List AG:=[o 75 (.load true 4 (.t 1)),o 76 (.off 2 (.t 11)),o 77 (.load false 1 (.t 76)),o 78 (.mv (.t 12)),o 79 (.ixAddr 1 (.t 77) (.t 78)),o 80 (.load false 1 (.t 79)),o 81 (.call (.f n_net_Place) [(.t 75),(.t 80)]),o 82 (.off 0 (.t 1)),o 83 (.load false 1 (.t 82)),o 84 (.len (.t 83)),o 85 (.off 2 (.t 1)),o 86 (.load false 1 (.t 85)),o 87 (.len (.t 86)),o 88 (.ibin .add (.t 84) (.t 87)),o 89 (.cmp .geq (.sc .int) (.t 81) (.t 88)),o 90 (.mv (.t 89)),oy 91 90 (.mv (.t 9)),oy 92 90 (.off 2 (.t 11)),oy 93 90 (.load false 1 (.t 92)),oy 94 90 (.mv (.t 12)),oy 95 90 (.ixAddr 1 (.t 93) (.t 94)),oy 96 90 (.load false 1 (.t 95)),oy 97 90 (.call (.f n_r01_Has) [(.t 91),(.t 96)]),oy 98 90 (.not (.t 97)),o 99 (.pick (.t 90) (.t 98) (.c (.bool false)))]
abbrev w07_OrderWaits_p27:ACode:=(.seq (.dreg [O,O,O,O,O,O,O,O,I,O,O,I,O,O,O,O,O,O,O,O,O,O,O,O,O] [7,7,7,7,7,7,23,23,23,23,23,23,23,23,23,23,23,23,23,23,23,23,26,26,26] w07_OrderWaits_p26) (.cond (.t 99) w07_OrderWaits_p25 .skip))
abbrev w07_OrderWaits_p28:List AG:=[o 68 (.mv (.t 12)),o 69 (.off 2 (.t 11)),o 70 (.load false 1 (.t 69)),o 71 (.len (.t 70)),o 72 (.cmp .lss (.sc .int) (.t 68) (.t 71))]
abbrev w07_OrderWaits_b22:ACode:=(.seq (.seq (.reg w07_OrderWaits_p28) (.cond (.t 72) .skip (.exit 2))) (.seq (.block 3 [] w07_OrderWaits_p27) (.reg w07_OrderWaits_p23)))
abbrev w07_OrderWaits_p29:List AG:=[o 12 (.mv (.c (.int .i64 0)))]
abbrev w07_OrderWaits_p30:List AG:=[o 60 (.off 3 (.t 1)),o 61 (.load false 1 (.t 60)),o 62 (.mv (.t 7)),o 63 (.mv (.t 10)),o 64 (.ixAddr 1 (.t 62) (.t 63)),o 65 (.load false 1 (.t 64)),o 66 (.ixAddr 5 (.t 61) (.t 65)),o 67 (.load true 5 (.t 66)),o 11 (.alloc [(.str []),(.int .i64 0),(.own 1 t_string []),(.own 1 t_string []),(.bool false)]),q (.store 5 (.t 11) (.t 67))]
abbrev w07_OrderWaits_p31:List AG:=[o 2 (.mv (.c (.bool false)))]
abbrev w07_OrderWaits_p32:ACode:=(.seq (.reg w07_OrderWaits_p31) .ret)
abbrev w07_OrderWaits_p33:List AG:=[o 45 (.mv (.t 7)),o 46 (.mv (.t 10)),o 47 (.ixAddr 1 (.t 45) (.t 46)),o 48 (.load false 1 (.t 47)),o 49 (.cmp .lss (.sc .int) (.t 48) (.c (.int .i64 0))),o 50 (.mv (.t 49)),on 51 50 (.mv (.t 7)),on 52 50 (.mv (.t 10)),on 53 50 (.ixAddr 1 (.t 51) (.t 52)),on 54 50 (.load false 1 (.t 53)),on 55 50 (.off 3 (.t 1)),on 56 50 (.load false 1 (.t 55)),on 57 50 (.len (.t 56)),on 58 50 (.cmp .geq (.sc .int) (.t 54) (.t 57)),o 59 (.pick (.t 50) (.c (.bool true)) (.t 58))]
abbrev w07_OrderWaits_p34:ACode:=(.seq (.seq (.dreg [O,O,O,O,O,O,O,O,O,O,O,O,O,O,O] [16,16,16,16,16,16,16,16,16,16,16,16,16,16,16] w07_OrderWaits_p33) (.cond (.t 59) w07_OrderWaits_p32 .skip)) (.seq (.dreg [O,I,O,O,O,I,O,I,O,O] [10,10,10,10,10,10,10,10,10,11] w07_OrderWaits_p30) (.seq (.seq (.reg w07_OrderWaits_p29) (.block 2 w07_OrderWaits_x22 (.loop w07_OrderWaits_m22 w07_OrderWaits_b22))) (.seq (.seq (.reg w07_OrderWaits_p21) (.cond (.t 103) w07_OrderWaits_p20 .skip)) (.reg w07_OrderWaits_p18)))))
abbrev w07_OrderWaits_p35:List AG:=[o 39 (.mv (.t 10)),o 40 (.mv (.t 7)),o 41 (.len (.t 40)),o 42 (.cmp .lss (.sc .int) (.t 39) (.t 41))]
abbrev w07_OrderWaits_b16:ACode:=(.seq (.seq (.reg w07_OrderWaits_p35) (.cond (.t 42) .skip (.exit 0))) (.seq (.block 1 [] w07_OrderWaits_p34) (.reg w07_OrderWaits_p17)))
abbrev w07_OrderWaits_p36:List AG:=[o 10 (.mv (.c (.int .i64 0)))]
abbrev w07_OrderWaits_p37:List AG:=[o 9 (.nilrow 1 t_string)]
abbrev w07_OrderWaits_p38:List AG:=[o 35 (.load true 4 (.t 1)),o 36 (.call (.f n_order_Sort) [(.t 35)]),o 34 (.mv (.t 36)),o 37 (.extract (.t 34) 0),o 38 (.extract (.t 34) 1),o 7 (.mv (.t 37)),o 8 (.mv (.t 38))]
abbrev w07_OrderWaits_p39:List AG:=[o 33 (.mv (.t 3)),o 2 (.mv (.t 33))]
abbrev w07_OrderWaits_p40:ACode:=(.seq (.reg w07_OrderWaits_p39) .ret)
abbrev w07_OrderWaits_p41:List AG:=[o 27 (.mv (.t 4)),o 28 (.not (.t 27)),o 29 (.mv (.t 28)),on 30 29 (.mv (.t 5)),on 31 29 (.cmp .neq (.sc .int) (.t 30) (.c (.int .i64 0))),o 32 (.pick (.t 29) (.c (.bool true)) (.t 31))]
abbrev w07_OrderWaits_p42:List AG:=[o 23 (.load true 4 (.t 1)),o 24 (.call (.f n_net_Check) [(.t 23)]),o 22 (.mv (.t 24)),o 25 (.extract (.t 22) 0),o 26 (.extract (.t 22) 1),o 5 (.mv (.t 25)),o 6 (.mv (.t 26))]
abbrev w07_OrderWaits_p43:List AG:=[o 20 (.load true 4 (.t 1)),o 21 (.call (.f n_w06_Few) [(.t 20)]),o 4 (.mv (.t 21))]
abbrev w07_OrderWaits_p44:List AG:=[o 2 (.mv (.c (.bool false)))]
abbrev w07_OrderWaits_p45:ACode:=(.seq (.reg w07_OrderWaits_p44) .ret)
abbrev w07_OrderWaits_p46:List AG:=[o 18 (.mv (.t 3)),o 19 (.not (.t 18))]
abbrev w07_OrderWaits_p47:List AG:=[o 17 (.call (.f n_w07_works) []),o 3 (.mv (.t 17))]
abbrev w07_OrderWaits_p48:List AG:=[o 1 (.box 4 (.t 0)),o 2 (.mv (.c (.bool false)))]
abbrev w07_OrderWaits:AFun:=⟨(.seq (.reg w07_OrderWaits_p48) (.seq (.reg w07_OrderWaits_p47) (.seq (.seq (.reg w07_OrderWaits_p46) (.cond (.t 19) w07_OrderWaits_p45 .skip)) (.seq (.reg w07_OrderWaits_p43) (.seq (.reg w07_OrderWaits_p42) (.seq (.seq (.reg w07_OrderWaits_p41) (.cond (.t 32) w07_OrderWaits_p40 .skip)) (.seq (.reg w07_OrderWaits_p38) (.seq (.reg w07_OrderWaits_p37) (.seq (.seq (.reg w07_OrderWaits_p36) (.block 0 w07_OrderWaits_x16 (.loop w07_OrderWaits_m16 w07_OrderWaits_b16))) (.seq (.seq (.reg w07_OrderWaits_p15) (.block 4 w07_OrderWaits_x1 (.loop w07_OrderWaits_m1 w07_OrderWaits_b1))) (.seq (.reg w07_OrderWaits_p0) .ret))))))))))),169,[.tmp 2]⟩
abbrev w07_OrderWaits_k6:List It:=[.code (.seq (.dreg [O,O,O,O,O,O,I,O,O,O,O,O,O,O,O,O,O,O,O] [4,4,4,8,8,8,8,14,14,14,14,14,14,20,20,20,20,20,20] w07_OrderWaits_p5) (.cond (.t 156) w07_OrderWaits_p4 .skip)),.inBlock 5 [],.code (.reg w07_OrderWaits_p2),.inLoop w07_OrderWaits_m1 w07_OrderWaits_b1,.inBlock 4 w07_OrderWaits_x1,.code (.seq (.reg w07_OrderWaits_p0) .ret)]
abbrev w07_OrderWaits_L6 (x1 x3 x7 x8 x9 x13 x14 x15 x16:AV) (h:List Ob) (e:Cx:=cx):Cfg:=atC n_w07_OrderWaits (.code w07_OrderWaits_b6::.inLoop w07_OrderWaits_m6 w07_OrderWaits_b6::.inBlock 6 w07_OrderWaits_x6::w07_OrderWaits_k6) [U,x1,U,x3,U,U,U,x7,x8,x9,U,U,U,x13,x14,x15,x16,U,U,U,U,U,U,U,U,U,U,U,U,U,U,U,U,U,U,U,U,U,U,U,U,U,U,U,U,U,U,U,U,U,U,U,U,U,U,U,U,U,U,U,U,U,U,U,U,U,U,U,U,U,U,U,U,U,U,U,U,U,U,U,U,U,U,U,U,U,U,U,U,U,U,U,U,U,U,U,U,U,U,U,U,U,U,U,U,U,U,U,U,U,U,U,U,U,U,U,U,U,U,U,U,U,U,U,U,U,U,U,U,U,U,U,U,U,U,U,U,U,U,U,U,U,U,U,U,U,U,U,U,U,U,U,U,U,U,U,U,U,U,U,U,U,U,U,U,U,U,U,U] h e
abbrev w07_OrderWaits_E6 (x1 x3 x7 x8 x9 x13 x14 x15:AV) (h:List Ob) (e:Cx:=cx):Cfg:=atC n_w07_OrderWaits w07_OrderWaits_k6 [U,x1,U,x3,U,U,U,x7,x8,x9,U,U,U,x13,x14,x15,U,U,U,U,U,U,U,U,U,U,U,U,U,U,U,U,U,U,U,U,U,U,U,U,U,U,U,U,U,U,U,U,U,U,U,U,U,U,U,U,U,U,U,U,U,U,U,U,U,U,U,U,U,U,U,U,U,U,U,U,U,U,U,U,U,U,U,U,U,U,U,U,U,U,U,U,U,U,U,U,U,U,U,U,U,U,U,U,U,U,U,U,U,U,U,U,U,U,U,U,U,U,U,U,U,U,U,U,U,U,U,U,U,U,U,U,U,U,U,U,U,U,U,U,U,U,U,U,U,U,U,U,U,U,U,U,U,U,U,U,U,U,U,U,U,U,U,U,U,U,U,U,U] h e
abbrev w07_OrderWaits_k1:List It:=[.code (.seq (.reg w07_OrderWaits_p0) .ret)]
abbrev w07_OrderWaits_L1 (x1 x3 x7 x8 x9 x13:AV) (h:List Ob) (e:Cx:=cx):Cfg:=atC n_w07_OrderWaits (.code w07_OrderWaits_b1::.inLoop w07_OrderWaits_m1 w07_OrderWaits_b1::.inBlock 4 w07_OrderWaits_x1::w07_OrderWaits_k1) [U,x1,U,x3,U,U,U,x7,x8,x9,U,U,U,x13,U,U,U,U,U,U,U,U,U,U,U,U,U,U,U,U,U,U,U,U,U,U,U,U,U,U,U,U,U,U,U,U,U,U,U,U,U,U,U,U,U,U,U,U,U,U,U,U,U,U,U,U,U,U,U,U,U,U,U,U,U,U,U,U,U,U,U,U,U,U,U,U,U,U,U,U,U,U,U,U,U,U,U,U,U,U,U,U,U,U,U,U,U,U,U,U,U,U,U,U,U,U,U,U,U,U,U,U,U,U,U,U,U,U,U,U,U,U,U,U,U,U,U,U,U,U,U,U,U,U,U,U,U,U,U,U,U,U,U,U,U,U,U,U,U,U,U,U,U,U,U,U,U,U,U] h e
abbrev w07_OrderWaits_k22:List It:=[.code (.seq (.seq (.reg w07_OrderWaits_p21) (.cond (.t 103) w07_OrderWaits_p20 .skip)) (.reg w07_OrderWaits_p18)),.inBlock 1 [],.code (.reg w07_OrderWaits_p17),.inLoop w07_OrderWaits_m16 w07_OrderWaits_b16,.inBlock 0 w07_OrderWaits_x16,.code (.seq (.seq (.reg w07_OrderWaits_p15) (.block 4 w07_OrderWaits_x1 (.loop w07_OrderWaits_m1 w07_OrderWaits_b1))) (.seq (.reg w07_OrderWaits_p0) .ret))]
abbrev w07_OrderWaits_L22 (x1 x3 x7 x8 x9 x10 x11 x12:AV) (h:List Ob) (e:Cx:=cx):Cfg:=atC n_w07_OrderWaits (.code w07_OrderWaits_b22::.inLoop w07_OrderWaits_m22 w07_OrderWaits_b22::.inBlock 2 w07_OrderWaits_x22::w07_OrderWaits_k22) [U,x1,U,x3,U,U,U,x7,x8,x9,x10,x11,x12,U,U,U,U,U,U,U,U,U,U,U,U,U,U,U,U,U,U,U,U,U,U,U,U,U,U,U,U,U,U,U,U,U,U,U,U,U,U,U,U,U,U,U,U,U,U,U,U,U,U,U,U,U,U,U,U,U,U,U,U,U,U,U,U,U,U,U,U,U,U,U,U,U,U,U,U,U,U,U,U,U,U,U,U,U,U,U,U,U,U,U,U,U,U,U,U,U,U,U,U,U,U,U,U,U,U,U,U,U,U,U,U,U,U,U,U,U,U,U,U,U,U,U,U,U,U,U,U,U,U,U,U,U,U,U,U,U,U,U,U,U,U,U,U,U,U,U,U,U,U,U,U,U,U,U,U] h e
abbrev w07_OrderWaits_E22 (x1 x3 x7 x8 x9 x10 x11:AV) (h:List Ob) (e:Cx:=cx):Cfg:=atC n_w07_OrderWaits w07_OrderWaits_k22 [U,x1,U,x3,U,U,U,x7,x8,x9,x10,x11,U,U,U,U,U,U,U,U,U,U,U,U,U,U,U,U,U,U,U,U,U,U,U,U,U,U,U,U,U,U,U,U,U,U,U,U,U,U,U,U,U,U,U,U,U,U,U,U,U,U,U,U,U,U,U,U,U,U,U,U,U,U,U,U,U,U,U,U,U,U,U,U,U,U,U,U,U,U,U,U,U,U,U,U,U,U,U,U,U,U,U,U,U,U,U,U,U,U,U,U,U,U,U,U,U,U,U,U,U,U,U,U,U,U,U,U,U,U,U,U,U,U,U,U,U,U,U,U,U,U,U,U,U,U,U,U,U,U,U,U,U,U,U,U,U,U,U,U,U,U,U,U,U,U,U,U,U] h e
abbrev w07_OrderWaits_k16:List It:=[.code (.seq (.seq (.reg w07_OrderWaits_p15) (.block 4 w07_OrderWaits_x1 (.loop w07_OrderWaits_m1 w07_OrderWaits_b1))) (.seq (.reg w07_OrderWaits_p0) .ret))]
abbrev w07_OrderWaits_L16 (x1 x3 x7 x8 x9 x10:AV) (h:List Ob) (e:Cx:=cx):Cfg:=atC n_w07_OrderWaits (.code w07_OrderWaits_b16::.inLoop w07_OrderWaits_m16 w07_OrderWaits_b16::.inBlock 0 w07_OrderWaits_x16::w07_OrderWaits_k16) [U,x1,U,x3,U,U,U,x7,x8,x9,x10,U,U,U,U,U,U,U,U,U,U,U,U,U,U,U,U,U,U,U,U,U,U,U,U,U,U,U,U,U,U,U,U,U,U,U,U,U,U,U,U,U,U,U,U,U,U,U,U,U,U,U,U,U,U,U,U,U,U,U,U,U,U,U,U,U,U,U,U,U,U,U,U,U,U,U,U,U,U,U,U,U,U,U,U,U,U,U,U,U,U,U,U,U,U,U,U,U,U,U,U,U,U,U,U,U,U,U,U,U,U,U,U,U,U,U,U,U,U,U,U,U,U,U,U,U,U,U,U,U,U,U,U,U,U,U,U,U,U,U,U,U,U,U,U,U,U,U,U,U,U,U,U,U,U,U,U,U,U] h e
@[simp] theorem c_w07_OrderWaits:cfun Tryd.prog n_w07_OrderWaits=some w07_OrderWaits:=by kernel_rfl
@[simp] theorem e_w07_OrderWaits:hasBody Tryd.prog n_w07_OrderWaits=true:=by kernel_rfl
abbrev w07_OrderLevels_p0:List AG:=[o 96 (.mv (.t 3)),o 2 (.mv (.t 96))]
abbrev w07_OrderLevels_m1:List Bool:=[O,I,O,I,O,O,O,I,I,I,O,O,O,O,O,O,O,O,O,O,O,O,O,O,O,O,O,O,O,O,O,O,O,O,O,O,O,O,O,O,O,O,O,O,O,O,O,O,O,O,O,O,O,O,O,O,O,O,O,O,O,O,O,O,O,O,O,O,O,O,O,O,O,O,O,O,O,O,O,O,O,O,O,O,O,O,O,O,O,O,O,O,O,O,O,O,O]
abbrev w07_OrderLevels_x1:List Bool:=[O,O,O,I,O,O,O,O,O,O,O,O,O,O,O,O,O,O,O,O,O,O,O,O,O,O,O,O,O,O,O,O,O,O,O,O,O,O,O,O,O,O,O,O,O,O,O,O,O,O,O,O,O,O,O,O,O,O,O,O,O,O,O,O,O,O,O,O,O,O,O,O,O,O,O,O,O,O,O,O,O,O,O,O,O,O,O,O,O,O,O,O,O,O,O,O,O]
abbrev w07_OrderLevels_p2:List AG:=[o 49 (.mv (.t 9)),o 50 (.ibin .add (.t 49) (.c (.int .i64 1))),o 9 (.mv (.t 50))]
abbrev w07_OrderLevels_p3:List AG:=[o 2 (.mv (.c (.bool false)))]
abbrev w07_OrderLevels_p4:ACode:=(.seq (.reg w07_OrderLevels_p3) .ret)
abbrev w07_OrderLevels_p5:List AG:=[o 90 (.mv (.t 7)),o 91 (.mv (.t 9)),o 92 (.ixAddr 1 (.t 90) (.t 91)),o 93 (.load false 1 (.t 92)),o 94 (.mv (.t 10)),o 95 (.cmp .neq (.sc .int) (.t 93) (.t 94))]
abbrev w07_OrderLevels_m6:List Bool:=[O,I,O,I,O,O,O,I,I,I,I,I,O,O,O,O,O,O,O,O,O,O,O,O,O,O,O,O,O,O,O,O,O,O,O,O,O,O,O,O,O,O,O,O,O,O,O,O,O,O,O,O,O,O,O,O,O,O,O,O,O,O,O,O,O,O,O,O,O,O,O,O,O,O,O,O,O,O,O,O,O,O,O,O,O,O,O,O,O,O,O,O,O,O,O,O,O]
abbrev w07_OrderLevels_x6:List Bool:=[O,I,O,I,O,O,O,I,I,I,I,O,O,O,O,O,O,O,O,O,O,O,O,O,O,O,O,O,O,O,O,O,O,O,O,O,O,O,O,O,O,O,O,O,O,O,O,O,O,O,O,O,O,O,O,O,O,O,O,O,O,O,O,O,O,O,O,O,O,O,O,O,O,O,O,O,O,O,O,O,O,O,O,O,O,O,O,O,O,O,O,O,O,O,O,O,O]
abbrev w07_OrderLevels_p7:List AG:=[o 60 (.mv (.t 11)),o 61 (.ibin .add (.t 60) (.c (.int .i64 1))),o 11 (.mv (.t 61))]
abbrev w07_OrderLevels_p8:List AG:=[o 83 (.mv (.t 10)),o 84 (.mv (.t 7)),o 85 (.mv (.t 12)),o 86 (.ixAddr 1 (.t 84) (.t 85)),o 87 (.load false 1 (.t 86)),o 88 (.ibin .add (.t 87) (.c (.int .i64 1))),o 89 (.max [(.t 83),(.t 88)]),o 10 (.mv (.t 89))]
abbrev w07_OrderLevels_p9:List AG:=[o 75 (.mv (.t 12)),o 76 (.cmp .geq (.sc .int) (.t 75) (.c (.int .i64 0))),o 77 (.mv (.t 76)),oy 78 77 (.mv (.t 12)),oy 79 77 (.mv (.t 7)),oy 80 77 (.len (.t 79)),oy 81 77 (.cmp .lss (.sc .int) (.t 78) (.t 80)),o 82 (.pick (.t 77) (.t 81) (.c (.bool false)))]
abbrev w07_OrderLevels_p10:List AG:=[o 62 (.load true 4 (.t 1)),o 63 (.off 3 (.t 1)),o 64 (.load false 1 (.t 63)),o 65 (.mv (.t 9)),o 66 (.ixAddr 5 (.t 64) (.t 65)),o 67 (.off 2 (.t 66)),o 68 (.load false 1 (.t 67)),o 69 (.mv (.t 11)),o 70 (.ixAddr 1 (.t 68) (.t 69)),o 71 (.load false 1 (.t 70)),o 72 (.call (.f n_net_Place) [(.t 62),(.t 71)]),o 73 (.mv (.t 8)),o 74 (.ibin .sub (.t 72) (.t 73)),o 12 (.mv (.t 74))]
abbrev w07_OrderLevels_p11:ACode:=(.seq (.dreg [O,O,O,O,O,O,O,O,O,O,O,O,O,O] [11,11,11,11,11,11,11,11,11,11,15,15,15,15] w07_OrderLevels_p10) (.seq (.reg w07_OrderLevels_p9) (.cond (.t 82) (.reg w07_OrderLevels_p8) .skip)))
abbrev w07_OrderLevels_p12:List AG:=[o 51 (.mv (.t 11)),o 52 (.off 3 (.t 1)),o 53 (.load false 1 (.t 52)),o 54 (.mv (.t 9)),o 55 (.ixAddr 5 (.t 53) (.t 54)),o 56 (.off 2 (.t 55)),o 57 (.load false 1 (.t 56)),o 58 (.len (.t 57)),o 59 (.cmp .lss (.sc .int) (.t 51) (.t 58))]
abbrev w07_OrderLevels_b6:ACode:=(.seq (.seq (.reg w07_OrderLevels_p12) (.cond (.t 59) .skip (.exit 2))) (.seq (.block 3 [] w07_OrderLevels_p11) (.reg w07_OrderLevels_p7)))
abbrev w07_OrderLevels_p13:List AG:=[o 11 (.mv (.c (.int .i64 0)))]
abbrev w07_OrderLevels_p14:List AG:=[o 10 (.mv (.c (.int .i64 0)))]
abbrev w07_OrderLevels_p15:ACode:=(.seq (.reg w07_OrderLevels_p14) (.seq (.seq (.reg w07_OrderLevels_p13) (.block 2 w07_OrderLevels_x6 (.loop w07_OrderLevels_m6 w07_OrderLevels_b6))) (.seq (.reg w07_OrderLevels_p5) (.cond (.t 95) w07_OrderLevels_p4 .skip))))
abbrev w07_OrderLevels_p16:List AG:=[o 45 (.mv (.t 9)),o 46 (.mv (.t 7)),o 47 (.len (.t 46)),o 48 (.cmp .lss (.sc .int) (.t 45) (.t 47))]
abbrev w07_OrderLevels_b1:ACode:=(.seq (.seq (.reg w07_OrderLevels_p16) (.cond (.t 48) .skip (.exit 0))) (.seq (.block 1 [] w07_OrderLevels_p15) (.reg w07_OrderLevels_p2)))
abbrev w07_OrderLevels_p17:List AG:=[o 9 (.mv (.c (.int .i64 0)))]
abbrev w07_OrderLevels_p18:List AG:=[o 38 (.off 0 (.t 1)),o 39 (.load false 1 (.t 38)),o 40 (.len (.t 39)),o 41 (.off 2 (.t 1)),o 42 (.load false 1 (.t 41)),o 43 (.len (.t 42)),o 44 (.ibin .add (.t 40) (.t 43)),o 8 (.mv (.t 44))]
abbrev w07_OrderLevels_p19:List AG:=[o 2 (.mv (.c (.bool false)))]
abbrev w07_OrderLevels_p20:ACode:=(.seq (.reg w07_OrderLevels_p19) .ret)
abbrev w07_OrderLevels_p21:List AG:=[o 32 (.mv (.t 7)),o 33 (.len (.t 32)),o 34 (.off 3 (.t 1)),o 35 (.load false 1 (.t 34)),o 36 (.len (.t 35)),o 37 (.cmp .neq (.sc .int) (.t 33) (.t 36))]
abbrev w07_OrderLevels_p22:List AG:=[o 30 (.load true 4 (.t 1)),o 31 (.call (.f n_order_Levels) [(.t 30)]),o 7 (.mv (.t 31))]
abbrev w07_OrderLevels_p23:List AG:=[o 29 (.mv (.t 3)),o 2 (.mv (.t 29))]
abbrev w07_OrderLevels_p24:ACode:=(.seq (.reg w07_OrderLevels_p23) .ret)
abbrev w07_OrderLevels_p25:List AG:=[o 23 (.mv (.t 4)),o 24 (.not (.t 23)),o 25 (.mv (.t 24)),on 26 25 (.mv (.t 5)),on 27 25 (.cmp .neq (.sc .int) (.t 26) (.c (.int .i64 0))),o 28 (.pick (.t 25) (.c (.bool true)) (.t 27))]
abbrev w07_OrderLevels_p26:List AG:=[o 19 (.load true 4 (.t 1)),o 20 (.call (.f n_order_Check) [(.t 19)]),o 18 (.mv (.t 20)),o 21 (.extract (.t 18) 0),o 22 (.extract (.t 18) 1),o 5 (.mv (.t 21)),o 6 (.mv (.t 22))]
abbrev w07_OrderLevels_p27:List AG:=[o 16 (.load true 4 (.t 1)),o 17 (.call (.f n_w06_Few) [(.t 16)]),o 4 (.mv (.t 17))]
abbrev w07_OrderLevels_p28:List AG:=[o 2 (.mv (.c (.bool false)))]
abbrev w07_OrderLevels_p29:ACode:=(.seq (.reg w07_OrderLevels_p28) .ret)
abbrev w07_OrderLevels_p30:List AG:=[o 14 (.mv (.t 3)),o 15 (.not (.t 14))]
abbrev w07_OrderLevels_p31:List AG:=[o 13 (.call (.f n_w07_works) []),o 3 (.mv (.t 13))]
abbrev w07_OrderLevels_p32:List AG:=[o 1 (.box 4 (.t 0)),o 2 (.mv (.c (.bool false)))]
abbrev w07_OrderLevels:AFun:=⟨(.seq (.reg w07_OrderLevels_p32) (.seq (.reg w07_OrderLevels_p31) (.seq (.seq (.reg w07_OrderLevels_p30) (.cond (.t 15) w07_OrderLevels_p29 .skip)) (.seq (.reg w07_OrderLevels_p27) (.seq (.reg w07_OrderLevels_p26) (.seq (.seq (.reg w07_OrderLevels_p25) (.cond (.t 28) w07_OrderLevels_p24 .skip)) (.seq (.reg w07_OrderLevels_p22) (.seq (.seq (.reg w07_OrderLevels_p21) (.cond (.t 37) w07_OrderLevels_p20 .skip)) (.seq (.reg w07_OrderLevels_p18) (.seq (.seq (.reg w07_OrderLevels_p17) (.block 0 w07_OrderLevels_x1 (.loop w07_OrderLevels_m1 w07_OrderLevels_b1))) (.seq (.reg w07_OrderLevels_p0) .ret))))))))))),97,[.tmp 2]⟩
abbrev w07_OrderLevels_k6:List It:=[.code (.seq (.reg w07_OrderLevels_p5) (.cond (.t 95) w07_OrderLevels_p4 .skip)),.inBlock 1 [],.code (.reg w07_OrderLevels_p2),.inLoop w07_OrderLevels_m1 w07_OrderLevels_b1,.inBlock 0 w07_OrderLevels_x1,.code (.seq (.reg w07_OrderLevels_p0) .ret)]
abbrev w07_OrderLevels_L6 (x1 x3 x7 x8 x9 x10 x11:AV) (h:List Ob) (e:Cx:=cx):Cfg:=atC n_w07_OrderLevels (.code w07_OrderLevels_b6::.inLoop w07_OrderLevels_m6 w07_OrderLevels_b6::.inBlock 2 w07_OrderLevels_x6::w07_OrderLevels_k6) [U,x1,U,x3,U,U,U,x7,x8,x9,x10,x11,U,U,U,U,U,U,U,U,U,U,U,U,U,U,U,U,U,U,U,U,U,U,U,U,U,U,U,U,U,U,U,U,U,U,U,U,U,U,U,U,U,U,U,U,U,U,U,U,U,U,U,U,U,U,U,U,U,U,U,U,U,U,U,U,U,U,U,U,U,U,U,U,U,U,U,U,U,U,U,U,U,U,U,U,U] h e
abbrev w07_OrderLevels_E6 (x1 x3 x7 x8 x9 x10:AV) (h:List Ob) (e:Cx:=cx):Cfg:=atC n_w07_OrderLevels w07_OrderLevels_k6 [U,x1,U,x3,U,U,U,x7,x8,x9,x10,U,U,U,U,U,U,U,U,U,U,U,U,U,U,U,U,U,U,U,U,U,U,U,U,U,U,U,U,U,U,U,U,U,U,U,U,U,U,U,U,U,U,U,U,U,U,U,U,U,U,U,U,U,U,U,U,U,U,U,U,U,U,U,U,U,U,U,U,U,U,U,U,U,U,U,U,U,U,U,U,U,U,U,U,U,U] h e
abbrev w07_OrderLevels_k1:List It:=[.code (.seq (.reg w07_OrderLevels_p0) .ret)]
abbrev w07_OrderLevels_L1 (x1 x3 x7 x8 x9:AV) (h:List Ob) (e:Cx:=cx):Cfg:=atC n_w07_OrderLevels (.code w07_OrderLevels_b1::.inLoop w07_OrderLevels_m1 w07_OrderLevels_b1::.inBlock 0 w07_OrderLevels_x1::w07_OrderLevels_k1) [U,x1,U,x3,U,U,U,x7,x8,x9,U,U,U,U,U,U,U,U,U,U,U,U,U,U,U,U,U,U,U,U,U,U,U,U,U,U,U,U,U,U,U,U,U,U,U,U,U,U,U,U,U,U,U,U,U,U,U,U,U,U,U,U,U,U,U,U,U,U,U,U,U,U,U,U,U,U,U,U,U,U,U,U,U,U,U,U,U,U,U,U,U,U,U,U,U,U,U] h e
@[simp] theorem c_w07_OrderLevels:cfun Tryd.prog n_w07_OrderLevels=some w07_OrderLevels:=by kernel_rfl
@[simp] theorem e_w07_OrderLevels:hasBody Tryd.prog n_w07_OrderLevels=true:=by kernel_rfl
abbrev w07_works_p0:List AG:=[o 46 (.mv (.t 2)),o 47 (.lit 1 [(.int .i64 0),(.int .i64 0)] [(0,(.c (.int .i64 1))),(1,(.c (.int .i64 0)))]),o 48 (.call (.f n_r01_Ints) [(.t 46),(.t 47)]),o 49 (.mv (.t 48)),oy 50 49 (.mv (.t 3)),oy 51 49 (.len (.t 50)),oy 52 49 (.cmp .eql (.sc .int) (.t 51) (.c (.int .i64 0))),o 53 (.pick (.t 49) (.t 52) (.c (.bool false))),o 54 (.mv (.t 53)),oy 55 54 (.mv (.t 5)),oy 56 54 (.cmp .eql (.sc .int) (.t 55) (.c (.int .i64 7))),o 57 (.pick (.t 54) (.t 56) (.c (.bool false))),o 58 (.mv (.t 57)),oy 59 58 (.mv (.t 6)),oy 60 58 (.cmp .eql (.sc .str) (.t 59) (.c (.str [122]))),o 61 (.pick (.t 58) (.t 60) (.c (.bool false))),o 62 (.mv (.t 61)),oy 63 62 (.mv (.t 7)),oy 64 62 (.cmp .eql (.sc .int) (.t 63) (.c (.int .i64 0))),o 65 (.pick (.t 62) (.t 64) (.c (.bool false))),o 66 (.mv (.t 65)),oy 67 66 (.mv (.t 8)),oy 68 66 (.cmp .eql (.sc .str) (.t 67) (.c (.str []))),o 69 (.pick (.t 66) (.t 68) (.c (.bool false))),o 70 (.mv (.t 69)),oy 71 70 (.load true 4 (.t 1)),oy 72 70 (.call (.f n_order_Levels) [(.t 71)]),oy 73 70 (.lit 1 [(.int .i64 0),(.int .i64 0)] [(0,(.c (.int .i64 1))),(1,(.c (.int .i64 0)))]),oy 74 70 (.call (.f n_r01_Ints) [(.t 72),(.t 73)]),o 75 (.pick (.t 70) (.t 74) (.c (.bool false))),o 76 (.mv (.t 75)),oy 77 76 (.mv (.t 9)),oy 78 76 (.lit 1 [(.str []),(.str [])] [(0,(.c (.str [97]))),(1,(.c (.str [121])))]),oy 79 76 (.call (.f n_r01_Texts) [(.t 77),(.t 78)]),o 80 (.pick (.t 76) (.t 79) (.c (.bool false))),o 81 (.mv (.t 80)),oy 82 81 (.off 3 (.t 10)),oy 83 81 (.load false 1 (.t 82)),oy 84 81 (.len (.t 83)),oy 85 81 (.cmp .eql (.sc .int) (.t 84) (.c (.int .i64 1))),o 86 (.pick (.t 81) (.t 85) (.c (.bool false))),o 87 (.mv (.t 86)),oy 88 87 (.off 0 (.t 10)),oy 89 87 (.load false 1 (.t 88)),oy 90 87 (.len (.t 89)),oy 91 87 (.cmp .eql (.sc .int) (.t 90) (.c (.int .i64 1))),o 92 (.pick (.t 87) (.t 91) (.c (.bool false))),o 0 (.mv (.t 92))]
abbrev w07_works_p1:List AG:=[o 44 (.load true 4 (.t 1)),o 45 (.call (.f n_order_Trim) [(.t 44)]),o 10 (.alloc [(.own 1 t_string []),(.own 1 t_string []),(.own 3 t_api_Latch_2 []),(.own 5 t_api_Gate_2 [])]),q (.store 4 (.t 10) (.t 45))]
abbrev w07_works_p2:List AG:=[o 41 (.load true 4 (.t 1)),o 42 (.lit 1 [(.str [])] [(0,(.c (.str [121])))]),o 43 (.call (.f n_order_Cone) [(.t 41),(.t 42)]),o 9 (.mv (.t 43))]
abbrev w07_works_p3:List AG:=[o 37 (.load true 4 (.t 1)),o 38 (.call (.f n_order_Check) [(.t 37)]),o 36 (.mv (.t 38)),o 39 (.extract (.t 36) 0),o 40 (.extract (.t 36) 1),o 7 (.mv (.t 39)),o 8 (.mv (.t 40))]
abbrev w07_works_p4:List AG:=[o 32 (.load true 4 (.t 4)),o 33 (.call (.f n_order_Check) [(.t 32)]),o 31 (.mv (.t 33)),o 34 (.extract (.t 31) 0),o 35 (.extract (.t 31) 1),o 5 (.mv (.t 34)),o 6 (.mv (.t 35))]
abbrev w07_works_p5:List AG:=[o 25 (.lit 1 [(.str [])] [(0,(.c (.str [121])))]),o 26 (.build [(.str []),(.int .i64 0),(.list true 0 []),(.list true 0 []),(.bool false)] [(0,1,(.c (.str [122]))),(1,1,(.c (.int .i64 3))),(2,1,(.t 25))]),o 27 (.lit 1 [(.str [])] [(0,(.c (.str [122])))]),o 28 (.build [(.str []),(.int .i64 0),(.list true 0 []),(.list true 0 []),(.bool false)] [(0,1,(.c (.str [121]))),(1,1,(.c (.int .i64 2))),(2,1,(.t 27))]),o 29 (.lit 5 [(.agg [(.str []),(.int .i64 0),(.list true 0 []),(.list true 0 []),(.bool false)]),(.agg [(.str []),(.int .i64 0),(.list true 0 []),(.list true 0 []),(.bool false)])] [(0,(.t 26)),(1,(.t 28))]),o 30 (.off 3 (.t 4)),q (.store 1 (.t 30) (.t 29))]
abbrev w07_works_p6:List AG:=[o 24 (.load true 4 (.t 1)),o 4 (.alloc [(.own 1 t_string []),(.own 1 t_string []),(.own 3 t_api_Latch_2 []),(.own 5 t_api_Gate_2 [])]),q (.store 4 (.t 4) (.t 24))]
abbrev w07_works_p7:List AG:=[o 20 (.load true 4 (.t 1)),o 21 (.call (.f n_order_Sort) [(.t 20)]),o 19 (.mv (.t 21)),o 22 (.extract (.t 19) 0),o 23 (.extract (.t 19) 1),o 2 (.mv (.t 22)),o 3 (.mv (.t 23))]
abbrev w07_works_p8:List AG:=[o 11 (.lit 1 [(.str [])] [(0,(.c (.str [97])))]),o 12 (.lit 1 [(.str [])] [(0,(.c (.str [121])))]),o 13 (.lit 1 [(.str [])] [(0,(.c (.str [121])))]),o 14 (.build [(.str []),(.int .i64 0),(.list true 0 []),(.list true 0 []),(.bool false)] [(0,1,(.c (.str [122]))),(1,1,(.c (.int .i64 3))),(2,1,(.t 13))]),o 15 (.lit 1 [(.str [])] [(0,(.c (.str [97])))]),o 16 (.build [(.str []),(.int .i64 0),(.list true 0 []),(.list true 0 []),(.bool false)] [(0,1,(.c (.str [121]))),(1,1,(.c (.int .i64 2))),(2,1,(.t 15))]),o 17 (.lit 5 [(.agg [(.str []),(.int .i64 0),(.list true 0 []),(.list true 0 []),(.bool false)]),(.agg [(.str []),(.int .i64 0),(.list true 0 []),(.list true 0 []),(.bool false)])] [(0,(.t 14)),(1,(.t 16))]),o 18 (.build [(.list true 0 []),(.list true 0 []),(.list true 0 []),(.list true 0 [])] [(0,1,(.t 11)),(1,1,(.t 12)),(3,1,(.t 17))]),o 1 (.alloc [(.own 1 t_string []),(.own 1 t_string []),(.own 3 t_api_Latch_2 []),(.own 5 t_api_Gate_2 [])]),q (.store 4 (.t 1) (.t 18))]
abbrev w07_works_p9:List AG:=[o 0 (.mv (.c (.bool false)))]
abbrev w07_works:AFun:=⟨(.seq (.reg w07_works_p9) (.seq (.reg w07_works_p8) (.seq (.reg w07_works_p7) (.seq (.reg w07_works_p6) (.seq (.reg w07_works_p5) (.seq (.reg w07_works_p4) (.seq (.reg w07_works_p3) (.seq (.reg w07_works_p2) (.seq (.reg w07_works_p1) (.seq (.reg w07_works_p0) .ret)))))))))),93,[.tmp 0]⟩
@[simp] theorem c_w07_works:cfun Tryd.prog n_w07_works=some w07_works:=by kernel_rfl
@[simp] theorem e_w07_works:hasBody Tryd.prog n_w07_works=true:=by kernel_rfl
abbrev w07_Little_p0:List AG:=[o 6 (.mv (.t 3)),o 7 (.mv (.t 6)),oy 8 7 (.off 3 (.t 1)),oy 9 7 (.load false 1 (.t 8)),oy 10 7 (.len (.t 9)),oy 11 7 (.cmp .leq (.sc .int) (.t 10) (.c (.int .i64 24))),o 12 (.pick (.t 7) (.t 11) (.c (.bool false))),o 13 (.mv (.t 12)),oy 14 13 (.off 0 (.t 1)),oy 15 13 (.load false 1 (.t 14)),oy 16 13 (.len (.t 15)),oy 17 13 (.cmp .leq (.sc .int) (.t 16) (.c (.int .i64 24))),o 18 (.pick (.t 13) (.t 17) (.c (.bool false))),o 19 (.mv (.t 18)),oy 20 19 (.off 2 (.t 1)),oy 21 19 (.load false 1 (.t 20)),oy 22 19 (.len (.t 21)),oy 23 19 (.cmp .leq (.sc .int) (.t 22) (.c (.int .i64 24))),o 24 (.pick (.t 19) (.t 23) (.c (.bool false))),o 2 (.mv (.t 24))]
abbrev w07_Little_p1:List AG:=[o 4 (.load true 4 (.t 1)),o 5 (.call (.f n_w06_Few) [(.t 4)]),o 3 (.mv (.t 5))]
abbrev w07_Little_p2:List AG:=[o 1 (.box 4 (.t 0)),o 2 (.mv (.c (.bool false)))]
abbrev w07_Little:AFun:=⟨(.seq (.reg w07_Little_p2) (.seq (.reg w07_Little_p1) (.seq (.reg w07_Little_p0) .ret))),25,[.tmp 2]⟩
@[simp] theorem c_w07_Little:cfun Tryd.prog n_w07_Little=some w07_Little:=by kernel_rfl
@[simp] theorem e_w07_Little:hasBody Tryd.prog n_w07_Little=true:=by kernel_rfl
abbrev order_Sort_p0:List AG:=[o 52 (.load false 1 (.t 4)),o 53 (.mv (.t 7)),o 2 (.mv (.t 52)),o 3 (.mv (.t 53))]
abbrev order_Sort_m1:List Bool:=[O,O,O,O,I,I,O,I,O,O,O,O,O,O,O,O,O,O,O,O,O,O,O,O,O,O,O,O,O,O,O,O,I,I,I,O,O,O,O,O,O,O,O,O,O,O,O,O,O,O,O,O,O,O]
abbrev order_Sort_x1:List Bool:=[O,O,O,O,I,O,O,I,O,O,O,O,O,O,O,O,O,O,O,O,O,O,O,O,O,O,O,O,O,O,O,O,O,O,O,O,O,O,O,O,O,O,O,O,O,O,O,O,O,O,O,O,O,O]
abbrev order_Sort_p2:List AG:=[o 51 (.ibin .add (.t 34) (.c (.int .i64 1))),o 34 (.mv (.t 51))]
abbrev order_Sort_p3:List AG:=[o 46 (.mv (.t 7)),o 47 (.off 0 (.t 9)),o 48 (.load false 1 (.t 47)),o 49 (.lit 1 [(.str [])] [(0,(.t 48))]),o 50 (.append 1 t_string 16 (.t 46) (.t 49)),o 7 (.mv (.t 50))]
abbrev order_Sort_p4:List AG:=[o 45 (.mv (.t 11))]
abbrev order_Sort_p5:List AG:=[o 39 (.load false 1 (.t 5)),o 40 (.off 0 (.t 9)),o 41 (.load false 1 (.t 40)),o 42 (.lookup (.sc .str) (.int .i64 0) (.t 39) (.t 41) true),o 38 (.mv (.t 42)),o 43 (.extract (.t 38) 0),o 44 (.extract (.t 38) 1),o 10 (.mv (.t 43)),o 11 (.mv (.t 44))]
abbrev order_Sort_p6:List AG:=[o 36 (.ixAddr 5 (.t 32) (.t 34)),o 37 (.load true 5 (.t 36)),o 9 (.alloc [(.str []),(.int .i64 0),(.own 1 t_string []),(.own 1 t_string []),(.bool false)]),q (.store 5 (.t 9) (.t 37))]
abbrev order_Sort_p7:ACode:=(.seq (.reg order_Sort_p6) (.seq (.reg order_Sort_p5) (.seq (.reg order_Sort_p4) (.cond (.t 45) (.reg order_Sort_p3) .skip))))
abbrev order_Sort_p8:List AG:=[o 35 (.cmp .lss (.sc .int) (.t 34) (.t 33))]
abbrev order_Sort_b1:ACode:=(.seq (.reg order_Sort_p8) (.seq (.cond (.t 35) .skip (.exit 2)) (.seq (.block 3 [] order_Sort_p7) (.reg order_Sort_p2))))
abbrev order_Sort_p9:List AG:=[o 31 (.off 3 (.t 1)),o 32 (.load false 1 (.t 31)),o 33 (.len (.t 32)),o 34 (.mv (.c (.int .i64 0)))]
abbrev order_Sort_p10:List AG:=[o 7 (.nilrow 1 t_string)]
abbrev order_Sort_p11:List AG:=[o 6 (.mv (.t 19))]
abbrev order_Sort_p12:List AG:=[o 24 (.load false 1 (.t 5)),o 25 (.off 3 (.t 1)),o 26 (.load false 1 (.t 25)),o 27 (.mv (.t 6)),o 28 (.ixAddr 5 (.t 26) (.t 27)),o 29 (.off 0 (.t 28)),o 30 (.load false 1 (.t 29)),q (.delete (.sc .str) (.t 24) (.t 30))]
abbrev order_Sort_p13:List AG:=[o 20 (.load false 1 (.t 4)),o 21 (.mv (.t 6)),o 22 (.lit 1 [(.int .i64 0)] [(0,(.t 21))]),o 23 (.append 1 t_int 8 (.t 20) (.t 22)),q (.store 1 (.t 4) (.t 23))]
abbrev order_Sort_p14:ACode:=(.seq (.reg order_Sort_p13) (.dreg [O,O,O,O,O,O,O,O] [8,8,8,8,8,8,8,9] order_Sort_p12))
abbrev order_Sort_p15:ACode:=(.block 1 [] order_Sort_p14)
abbrev order_Sort_p16:ACode:=(.rangeFunc (.t 18) [19] [O,I,I,I,I,I,O,O,O,O,O,O,O,O,O,O,O,O,O,O,O,O,O,O,O,O,O,O,O,O,O,O,O,O,O,O,O,O,O,O,O,O,O,O,O,O,O,O,O,O,O,O,O,O] (.reg order_Sort_p11) order_Sort_p15)
abbrev order_Sort_p17:List AG:=[o 17 (.load true 4 (.t 1)),o 18 (.call (.f n_order_coming) [(.t 17)])]
abbrev order_Sort_p18:List AG:=[o 15 (.load true 4 (.t 1)),o 16 (.call (.f n_order_places) [(.t 15)]),o 5 (.alloc [.nilm]),q (.store 1 (.t 5) (.t 16))]
abbrev order_Sort_p19:List AG:=[o 4 (.alloc [(.own 1 t_int [])])]
abbrev order_Sort_p20:List AG:=[o 2 (.nilrow 1 t_int),o 3 (.nilrow 1 t_string)]
abbrev order_Sort_p21:ACode:=(.seq (.reg order_Sort_p20) .ret)
abbrev order_Sort_p22:List AG:=[o 12 (.load true 4 (.t 1)),o 13 (.call (.f n_order_right) [(.t 12)]),o 14 (.not (.t 13))]
abbrev order_Sort_p23:List AG:=[o 1 (.box 4 (.t 0)),o 2 (.nilrow 1 t_int),o 3 (.nilrow 1 t_string)]
abbrev order_Sort:AFun:=⟨(.seq (.reg order_Sort_p23) (.seq (.seq (.reg order_Sort_p22) (.cond (.t 14) order_Sort_p21 .skip)) (.seq (.reg order_Sort_p19) (.seq (.reg order_Sort_p18) (.seq (.seq (.reg order_Sort_p17) (.block 0 [] order_Sort_p16)) (.seq (.reg order_Sort_p10) (.seq (.seq (.reg order_Sort_p9) (.block 2 order_Sort_x1 (.loop order_Sort_m1 order_Sort_b1))) (.seq (.reg order_Sort_p0) .ret)))))))),54,[.tmp 2,.tmp 3]⟩
abbrev order_Sort_k1:List It:=[.code (.seq (.reg order_Sort_p0) .ret)]
abbrev order_Sort_L1 (x4 x5 x7 x32 x33 x34:AV) (h:List Ob) (e:Cx:=cx):Cfg:=atC n_order_Sort (.code order_Sort_b1::.inLoop order_Sort_m1 order_Sort_b1::.inBlock 2 order_Sort_x1::order_Sort_k1) [U,U,U,U,x4,x5,U,x7,U,U,U,U,U,U,U,U,U,U,U,U,U,U,U,U,U,U,U,U,U,U,U,U,x32,x33,x34,U,U,U,U,U,U,U,U,U,U,U,U,U,U,U,U,U,U,U] h e
@[simp] theorem c_order_Sort:cfun Tryd.prog n_order_Sort=some order_Sort:=by kernel_rfl
@[simp] theorem e_order_Sort:hasBody Tryd.prog n_order_Sort=true:=by kernel_rfl
abbrev r07_Sort_p0:List AG:=[o 75 (.mv (.t 4)),o 76 (.mv (.t 5)),o 2 (.mv (.t 75)),o 3 (.mv (.t 76))]
abbrev r07_Sort_m1:List Bool:=[O,I,O,O,I,I,I,O,O,I,O,O,O,O,O,O,O,O,O,O,O,O,O,O,O,O,O,O,O,O,O,O,O,O,O,O,O,O,O,O,O,O,O,O,O,O,O,O,O,O,O,O,O,O,O,O,O,O,O,O,O,O,O,O,O,O,O,O,O,O,O,O,O,O,O,O,O]
abbrev r07_Sort_x1:List Bool:=[O,O,O,O,I,I,O,O,O,O,O,O,O,O,O,O,O,O,O,O,O,O,O,O,O,O,O,O,O,O,O,O,O,O,O,O,O,O,O,O,O,O,O,O,O,O,O,O,O,O,O,O,O,O,O,O,O,O,O,O,O,O,O,O,O,O,O,O,O,O,O,O,O,O,O,O,O]
abbrev r07_Sort_p2:List AG:=[o 59 (.mv (.t 9)),o 60 (.ibin .add (.t 59) (.c (.int .i64 1))),o 9 (.mv (.t 60))]
abbrev r07_Sort_p3:List AG:=[o 66 (.mv (.t 5)),o 67 (.off 3 (.t 1)),o 68 (.load false 1 (.t 67)),o 69 (.mv (.t 9)),o 70 (.ixAddr 5 (.t 68) (.t 69)),o 71 (.off 0 (.t 70)),o 72 (.load false 1 (.t 71)),o 73 (.lit 1 [(.str [])] [(0,(.t 72))]),o 74 (.append 1 t_string 16 (.t 66) (.t 73)),o 5 (.mv (.t 74))]
abbrev r07_Sort_p4:List AG:=[o 61 (.mv (.t 6)),o 62 (.mv (.t 9)),o 63 (.ixAddr 1 (.t 61) (.t 62)),o 64 (.load false 1 (.t 63)),o 65 (.not (.t 64))]
abbrev r07_Sort_p5:ACode:=(.seq (.reg r07_Sort_p4) (.cond (.t 65) (.reg r07_Sort_p3) .skip))
abbrev r07_Sort_p6:List AG:=[o 54 (.mv (.t 9)),o 55 (.off 3 (.t 1)),o 56 (.load false 1 (.t 55)),o 57 (.len (.t 56)),o 58 (.cmp .lss (.sc .int) (.t 54) (.t 57))]
abbrev r07_Sort_b1:ACode:=(.seq (.seq (.reg r07_Sort_p6) (.cond (.t 58) .skip (.exit 4))) (.seq (.block 5 [] r07_Sort_p5) (.reg r07_Sort_p2)))
abbrev r07_Sort_p7:List AG:=[o 9 (.mv (.c (.int .i64 0)))]
abbrev r07_Sort_m8:List Bool:=[O,I,O,O,I,I,I,I,O,O,O,O,O,O,O,O,O,O,O,O,O,O,O,O,O,O,O,O,O,O,O,O,O,O,O,O,O,O,O,O,O,O,O,O,O,O,O,O,O,O,O,O,O,O,O,O,O,O,O,O,O,O,O,O,O,O,O,O,O,O,O,O,O,O,O,O,O]
abbrev r07_Sort_x8:List Bool:=[O,I,O,O,I,I,I,O,O,O,O,O,O,O,O,O,O,O,O,O,O,O,O,O,O,O,O,O,O,O,O,O,O,O,O,O,O,O,O,O,O,O,O,O,O,O,O,O,O,O,O,O,O,O,O,O,O,O,O,O,O,O,O,O,O,O,O,O,O,O,O,O,O,O,O,O,O]
abbrev r07_Sort_p9:List AG:=[o 22 (.mv (.t 7)),o 23 (.ibin .add (.t 22) (.c (.int .i64 1))),o 7 (.mv (.t 23))]
abbrev r07_Sort_m10:List Bool:=[O,I,O,O,I,I,I,I,I,O,O,O,O,O,O,O,O,O,O,O,O,O,O,O,O,O,O,O,O,O,O,O,O,O,O,O,O,O,O,O,O,O,O,O,O,O,O,O,O,O,O,O,O,O,O,O,O,O,O,O,O,O,O,O,O,O,O,O,O,O,O,O,O,O,O,O,O]
abbrev r07_Sort_x10:List Bool:=[O,I,O,O,I,I,I,I,O,O,O,O,O,O,O,O,O,O,O,O,O,O,O,O,O,O,O,O,O,O,O,O,O,O,O,O,O,O,O,O,O,O,O,O,O,O,O,O,O,O,O,O,O,O,O,O,O,O,O,O,O,O,O,O,O,O,O,O,O,O,O,O,O,O,O,O,O]
abbrev r07_Sort_p11:List AG:=[o 29 (.mv (.t 8)),o 30 (.ibin .add (.t 29) (.c (.int .i64 1))),o 8 (.mv (.t 30))]
abbrev r07_Sort_p12:List AG:=[o 50 (.mv (.t 4)),o 51 (.mv (.t 8)),o 52 (.lit 1 [(.int .i64 0)] [(0,(.t 51))]),o 53 (.append 1 t_int 8 (.t 50) (.t 52)),o 4 (.mv (.t 53))]
abbrev r07_Sort_p13:List AG:=[o 47 (.mv (.t 6)),o 48 (.mv (.t 8)),o 49 (.ixAddr 1 (.t 47) (.t 48)),q (.store 1 (.t 49) (.c (.bool true)))]
abbrev r07_Sort_p14:ACode:=(.seq (.reg r07_Sort_p13) (.seq (.reg r07_Sort_p12) (.exit 2)))
abbrev r07_Sort_p15:List AG:=[o 31 (.mv (.t 6)),o 32 (.mv (.t 8)),o 33 (.ixAddr 1 (.t 31) (.t 32)),o 34 (.load false 1 (.t 33)),o 35 (.not (.t 34)),o 36 (.mv (.t 35)),oy 37 36 (.load true 4 (.t 1)),oy 38 36 (.off 3 (.t 1)),oy 39 36 (.load false 1 (.t 38)),oy 40 36 (.mv (.t 8)),oy 41 36 (.ixAddr 5 (.t 39) (.t 40)),oy 42 36 (.load true 5 (.t 41)),oy 43 36 (.mv (.t 6)),oy 44 36 (.call (.f n_r07_waits) [(.t 37),(.t 42),(.t 43)]),oy 45 36 (.not (.t 44)),o 46 (.pick (.t 36) (.t 45) (.c (.bool false)))]
abbrev r07_Sort_p16:ACode:=(.seq (.dreg [O,O,O,O,O,O,O,O,O,O,O,O,O,O,O,O] [14,14,14,14,14,14,14,14,14,14,14,14,14,17,17,17] r07_Sort_p15) (.cond (.t 46) r07_Sort_p14 .skip))
abbrev r07_Sort_p17:List AG:=[o 24 (.mv (.t 8)),o 25 (.off 3 (.t 1)),o 26 (.load false 1 (.t 25)),o 27 (.len (.t 26)),o 28 (.cmp .lss (.sc .int) (.t 24) (.t 27))]
abbrev r07_Sort_b10:ACode:=(.seq (.seq (.reg r07_Sort_p17) (.cond (.t 28) .skip (.exit 2))) (.seq (.block 3 [] r07_Sort_p16) (.reg r07_Sort_p11)))
abbrev r07_Sort_p18:List AG:=[o 8 (.mv (.c (.int .i64 0)))]
abbrev r07_Sort_p19:ACode:=(.seq (.reg r07_Sort_p18) (.block 2 r07_Sort_x10 (.loop r07_Sort_m10 r07_Sort_b10)))
abbrev r07_Sort_p20:List AG:=[o 17 (.mv (.t 7)),o 18 (.off 3 (.t 1)),o 19 (.load false 1 (.t 18)),o 20 (.len (.t 19)),o 21 (.cmp .lss (.sc .int) (.t 17) (.t 20))]
abbrev r07_Sort_b8:ACode:=(.seq (.seq (.reg r07_Sort_p20) (.cond (.t 21) .skip (.exit 0))) (.seq (.block 1 [] r07_Sort_p19) (.reg r07_Sort_p9)))
abbrev r07_Sort_p21:List AG:=[o 7 (.mv (.c (.int .i64 0)))]
abbrev r07_Sort_p22:List AG:=[o 13 (.off 3 (.t 1)),o 14 (.load false 1 (.t 13)),o 15 (.len (.t 14)),o 16 (.mkSlice 1 t_bool 1 (.bool false) (.t 15) (.t 15)),o 6 (.mv (.t 16))]
abbrev r07_Sort_p23:List AG:=[o 2 (.nilrow 1 t_int),o 3 (.nilrow 1 t_string)]
abbrev r07_Sort_p24:ACode:=(.seq (.reg r07_Sort_p23) .ret)
abbrev r07_Sort_p25:List AG:=[o 10 (.load true 4 (.t 1)),o 11 (.call (.f n_r07_right) [(.t 10)]),o 12 (.not (.t 11))]
abbrev r07_Sort_p26:List AG:=[o 5 (.nilrow 1 t_string)]
abbrev r07_Sort_p27:List AG:=[o 4 (.nilrow 1 t_int)]
abbrev r07_Sort_p28:List AG:=[o 1 (.box 4 (.t 0)),o 2 (.nilrow 1 t_int),o 3 (.nilrow 1 t_string)]
abbrev r07_Sort:AFun:=⟨(.seq (.reg r07_Sort_p28) (.seq (.reg r07_Sort_p27) (.seq (.reg r07_Sort_p26) (.seq (.seq (.reg r07_Sort_p25) (.cond (.t 12) r07_Sort_p24 .skip)) (.seq (.reg r07_Sort_p22) (.seq (.seq (.reg r07_Sort_p21) (.block 0 r07_Sort_x8 (.loop r07_Sort_m8 r07_Sort_b8))) (.seq (.seq (.reg r07_Sort_p7) (.block 4 r07_Sort_x1 (.loop r07_Sort_m1 r07_Sort_b1))) (.seq (.reg r07_Sort_p0) .ret)))))))),77,[.tmp 2,.tmp 3]⟩
abbrev r07_Sort_k1:List It:=[.code (.seq (.reg r07_Sort_p0) .ret)]
abbrev r07_Sort_L1 (x1 x4 x5 x6 x9:AV) (h:List Ob) (e:Cx:=cx):Cfg:=atC n_r07_Sort (.code r07_Sort_b1::.inLoop r07_Sort_m1 r07_Sort_b1::.inBlock 4 r07_Sort_x1::r07_Sort_k1) [U,x1,U,U,x4,x5,x6,U,U,x9,U,U,U,U,U,U,U,U,U,U,U,U,U,U,U,U,U,U,U,U,U,U,U,U,U,U,U,U,U,U,U,U,U,U,U,U,U,U,U,U,U,U,U,U,U,U,U,U,U,U,U,U,U,U,U,U,U,U,U,U,U,U,U,U,U,U,U] h e
abbrev r07_Sort_k10:List It:=[.inBlock 1 [],.code (.reg r07_Sort_p9),.inLoop r07_Sort_m8 r07_Sort_b8,.inBlock 0 r07_Sort_x8,.code (.seq (.seq (.reg r07_Sort_p7) (.block 4 r07_Sort_x1 (.loop r07_Sort_m1 r07_Sort_b1))) (.seq (.reg r07_Sort_p0) .ret))]
abbrev r07_Sort_L10 (x1 x4 x5 x6 x7 x8:AV) (h:List Ob) (e:Cx:=cx):Cfg:=atC n_r07_Sort (.code r07_Sort_b10::.inLoop r07_Sort_m10 r07_Sort_b10::.inBlock 2 r07_Sort_x10::r07_Sort_k10) [U,x1,U,U,x4,x5,x6,x7,x8,U,U,U,U,U,U,U,U,U,U,U,U,U,U,U,U,U,U,U,U,U,U,U,U,U,U,U,U,U,U,U,U,U,U,U,U,U,U,U,U,U,U,U,U,U,U,U,U,U,U,U,U,U,U,U,U,U,U,U,U,U,U,U,U,U,U,U,U] h e
abbrev r07_Sort_E10 (x1 x4 x5 x6 x7:AV) (h:List Ob) (e:Cx:=cx):Cfg:=atC n_r07_Sort r07_Sort_k10 [U,x1,U,U,x4,x5,x6,x7,U,U,U,U,U,U,U,U,U,U,U,U,U,U,U,U,U,U,U,U,U,U,U,U,U,U,U,U,U,U,U,U,U,U,U,U,U,U,U,U,U,U,U,U,U,U,U,U,U,U,U,U,U,U,U,U,U,U,U,U,U,U,U,U,U,U,U,U,U] h e
abbrev r07_Sort_k8:List It:=[.code (.seq (.seq (.reg r07_Sort_p7) (.block 4 r07_Sort_x1 (.loop r07_Sort_m1 r07_Sort_b1))) (.seq (.reg r07_Sort_p0) .ret))]
abbrev r07_Sort_L8 (x1 x4 x5 x6 x7:AV) (h:List Ob) (e:Cx:=cx):Cfg:=atC n_r07_Sort (.code r07_Sort_b8::.inLoop r07_Sort_m8 r07_Sort_b8::.inBlock 0 r07_Sort_x8::r07_Sort_k8) [U,x1,U,U,x4,x5,x6,x7,U,U,U,U,U,U,U,U,U,U,U,U,U,U,U,U,U,U,U,U,U,U,U,U,U,U,U,U,U,U,U,U,U,U,U,U,U,U,U,U,U,U,U,U,U,U,U,U,U,U,U,U,U,U,U,U,U,U,U,U,U,U,U,U,U,U,U,U,U] h e
@[simp] theorem c_r07_Sort:cfun Tryd.prog n_r07_Sort=some r07_Sort:=by kernel_rfl
@[simp] theorem e_r07_Sort:hasBody Tryd.prog n_r07_Sort=true:=by kernel_rfl
abbrev order_Check_p0:List AG:=[o 2 (.mv (.c (.int .i64 0))),o 3 (.mv (.c (.str [])))]
abbrev order_Check_p1:List AG:=[o 25 (.mv (.t 7)),o 26 (.ixAddr 1 (.t 25) (.c (.int .i64 0))),o 27 (.load false 1 (.t 26)),o 2 (.mv (.c (.int .i64 7))),o 3 (.mv (.t 27))]
abbrev order_Check_p2:ACode:=(.seq (.dreg [O,O,O,O,O] [6,6,6,6,6] order_Check_p1) .ret)
abbrev order_Check_p3:List AG:=[o 22 (.mv (.t 7)),o 23 (.len (.t 22)),o 24 (.cmp .gtr (.sc .int) (.t 23) (.c (.int .i64 0)))]
abbrev order_Check_p4:List AG:=[o 18 (.load true 4 (.t 1)),o 19 (.call (.f n_order_Sort) [(.t 18)]),o 17 (.mv (.t 19)),o 20 (.extract (.t 17) 0),o 21 (.extract (.t 17) 1),o 6 (.mv (.t 20)),o 7 (.mv (.t 21))]
abbrev order_Check_p5:List AG:=[o 15 (.mv (.t 4)),o 16 (.mv (.t 5)),o 2 (.mv (.t 15)),o 3 (.mv (.t 16))]
abbrev order_Check_p6:ACode:=(.seq (.reg order_Check_p5) .ret)
abbrev order_Check_p7:List AG:=[o 13 (.mv (.t 4)),o 14 (.cmp .neq (.sc .int) (.t 13) (.c (.int .i64 0)))]
abbrev order_Check_p8:List AG:=[o 9 (.load true 4 (.t 1)),o 10 (.call (.f n_net_Check) [(.t 9)]),o 8 (.mv (.t 10)),o 11 (.extract (.t 8) 0),o 12 (.extract (.t 8) 1),o 4 (.mv (.t 11)),o 5 (.mv (.t 12))]
abbrev order_Check_p9:List AG:=[o 1 (.box 4 (.t 0)),o 2 (.mv (.c (.int .i64 0))),o 3 (.mv (.c (.str [])))]
abbrev order_Check:AFun:=⟨(.seq (.reg order_Check_p9) (.seq (.seq (.reg order_Check_p8) (.seq (.reg order_Check_p7) (.cond (.t 14) order_Check_p6 .skip))) (.seq (.seq (.reg order_Check_p4) (.seq (.reg order_Check_p3) (.cond (.t 24) order_Check_p2 .skip))) (.seq (.reg order_Check_p0) .ret)))),28,[.tmp 2,.tmp 3]⟩
@[simp] theorem c_order_Check:cfun Tryd.prog n_order_Check=some order_Check:=by kernel_rfl
@[simp] theorem e_order_Check:hasBody Tryd.prog n_order_Check=true:=by kernel_rfl
abbrev r07_Check_p0:List AG:=[o 2 (.mv (.c (.int .i64 0))),o 3 (.mv (.c (.str [])))]
abbrev r07_Check_p1:List AG:=[o 25 (.mv (.t 7)),o 26 (.ixAddr 1 (.t 25) (.c (.int .i64 0))),o 27 (.load false 1 (.t 26)),o 2 (.mv (.c (.int .i64 7))),o 3 (.mv (.t 27))]
abbrev r07_Check_p2:ACode:=(.seq (.dreg [O,O,O,O,O] [6,6,6,6,6] r07_Check_p1) .ret)
abbrev r07_Check_p3:List AG:=[o 22 (.mv (.t 7)),o 23 (.len (.t 22)),o 24 (.cmp .gtr (.sc .int) (.t 23) (.c (.int .i64 0)))]
abbrev r07_Check_p4:List AG:=[o 18 (.load true 4 (.t 1)),o 19 (.call (.f n_r07_Sort) [(.t 18)]),o 17 (.mv (.t 19)),o 20 (.extract (.t 17) 0),o 21 (.extract (.t 17) 1),o 6 (.mv (.t 20)),o 7 (.mv (.t 21))]
abbrev r07_Check_p5:List AG:=[o 15 (.mv (.t 4)),o 16 (.mv (.t 5)),o 2 (.mv (.t 15)),o 3 (.mv (.t 16))]
abbrev r07_Check_p6:ACode:=(.seq (.reg r07_Check_p5) .ret)
abbrev r07_Check_p7:List AG:=[o 13 (.mv (.t 4)),o 14 (.cmp .neq (.sc .int) (.t 13) (.c (.int .i64 0)))]
abbrev r07_Check_p8:List AG:=[o 9 (.load true 4 (.t 1)),o 10 (.call (.f n_r06_Check) [(.t 9)]),o 8 (.mv (.t 10)),o 11 (.extract (.t 8) 0),o 12 (.extract (.t 8) 1),o 4 (.mv (.t 11)),o 5 (.mv (.t 12))]
abbrev r07_Check_p9:List AG:=[o 1 (.box 4 (.t 0)),o 2 (.mv (.c (.int .i64 0))),o 3 (.mv (.c (.str [])))]
abbrev r07_Check:AFun:=⟨(.seq (.reg r07_Check_p9) (.seq (.reg r07_Check_p8) (.seq (.seq (.reg r07_Check_p7) (.cond (.t 14) r07_Check_p6 .skip)) (.seq (.reg r07_Check_p4) (.seq (.seq (.reg r07_Check_p3) (.cond (.t 24) r07_Check_p2 .skip)) (.seq (.reg r07_Check_p0) .ret)))))),28,[.tmp 2,.tmp 3]⟩
@[simp] theorem c_r07_Check:cfun Tryd.prog n_r07_Check=some r07_Check:=by kernel_rfl
@[simp] theorem e_r07_Check:hasBody Tryd.prog n_r07_Check=true:=by kernel_rfl
abbrev r01_Ints_p0:List AG:=[o 4 (.mv (.c (.bool true)))]
abbrev r01_Ints_m1:List Bool:=[I,I,O,O,O,I,O,O,O,O,O,O,O,O,O,O,O,O,O,O,O,O,O,O,O,O]
abbrev r01_Ints_x1:List Bool:=[O,O,O,O,O,O,O,O,O,O,O,O,O,O,O,O,O,O,O,O,O,O,O,O,O,O]
abbrev r01_Ints_p2:List AG:=[o 15 (.mv (.t 5)),o 16 (.ibin .add (.t 15) (.c (.int .i64 1))),o 5 (.mv (.t 16))]
abbrev r01_Ints_p3:List AG:=[o 4 (.mv (.c (.bool false)))]
abbrev r01_Ints_p4:ACode:=(.seq (.reg r01_Ints_p3) .ret)
abbrev r01_Ints_p5:List AG:=[o 17 (.mv (.t 0)),o 18 (.mv (.t 5)),o 19 (.ixAddr 1 (.t 17) (.t 18)),o 20 (.load false 1 (.t 19)),o 21 (.mv (.t 1)),o 22 (.mv (.t 5)),o 23 (.ixAddr 1 (.t 21) (.t 22)),o 24 (.load false 1 (.t 23)),o 25 (.cmp .neq (.sc .int) (.t 20) (.t 24))]
abbrev r01_Ints_p6:ACode:=(.seq (.dreg [O,O,O,O,O,O,O,O,O] [10,10,10,10,10,10,10,10,10] r01_Ints_p5) (.cond (.t 25) r01_Ints_p4 .skip))
abbrev r01_Ints_p7:List AG:=[o 11 (.mv (.t 5)),o 12 (.mv (.t 0)),o 13 (.len (.t 12)),o 14 (.cmp .lss (.sc .int) (.t 11) (.t 13))]
abbrev r01_Ints_b1:ACode:=(.seq (.seq (.reg r01_Ints_p7) (.cond (.t 14) .skip (.exit 0))) (.seq (.block 1 [] r01_Ints_p6) (.reg r01_Ints_p2)))
abbrev r01_Ints_p8:List AG:=[o 5 (.mv (.c (.int .i64 0)))]
abbrev r01_Ints_p9:List AG:=[o 4 (.mv (.c (.bool false)))]
abbrev r01_Ints_p10:ACode:=(.seq (.reg r01_Ints_p9) .ret)
abbrev r01_Ints_p11:List AG:=[o 6 (.mv (.t 0)),o 7 (.len (.t 6)),o 8 (.mv (.t 1)),o 9 (.len (.t 8)),o 10 (.cmp .neq (.sc .int) (.t 7) (.t 9))]
abbrev r01_Ints_p12:List AG:=[o 4 (.mv (.c (.bool false)))]
abbrev r01_Ints:AFun:=⟨(.seq (.reg r01_Ints_p12) (.seq (.seq (.reg r01_Ints_p11) (.cond (.t 10) r01_Ints_p10 .skip)) (.seq (.seq (.reg r01_Ints_p8) (.block 0 r01_Ints_x1 (.loop r01_Ints_m1 r01_Ints_b1))) (.seq (.reg r01_Ints_p0) .ret)))),26,[.tmp 4]⟩
abbrev r01_Ints_k1:List It:=[.code (.seq (.reg r01_Ints_p0) .ret)]
abbrev r01_Ints_L1 (x0 x1 x5:AV) (h:List Ob) (e:Cx:=cx):Cfg:=atC n_r01_Ints (.code r01_Ints_b1::.inLoop r01_Ints_m1 r01_Ints_b1::.inBlock 0 r01_Ints_x1::r01_Ints_k1) [x0,x1,U,U,U,x5,U,U,U,U,U,U,U,U,U,U,U,U,U,U,U,U,U,U,U,U] h e
@[simp] theorem c_r01_Ints:cfun Tryd.prog n_r01_Ints=some r01_Ints:=by kernel_rfl
@[simp] theorem e_r01_Ints:hasBody Tryd.prog n_r01_Ints=true:=by kernel_rfl
abbrev order_Levels_p0:List AG:=[o 62 (.load false 1 (.t 4)),o 2 (.mv (.t 62))]
abbrev order_Levels_m1:List Bool:=[O,O,O,O,I,I,O,O,O,O,O,O,O,O,O,O,O,O,O,O,O,O,O,O,O,O,O,O,O,O,O,O,O,O,O,O,O,O,O,O,O,O,O,O,O,O,O,O,O,O,I,I,O,O,O,O,O,O,O,O,O,O,O]
abbrev order_Levels_x1:List Bool:=[O,O,O,O,I,O,O,O,O,O,O,O,O,O,O,O,O,O,O,O,O,O,O,O,O,O,O,O,O,O,O,O,O,O,O,O,O,O,O,O,O,O,O,O,O,O,O,O,O,O,O,O,O,O,O,O,O,O,O,O,O,O,O]
abbrev order_Levels_p2:List AG:=[o 61 (.ibin .add (.t 51) (.c (.int .i64 1))),o 51 (.mv (.t 61))]
abbrev order_Levels_p3:List AG:=[o 58 (.load false 1 (.t 4)),o 59 (.mv (.t 9)),o 60 (.ixAddr 1 (.t 58) (.t 59)),q (.store 1 (.t 60) (.c (.int .i64 (-1))))]
abbrev order_Levels_p4:List AG:=[o 54 (.load false 1 (.t 5)),o 55 (.mv (.t 9)),o 56 (.lookup (.sc .int) (.bool false) (.t 54) (.t 55) false),o 57 (.not (.t 56))]
abbrev order_Levels_p5:List AG:=[o 53 (.mv (.t 51)),o 9 (.mv (.t 53))]
abbrev order_Levels_p6:ACode:=(.seq (.reg order_Levels_p5) (.seq (.reg order_Levels_p4) (.cond (.t 57) (.reg order_Levels_p3) .skip)))
abbrev order_Levels_p7:List AG:=[o 52 (.cmp .lss (.sc .int) (.t 51) (.t 50))]
abbrev order_Levels_b1:ACode:=(.seq (.reg order_Levels_p7) (.seq (.cond (.t 52) .skip (.exit 4)) (.seq (.block 5 [] order_Levels_p6) (.reg order_Levels_p2))))
abbrev order_Levels_p8:List AG:=[o 49 (.load false 1 (.t 4)),o 50 (.len (.t 49)),o 51 (.mv (.c (.int .i64 0)))]
abbrev order_Levels_p9:List AG:=[o 6 (.mv (.t 22))]
abbrev order_Levels_m10:List Bool:=[O,O,I,O,I,O,I,O,O,O,O,O,O,O,O,O,O,O,O,O,O,O,O,O,O,O,O,O,O,I,I,I,O,O,O,O,O,O,O,O,O,O,O,O,O,O,O,O,O,O,O,O,O,O,O,O,O,O,O,O,O,O,O]
abbrev order_Levels_x10:List Bool:=[O,O,I,O,O,O,O,O,O,O,O,O,O,O,O,O,O,O,O,O,O,O,O,O,O,O,O,O,O,O,O,O,O,O,O,O,O,O,O,O,O,O,O,O,O,O,O,O,O,O,O,O,O,O,O,O,O,O,O,O,O,O,O]
abbrev order_Levels_p11:List AG:=[o 48 (.ibin .add (.t 31) (.c (.int .i64 1))),o 31 (.mv (.t 48))]
abbrev order_Levels_p12:List AG:=[o 35 (.load false 1 (.t 4)),o 36 (.mv (.t 8)),o 37 (.load false 1 (.t 4)),o 38 (.mv (.t 8)),o 39 (.ixAddr 1 (.t 37) (.t 38)),o 40 (.load false 1 (.t 39)),o 41 (.load false 1 (.t 4)),o 42 (.mv (.t 6)),o 43 (.ixAddr 1 (.t 41) (.t 42)),o 44 (.load false 1 (.t 43)),o 45 (.ibin .add (.t 44) (.c (.int .i64 1))),o 46 (.max [(.t 40),(.t 45)]),o 47 (.ixAddr 1 (.t 35) (.t 36)),q (.store 1 (.t 47) (.t 46))]
abbrev order_Levels_p13:List AG:=[o 33 (.ixAddr 1 (.t 29) (.t 31)),o 34 (.load false 1 (.t 33)),o 8 (.mv (.t 34))]
abbrev order_Levels_p14:ACode:=(.seq (.reg order_Levels_p13) (.dreg [O,O,O,O,O,O,O,O,O,O,O,O,O,O] [14,14,14,14,14,14,14,14,14,14,14,14,14,15] order_Levels_p12))
abbrev order_Levels_p15:List AG:=[o 32 (.cmp .lss (.sc .int) (.t 31) (.t 30))]
abbrev order_Levels_b10:ACode:=(.seq (.reg order_Levels_p15) (.seq (.cond (.t 32) .skip (.exit 2)) (.seq (.block 3 [] order_Levels_p14) (.reg order_Levels_p11))))
abbrev order_Levels_p16:List AG:=[o 25 (.off 1 (.t 3)),o 26 (.load false 1 (.t 25)),o 27 (.mv (.t 6)),o 28 (.ixAddr 1 (.t 26) (.t 27)),o 29 (.load false 1 (.t 28)),o 30 (.len (.t 29)),o 31 (.mv (.c (.int .i64 0)))]
abbrev order_Levels_p17:List AG:=[o 23 (.load false 1 (.t 5)),o 24 (.mv (.t 6)),q (.upd (.sc .int) (.t 23) (.t 24) (.c (.bool true)))]
abbrev order_Levels_p18:ACode:=(.seq (.reg order_Levels_p17) (.seq (.reg order_Levels_p16) (.block 2 order_Levels_x10 (.loop order_Levels_m10 order_Levels_b10))))
abbrev order_Levels_p19:ACode:=(.block 1 [] order_Levels_p18)
abbrev order_Levels_p20:ACode:=(.rangeFunc (.t 21) [22] [O,O,I,I,I,I,O,O,O,O,O,O,O,O,O,O,O,O,O,O,O,O,O,O,O,O,O,O,O,O,O,O,O,O,O,O,O,O,O,O,O,O,O,O,O,O,O,O,O,O,O,O,O,O,O,O,O,O,O,O,O,O,O] (.reg order_Levels_p9) order_Levels_p19)
abbrev order_Levels_p21:List AG:=[o 20 (.load true 4 (.t 1)),o 21 (.call (.f n_order_coming) [(.t 20)])]
abbrev order_Levels_p22:List AG:=[o 19 (.mkMap),o 5 (.alloc [.nilm]),q (.store 1 (.t 5) (.t 19))]
abbrev order_Levels_p23:List AG:=[o 15 (.off 3 (.t 1)),o 16 (.load false 1 (.t 15)),o 17 (.len (.t 16)),o 18 (.mkSlice 1 t_int 8 (.int .i64 0) (.t 17) (.t 17)),o 4 (.alloc [(.own 1 t_int [])]),q (.store 1 (.t 4) (.t 18))]
abbrev order_Levels_p24:List AG:=[o 13 (.load true 4 (.t 1)),o 14 (.call (.f n_order_wait) [(.t 13)]),o 3 (.alloc [(.own 1 t_map_int_bool_2 []),(.own 1 t_int_2 [])]),q (.store 2 (.t 3) (.t 14))]
abbrev order_Levels_p25:List AG:=[o 2 (.nilrow 1 t_int)]
abbrev order_Levels_p26:ACode:=(.seq (.reg order_Levels_p25) .ret)
abbrev order_Levels_p27:List AG:=[o 10 (.load true 4 (.t 1)),o 11 (.call (.f n_order_right) [(.t 10)]),o 12 (.not (.t 11))]
abbrev order_Levels_p28:List AG:=[o 1 (.box 4 (.t 0)),o 2 (.nilrow 1 t_int)]
abbrev order_Levels:AFun:=⟨(.seq (.reg order_Levels_p28) (.seq (.seq (.reg order_Levels_p27) (.cond (.t 12) order_Levels_p26 .skip)) (.seq (.reg order_Levels_p24) (.seq (.reg order_Levels_p23) (.seq (.reg order_Levels_p22) (.seq (.seq (.reg order_Levels_p21) (.block 0 [] order_Levels_p20)) (.seq (.seq (.reg order_Levels_p8) (.block 4 order_Levels_x1 (.loop order_Levels_m1 order_Levels_b1))) (.seq (.reg order_Levels_p0) .ret)))))))),63,[.tmp 2]⟩
abbrev order_Levels_k1:List It:=[.code (.seq (.reg order_Levels_p0) .ret)]
abbrev order_Levels_L1 (x4 x5 x50 x51:AV) (h:List Ob) (e:Cx:=cx):Cfg:=atC n_order_Levels (.code order_Levels_b1::.inLoop order_Levels_m1 order_Levels_b1::.inBlock 4 order_Levels_x1::order_Levels_k1) [U,U,U,U,x4,x5,U,U,U,U,U,U,U,U,U,U,U,U,U,U,U,U,U,U,U,U,U,U,U,U,U,U,U,U,U,U,U,U,U,U,U,U,U,U,U,U,U,U,U,U,x50,x51,U,U,U,U,U,U,U,U,U,U,U] h e
abbrev order_Levels_k10:List It:=[.inBlock 1 []]
abbrev order_Levels_L10 (x2 x4 x6 x29 x30 x31:AV) (h:List Ob) (e:Cx:=cx):Cfg:=atC n_order_Levels (.code order_Levels_b10::.inLoop order_Levels_m10 order_Levels_b10::.inBlock 2 order_Levels_x10::order_Levels_k10) [U,U,x2,U,x4,U,x6,U,U,U,U,U,U,U,U,U,U,U,U,U,U,U,U,U,U,U,U,U,U,x29,x30,x31,U,U,U,U,U,U,U,U,U,U,U,U,U,U,U,U,U,U,U,U,U,U,U,U,U,U,U,U,U,U,U] h e
abbrev order_Levels_E10 (x2:AV) (h:List Ob) (e:Cx:=cx):Cfg:=atC n_order_Levels order_Levels_k10 [U,U,x2,U,U,U,U,U,U,U,U,U,U,U,U,U,U,U,U,U,U,U,U,U,U,U,U,U,U,U,U,U,U,U,U,U,U,U,U,U,U,U,U,U,U,U,U,U,U,U,U,U,U,U,U,U,U,U,U,U,U,U,U] h e
@[simp] theorem c_order_Levels:cfun Tryd.prog n_order_Levels=some order_Levels:=by kernel_rfl
@[simp] theorem e_order_Levels:hasBody Tryd.prog n_order_Levels=true:=by kernel_rfl
abbrev r07_Levels_p0:List AG:=[o 71 (.mv (.t 3)),o 2 (.mv (.t 71))]
abbrev r07_Levels_m1:List Bool:=[O,I,O,I,O,I,O,I,O,O,O,O,O,O,O,O,O,O,O,O,O,O,O,O,O,O,O,O,O,O,O,O,O,O,O,O,O,O,O,O,O,O,O,O,O,O,O,O,O,O,O,O,O,O,O,O,O,O,O,O,O,O,O,O,O,O,O,O,O,O,O,O]
abbrev r07_Levels_x1:List Bool:=[O,O,O,I,O,O,O,O,O,O,O,O,O,O,O,O,O,O,O,O,O,O,O,O,O,O,O,O,O,O,O,O,O,O,O,O,O,O,O,O,O,O,O,O,O,O,O,O,O,O,O,O,O,O,O,O,O,O,O,O,O,O,O,O,O,O,O,O,O,O,O,O]
abbrev r07_Levels_p2:List AG:=[o 32 (.mv (.t 7)),o 33 (.ibin .add (.t 32) (.c (.int .i64 1))),o 7 (.mv (.t 33))]
abbrev r07_Levels_p3:List AG:=[o 64 (.mv (.t 3)),o 65 (.mv (.t 5)),o 66 (.mv (.t 7)),o 67 (.ixAddr 1 (.t 65) (.t 66)),o 68 (.load false 1 (.t 67)),o 69 (.mv (.t 8)),o 70 (.ixAddr 1 (.t 64) (.t 68)),q (.store 1 (.t 70) (.t 69))]
abbrev r07_Levels_m4:List Bool:=[O,I,O,I,O,I,O,I,I,I,O,O,O,O,O,O,O,O,O,O,O,O,O,O,O,O,O,O,O,O,O,O,O,O,O,O,O,O,O,O,O,O,O,O,O,O,O,O,O,O,O,O,O,O,O,O,O,O,O,O,O,O,O,O,O,O,O,O,O,O,O,O]
abbrev r07_Levels_x4:List Bool:=[O,I,O,I,O,I,O,I,I,O,O,O,O,O,O,O,O,O,O,O,O,O,O,O,O,O,O,O,O,O,O,O,O,O,O,O,O,O,O,O,O,O,O,O,O,O,O,O,O,O,O,O,O,O,O,O,O,O,O,O,O,O,O,O,O,O,O,O,O,O,O,O]
abbrev r07_Levels_p5:List AG:=[o 39 (.mv (.t 9)),o 40 (.ibin .add (.t 39) (.c (.int .i64 1))),o 9 (.mv (.t 40))]
abbrev r07_Levels_p6:List AG:=[o 57 (.mv (.t 8)),o 58 (.mv (.t 3)),o 59 (.mv (.t 9)),o 60 (.ixAddr 1 (.t 58) (.t 59)),o 61 (.load false 1 (.t 60)),o 62 (.ibin .add (.t 61) (.c (.int .i64 1))),o 63 (.max [(.t 57),(.t 62)]),o 8 (.mv (.t 63))]
abbrev r07_Levels_p7:List AG:=[o 41 (.off 3 (.t 1)),o 42 (.load false 1 (.t 41)),o 43 (.mv (.t 5)),o 44 (.mv (.t 7)),o 45 (.ixAddr 1 (.t 43) (.t 44)),o 46 (.load false 1 (.t 45)),o 47 (.ixAddr 5 (.t 42) (.t 46)),o 48 (.off 2 (.t 47)),o 49 (.load false 1 (.t 48)),o 50 (.off 3 (.t 1)),o 51 (.load false 1 (.t 50)),o 52 (.mv (.t 9)),o 53 (.ixAddr 5 (.t 51) (.t 52)),o 54 (.off 0 (.t 53)),o 55 (.load false 1 (.t 54)),o 56 (.call (.f n_r01_Has) [(.t 49),(.t 55)])]
abbrev r07_Levels_p8:ACode:=(.seq (.dreg [O,O,O,O,O,O,O,O,O,O,O,O,O,O,O,O] [16,16,16,16,16,16,16,16,16,16,16,16,16,16,16,17] r07_Levels_p7) (.cond (.t 56) (.reg r07_Levels_p6) .skip))
abbrev r07_Levels_p9:List AG:=[o 34 (.mv (.t 9)),o 35 (.off 3 (.t 1)),o 36 (.load false 1 (.t 35)),o 37 (.len (.t 36)),o 38 (.cmp .lss (.sc .int) (.t 34) (.t 37))]
abbrev r07_Levels_b4:ACode:=(.seq (.seq (.reg r07_Levels_p9) (.cond (.t 38) .skip (.exit 4))) (.seq (.block 5 [] r07_Levels_p8) (.reg r07_Levels_p5)))
abbrev r07_Levels_p10:List AG:=[o 9 (.mv (.c (.int .i64 0)))]
abbrev r07_Levels_p11:List AG:=[o 8 (.mv (.c (.int .i64 0)))]
abbrev r07_Levels_p12:ACode:=(.seq (.reg r07_Levels_p11) (.seq (.seq (.reg r07_Levels_p10) (.block 4 r07_Levels_x4 (.loop r07_Levels_m4 r07_Levels_b4))) (.reg r07_Levels_p3)))
abbrev r07_Levels_p13:List AG:=[o 28 (.mv (.t 7)),o 29 (.mv (.t 5)),o 30 (.len (.t 29)),o 31 (.cmp .lss (.sc .int) (.t 28) (.t 30))]
abbrev r07_Levels_b1:ACode:=(.seq (.seq (.reg r07_Levels_p13) (.cond (.t 31) .skip (.exit 2))) (.seq (.block 3 [] r07_Levels_p12) (.reg r07_Levels_p2)))
abbrev r07_Levels_p14:List AG:=[o 7 (.mv (.c (.int .i64 0)))]
abbrev r07_Levels_p15:List AG:=[o 24 (.load true 4 (.t 1)),o 25 (.call (.f n_r07_Sort) [(.t 24)]),o 23 (.mv (.t 25)),o 26 (.extract (.t 23) 0),o 27 (.extract (.t 23) 1),o 5 (.mv (.t 26)),o 6 (.mv (.t 27))]
abbrev r07_Levels_m16:List Bool:=[O,I,O,I,I,O,O,O,O,O,O,O,O,O,O,O,O,O,O,O,O,O,O,O,O,O,O,O,O,O,O,O,O,O,O,O,O,O,O,O,O,O,O,O,O,O,O,O,O,O,O,O,O,O,O,O,O,O,O,O,O,O,O,O,O,O,O,O,O,O,O,O]
abbrev r07_Levels_x16:List Bool:=[O,I,O,I,O,O,O,O,O,O,O,O,O,O,O,O,O,O,O,O,O,O,O,O,O,O,O,O,O,O,O,O,O,O,O,O,O,O,O,O,O,O,O,O,O,O,O,O,O,O,O,O,O,O,O,O,O,O,O,O,O,O,O,O,O,O,O,O,O,O,O,O]
abbrev r07_Levels_p17:List AG:=[o 18 (.mv (.t 4)),o 19 (.ibin .add (.t 18) (.c (.int .i64 1))),o 4 (.mv (.t 19))]
abbrev r07_Levels_p18:List AG:=[o 20 (.mv (.t 3)),o 21 (.lit 1 [(.int .i64 0)] [(0,(.c (.int .i64 (-1))))]),o 22 (.append 1 t_int 8 (.t 20) (.t 21)),o 3 (.mv (.t 22))]
abbrev r07_Levels_p19:List AG:=[o 13 (.mv (.t 4)),o 14 (.off 3 (.t 1)),o 15 (.load false 1 (.t 14)),o 16 (.len (.t 15)),o 17 (.cmp .lss (.sc .int) (.t 13) (.t 16))]
abbrev r07_Levels_b16:ACode:=(.seq (.seq (.reg r07_Levels_p19) (.cond (.t 17) .skip (.exit 0))) (.seq (.block 1 [] (.reg r07_Levels_p18)) (.reg r07_Levels_p17)))
abbrev r07_Levels_p20:List AG:=[o 4 (.mv (.c (.int .i64 0)))]
abbrev r07_Levels_p21:List AG:=[o 2 (.nilrow 1 t_int)]
abbrev r07_Levels_p22:ACode:=(.seq (.reg r07_Levels_p21) .ret)
abbrev r07_Levels_p23:List AG:=[o 10 (.load true 4 (.t 1)),o 11 (.call (.f n_r07_right) [(.t 10)]),o 12 (.not (.t 11))]
abbrev r07_Levels_p24:List AG:=[o 3 (.nilrow 1 t_int)]
abbrev r07_Levels_p25:List AG:=[o 1 (.box 4 (.t 0)),o 2 (.nilrow 1 t_int)]
abbrev r07_Levels:AFun:=⟨(.seq (.reg r07_Levels_p25) (.seq (.reg r07_Levels_p24) (.seq (.seq (.reg r07_Levels_p23) (.cond (.t 12) r07_Levels_p22 .skip)) (.seq (.seq (.reg r07_Levels_p20) (.block 0 r07_Levels_x16 (.loop r07_Levels_m16 r07_Levels_b16))) (.seq (.reg r07_Levels_p15) (.seq (.seq (.reg r07_Levels_p14) (.block 2 r07_Levels_x1 (.loop r07_Levels_m1 r07_Levels_b1))) (.seq (.reg r07_Levels_p0) .ret))))))),72,[.tmp 2]⟩
abbrev r07_Levels_k4:List It:=[.code (.reg r07_Levels_p3),.inBlock 3 [],.code (.reg r07_Levels_p2),.inLoop r07_Levels_m1 r07_Levels_b1,.inBlock 2 r07_Levels_x1,.code (.seq (.reg r07_Levels_p0) .ret)]
abbrev r07_Levels_L4 (x1 x3 x5 x7 x8 x9:AV) (h:List Ob) (e:Cx:=cx):Cfg:=atC n_r07_Levels (.code r07_Levels_b4::.inLoop r07_Levels_m4 r07_Levels_b4::.inBlock 4 r07_Levels_x4::r07_Levels_k4) [U,x1,U,x3,U,x5,U,x7,x8,x9,U,U,U,U,U,U,U,U,U,U,U,U,U,U,U,U,U,U,U,U,U,U,U,U,U,U,U,U,U,U,U,U,U,U,U,U,U,U,U,U,U,U,U,U,U,U,U,U,U,U,U,U,U,U,U,U,U,U,U,U,U,U] h e
abbrev r07_Levels_E4 (x1 x3 x5 x7 x8:AV) (h:List Ob) (e:Cx:=cx):Cfg:=atC n_r07_Levels r07_Levels_k4 [U,x1,U,x3,U,x5,U,x7,x8,U,U,U,U,U,U,U,U,U,U,U,U,U,U,U,U,U,U,U,U,U,U,U,U,U,U,U,U,U,U,U,U,U,U,U,U,U,U,U,U,U,U,U,U,U,U,U,U,U,U,U,U,U,U,U,U,U,U,U,U,U,U,U] h e
abbrev r07_Levels_k1:List It:=[.code (.seq (.reg r07_Levels_p0) .ret)]
abbrev r07_Levels_L1 (x1 x3 x5 x7:AV) (h:List Ob) (e:Cx:=cx):Cfg:=atC n_r07_Levels (.code r07_Levels_b1::.inLoop r07_Levels_m1 r07_Levels_b1::.inBlock 2 r07_Levels_x1::r07_Levels_k1) [U,x1,U,x3,U,x5,U,x7,U,U,U,U,U,U,U,U,U,U,U,U,U,U,U,U,U,U,U,U,U,U,U,U,U,U,U,U,U,U,U,U,U,U,U,U,U,U,U,U,U,U,U,U,U,U,U,U,U,U,U,U,U,U,U,U,U,U,U,U,U,U,U,U] h e
abbrev r07_Levels_k16:List It:=[.code (.seq (.reg r07_Levels_p15) (.seq (.seq (.reg r07_Levels_p14) (.block 2 r07_Levels_x1 (.loop r07_Levels_m1 r07_Levels_b1))) (.seq (.reg r07_Levels_p0) .ret)))]
abbrev r07_Levels_L16 (x1 x3 x4:AV) (h:List Ob) (e:Cx:=cx):Cfg:=atC n_r07_Levels (.code r07_Levels_b16::.inLoop r07_Levels_m16 r07_Levels_b16::.inBlock 0 r07_Levels_x16::r07_Levels_k16) [U,x1,U,x3,x4,U,U,U,U,U,U,U,U,U,U,U,U,U,U,U,U,U,U,U,U,U,U,U,U,U,U,U,U,U,U,U,U,U,U,U,U,U,U,U,U,U,U,U,U,U,U,U,U,U,U,U,U,U,U,U,U,U,U,U,U,U,U,U,U,U,U,U] h e
abbrev r07_Levels_E16 (x1 x3:AV) (h:List Ob) (e:Cx:=cx):Cfg:=atC n_r07_Levels r07_Levels_k16 [U,x1,U,x3,U,U,U,U,U,U,U,U,U,U,U,U,U,U,U,U,U,U,U,U,U,U,U,U,U,U,U,U,U,U,U,U,U,U,U,U,U,U,U,U,U,U,U,U,U,U,U,U,U,U,U,U,U,U,U,U,U,U,U,U,U,U,U,U,U,U,U,U] h e
@[simp] theorem c_r07_Levels:cfun Tryd.prog n_r07_Levels=some r07_Levels:=by kernel_rfl
@[simp] theorem e_r07_Levels:hasBody Tryd.prog n_r07_Levels=true:=by kernel_rfl
abbrev r01_Texts_p0:List AG:=[o 4 (.mv (.c (.bool true)))]
abbrev r01_Texts_m1:List Bool:=[I,I,O,O,O,I,O,O,O,O,O,O,O,O,O,O,O,O,O,O,O,O,O,O,O,O]
abbrev r01_Texts_x1:List Bool:=[O,O,O,O,O,O,O,O,O,O,O,O,O,O,O,O,O,O,O,O,O,O,O,O,O,O]
abbrev r01_Texts_p2:List AG:=[o 15 (.mv (.t 5)),o 16 (.ibin .add (.t 15) (.c (.int .i64 1))),o 5 (.mv (.t 16))]
abbrev r01_Texts_p3:List AG:=[o 4 (.mv (.c (.bool false)))]
abbrev r01_Texts_p4:ACode:=(.seq (.reg r01_Texts_p3) .ret)
abbrev r01_Texts_p5:List AG:=[o 17 (.mv (.t 0)),o 18 (.mv (.t 5)),o 19 (.ixAddr 1 (.t 17) (.t 18)),o 20 (.load false 1 (.t 19)),o 21 (.mv (.t 1)),o 22 (.mv (.t 5)),o 23 (.ixAddr 1 (.t 21) (.t 22)),o 24 (.load false 1 (.t 23)),o 25 (.cmp .neq (.sc .str) (.t 20) (.t 24))]
abbrev r01_Texts_p6:ACode:=(.seq (.dreg [O,O,O,O,O,O,O,O,O] [10,10,10,10,10,10,10,10,10] r01_Texts_p5) (.cond (.t 25) r01_Texts_p4 .skip))
abbrev r01_Texts_p7:List AG:=[o 11 (.mv (.t 5)),o 12 (.mv (.t 0)),o 13 (.len (.t 12)),o 14 (.cmp .lss (.sc .int) (.t 11) (.t 13))]
abbrev r01_Texts_b1:ACode:=(.seq (.seq (.reg r01_Texts_p7) (.cond (.t 14) .skip (.exit 0))) (.seq (.block 1 [] r01_Texts_p6) (.reg r01_Texts_p2)))
abbrev r01_Texts_p8:List AG:=[o 5 (.mv (.c (.int .i64 0)))]
abbrev r01_Texts_p9:List AG:=[o 4 (.mv (.c (.bool false)))]
abbrev r01_Texts_p10:ACode:=(.seq (.reg r01_Texts_p9) .ret)
abbrev r01_Texts_p11:List AG:=[o 6 (.mv (.t 0)),o 7 (.len (.t 6)),o 8 (.mv (.t 1)),o 9 (.len (.t 8)),o 10 (.cmp .neq (.sc .int) (.t 7) (.t 9))]
abbrev r01_Texts_p12:List AG:=[o 4 (.mv (.c (.bool false)))]
abbrev r01_Texts:AFun:=⟨(.seq (.reg r01_Texts_p12) (.seq (.seq (.reg r01_Texts_p11) (.cond (.t 10) r01_Texts_p10 .skip)) (.seq (.seq (.reg r01_Texts_p8) (.block 0 r01_Texts_x1 (.loop r01_Texts_m1 r01_Texts_b1))) (.seq (.reg r01_Texts_p0) .ret)))),26,[.tmp 4]⟩
abbrev r01_Texts_k1:List It:=[.code (.seq (.reg r01_Texts_p0) .ret)]
abbrev r01_Texts_L1 (x0 x1 x5:AV) (h:List Ob) (e:Cx:=cx):Cfg:=atC n_r01_Texts (.code r01_Texts_b1::.inLoop r01_Texts_m1 r01_Texts_b1::.inBlock 0 r01_Texts_x1::r01_Texts_k1) [x0,x1,U,U,U,x5,U,U,U,U,U,U,U,U,U,U,U,U,U,U,U,U,U,U,U,U] h e
@[simp] theorem c_r01_Texts:cfun Tryd.prog n_r01_Texts=some r01_Texts:=by kernel_rfl
@[simp] theorem e_r01_Texts:hasBody Tryd.prog n_r01_Texts=true:=by kernel_rfl
abbrev w05_Texts_p0:List AG:=[o 23 (.mv (.t 0)),o 24 (.len (.t 23)),o 25 (.mv (.t 1)),o 26 (.cmp .leq (.sc .int) (.t 24) (.t 25)),o 4 (.mv (.t 26))]
abbrev w05_Texts_m1:List Bool:=[I,I,O,O,O,I,O,O,O,O,O,O,O,O,O,O,O,O,O,O,O,O,O,O,O,O,O]
abbrev w05_Texts_x1:List Bool:=[I,I,O,O,O,O,O,O,O,O,O,O,O,O,O,O,O,O,O,O,O,O,O,O,O,O,O]
abbrev w05_Texts_p2:List AG:=[o 15 (.mv (.t 5)),o 16 (.ibin .add (.t 15) (.c (.int .i64 1))),o 5 (.mv (.t 16))]
abbrev w05_Texts_p3:List AG:=[o 4 (.mv (.c (.bool false)))]
abbrev w05_Texts_p4:ACode:=(.seq (.reg w05_Texts_p3) .ret)
abbrev w05_Texts_p5:List AG:=[o 17 (.mv (.t 0)),o 18 (.mv (.t 5)),o 19 (.ixAddr 1 (.t 17) (.t 18)),o 20 (.load false 1 (.t 19)),o 21 (.lenStr (.t 20)),o 22 (.cmp .gtr (.sc .int) (.t 21) (.c (.int .i64 60)))]
abbrev w05_Texts_p6:ACode:=(.seq (.reg w05_Texts_p5) (.cond (.t 22) w05_Texts_p4 .skip))
abbrev w05_Texts_p7:List AG:=[o 6 (.mv (.t 5)),o 7 (.mv (.t 0)),o 8 (.len (.t 7)),o 9 (.cmp .lss (.sc .int) (.t 6) (.t 8)),o 10 (.mv (.t 9)),oy 11 10 (.mv (.t 5)),oy 12 10 (.mv (.t 1)),oy 13 10 (.cmp .leq (.sc .int) (.t 11) (.t 12)),o 14 (.pick (.t 10) (.t 13) (.c (.bool false)))]
abbrev w05_Texts_b1:ACode:=(.seq (.seq (.reg w05_Texts_p7) (.cond (.t 14) .skip (.exit 0))) (.seq (.block 1 [] w05_Texts_p6) (.reg w05_Texts_p2)))
abbrev w05_Texts_p8:List AG:=[o 5 (.mv (.c (.int .i64 0)))]
abbrev w05_Texts_p9:List AG:=[o 4 (.mv (.c (.bool false)))]
abbrev w05_Texts:AFun:=⟨(.seq (.reg w05_Texts_p9) (.seq (.seq (.reg w05_Texts_p8) (.block 0 w05_Texts_x1 (.loop w05_Texts_m1 w05_Texts_b1))) (.seq (.reg w05_Texts_p0) .ret))),27,[.tmp 4]⟩
abbrev w05_Texts_k1:List It:=[.code (.seq (.reg w05_Texts_p0) .ret)]
abbrev w05_Texts_L1 (x0 x1 x5:AV) (h:List Ob) (e:Cx:=cx):Cfg:=atC n_w05_Texts (.code w05_Texts_b1::.inLoop w05_Texts_m1 w05_Texts_b1::.inBlock 0 w05_Texts_x1::w05_Texts_k1) [x0,x1,U,U,U,x5,U,U,U,U,U,U,U,U,U,U,U,U,U,U,U,U,U,U,U,U,U] h e
@[simp] theorem c_w05_Texts:cfun Tryd.prog n_w05_Texts=some w05_Texts:=by kernel_rfl
@[simp] theorem e_w05_Texts:hasBody Tryd.prog n_w05_Texts=true:=by kernel_rfl
abbrev order_Cone_p0:List AG:=[o 84 (.mv (.t 13)),o 4 (.mv (.t 84))]
abbrev order_Cone_m1:List Bool:=[O,O,O,O,O,O,O,O,O,O,I,O,O,I,O,O,O,O,O,O,O,O,O,O,O,O,O,O,O,O,O,O,O,O,O,O,O,O,O,O,O,O,O,O,O,O,O,O,O,O,O,O,O,O,O,O,O,O,O,O,O,O,O,O,O,O,O,O,O,O,I,I,I,O,O,O,O,O,O,O,O,O,O,O,O]
abbrev order_Cone_x1:List Bool:=[O,O,O,O,O,O,O,O,O,O,O,O,O,I,O,O,O,O,O,O,O,O,O,O,O,O,O,O,O,O,O,O,O,O,O,O,O,O,O,O,O,O,O,O,O,O,O,O,O,O,O,O,O,O,O,O,O,O,O,O,O,O,O,O,O,O,O,O,O,O,O,O,O,O,O,O,O,O,O,O,O,O,O,O,O]
abbrev order_Cone_p2:List AG:=[o 83 (.ibin .add (.t 72) (.c (.int .i64 1))),o 72 (.mv (.t 83))]
abbrev order_Cone_p3:List AG:=[o 79 (.mv (.t 13)),o 80 (.mv (.t 15)),o 81 (.lit 1 [(.str [])] [(0,(.t 80))]),o 82 (.append 1 t_string 16 (.t 79) (.t 81)),o 13 (.mv (.t 82))]
abbrev order_Cone_p4:List AG:=[o 76 (.mv (.t 10)),o 77 (.mv (.t 15)),o 78 (.lookup (.sc .str) (.bool false) (.t 76) (.t 77) false)]
abbrev order_Cone_p5:List AG:=[o 74 (.ixAddr 1 (.t 70) (.t 72)),o 75 (.load false 1 (.t 74)),o 15 (.mv (.t 75))]
abbrev order_Cone_p6:ACode:=(.seq (.reg order_Cone_p5) (.seq (.reg order_Cone_p4) (.cond (.t 78) (.reg order_Cone_p3) .skip)))
abbrev order_Cone_p7:List AG:=[o 73 (.cmp .lss (.sc .int) (.t 72) (.t 71))]
abbrev order_Cone_b1:ACode:=(.seq (.reg order_Cone_p7) (.seq (.cond (.t 73) .skip (.exit 6)) (.seq (.block 7 [] order_Cone_p6) (.reg order_Cone_p2))))
abbrev order_Cone_p8:List AG:=[o 69 (.load true 4 (.t 2)),o 70 (.call (.f n_net_Nets) [(.t 69)]),o 71 (.len (.t 70)),o 72 (.mv (.c (.int .i64 0)))]
abbrev order_Cone_p9:List AG:=[o 13 (.nilrow 1 t_string)]
abbrev order_Cone_m10:List Bool:=[O,O,I,O,O,I,O,O,O,O,I,I,O,O,O,O,O,O,O,O,O,O,O,O,O,O,O,O,O,O,O,O,O,O,O,O,O,O,O,O,O,O,O,O,O,O,O,O,O,O,O,O,O,O,O,O,O,O,O,O,O,O,O,O,O,O,O,O,O,O,O,O,O,O,O,O,O,O,O,O,O,O,O,O,O]
abbrev order_Cone_x10:List Bool:=[O,O,I,O,O,O,O,O,O,O,I,O,O,O,O,O,O,O,O,O,O,O,O,O,O,O,O,O,O,O,O,O,O,O,O,O,O,O,O,O,O,O,O,O,O,O,O,O,O,O,O,O,O,O,O,O,O,O,O,O,O,O,O,O,O,O,O,O,O,O,O,O,O,O,O,O,O,O,O,O,O,O,O,O,O]
abbrev order_Cone_p11:List AG:=[o 64 (.mv (.t 11)),o 65 (.mv (.t 5)),o 66 (.mv (.t 12)),o 67 (.lookup (.sc .str) (.list true 0 []) (.t 65) (.t 66) false),o 68 (.append 1 t_string 16 (.t 64) (.t 67)),o 11 (.mv (.t 68))]
abbrev order_Cone_p12:List AG:=[o 62 (.mv (.t 10)),o 63 (.mv (.t 12)),q (.upd (.sc .str) (.t 62) (.t 63) (.c (.bool true)))]
abbrev order_Cone_p13:ACode:=(.seq (.reg order_Cone_p12) (.reg order_Cone_p11))
abbrev order_Cone_p14:List AG:=[o 58 (.mv (.t 10)),o 59 (.mv (.t 12)),o 60 (.lookup (.sc .str) (.bool false) (.t 58) (.t 59) false),o 61 (.not (.t 60))]
abbrev order_Cone_p15:List AG:=[o 56 (.mv (.t 11)),o 57 (.slice 1 (.t 56) (some (.c (.int .i64 1))) none),o 11 (.mv (.t 57))]
abbrev order_Cone_p16:List AG:=[o 53 (.mv (.t 11)),o 54 (.ixAddr 1 (.t 53) (.c (.int .i64 0))),o 55 (.load false 1 (.t 54)),o 12 (.mv (.t 55))]
abbrev order_Cone_p17:ACode:=(.seq (.reg order_Cone_p16) (.seq (.reg order_Cone_p15) (.seq (.reg order_Cone_p14) (.cond (.t 61) order_Cone_p13 .skip))))
abbrev order_Cone_p18:List AG:=[o 50 (.mv (.t 11)),o 51 (.len (.t 50)),o 52 (.cmp .gtr (.sc .int) (.t 51) (.c (.int .i64 0)))]
abbrev order_Cone_b10:ACode:=(.seq (.seq (.reg order_Cone_p18) (.cond (.t 52) .skip (.exit 4))) (.block 5 [] order_Cone_p17))
abbrev order_Cone_p19:List AG:=[o 48 (.mv (.t 1)),o 49 (.call (.f n_slices_Clone_string_string) [(.t 48)]),o 11 (.mv (.t 49))]
abbrev order_Cone_p20:List AG:=[o 47 (.mkMap),o 10 (.mv (.t 47))]
abbrev order_Cone_m21:List Bool:=[O,I,I,O,O,I,O,O,O,O,O,O,O,O,O,O,O,O,O,O,O,O,O,O,O,O,O,O,O,O,O,O,O,O,O,I,I,I,O,O,O,O,O,O,O,O,O,O,O,O,O,O,O,O,O,O,O,O,O,O,O,O,O,O,O,O,O,O,O,O,O,O,O,O,O,O,O,O,O,O,O,O,O,O,O]
abbrev order_Cone_x21:List Bool:=[O,I,I,O,O,I,O,O,O,O,O,O,O,O,O,O,O,O,O,O,O,O,O,O,O,O,O,O,O,O,O,O,O,O,O,O,O,O,O,O,O,O,O,O,O,O,O,O,O,O,O,O,O,O,O,O,O,O,O,O,O,O,O,O,O,O,O,O,O,O,O,O,O,O,O,O,O,O,O,O,O,O,O,O,O]
abbrev order_Cone_p22:List AG:=[o 46 (.ibin .add (.t 37) (.c (.int .i64 1))),o 37 (.mv (.t 46))]
abbrev order_Cone_p23:List AG:=[o 41 (.mv (.t 5)),o 42 (.off 0 (.t 9)),o 43 (.load false 1 (.t 42)),o 44 (.off 2 (.t 9)),o 45 (.load false 1 (.t 44)),q (.upd (.sc .str) (.t 41) (.t 43) (.t 45))]
abbrev order_Cone_p24:List AG:=[o 39 (.ixAddr 5 (.t 35) (.t 37)),o 40 (.load true 5 (.t 39)),o 9 (.alloc [(.str []),(.int .i64 0),(.own 1 t_string []),(.own 1 t_string []),(.bool false)]),q (.store 5 (.t 9) (.t 40))]
abbrev order_Cone_p25:ACode:=(.seq (.reg order_Cone_p24) (.reg order_Cone_p23))
abbrev order_Cone_p26:List AG:=[o 38 (.cmp .lss (.sc .int) (.t 37) (.t 36))]
abbrev order_Cone_b21:ACode:=(.seq (.reg order_Cone_p26) (.seq (.cond (.t 38) .skip (.exit 2)) (.seq (.block 3 [] order_Cone_p25) (.reg order_Cone_p22))))
abbrev order_Cone_p27:List AG:=[o 34 (.off 3 (.t 2)),o 35 (.load false 1 (.t 34)),o 36 (.len (.t 35)),o 37 (.mv (.c (.int .i64 0)))]
abbrev order_Cone_m28:List Bool:=[O,I,I,O,O,I,O,O,O,O,O,O,O,O,O,O,O,O,O,O,O,I,I,I,O,O,O,O,O,O,O,O,O,O,O,O,O,O,O,O,O,O,O,O,O,O,O,O,O,O,O,O,O,O,O,O,O,O,O,O,O,O,O,O,O,O,O,O,O,O,O,O,O,O,O,O,O,O,O,O,O,O,O,O,O]
abbrev order_Cone_x28:List Bool:=[O,I,I,O,O,I,O,O,O,O,O,O,O,O,O,O,O,O,O,O,O,O,O,O,O,O,O,O,O,O,O,O,O,O,O,O,O,O,O,O,O,O,O,O,O,O,O,O,O,O,O,O,O,O,O,O,O,O,O,O,O,O,O,O,O,O,O,O,O,O,O,O,O,O,O,O,O,O,O,O,O,O,O,O,O]
abbrev order_Cone_p29:List AG:=[o 33 (.ibin .add (.t 23) (.c (.int .i64 1))),o 23 (.mv (.t 33))]
abbrev order_Cone_p30:List AG:=[o 27 (.mv (.t 5)),o 28 (.off 0 (.t 7)),o 29 (.load false 1 (.t 28)),o 30 (.off 1 (.t 7)),o 31 (.load false 1 (.t 30)),o 32 (.lit 1 [(.str [])] [(0,(.t 31))]),q (.upd (.sc .str) (.t 27) (.t 29) (.t 32))]
abbrev order_Cone_p31:List AG:=[o 25 (.ixAddr 3 (.t 21) (.t 23)),o 26 (.load true 3 (.t 25)),o 7 (.alloc [(.str []),(.str []),(.int .i64 0)]),q (.store 3 (.t 7) (.t 26))]
abbrev order_Cone_p32:ACode:=(.seq (.reg order_Cone_p31) (.reg order_Cone_p30))
abbrev order_Cone_p33:List AG:=[o 24 (.cmp .lss (.sc .int) (.t 23) (.t 22))]
abbrev order_Cone_b28:ACode:=(.seq (.reg order_Cone_p33) (.seq (.cond (.t 24) .skip (.exit 0)) (.seq (.block 1 [] order_Cone_p32) (.reg order_Cone_p29))))
abbrev order_Cone_p34:List AG:=[o 20 (.off 2 (.t 2)),o 21 (.load false 1 (.t 20)),o 22 (.len (.t 21)),o 23 (.mv (.c (.int .i64 0)))]
abbrev order_Cone_p35:List AG:=[o 19 (.mkMap),o 5 (.mv (.t 19))]
abbrev order_Cone_p36:List AG:=[o 4 (.nilrow 1 t_string)]
abbrev order_Cone_p37:ACode:=(.seq (.reg order_Cone_p36) .ret)
abbrev order_Cone_p38:List AG:=[o 16 (.load true 4 (.t 2)),o 17 (.call (.f n_order_right) [(.t 16)]),o 18 (.not (.t 17))]
abbrev order_Cone_p39:List AG:=[o 2 (.box 4 (.t 0)),o 4 (.nilrow 1 t_string)]
abbrev order_Cone:AFun:=⟨(.seq (.reg order_Cone_p39) (.seq (.seq (.reg order_Cone_p38) (.cond (.t 18) order_Cone_p37 .skip)) (.seq (.reg order_Cone_p35) (.seq (.seq (.reg order_Cone_p34) (.block 0 order_Cone_x28 (.loop order_Cone_m28 order_Cone_b28))) (.seq (.seq (.reg order_Cone_p27) (.block 2 order_Cone_x21 (.loop order_Cone_m21 order_Cone_b21))) (.seq (.reg order_Cone_p20) (.seq (.seq (.reg order_Cone_p19) (.block 4 order_Cone_x10 (.loop order_Cone_m10 order_Cone_b10))) (.seq (.reg order_Cone_p9) (.seq (.seq (.reg order_Cone_p8) (.block 6 order_Cone_x1 (.loop order_Cone_m1 order_Cone_b1))) (.seq (.reg order_Cone_p0) .ret)))))))))),85,[.tmp 4]⟩
abbrev order_Cone_k1:List It:=[.code (.seq (.reg order_Cone_p0) .ret)]
abbrev order_Cone_L1 (x10 x13 x70 x71 x72:AV) (h:List Ob) (e:Cx:=cx):Cfg:=atC n_order_Cone (.code order_Cone_b1::.inLoop order_Cone_m1 order_Cone_b1::.inBlock 6 order_Cone_x1::order_Cone_k1) [U,U,U,U,U,U,U,U,U,U,x10,U,U,x13,U,U,U,U,U,U,U,U,U,U,U,U,U,U,U,U,U,U,U,U,U,U,U,U,U,U,U,U,U,U,U,U,U,U,U,U,U,U,U,U,U,U,U,U,U,U,U,U,U,U,U,U,U,U,U,U,x70,x71,x72,U,U,U,U,U,U,U,U,U,U,U,U] h e
abbrev order_Cone_k10:List It:=[.code (.seq (.reg order_Cone_p9) (.seq (.seq (.reg order_Cone_p8) (.block 6 order_Cone_x1 (.loop order_Cone_m1 order_Cone_b1))) (.seq (.reg order_Cone_p0) .ret)))]
abbrev order_Cone_L10 (x2 x5 x10 x11:AV) (h:List Ob) (e:Cx:=cx):Cfg:=atC n_order_Cone (.code order_Cone_b10::.inLoop order_Cone_m10 order_Cone_b10::.inBlock 4 order_Cone_x10::order_Cone_k10) [U,U,x2,U,U,x5,U,U,U,U,x10,x11,U,U,U,U,U,U,U,U,U,U,U,U,U,U,U,U,U,U,U,U,U,U,U,U,U,U,U,U,U,U,U,U,U,U,U,U,U,U,U,U,U,U,U,U,U,U,U,U,U,U,U,U,U,U,U,U,U,U,U,U,U,U,U,U,U,U,U,U,U,U,U,U,U] h e
abbrev order_Cone_k21:List It:=[.code (.seq (.reg order_Cone_p20) (.seq (.seq (.reg order_Cone_p19) (.block 4 order_Cone_x10 (.loop order_Cone_m10 order_Cone_b10))) (.seq (.reg order_Cone_p9) (.seq (.seq (.reg order_Cone_p8) (.block 6 order_Cone_x1 (.loop order_Cone_m1 order_Cone_b1))) (.seq (.reg order_Cone_p0) .ret)))))]
abbrev order_Cone_L21 (x1 x2 x5 x35 x36 x37:AV) (h:List Ob) (e:Cx:=cx):Cfg:=atC n_order_Cone (.code order_Cone_b21::.inLoop order_Cone_m21 order_Cone_b21::.inBlock 2 order_Cone_x21::order_Cone_k21) [U,x1,x2,U,U,x5,U,U,U,U,U,U,U,U,U,U,U,U,U,U,U,U,U,U,U,U,U,U,U,U,U,U,U,U,U,x35,x36,x37,U,U,U,U,U,U,U,U,U,U,U,U,U,U,U,U,U,U,U,U,U,U,U,U,U,U,U,U,U,U,U,U,U,U,U,U,U,U,U,U,U,U,U,U,U,U,U] h e
abbrev order_Cone_k28:List It:=[.code (.seq (.seq (.reg order_Cone_p27) (.block 2 order_Cone_x21 (.loop order_Cone_m21 order_Cone_b21))) (.seq (.reg order_Cone_p20) (.seq (.seq (.reg order_Cone_p19) (.block 4 order_Cone_x10 (.loop order_Cone_m10 order_Cone_b10))) (.seq (.reg order_Cone_p9) (.seq (.seq (.reg order_Cone_p8) (.block 6 order_Cone_x1 (.loop order_Cone_m1 order_Cone_b1))) (.seq (.reg order_Cone_p0) .ret))))))]
abbrev order_Cone_L28 (x1 x2 x5 x21 x22 x23:AV) (h:List Ob) (e:Cx:=cx):Cfg:=atC n_order_Cone (.code order_Cone_b28::.inLoop order_Cone_m28 order_Cone_b28::.inBlock 0 order_Cone_x28::order_Cone_k28) [U,x1,x2,U,U,x5,U,U,U,U,U,U,U,U,U,U,U,U,U,U,U,x21,x22,x23,U,U,U,U,U,U,U,U,U,U,U,U,U,U,U,U,U,U,U,U,U,U,U,U,U,U,U,U,U,U,U,U,U,U,U,U,U,U,U,U,U,U,U,U,U,U,U,U,U,U,U,U,U,U,U,U,U,U,U,U,U] h e
@[simp] theorem c_order_Cone:cfun Tryd.prog n_order_Cone=some order_Cone:=by kernel_rfl
@[simp] theorem e_order_Cone:hasBody Tryd.prog n_order_Cone=true:=by kernel_rfl
abbrev order_Trim_p0:List AG:=[o 60 (.load true 4 (.t 4)),q (.store 4 (.t 2) (.t 60))]
abbrev order_Trim_m1:List Bool:=[O,O,I,I,I,O,O,O,O,O,O,O,O,O,O,O,O,O,O,O,O,O,O,O,O,O,O,O,O,O,O,O,O,O,O,O,O,O,O,O,O,O,O,I,I,I,O,O,O,O,O,O,O,O,O,O,O,O,O,O,O]
abbrev order_Trim_x1:List Bool:=[O,O,I,O,I,O,O,O,O,O,O,O,O,O,O,O,O,O,O,O,O,O,O,O,O,O,O,O,O,O,O,O,O,O,O,O,O,O,O,O,O,O,O,O,O,O,O,O,O,O,O,O,O,O,O,O,O,O,O,O,O]
abbrev order_Trim_p2:List AG:=[o 59 (.ibin .add (.t 45) (.c (.int .i64 1))),o 45 (.mv (.t 59))]
abbrev order_Trim_p3:List AG:=[o 53 (.off 3 (.t 4)),o 54 (.load false 1 (.t 53)),o 55 (.load true 5 (.t 8)),o 56 (.lit 5 [(.agg [(.str []),(.int .i64 0),(.list true 0 []),(.list true 0 []),(.bool false)])] [(0,(.t 55))]),o 57 (.append 5 t_api_Gate_2 80 (.t 54) (.t 56)),o 58 (.off 3 (.t 4)),q (.store 1 (.t 58) (.t 57))]
abbrev order_Trim_p4:List AG:=[o 49 (.mv (.t 3)),o 50 (.off 0 (.t 8)),o 51 (.load false 1 (.t 50)),o 52 (.call (.f n_slices_Contains_string_string) [(.t 49),(.t 51)])]
abbrev order_Trim_p5:List AG:=[o 47 (.ixAddr 5 (.t 43) (.t 45)),o 48 (.load true 5 (.t 47)),o 8 (.alloc [(.str []),(.int .i64 0),(.own 1 t_string []),(.own 1 t_string []),(.bool false)]),q (.store 5 (.t 8) (.t 48))]
abbrev order_Trim_p6:ACode:=(.seq (.reg order_Trim_p5) (.seq (.reg order_Trim_p4) (.cond (.t 52) (.reg order_Trim_p3) .skip)))
abbrev order_Trim_p7:List AG:=[o 46 (.cmp .lss (.sc .int) (.t 45) (.t 44))]
abbrev order_Trim_b1:ACode:=(.seq (.reg order_Trim_p7) (.seq (.cond (.t 46) .skip (.exit 2)) (.seq (.block 3 [] order_Trim_p6) (.reg order_Trim_p2))))
abbrev order_Trim_p8:List AG:=[o 42 (.off 3 (.t 1)),o 43 (.load false 1 (.t 42)),o 44 (.len (.t 43)),o 45 (.mv (.c (.int .i64 0)))]
abbrev order_Trim_m9:List Bool:=[O,I,I,I,I,O,O,O,O,O,O,O,O,O,O,O,O,O,O,O,O,O,O,O,O,I,I,I,O,O,O,O,O,O,O,O,O,O,O,O,O,O,O,O,O,O,O,O,O,O,O,O,O,O,O,O,O,O,O,O,O]
abbrev order_Trim_x9:List Bool:=[O,I,I,I,I,O,O,O,O,O,O,O,O,O,O,O,O,O,O,O,O,O,O,O,O,O,O,O,O,O,O,O,O,O,O,O,O,O,O,O,O,O,O,O,O,O,O,O,O,O,O,O,O,O,O,O,O,O,O,O,O]
abbrev order_Trim_p10:List AG:=[o 41 (.ibin .add (.t 27) (.c (.int .i64 1))),o 27 (.mv (.t 41))]
abbrev order_Trim_p11:List AG:=[o 35 (.off 2 (.t 4)),o 36 (.load false 1 (.t 35)),o 37 (.load true 3 (.t 6)),o 38 (.lit 3 [(.agg [(.str []),(.str []),(.int .i64 0)])] [(0,(.t 37))]),o 39 (.append 3 t_api_Latch_2 40 (.t 36) (.t 38)),o 40 (.off 2 (.t 4)),q (.store 1 (.t 40) (.t 39))]
abbrev order_Trim_p12:List AG:=[o 31 (.mv (.t 3)),o 32 (.off 0 (.t 6)),o 33 (.load false 1 (.t 32)),o 34 (.call (.f n_slices_Contains_string_string) [(.t 31),(.t 33)])]
abbrev order_Trim_p13:List AG:=[o 29 (.ixAddr 3 (.t 25) (.t 27)),o 30 (.load true 3 (.t 29)),o 6 (.alloc [(.str []),(.str []),(.int .i64 0)]),q (.store 3 (.t 6) (.t 30))]
abbrev order_Trim_p14:ACode:=(.seq (.reg order_Trim_p13) (.seq (.reg order_Trim_p12) (.cond (.t 34) (.reg order_Trim_p11) .skip)))
abbrev order_Trim_p15:List AG:=[o 28 (.cmp .lss (.sc .int) (.t 27) (.t 26))]
abbrev order_Trim_b9:ACode:=(.seq (.reg order_Trim_p15) (.seq (.cond (.t 28) .skip (.exit 0)) (.seq (.block 1 [] order_Trim_p14) (.reg order_Trim_p10))))
abbrev order_Trim_p16:List AG:=[o 24 (.off 2 (.t 1)),o 25 (.load false 1 (.t 24)),o 26 (.len (.t 25)),o 27 (.mv (.c (.int .i64 0)))]
abbrev order_Trim_p17:List AG:=[o 17 (.off 0 (.t 1)),o 18 (.load false 1 (.t 17)),o 19 (.call (.f n_slices_Clone_string_string) [(.t 18)]),o 20 (.off 1 (.t 1)),o 21 (.load false 1 (.t 20)),o 22 (.call (.f n_slices_Clone_string_string) [(.t 21)]),o 23 (.build [(.list true 0 []),(.list true 0 []),(.list true 0 []),(.list true 0 [])] [(0,1,(.t 19)),(1,1,(.t 22))]),o 4 (.alloc [(.own 1 t_string []),(.own 1 t_string []),(.own 3 t_api_Latch_2 []),(.own 5 t_api_Gate_2 [])]),q (.store 4 (.t 4) (.t 23))]
abbrev order_Trim_p18:List AG:=[o 13 (.load true 4 (.t 1)),o 14 (.off 1 (.t 1)),o 15 (.load false 1 (.t 14)),o 16 (.call (.f n_order_Cone) [(.t 13),(.t 15)]),o 3 (.mv (.t 16))]
abbrev order_Trim_p19:List AG:=[o 12 (.build [(.list true 0 []),(.list true 0 []),(.list true 0 []),(.list true 0 [])] []),q (.store 4 (.t 2) (.t 12))]
abbrev order_Trim_p20:ACode:=(.seq (.reg order_Trim_p19) .ret)
abbrev order_Trim_p21:List AG:=[o 9 (.load true 4 (.t 1)),o 10 (.call (.f n_order_right) [(.t 9)]),o 11 (.not (.t 10))]
abbrev order_Trim_p22:List AG:=[o 1 (.box 4 (.t 0)),o 2 (.alloc [(.own 1 t_string []),(.own 1 t_string []),(.own 3 t_api_Latch_2 []),(.own 5 t_api_Gate_2 [])])]
abbrev order_Trim:AFun:=⟨(.seq (.reg order_Trim_p22) (.seq (.seq (.reg order_Trim_p21) (.cond (.t 11) order_Trim_p20 .skip)) (.seq (.reg order_Trim_p18) (.seq (.dreg [O,I,I,O,I,I,O,O,O] [9,9,9,9,9,9,9,9,10] order_Trim_p17) (.seq (.seq (.reg order_Trim_p16) (.block 0 order_Trim_x9 (.loop order_Trim_m9 order_Trim_b9))) (.seq (.seq (.reg order_Trim_p8) (.block 2 order_Trim_x1 (.loop order_Trim_m1 order_Trim_b1))) (.seq (.reg order_Trim_p0) .ret))))))),61,[.cell 2 true 4]⟩
abbrev order_Trim_k1:List It:=[.code (.seq (.reg order_Trim_p0) .ret)]
abbrev order_Trim_L1 (x2 x3 x4 x43 x44 x45:AV) (h:List Ob) (e:Cx:=cx):Cfg:=atC n_order_Trim (.code order_Trim_b1::.inLoop order_Trim_m1 order_Trim_b1::.inBlock 2 order_Trim_x1::order_Trim_k1) [U,U,x2,x3,x4,U,U,U,U,U,U,U,U,U,U,U,U,U,U,U,U,U,U,U,U,U,U,U,U,U,U,U,U,U,U,U,U,U,U,U,U,U,U,x43,x44,x45,U,U,U,U,U,U,U,U,U,U,U,U,U,U,U] h e
abbrev order_Trim_k9:List It:=[.code (.seq (.seq (.reg order_Trim_p8) (.block 2 order_Trim_x1 (.loop order_Trim_m1 order_Trim_b1))) (.seq (.reg order_Trim_p0) .ret))]
abbrev order_Trim_L9 (x1 x2 x3 x4 x25 x26 x27:AV) (h:List Ob) (e:Cx:=cx):Cfg:=atC n_order_Trim (.code order_Trim_b9::.inLoop order_Trim_m9 order_Trim_b9::.inBlock 0 order_Trim_x9::order_Trim_k9) [U,x1,x2,x3,x4,U,U,U,U,U,U,U,U,U,U,U,U,U,U,U,U,U,U,U,U,x25,x26,x27,U,U,U,U,U,U,U,U,U,U,U,U,U,U,U,U,U,U,U,U,U,U,U,U,U,U,U,U,U,U,U,U,U] h e
@[simp] theorem c_order_Trim:cfun Tryd.prog n_order_Trim=some order_Trim:=by kernel_rfl
@[simp] theorem e_order_Trim:hasBody Tryd.prog n_order_Trim=true:=by kernel_rfl
abbrev w06_Few_p0:List AG:=[o 62 (.mv (.t 6)),o 63 (.mv (.t 62)),oy 64 63 (.mv (.t 7)),o 65 (.pick (.t 63) (.t 64) (.c (.bool false))),o 66 (.mv (.t 65)),oy 67 66 (.off 3 (.t 1)),oy 68 66 (.load false 1 (.t 67)),oy 69 66 (.len (.t 68)),oy 70 66 (.cmp .leq (.sc .int) (.t 69) (.c (.int .i64 210))),o 71 (.pick (.t 66) (.t 70) (.c (.bool false))),o 72 (.mv (.t 71)),oy 73 72 (.off 2 (.t 1)),oy 74 72 (.load false 1 (.t 73)),oy 75 72 (.len (.t 74)),oy 76 72 (.cmp .leq (.sc .int) (.t 75) (.c (.int .i64 210))),o 77 (.pick (.t 72) (.t 76) (.c (.bool false))),o 2 (.mv (.t 77))]
abbrev w06_Few_p1:List AG:=[o 59 (.off 1 (.t 1)),o 60 (.load false 1 (.t 59)),o 61 (.call (.f n_w05_Texts) [(.t 60),(.c (.int .i64 210))]),o 7 (.mv (.t 61))]
abbrev w06_Few_p2:List AG:=[o 56 (.off 0 (.t 1)),o 57 (.load false 1 (.t 56)),o 58 (.call (.f n_w05_Texts) [(.t 57),(.c (.int .i64 210))]),o 6 (.mv (.t 58))]
abbrev w06_Few_m3:List Bool:=[O,I,O,O,O,I,O,O,O,O,O,O,O,O,O,O,O,O,O,O,O,O,O,O,O,O,O,O,O,O,O,O,O,O,O,O,O,O,O,O,O,O,O,O,O,O,O,O,O,O,O,O,O,O,O,O,O,O,O,O,O,O,O,O,O,O,O,O,O,O,O,O,O,O,O,O,O,O]
abbrev w06_Few_x3:List Bool:=[O,I,O,O,O,O,O,O,O,O,O,O,O,O,O,O,O,O,O,O,O,O,O,O,O,O,O,O,O,O,O,O,O,O,O,O,O,O,O,O,O,O,O,O,O,O,O,O,O,O,O,O,O,O,O,O,O,O,O,O,O,O,O,O,O,O,O,O,O,O,O,O,O,O,O,O,O,O]
abbrev w06_Few_p4:List AG:=[o 36 (.mv (.t 5)),o 37 (.ibin .add (.t 36) (.c (.int .i64 1))),o 5 (.mv (.t 37))]
abbrev w06_Few_p5:List AG:=[o 2 (.mv (.c (.bool false)))]
abbrev w06_Few_p6:ACode:=(.seq (.reg w06_Few_p5) .ret)
abbrev w06_Few_p7:List AG:=[o 38 (.off 2 (.t 1)),o 39 (.load false 1 (.t 38)),o 40 (.mv (.t 5)),o 41 (.ixAddr 3 (.t 39) (.t 40)),o 42 (.off 0 (.t 41)),o 43 (.load false 1 (.t 42)),o 44 (.lenStr (.t 43)),o 45 (.cmp .gtr (.sc .int) (.t 44) (.c (.int .i64 60))),o 46 (.mv (.t 45)),on 47 46 (.off 2 (.t 1)),on 48 46 (.load false 1 (.t 47)),on 49 46 (.mv (.t 5)),on 50 46 (.ixAddr 3 (.t 48) (.t 49)),on 51 46 (.off 1 (.t 50)),on 52 46 (.load false 1 (.t 51)),on 53 46 (.lenStr (.t 52)),on 54 46 (.cmp .gtr (.sc .int) (.t 53) (.c (.int .i64 60))),o 55 (.pick (.t 46) (.c (.bool true)) (.t 54))]
abbrev w06_Few_p8:ACode:=(.seq (.reg w06_Few_p7) (.cond (.t 55) w06_Few_p6 .skip))
abbrev w06_Few_p9:List AG:=[o 27 (.mv (.t 5)),o 28 (.off 2 (.t 1)),o 29 (.load false 1 (.t 28)),o 30 (.len (.t 29)),o 31 (.cmp .lss (.sc .int) (.t 27) (.t 30)),o 32 (.mv (.t 31)),oy 33 32 (.mv (.t 5)),oy 34 32 (.cmp .leq (.sc .int) (.t 33) (.c (.int .i64 210))),o 35 (.pick (.t 32) (.t 34) (.c (.bool false)))]
abbrev w06_Few_b3:ACode:=(.seq (.seq (.reg w06_Few_p9) (.cond (.t 35) .skip (.exit 2))) (.seq (.block 3 [] w06_Few_p8) (.reg w06_Few_p4)))
abbrev w06_Few_p10:List AG:=[o 5 (.mv (.c (.int .i64 0)))]
abbrev w06_Few_m11:List Bool:=[O,I,O,I,O,O,O,O,O,O,O,O,O,O,O,O,O,O,O,O,O,O,O,O,O,O,O,O,O,O,O,O,O,O,O,O,O,O,O,O,O,O,O,O,O,O,O,O,O,O,O,O,O,O,O,O,O,O,O,O,O,O,O,O,O,O,O,O,O,O,O,O,O,O,O,O,O,O]
abbrev w06_Few_x11:List Bool:=[O,I,O,O,O,O,O,O,O,O,O,O,O,O,O,O,O,O,O,O,O,O,O,O,O,O,O,O,O,O,O,O,O,O,O,O,O,O,O,O,O,O,O,O,O,O,O,O,O,O,O,O,O,O,O,O,O,O,O,O,O,O,O,O,O,O,O,O,O,O,O,O,O,O,O,O,O,O]
abbrev w06_Few_p12:List AG:=[o 17 (.mv (.t 3)),o 18 (.ibin .add (.t 17) (.c (.int .i64 1))),o 3 (.mv (.t 18))]
abbrev w06_Few_p13:List AG:=[o 2 (.mv (.c (.bool false)))]
abbrev w06_Few_p14:ACode:=(.seq (.reg w06_Few_p13) .ret)
abbrev w06_Few_p15:List AG:=[o 25 (.mv (.t 4)),o 26 (.not (.t 25))]
abbrev w06_Few_p16:List AG:=[o 19 (.off 3 (.t 1)),o 20 (.load false 1 (.t 19)),o 21 (.mv (.t 3)),o 22 (.ixAddr 5 (.t 20) (.t 21)),o 23 (.load true 5 (.t 22)),o 24 (.call (.f n_w06_FewGate) [(.t 23)]),o 4 (.mv (.t 24))]
abbrev w06_Few_p17:ACode:=(.seq (.reg w06_Few_p16) (.seq (.reg w06_Few_p15) (.cond (.t 26) w06_Few_p14 .skip)))
abbrev w06_Few_p18:List AG:=[o 8 (.mv (.t 3)),o 9 (.off 3 (.t 1)),o 10 (.load false 1 (.t 9)),o 11 (.len (.t 10)),o 12 (.cmp .lss (.sc .int) (.t 8) (.t 11)),o 13 (.mv (.t 12)),oy 14 13 (.mv (.t 3)),oy 15 13 (.cmp .leq (.sc .int) (.t 14) (.c (.int .i64 210))),o 16 (.pick (.t 13) (.t 15) (.c (.bool false)))]
abbrev w06_Few_b11:ACode:=(.seq (.seq (.reg w06_Few_p18) (.cond (.t 16) .skip (.exit 0))) (.seq (.block 1 [] w06_Few_p17) (.reg w06_Few_p12)))
abbrev w06_Few_p19:List AG:=[o 3 (.mv (.c (.int .i64 0)))]
abbrev w06_Few_p20:List AG:=[o 1 (.box 4 (.t 0)),o 2 (.mv (.c (.bool false)))]
abbrev w06_Few:AFun:=⟨(.seq (.reg w06_Few_p20) (.seq (.seq (.reg w06_Few_p19) (.block 0 w06_Few_x11 (.loop w06_Few_m11 w06_Few_b11))) (.seq (.seq (.reg w06_Few_p10) (.block 2 w06_Few_x3 (.loop w06_Few_m3 w06_Few_b3))) (.seq (.reg w06_Few_p2) (.seq (.reg w06_Few_p1) (.seq (.reg w06_Few_p0) .ret)))))),78,[.tmp 2]⟩
abbrev w06_Few_k3:List It:=[.code (.seq (.reg w06_Few_p2) (.seq (.reg w06_Few_p1) (.seq (.reg w06_Few_p0) .ret)))]
abbrev w06_Few_L3 (x1 x5:AV) (h:List Ob) (e:Cx:=cx):Cfg:=atC n_w06_Few (.code w06_Few_b3::.inLoop w06_Few_m3 w06_Few_b3::.inBlock 2 w06_Few_x3::w06_Few_k3) [U,x1,U,U,U,x5,U,U,U,U,U,U,U,U,U,U,U,U,U,U,U,U,U,U,U,U,U,U,U,U,U,U,U,U,U,U,U,U,U,U,U,U,U,U,U,U,U,U,U,U,U,U,U,U,U,U,U,U,U,U,U,U,U,U,U,U,U,U,U,U,U,U,U,U,U,U,U,U] h e
abbrev w06_Few_E3 (x1:AV) (h:List Ob) (e:Cx:=cx):Cfg:=atC n_w06_Few w06_Few_k3 [U,x1,U,U,U,U,U,U,U,U,U,U,U,U,U,U,U,U,U,U,U,U,U,U,U,U,U,U,U,U,U,U,U,U,U,U,U,U,U,U,U,U,U,U,U,U,U,U,U,U,U,U,U,U,U,U,U,U,U,U,U,U,U,U,U,U,U,U,U,U,U,U,U,U,U,U,U,U] h e
abbrev w06_Few_k11:List It:=[.code (.seq (.seq (.reg w06_Few_p10) (.block 2 w06_Few_x3 (.loop w06_Few_m3 w06_Few_b3))) (.seq (.reg w06_Few_p2) (.seq (.reg w06_Few_p1) (.seq (.reg w06_Few_p0) .ret))))]
abbrev w06_Few_L11 (x1 x3:AV) (h:List Ob) (e:Cx:=cx):Cfg:=atC n_w06_Few (.code w06_Few_b11::.inLoop w06_Few_m11 w06_Few_b11::.inBlock 0 w06_Few_x11::w06_Few_k11) [U,x1,U,x3,U,U,U,U,U,U,U,U,U,U,U,U,U,U,U,U,U,U,U,U,U,U,U,U,U,U,U,U,U,U,U,U,U,U,U,U,U,U,U,U,U,U,U,U,U,U,U,U,U,U,U,U,U,U,U,U,U,U,U,U,U,U,U,U,U,U,U,U,U,U,U,U,U,U] h e
@[simp] theorem c_w06_Few:cfun Tryd.prog n_w06_Few=some w06_Few:=by kernel_rfl
@[simp] theorem e_w06_Few:hasBody Tryd.prog n_w06_Few=true:=by kernel_rfl
abbrev net_Check_p0:List AG:=[q (.store 1 (.t 2) (.c (.int .i64 0))),q (.store 1 (.t 3) (.c (.str [])))]
abbrev net_Check_m1:List Bool:=[O,O,I,I,O,O,O,I,O,O,O,O,O,O,O,O,O,O,O,O,O,O,O,O,O,O,O,O,O,O,O,O,O,O,O,O,O,O,O,O,O,O,O,O,O,O,O,O,O,O,O,O,O,O,O,O,O,O,O,O,O,O,O,O,O,O,O,O,O,O,O,O,O,O,O,O,O,O,O,O,O,O,O,O,O,O,O,O,O,O,O,O,I,I,I,O,O,O,O,O,O,O,O,O]
abbrev net_Check_x1:List Bool:=[O,O,I,I,O,O,O,O,O,O,O,O,O,O,O,O,O,O,O,O,O,O,O,O,O,O,O,O,O,O,O,O,O,O,O,O,O,O,O,O,O,O,O,O,O,O,O,O,O,O,O,O,O,O,O,O,O,O,O,O,O,O,O,O,O,O,O,O,O,O,O,O,O,O,O,O,O,O,O,O,O,O,O,O,O,O,O,O,O,O,O,O,O,O,O,O,O,O,O,O,O,O,O,O]
abbrev net_Check_p2:List AG:=[o 103 (.ibin .add (.t 94) (.c (.int .i64 1))),o 94 (.mv (.t 103))]
abbrev net_Check_p3:List AG:=[o 98 (.mv (.t 7)),o 99 (.mv (.t 13)),o 100 (.lookup (.sc .str) (.bool false) (.t 98) (.t 99) false),o 101 (.mv (.t 13)),o 102 (.call (.f n_net_need) [(.t 100),(.c (.int .i64 6)),(.t 101)])]
abbrev net_Check_p4:List AG:=[o 96 (.ixAddr 1 (.t 92) (.t 94)),o 97 (.load false 1 (.t 96)),o 13 (.mv (.t 97))]
abbrev net_Check_p5:ACode:=(.seq (.reg net_Check_p4) (.reg net_Check_p3))
abbrev net_Check_p6:List AG:=[o 95 (.cmp .lss (.sc .int) (.t 94) (.t 93))]
abbrev net_Check_b1:ACode:=(.seq (.reg net_Check_p6) (.seq (.cond (.t 95) .skip (.exit 6)) (.seq (.block 7 [] net_Check_p5) (.reg net_Check_p2))))
abbrev net_Check_p7:List AG:=[o 91 (.load true 4 (.t 1)),o 92 (.call (.f n_net_used) [(.t 91)]),o 93 (.len (.t 92)),o 94 (.mv (.c (.int .i64 0)))]
abbrev net_Check_m8:List Bool:=[O,I,I,I,O,O,O,I,O,O,O,O,O,O,O,O,O,O,O,O,O,O,O,O,O,O,O,O,O,O,O,O,O,O,O,O,O,O,O,O,O,O,O,O,O,O,O,O,O,O,O,O,O,O,O,O,O,O,O,O,O,O,O,O,O,O,O,O,O,O,O,O,O,O,O,O,O,O,O,I,I,I,O,O,O,O,O,O,O,O,O,O,O,O,O,O,O,O,O,O,O,O,O,O]
abbrev net_Check_x8:List Bool:=[O,I,I,I,O,O,O,I,O,O,O,O,O,O,O,O,O,O,O,O,O,O,O,O,O,O,O,O,O,O,O,O,O,O,O,O,O,O,O,O,O,O,O,O,O,O,O,O,O,O,O,O,O,O,O,O,O,O,O,O,O,O,O,O,O,O,O,O,O,O,O,O,O,O,O,O,O,O,O,O,O,O,O,O,O,O,O,O,O,O,O,O,O,O,O,O,O,O,O,O,O,O,O,O]
abbrev net_Check_p9:List AG:=[o 90 (.ibin .add (.t 81) (.c (.int .i64 1))),o 81 (.mv (.t 90))]
abbrev net_Check_p10:List AG:=[o 85 (.load true 5 (.t 11)),o 86 (.call (.f n_net_Gate) [(.t 85)]),o 87 (.off 0 (.t 11)),o 88 (.load false 1 (.t 87)),o 89 (.call (.f n_net_need) [(.t 86),(.c (.int .i64 1)),(.t 88)])]
abbrev net_Check_p11:List AG:=[o 83 (.ixAddr 5 (.t 79) (.t 81)),o 84 (.load true 5 (.t 83)),o 11 (.alloc [(.str []),(.int .i64 0),(.own 1 t_string []),(.own 1 t_string []),(.bool false)]),q (.store 5 (.t 11) (.t 84))]
abbrev net_Check_p12:ACode:=(.seq (.reg net_Check_p11) (.dreg [O,O,O,I,O] [2,5,5,5,6] net_Check_p10))
abbrev net_Check_p13:List AG:=[o 82 (.cmp .lss (.sc .int) (.t 81) (.t 80))]
abbrev net_Check_b8:ACode:=(.seq (.reg net_Check_p13) (.seq (.cond (.t 82) .skip (.exit 4)) (.seq (.block 5 [] net_Check_p12) (.reg net_Check_p9))))
abbrev net_Check_p14:List AG:=[o 78 (.off 3 (.t 1)),o 79 (.load false 1 (.t 78)),o 80 (.len (.t 79)),o 81 (.mv (.c (.int .i64 0)))]
abbrev net_Check_m15:List Bool:=[O,I,I,I,O,O,O,I,O,O,O,O,O,O,O,O,O,O,O,O,O,O,O,O,O,O,O,O,O,O,O,O,O,O,O,O,O,O,O,O,O,O,O,O,O,O,O,O,O,O,O,O,O,O,O,O,O,O,O,O,I,I,I,O,O,O,O,O,O,O,O,O,O,O,O,O,O,O,O,O,O,O,O,O,O,O,O,O,O,O,O,O,O,O,O,O,O,O,O,O,O,O,O,O]
abbrev net_Check_x15:List Bool:=[O,I,I,I,O,O,O,I,O,O,O,O,O,O,O,O,O,O,O,O,O,O,O,O,O,O,O,O,O,O,O,O,O,O,O,O,O,O,O,O,O,O,O,O,O,O,O,O,O,O,O,O,O,O,O,O,O,O,O,O,O,O,O,O,O,O,O,O,O,O,O,O,O,O,O,O,O,O,O,O,O,O,O,O,O,O,O,O,O,O,O,O,O,O,O,O,O,O,O,O,O,O,O,O]
abbrev net_Check_p16:List AG:=[o 77 (.ibin .add (.t 62) (.c (.int .i64 1))),o 62 (.mv (.t 77))]
abbrev net_Check_p17:List AG:=[o 66 (.off 2 (.t 9)),o 67 (.load false 1 (.t 66)),o 68 (.cmp .geq (.sc .int) (.t 67) (.c (.int .i64 0))),o 69 (.mv (.t 68)),oy 70 69 (.off 2 (.t 9)),oy 71 69 (.load false 1 (.t 70)),oy 72 69 (.cmp .leq (.sc .int) (.t 71) (.c (.int .i64 2))),o 73 (.pick (.t 69) (.t 72) (.c (.bool false))),o 74 (.off 0 (.t 9)),o 75 (.load false 1 (.t 74)),o 76 (.call (.f n_net_need) [(.t 73),(.c (.int .i64 1)),(.t 75)])]
abbrev net_Check_p18:List AG:=[o 64 (.ixAddr 3 (.t 60) (.t 62)),o 65 (.load true 3 (.t 64)),o 9 (.alloc [(.str []),(.str []),(.int .i64 0)]),q (.store 3 (.t 9) (.t 65))]
abbrev net_Check_p19:ACode:=(.seq (.reg net_Check_p18) (.reg net_Check_p17))
abbrev net_Check_p20:List AG:=[o 63 (.cmp .lss (.sc .int) (.t 62) (.t 61))]
abbrev net_Check_b15:ACode:=(.seq (.reg net_Check_p20) (.seq (.cond (.t 63) .skip (.exit 2)) (.seq (.block 3 [] net_Check_p19) (.reg net_Check_p16))))
abbrev net_Check_p21:List AG:=[o 59 (.off 2 (.t 1)),o 60 (.load false 1 (.t 59)),o 61 (.len (.t 60)),o 62 (.mv (.c (.int .i64 0)))]
abbrev net_Check_p22:List AG:=[o 56 (.off 1 (.t 1)),o 57 (.load false 1 (.t 56)),o 58 (.call (.f n_net_once) [(.t 57)])]
abbrev net_Check_p23:List AG:=[o 53 (.load true 4 (.t 1)),o 54 (.call (.f n_net_Nets) [(.t 53)]),o 55 (.call (.f n_net_once) [(.t 54)]),o 7 (.mv (.t 55))]
abbrev net_Check_m24:List Bool:=[O,I,I,I,O,O,O,O,O,O,O,O,O,O,O,O,O,O,O,O,O,O,O,O,O,O,O,O,O,O,O,O,O,O,O,O,O,O,O,O,O,O,I,I,I,O,O,O,O,O,O,O,O,O,O,O,O,O,O,O,O,O,O,O,O,O,O,O,O,O,O,O,O,O,O,O,O,O,O,O,O,O,O,O,O,O,O,O,O,O,O,O,O,O,O,O,O,O,O,O,O,O,O,O]
abbrev net_Check_x24:List Bool:=[O,I,I,I,O,O,O,O,O,O,O,O,O,O,O,O,O,O,O,O,O,O,O,O,O,O,O,O,O,O,O,O,O,O,O,O,O,O,O,O,O,O,O,O,O,O,O,O,O,O,O,O,O,O,O,O,O,O,O,O,O,O,O,O,O,O,O,O,O,O,O,O,O,O,O,O,O,O,O,O,O,O,O,O,O,O,O,O,O,O,O,O,O,O,O,O,O,O,O,O,O,O,O,O]
abbrev net_Check_p25:List AG:=[o 52 (.ibin .add (.t 44) (.c (.int .i64 1))),o 44 (.mv (.t 52))]
abbrev net_Check_p26:List AG:=[o 48 (.mv (.t 6)),o 49 (.call (.f n_ident_Name) [(.t 48)]),o 50 (.mv (.t 6)),o 51 (.call (.f n_net_need) [(.t 49),(.c (.int .i64 4)),(.t 50)])]
abbrev net_Check_p27:List AG:=[o 46 (.ixAddr 1 (.t 42) (.t 44)),o 47 (.load false 1 (.t 46)),o 6 (.mv (.t 47))]
abbrev net_Check_p28:ACode:=(.seq (.reg net_Check_p27) (.reg net_Check_p26))
abbrev net_Check_p29:List AG:=[o 45 (.cmp .lss (.sc .int) (.t 44) (.t 43))]
abbrev net_Check_b24:ACode:=(.seq (.reg net_Check_p29) (.seq (.cond (.t 45) .skip (.exit 0)) (.seq (.block 1 [] net_Check_p28) (.reg net_Check_p25))))
abbrev net_Check_p30:List AG:=[o 41 (.load true 4 (.t 1)),o 42 (.call (.f n_net_told) [(.t 41)]),o 43 (.len (.t 42)),o 44 (.mv (.c (.int .i64 0)))]
abbrev net_Check_p31:List AG:=[o 15 (.off 0 (.t 1)),o 16 (.load false 1 (.t 15)),o 17 (.len (.t 16)),o 18 (.off 2 (.t 1)),o 19 (.load false 1 (.t 18)),o 20 (.len (.t 19)),o 21 (.ibin .add (.t 17) (.t 20)),o 22 (.off 3 (.t 1)),o 23 (.load false 1 (.t 22)),o 24 (.len (.t 23)),o 25 (.ibin .add (.t 21) (.t 24)),o 26 (.cmp .leq (.sc .int) (.t 25) (.c (.int .i64 200))),o 27 (.mv (.t 26)),oy 28 27 (.off 1 (.t 1)),oy 29 27 (.load false 1 (.t 28)),oy 30 27 (.len (.t 29)),oy 31 27 (.cmp .leq (.sc .int) (.t 30) (.c (.int .i64 200))),o 32 (.pick (.t 27) (.t 31) (.c (.bool false))),o 33 (.mv (.t 32)),oy 34 33 (.off 3 (.t 1)),oy 35 33 (.load false 1 (.t 34)),oy 36 33 (.mv (.t 4)),oy 37 33 (.call (.f n_slices_ContainsFunc_api_Gate_api_Gate) [(.t 35),(.t 36)]),oy 38 33 (.not (.t 37)),o 39 (.pick (.t 33) (.t 38) (.c (.bool false))),o 40 (.call (.f n_net_need) [(.t 39),(.c (.int .i64 8)),(.c (.str []))])]
abbrev net_Check_p32:List AG:=[o 4 (.mv (.f n_net_Check_2))]
abbrev net_Check_p33:List AG:=[o 14 (.mkFunc (.func n_net_Check_1) [] [(.t 2),(.t 3)]),q (.defer (.t 14) [])]
abbrev net_Check_p34:List AG:=[o 1 (.box 4 (.t 0)),o 2 (.alloc [(.int .i64 0)]),o 3 (.alloc [(.str [])])]
abbrev net_Check:AFun:=⟨(.seq (.reg net_Check_p34) (.seq (.reg net_Check_p33) (.seq (.reg net_Check_p32) (.seq (.reg net_Check_p31) (.seq (.seq (.reg net_Check_p30) (.block 0 net_Check_x24 (.loop net_Check_m24 net_Check_b24))) (.seq (.reg net_Check_p23) (.seq (.reg net_Check_p22) (.seq (.seq (.reg net_Check_p21) (.block 2 net_Check_x15 (.loop net_Check_m15 net_Check_b15))) (.seq (.seq (.reg net_Check_p14) (.block 4 net_Check_x8 (.loop net_Check_m8 net_Check_b8))) (.seq (.seq (.reg net_Check_p7) (.block 6 net_Check_x1 (.loop net_Check_m1 net_Check_b1))) (.seq (.reg net_Check_p0) .ret))))))))))),104,[.cell 2 false 1,.cell 3 false 1]⟩
abbrev net_Check_k1:List It:=[.code (.seq (.reg net_Check_p0) .ret)]
abbrev net_Check_L1 (x2 x3 x7 x92 x93 x94:AV) (h:List Ob) (e:Cx:=cx):Cfg:=atC n_net_Check (.code net_Check_b1::.inLoop net_Check_m1 net_Check_b1::.inBlock 6 net_Check_x1::net_Check_k1) [U,U,x2,x3,U,U,U,x7,U,U,U,U,U,U,U,U,U,U,U,U,U,U,U,U,U,U,U,U,U,U,U,U,U,U,U,U,U,U,U,U,U,U,U,U,U,U,U,U,U,U,U,U,U,U,U,U,U,U,U,U,U,U,U,U,U,U,U,U,U,U,U,U,U,U,U,U,U,U,U,U,U,U,U,U,U,U,U,U,U,U,U,U,x92,x93,x94,U,U,U,U,U,U,U,U,U] h e
abbrev net_Check_k8:List It:=[.code (.seq (.seq (.reg net_Check_p7) (.block 6 net_Check_x1 (.loop net_Check_m1 net_Check_b1))) (.seq (.reg net_Check_p0) .ret))]
abbrev net_Check_L8 (x1 x2 x3 x7 x79 x80 x81:AV) (h:List Ob) (e:Cx:=cx):Cfg:=atC n_net_Check (.code net_Check_b8::.inLoop net_Check_m8 net_Check_b8::.inBlock 4 net_Check_x8::net_Check_k8) [U,x1,x2,x3,U,U,U,x7,U,U,U,U,U,U,U,U,U,U,U,U,U,U,U,U,U,U,U,U,U,U,U,U,U,U,U,U,U,U,U,U,U,U,U,U,U,U,U,U,U,U,U,U,U,U,U,U,U,U,U,U,U,U,U,U,U,U,U,U,U,U,U,U,U,U,U,U,U,U,U,x79,x80,x81,U,U,U,U,U,U,U,U,U,U,U,U,U,U,U,U,U,U,U,U,U,U] h e
abbrev net_Check_k15:List It:=[.code (.seq (.seq (.reg net_Check_p14) (.block 4 net_Check_x8 (.loop net_Check_m8 net_Check_b8))) (.seq (.seq (.reg net_Check_p7) (.block 6 net_Check_x1 (.loop net_Check_m1 net_Check_b1))) (.seq (.reg net_Check_p0) .ret)))]
abbrev net_Check_L15 (x1 x2 x3 x7 x60 x61 x62:AV) (h:List Ob) (e:Cx:=cx):Cfg:=atC n_net_Check (.code net_Check_b15::.inLoop net_Check_m15 net_Check_b15::.inBlock 2 net_Check_x15::net_Check_k15) [U,x1,x2,x3,U,U,U,x7,U,U,U,U,U,U,U,U,U,U,U,U,U,U,U,U,U,U,U,U,U,U,U,U,U,U,U,U,U,U,U,U,U,U,U,U,U,U,U,U,U,U,U,U,U,U,U,U,U,U,U,U,x60,x61,x62,U,U,U,U,U,U,U,U,U,U,U,U,U,U,U,U,U,U,U,U,U,U,U,U,U,U,U,U,U,U,U,U,U,U,U,U,U,U,U,U,U] h e
abbrev net_Check_k24:List It:=[.code (.seq (.reg net_Check_p23) (.seq (.reg net_Check_p22) (.seq (.seq (.reg net_Check_p21) (.block 2 net_Check_x15 (.loop net_Check_m15 net_Check_b15))) (.seq (.seq (.reg net_Check_p14) (.block 4 net_Check_x8 (.loop net_Check_m8 net_Check_b8))) (.seq (.seq (.reg net_Check_p7) (.block 6 net_Check_x1 (.loop net_Check_m1 net_Check_b1))) (.seq (.reg net_Check_p0) .ret))))))]
abbrev net_Check_L24 (x1 x2 x3 x42 x43 x44:AV) (h:List Ob) (e:Cx:=cx):Cfg:=atC n_net_Check (.code net_Check_b24::.inLoop net_Check_m24 net_Check_b24::.inBlock 0 net_Check_x24::net_Check_k24) [U,x1,x2,x3,U,U,U,U,U,U,U,U,U,U,U,U,U,U,U,U,U,U,U,U,U,U,U,U,U,U,U,U,U,U,U,U,U,U,U,U,U,U,x42,x43,x44,U,U,U,U,U,U,U,U,U,U,U,U,U,U,U,U,U,U,U,U,U,U,U,U,U,U,U,U,U,U,U,U,U,U,U,U,U,U,U,U,U,U,U,U,U,U,U,U,U,U,U,U,U,U,U,U,U,U,U] h e
@[simp] theorem c_net_Check:cfun Tryd.prog n_net_Check=some net_Check:=by kernel_rfl
@[simp] theorem e_net_Check:hasBody Tryd.prog n_net_Check=true:=by kernel_rfl
abbrev net_Place_p0:List AG:=[o 5 (.load true 4 (.t 2)),o 6 (.call (.f n_net_Nets) [(.t 5)]),o 7 (.mv (.t 1)),o 8 (.call (.f n_slices_Index_string_string) [(.t 6),(.t 7)]),o 4 (.mv (.t 8))]
abbrev net_Place_p1:List AG:=[o 2 (.box 4 (.t 0)),o 4 (.mv (.c (.int .i64 0)))]
abbrev net_Place:AFun:=⟨(.seq (.reg net_Place_p1) (.seq (.reg net_Place_p0) .ret)),9,[.tmp 4]⟩
@[simp] theorem c_net_Place:cfun Tryd.prog n_net_Place=some net_Place:=by kernel_rfl
@[simp] theorem e_net_Place:hasBody Tryd.prog n_net_Place=true:=by kernel_rfl
abbrev r01_Has_p0:List AG:=[o 4 (.mv (.c (.bool false)))]
abbrev r01_Has_m1:List Bool:=[I,I,O,O,O,I,O,O,O,O,O,O,O,O,O,O,O,O]
abbrev r01_Has_x1:List Bool:=[O,O,O,O,O,O,O,O,O,O,O,O,O,O,O,O,O,O]
abbrev r01_Has_p2:List AG:=[o 10 (.mv (.t 5)),o 11 (.ibin .add (.t 10) (.c (.int .i64 1))),o 5 (.mv (.t 11))]
abbrev r01_Has_p3:List AG:=[o 4 (.mv (.c (.bool true)))]
abbrev r01_Has_p4:ACode:=(.seq (.reg r01_Has_p3) .ret)
abbrev r01_Has_p5:List AG:=[o 12 (.mv (.t 0)),o 13 (.mv (.t 5)),o 14 (.ixAddr 1 (.t 12) (.t 13)),o 15 (.load false 1 (.t 14)),o 16 (.mv (.t 1)),o 17 (.cmp .eql (.sc .str) (.t 15) (.t 16))]
abbrev r01_Has_p6:ACode:=(.seq (.reg r01_Has_p5) (.cond (.t 17) r01_Has_p4 .skip))
abbrev r01_Has_p7:List AG:=[o 6 (.mv (.t 5)),o 7 (.mv (.t 0)),o 8 (.len (.t 7)),o 9 (.cmp .lss (.sc .int) (.t 6) (.t 8))]
abbrev r01_Has_b1:ACode:=(.seq (.seq (.reg r01_Has_p7) (.cond (.t 9) .skip (.exit 0))) (.seq (.block 1 [] r01_Has_p6) (.reg r01_Has_p2)))
abbrev r01_Has_p8:List AG:=[o 5 (.mv (.c (.int .i64 0)))]
abbrev r01_Has_p9:List AG:=[o 4 (.mv (.c (.bool false)))]
abbrev r01_Has:AFun:=⟨(.seq (.reg r01_Has_p9) (.seq (.seq (.reg r01_Has_p8) (.block 0 r01_Has_x1 (.loop r01_Has_m1 r01_Has_b1))) (.seq (.reg r01_Has_p0) .ret))),18,[.tmp 4]⟩
abbrev r01_Has_k1:List It:=[.code (.seq (.reg r01_Has_p0) .ret)]
abbrev r01_Has_L1 (x0 x1 x5:AV) (h:List Ob) (e:Cx:=cx):Cfg:=atC n_r01_Has (.code r01_Has_b1::.inLoop r01_Has_m1 r01_Has_b1::.inBlock 0 r01_Has_x1::r01_Has_k1) [x0,x1,U,U,U,x5,U,U,U,U,U,U,U,U,U,U,U,U] h e
@[simp] theorem c_r01_Has:cfun Tryd.prog n_r01_Has=some r01_Has:=by kernel_rfl
@[simp] theorem e_r01_Has:hasBody Tryd.prog n_r01_Has=true:=by kernel_rfl
abbrev order_right_p0:List AG:=[o 10 (.mv (.t 3)),o 11 (.cmp .eql (.sc .int) (.t 10) (.c (.int .i64 0))),o 2 (.mv (.t 11))]
abbrev order_right_p1:List AG:=[o 6 (.load true 4 (.t 1)),o 7 (.call (.f n_net_Check) [(.t 6)]),o 5 (.mv (.t 7)),o 8 (.extract (.t 5) 0),o 9 (.extract (.t 5) 1),o 3 (.mv (.t 8)),o 4 (.mv (.t 9))]
abbrev order_right_p2:List AG:=[o 1 (.box 4 (.t 0)),o 2 (.mv (.c (.bool false)))]
abbrev order_right:AFun:=⟨(.seq (.reg order_right_p2) (.seq (.reg order_right_p1) (.seq (.reg order_right_p0) .ret))),12,[.tmp 2]⟩
@[simp] theorem c_order_right:cfun Tryd.prog n_order_right=some order_right:=by kernel_rfl
@[simp] theorem e_order_right:hasBody Tryd.prog n_order_right=true:=by kernel_rfl
abbrev order_places_p0:List AG:=[o 20 (.mv (.t 3)),o 2 (.mv (.t 20))]
abbrev order_places_m1:List Bool:=[O,O,O,I,O,O,O,O,I,I,I,O,O,O,O,O,O,O,O,O,O]
abbrev order_places_x1:List Bool:=[O,O,O,I,O,O,O,O,O,O,O,O,O,O,O,O,O,O,O,O,O]
abbrev order_places_p2:List AG:=[o 19 (.ibin .add (.t 10) (.c (.int .i64 1))),o 10 (.mv (.t 19))]
abbrev order_places_p3:List AG:=[o 15 (.mv (.t 3)),o 16 (.off 0 (.t 5)),o 17 (.load false 1 (.t 16)),o 18 (.mv (.t 4)),q (.upd (.sc .str) (.t 15) (.t 17) (.t 18))]
abbrev order_places_p4:List AG:=[o 12 (.mv (.t 10)),o 13 (.ixAddr 5 (.t 8) (.t 10)),o 14 (.load true 5 (.t 13)),o 5 (.alloc [(.str []),(.int .i64 0),(.own 1 t_string []),(.own 1 t_string []),(.bool false)]),o 4 (.mv (.t 12)),q (.store 5 (.t 5) (.t 14))]
abbrev order_places_p5:ACode:=(.seq (.reg order_places_p4) (.reg order_places_p3))
abbrev order_places_p6:List AG:=[o 11 (.cmp .lss (.sc .int) (.t 10) (.t 9))]
abbrev order_places_b1:ACode:=(.seq (.reg order_places_p6) (.seq (.cond (.t 11) .skip (.exit 0)) (.seq (.block 1 [] order_places_p5) (.reg order_places_p2))))
abbrev order_places_p7:List AG:=[o 7 (.off 3 (.t 1)),o 8 (.load false 1 (.t 7)),o 9 (.len (.t 8)),o 10 (.mv (.c (.int .i64 0)))]
abbrev order_places_p8:List AG:=[o 6 (.mkMap),o 3 (.mv (.t 6))]
abbrev order_places_p9:List AG:=[o 1 (.box 4 (.t 0)),o 2 (.mv (.c .nilm))]
abbrev order_places:AFun:=⟨(.seq (.reg order_places_p9) (.seq (.reg order_places_p8) (.seq (.seq (.reg order_places_p7) (.block 0 order_places_x1 (.loop order_places_m1 order_places_b1))) (.seq (.reg order_places_p0) .ret)))),21,[.tmp 2]⟩
abbrev order_places_k1:List It:=[.code (.seq (.reg order_places_p0) .ret)]
abbrev order_places_L1 (x3 x8 x9 x10:AV) (h:List Ob) (e:Cx:=cx):Cfg:=atC n_order_places (.code order_places_b1::.inLoop order_places_m1 order_places_b1::.inBlock 0 order_places_x1::order_places_k1) [U,U,U,x3,U,U,U,U,x8,x9,x10,U,U,U,U,U,U,U,U,U,U] h e
@[simp] theorem c_order_places:cfun Tryd.prog n_order_places=some order_places:=by kernel_rfl
@[simp] theorem e_order_places:hasBody Tryd.prog n_order_places=true:=by kernel_rfl
abbrev order_coming_p0:List AG:=[o 3 (.mkFunc (.func n_order_coming_1) [] [(.t 1)]),o 2 (.mv (.t 3))]
abbrev order_coming_p1:List AG:=[o 1 (.box 4 (.t 0)),o 2 (.mv (.c .nilf))]
abbrev order_coming:AFun:=⟨(.seq (.reg order_coming_p1) (.seq (.reg order_coming_p0) .ret)),4,[.tmp 2]⟩
@[simp] theorem c_order_coming:cfun Tryd.prog n_order_coming=some order_coming:=by kernel_rfl
@[simp] theorem e_order_coming:hasBody Tryd.prog n_order_coming=true:=by kernel_rfl
abbrev r07_right_p0:List AG:=[o 10 (.mv (.t 3)),o 11 (.cmp .eql (.sc .int) (.t 10) (.c (.int .i64 0))),o 2 (.mv (.t 11))]
abbrev r07_right_p1:List AG:=[o 6 (.load true 4 (.t 1)),o 7 (.call (.f n_r06_Check) [(.t 6)]),o 5 (.mv (.t 7)),o 8 (.extract (.t 5) 0),o 9 (.extract (.t 5) 1),o 3 (.mv (.t 8)),o 4 (.mv (.t 9))]
abbrev r07_right_p2:List AG:=[o 1 (.box 4 (.t 0)),o 2 (.mv (.c (.bool false)))]
abbrev r07_right:AFun:=⟨(.seq (.reg r07_right_p2) (.seq (.reg r07_right_p1) (.seq (.reg r07_right_p0) .ret))),12,[.tmp 2]⟩
@[simp] theorem c_r07_right:cfun Tryd.prog n_r07_right=some r07_right:=by kernel_rfl
@[simp] theorem e_r07_right:hasBody Tryd.prog n_r07_right=true:=by kernel_rfl
abbrev r07_waits_p0:List AG:=[o 6 (.mv (.c (.bool false)))]
abbrev r07_waits_m1:List Bool:=[O,O,I,I,I,O,O,I,O,O,O,O,O,O,O,O,O,O,O,O,O,O,O,O,O,O,O,O,O,O,O,O,O,O,O,O,O,O,O,O,O,O]
abbrev r07_waits_x1:List Bool:=[O,O,O,O,O,O,O,O,O,O,O,O,O,O,O,O,O,O,O,O,O,O,O,O,O,O,O,O,O,O,O,O,O,O,O,O,O,O,O,O,O,O]
abbrev r07_waits_p2:List AG:=[o 14 (.mv (.t 7)),o 15 (.ibin .add (.t 14) (.c (.int .i64 1))),o 7 (.mv (.t 15))]
abbrev r07_waits_m3:List Bool:=[O,O,I,I,I,O,O,I,I,O,O,O,O,O,O,O,O,O,O,O,O,O,O,O,O,O,O,O,O,O,O,O,O,O,O,O,O,O,O,O,O,O]
abbrev r07_waits_x3:List Bool:=[O,O,I,I,I,O,O,I,O,O,O,O,O,O,O,O,O,O,O,O,O,O,O,O,O,O,O,O,O,O,O,O,O,O,O,O,O,O,O,O,O,O]
abbrev r07_waits_p4:List AG:=[o 21 (.mv (.t 8)),o 22 (.ibin .add (.t 21) (.c (.int .i64 1))),o 8 (.mv (.t 22))]
abbrev r07_waits_p5:List AG:=[o 6 (.mv (.c (.bool true)))]
abbrev r07_waits_p6:ACode:=(.seq (.reg r07_waits_p5) .ret)
abbrev r07_waits_p7:List AG:=[o 23 (.off 3 (.t 3)),o 24 (.load false 1 (.t 23)),o 25 (.mv (.t 8)),o 26 (.ixAddr 5 (.t 24) (.t 25)),o 27 (.off 0 (.t 26)),o 28 (.load false 1 (.t 27)),o 29 (.off 2 (.t 4)),o 30 (.load false 1 (.t 29)),o 31 (.mv (.t 7)),o 32 (.ixAddr 1 (.t 30) (.t 31)),o 33 (.load false 1 (.t 32)),o 34 (.cmp .eql (.sc .str) (.t 28) (.t 33)),o 35 (.mv (.t 34)),oy 36 35 (.mv (.t 2)),oy 37 35 (.mv (.t 8)),oy 38 35 (.ixAddr 1 (.t 36) (.t 37)),oy 39 35 (.load false 1 (.t 38)),oy 40 35 (.not (.t 39)),o 41 (.pick (.t 35) (.t 40) (.c (.bool false)))]
abbrev r07_waits_p8:ACode:=(.seq (.dreg [O,O,O,O,O,O,O,O,O,O,O,O,O,O,O,O,O,O,O] [20,20,20,20,20,20,20,20,20,20,20,20,20,20,20,20,20,20,20] r07_waits_p7) (.cond (.t 41) r07_waits_p6 .skip))
abbrev r07_waits_p9:List AG:=[o 16 (.mv (.t 8)),o 17 (.off 3 (.t 3)),o 18 (.load false 1 (.t 17)),o 19 (.len (.t 18)),o 20 (.cmp .lss (.sc .int) (.t 16) (.t 19))]
abbrev r07_waits_b3:ACode:=(.seq (.seq (.reg r07_waits_p9) (.cond (.t 20) .skip (.exit 2))) (.seq (.block 3 [] r07_waits_p8) (.reg r07_waits_p4)))
abbrev r07_waits_p10:List AG:=[o 8 (.mv (.c (.int .i64 0)))]
abbrev r07_waits_p11:ACode:=(.seq (.reg r07_waits_p10) (.block 2 r07_waits_x3 (.loop r07_waits_m3 r07_waits_b3)))
abbrev r07_waits_p12:List AG:=[o 9 (.mv (.t 7)),o 10 (.off 2 (.t 4)),o 11 (.load false 1 (.t 10)),o 12 (.len (.t 11)),o 13 (.cmp .lss (.sc .int) (.t 9) (.t 12))]
abbrev r07_waits_b1:ACode:=(.seq (.seq (.reg r07_waits_p12) (.cond (.t 13) .skip (.exit 0))) (.seq (.block 1 [] r07_waits_p11) (.reg r07_waits_p2)))
abbrev r07_waits_p13:List AG:=[o 7 (.mv (.c (.int .i64 0)))]
abbrev r07_waits_p14:List AG:=[o 3 (.box 4 (.t 0)),o 4 (.box 5 (.t 1)),o 6 (.mv (.c (.bool false)))]
abbrev r07_waits:AFun:=⟨(.seq (.reg r07_waits_p14) (.seq (.seq (.reg r07_waits_p13) (.block 0 r07_waits_x1 (.loop r07_waits_m1 r07_waits_b1))) (.seq (.reg r07_waits_p0) .ret))),42,[.tmp 6]⟩
abbrev r07_waits_k3:List It:=[.inBlock 1 [],.code (.reg r07_waits_p2),.inLoop r07_waits_m1 r07_waits_b1,.inBlock 0 r07_waits_x1,.code (.seq (.reg r07_waits_p0) .ret)]
abbrev r07_waits_L3 (x2 x3 x4 x7 x8:AV) (h:List Ob) (e:Cx:=cx):Cfg:=atC n_r07_waits (.code r07_waits_b3::.inLoop r07_waits_m3 r07_waits_b3::.inBlock 2 r07_waits_x3::r07_waits_k3) [U,U,x2,x3,x4,U,U,x7,x8,U,U,U,U,U,U,U,U,U,U,U,U,U,U,U,U,U,U,U,U,U,U,U,U,U,U,U,U,U,U,U,U,U] h e
abbrev r07_waits_E3 (x2 x3 x4 x7:AV) (h:List Ob) (e:Cx:=cx):Cfg:=atC n_r07_waits r07_waits_k3 [U,U,x2,x3,x4,U,U,x7,U,U,U,U,U,U,U,U,U,U,U,U,U,U,U,U,U,U,U,U,U,U,U,U,U,U,U,U,U,U,U,U,U,U] h e
abbrev r07_waits_k1:List It:=[.code (.seq (.reg r07_waits_p0) .ret)]
abbrev r07_waits_L1 (x2 x3 x4 x7:AV) (h:List Ob) (e:Cx:=cx):Cfg:=atC n_r07_waits (.code r07_waits_b1::.inLoop r07_waits_m1 r07_waits_b1::.inBlock 0 r07_waits_x1::r07_waits_k1) [U,U,x2,x3,x4,U,U,x7,U,U,U,U,U,U,U,U,U,U,U,U,U,U,U,U,U,U,U,U,U,U,U,U,U,U,U,U,U,U,U,U,U,U] h e
@[simp] theorem c_r07_waits:cfun Tryd.prog n_r07_waits=some r07_waits:=by kernel_rfl
@[simp] theorem e_r07_waits:hasBody Tryd.prog n_r07_waits=true:=by kernel_rfl
abbrev r06_Check_p0:List AG:=[o 2 (.mv (.c (.int .i64 0))),o 3 (.mv (.c (.str [])))]
abbrev r06_Check_m1:List Bool:=[O,O,O,O,O,O,I,O,O,O,O,O,O,I,I,O,O,O,O,O,O,O,O,O,O,O,O,O,O,O,O,O,O,O,O,O,O,O,O,O,O,O,O,O,O,O,O,O,O,O,O,O,O,O,O,O,O,O,O,O,O,O,O,O,O,O,O,O,O,O,O,O,O,O,O,O,O,O,O,O,O,O,O,O,O,O,O,O,O,O,O,O,O,O,O,O,O,O,O,O,O,O,O,O,O,O,O,O,O,O,O,O,O,O,O,O,O,O,O,O]
abbrev r06_Check_x1:List Bool:=[O,O,O,O,O,O,O,O,O,O,O,O,O,O,O,O,O,O,O,O,O,O,O,O,O,O,O,O,O,O,O,O,O,O,O,O,O,O,O,O,O,O,O,O,O,O,O,O,O,O,O,O,O,O,O,O,O,O,O,O,O,O,O,O,O,O,O,O,O,O,O,O,O,O,O,O,O,O,O,O,O,O,O,O,O,O,O,O,O,O,O,O,O,O,O,O,O,O,O,O,O,O,O,O,O,O,O,O,O,O,O,O,O,O,O,O,O,O,O,O]
abbrev r06_Check_p2:List AG:=[o 107 (.mv (.t 14)),o 108 (.ibin .add (.t 107) (.c (.int .i64 1))),o 14 (.mv (.t 108))]
abbrev r06_Check_p3:List AG:=[o 116 (.mv (.t 13)),o 117 (.mv (.t 14)),o 118 (.ixAddr 1 (.t 116) (.t 117)),o 119 (.load false 1 (.t 118)),o 2 (.mv (.c (.int .i64 6))),o 3 (.mv (.t 119))]
abbrev r06_Check_p4:ACode:=(.seq (.dreg [O,O,O,O,O,O] [7,7,7,7,7,7] r06_Check_p3) .ret)
abbrev r06_Check_p5:List AG:=[o 109 (.mv (.t 6)),o 110 (.mv (.t 13)),o 111 (.mv (.t 14)),o 112 (.ixAddr 1 (.t 110) (.t 111)),o 113 (.load false 1 (.t 112)),o 114 (.call (.f n_r01_Has) [(.t 109),(.t 113)]),o 115 (.not (.t 114))]
abbrev r06_Check_p6:ACode:=(.seq (.reg r06_Check_p5) (.cond (.t 115) r06_Check_p4 .skip))
abbrev r06_Check_p7:List AG:=[o 103 (.mv (.t 14)),o 104 (.mv (.t 13)),o 105 (.len (.t 104)),o 106 (.cmp .lss (.sc .int) (.t 103) (.t 105))]
abbrev r06_Check_b1:ACode:=(.seq (.seq (.reg r06_Check_p7) (.cond (.t 106) .skip (.exit 6))) (.seq (.block 7 [] r06_Check_p6) (.reg r06_Check_p2)))
abbrev r06_Check_p8:List AG:=[o 14 (.mv (.c (.int .i64 0)))]
abbrev r06_Check_p9:List AG:=[o 101 (.load true 4 (.t 1)),o 102 (.call (.f n_r06_Used) [(.t 101)]),o 13 (.mv (.t 102))]
abbrev r06_Check_m10:List Bool:=[O,I,O,O,O,O,I,O,O,O,O,O,I,O,O,O,O,O,O,O,O,O,O,O,O,O,O,O,O,O,O,O,O,O,O,O,O,O,O,O,O,O,O,O,O,O,O,O,O,O,O,O,O,O,O,O,O,O,O,O,O,O,O,O,O,O,O,O,O,O,O,O,O,O,O,O,O,O,O,O,O,O,O,O,O,O,O,O,O,O,O,O,O,O,O,O,O,O,O,O,O,O,O,O,O,O,O,O,O,O,O,O,O,O,O,O,O,O,O,O]
abbrev r06_Check_x10:List Bool:=[O,I,O,O,O,O,I,O,O,O,O,O,O,O,O,O,O,O,O,O,O,O,O,O,O,O,O,O,O,O,O,O,O,O,O,O,O,O,O,O,O,O,O,O,O,O,O,O,O,O,O,O,O,O,O,O,O,O,O,O,O,O,O,O,O,O,O,O,O,O,O,O,O,O,O,O,O,O,O,O,O,O,O,O,O,O,O,O,O,O,O,O,O,O,O,O,O,O,O,O,O,O,O,O,O,O,O,O,O,O,O,O,O,O,O,O,O,O,O,O]
abbrev r06_Check_p11:List AG:=[o 86 (.mv (.t 12)),o 87 (.ibin .add (.t 86) (.c (.int .i64 1))),o 12 (.mv (.t 87))]
abbrev r06_Check_p12:List AG:=[o 95 (.off 3 (.t 1)),o 96 (.load false 1 (.t 95)),o 97 (.mv (.t 12)),o 98 (.ixAddr 5 (.t 96) (.t 97)),o 99 (.off 0 (.t 98)),o 100 (.load false 1 (.t 99)),o 2 (.mv (.c (.int .i64 1))),o 3 (.mv (.t 100))]
abbrev r06_Check_p13:ACode:=(.seq (.dreg [O,O,O,O,O,O,O,O] [9,9,9,9,9,9,9,9] r06_Check_p12) .ret)
abbrev r06_Check_p14:List AG:=[o 88 (.off 3 (.t 1)),o 89 (.load false 1 (.t 88)),o 90 (.mv (.t 12)),o 91 (.ixAddr 5 (.t 89) (.t 90)),o 92 (.load true 5 (.t 91)),o 93 (.call (.f n_r06_Gate) [(.t 92)]),o 94 (.not (.t 93))]
abbrev r06_Check_p15:ACode:=(.seq (.reg r06_Check_p14) (.cond (.t 94) r06_Check_p13 .skip))
abbrev r06_Check_p16:List AG:=[o 81 (.mv (.t 12)),o 82 (.off 3 (.t 1)),o 83 (.load false 1 (.t 82)),o 84 (.len (.t 83)),o 85 (.cmp .lss (.sc .int) (.t 81) (.t 84))]
abbrev r06_Check_b10:ACode:=(.seq (.seq (.reg r06_Check_p16) (.cond (.t 85) .skip (.exit 4))) (.seq (.block 5 [] r06_Check_p15) (.reg r06_Check_p11)))
abbrev r06_Check_p17:List AG:=[o 12 (.mv (.c (.int .i64 0)))]
abbrev r06_Check_m18:List Bool:=[O,I,O,O,O,O,I,O,O,O,O,I,O,O,O,O,O,O,O,O,O,O,O,O,O,O,O,O,O,O,O,O,O,O,O,O,O,O,O,O,O,O,O,O,O,O,O,O,O,O,O,O,O,O,O,O,O,O,O,O,O,O,O,O,O,O,O,O,O,O,O,O,O,O,O,O,O,O,O,O,O,O,O,O,O,O,O,O,O,O,O,O,O,O,O,O,O,O,O,O,O,O,O,O,O,O,O,O,O,O,O,O,O,O,O,O,O,O,O,O]
abbrev r06_Check_x18:List Bool:=[O,I,O,O,O,O,I,O,O,O,O,O,O,O,O,O,O,O,O,O,O,O,O,O,O,O,O,O,O,O,O,O,O,O,O,O,O,O,O,O,O,O,O,O,O,O,O,O,O,O,O,O,O,O,O,O,O,O,O,O,O,O,O,O,O,O,O,O,O,O,O,O,O,O,O,O,O,O,O,O,O,O,O,O,O,O,O,O,O,O,O,O,O,O,O,O,O,O,O,O,O,O,O,O,O,O,O,O,O,O,O,O,O,O,O,O,O,O,O,O]
abbrev r06_Check_p19:List AG:=[o 57 (.mv (.t 11)),o 58 (.ibin .add (.t 57) (.c (.int .i64 1))),o 11 (.mv (.t 58))]
abbrev r06_Check_p20:List AG:=[o 75 (.off 2 (.t 1)),o 76 (.load false 1 (.t 75)),o 77 (.mv (.t 11)),o 78 (.ixAddr 3 (.t 76) (.t 77)),o 79 (.off 0 (.t 78)),o 80 (.load false 1 (.t 79)),o 2 (.mv (.c (.int .i64 1))),o 3 (.mv (.t 80))]
abbrev r06_Check_p21:ACode:=(.seq (.dreg [O,O,O,O,O,O,O,O] [9,9,9,9,9,9,9,9] r06_Check_p20) .ret)
abbrev r06_Check_p22:List AG:=[o 59 (.off 2 (.t 1)),o 60 (.load false 1 (.t 59)),o 61 (.mv (.t 11)),o 62 (.ixAddr 3 (.t 60) (.t 61)),o 63 (.off 2 (.t 62)),o 64 (.load false 1 (.t 63)),o 65 (.cmp .lss (.sc .int) (.t 64) (.c (.int .i64 0))),o 66 (.mv (.t 65)),on 67 66 (.off 2 (.t 1)),on 68 66 (.load false 1 (.t 67)),on 69 66 (.mv (.t 11)),on 70 66 (.ixAddr 3 (.t 68) (.t 69)),on 71 66 (.off 2 (.t 70)),on 72 66 (.load false 1 (.t 71)),on 73 66 (.cmp .gtr (.sc .int) (.t 72) (.c (.int .i64 2))),o 74 (.pick (.t 66) (.c (.bool true)) (.t 73))]
abbrev r06_Check_p23:ACode:=(.seq (.reg r06_Check_p22) (.cond (.t 74) r06_Check_p21 .skip))
abbrev r06_Check_p24:List AG:=[o 52 (.mv (.t 11)),o 53 (.off 2 (.t 1)),o 54 (.load false 1 (.t 53)),o 55 (.len (.t 54)),o 56 (.cmp .lss (.sc .int) (.t 52) (.t 55))]
abbrev r06_Check_b18:ACode:=(.seq (.seq (.reg r06_Check_p24) (.cond (.t 56) .skip (.exit 2))) (.seq (.block 3 [] r06_Check_p23) (.reg r06_Check_p19)))
abbrev r06_Check_p25:List AG:=[o 11 (.mv (.c (.int .i64 0)))]
abbrev r06_Check_p26:List AG:=[o 51 (.mv (.t 9)),o 2 (.mv (.c (.int .i64 5))),o 3 (.mv (.t 51))]
abbrev r06_Check_p27:ACode:=(.seq (.reg r06_Check_p26) .ret)
abbrev r06_Check_p28:List AG:=[o 50 (.mv (.t 10))]
abbrev r06_Check_p29:List AG:=[o 45 (.off 1 (.t 1)),o 46 (.load false 1 (.t 45)),o 47 (.call (.f n_r06_twice) [(.t 46)]),o 44 (.mv (.t 47)),o 48 (.extract (.t 44) 0),o 49 (.extract (.t 44) 1),o 9 (.mv (.t 48)),o 10 (.mv (.t 49))]
abbrev r06_Check_p30:List AG:=[o 43 (.mv (.t 7)),o 2 (.mv (.c (.int .i64 5))),o 3 (.mv (.t 43))]
abbrev r06_Check_p31:ACode:=(.seq (.reg r06_Check_p30) .ret)
abbrev r06_Check_p32:List AG:=[o 42 (.mv (.t 8))]
abbrev r06_Check_p33:List AG:=[o 38 (.mv (.t 6)),o 39 (.call (.f n_r06_twice) [(.t 38)]),o 37 (.mv (.t 39)),o 40 (.extract (.t 37) 0),o 41 (.extract (.t 37) 1),o 7 (.mv (.t 40)),o 8 (.mv (.t 41))]
abbrev r06_Check_p34:List AG:=[o 35 (.load true 4 (.t 1)),o 36 (.call (.f n_r06_Nets) [(.t 35)]),o 6 (.mv (.t 36))]
abbrev r06_Check_m35:List Bool:=[O,I,O,O,I,I,O,O,O,O,O,O,O,O,O,O,O,O,O,O,O,O,O,O,O,O,O,O,O,O,O,O,O,O,O,O,O,O,O,O,O,O,O,O,O,O,O,O,O,O,O,O,O,O,O,O,O,O,O,O,O,O,O,O,O,O,O,O,O,O,O,O,O,O,O,O,O,O,O,O,O,O,O,O,O,O,O,O,O,O,O,O,O,O,O,O,O,O,O,O,O,O,O,O,O,O,O,O,O,O,O,O,O,O,O,O,O,O,O,O]
abbrev r06_Check_x35:List Bool:=[O,I,O,O,O,O,O,O,O,O,O,O,O,O,O,O,O,O,O,O,O,O,O,O,O,O,O,O,O,O,O,O,O,O,O,O,O,O,O,O,O,O,O,O,O,O,O,O,O,O,O,O,O,O,O,O,O,O,O,O,O,O,O,O,O,O,O,O,O,O,O,O,O,O,O,O,O,O,O,O,O,O,O,O,O,O,O,O,O,O,O,O,O,O,O,O,O,O,O,O,O,O,O,O,O,O,O,O,O,O,O,O,O,O,O,O,O,O,O,O]
abbrev r06_Check_p36:List AG:=[o 23 (.mv (.t 5)),o 24 (.ibin .add (.t 23) (.c (.int .i64 1))),o 5 (.mv (.t 24))]
abbrev r06_Check_p37:List AG:=[o 31 (.mv (.t 4)),o 32 (.mv (.t 5)),o 33 (.ixAddr 1 (.t 31) (.t 32)),o 34 (.load false 1 (.t 33)),o 2 (.mv (.c (.int .i64 4))),o 3 (.mv (.t 34))]
abbrev r06_Check_p38:ACode:=(.seq (.dreg [O,O,O,O,O,O] [7,7,7,7,7,7] r06_Check_p37) .ret)
abbrev r06_Check_p39:List AG:=[o 25 (.mv (.t 4)),o 26 (.mv (.t 5)),o 27 (.ixAddr 1 (.t 25) (.t 26)),o 28 (.load false 1 (.t 27)),o 29 (.call (.f n_r04_Name) [(.t 28)]),o 30 (.not (.t 29))]
abbrev r06_Check_p40:ACode:=(.seq (.reg r06_Check_p39) (.cond (.t 30) r06_Check_p38 .skip))
abbrev r06_Check_p41:List AG:=[o 19 (.mv (.t 5)),o 20 (.mv (.t 4)),o 21 (.len (.t 20)),o 22 (.cmp .lss (.sc .int) (.t 19) (.t 21))]
abbrev r06_Check_b35:ACode:=(.seq (.seq (.reg r06_Check_p41) (.cond (.t 22) .skip (.exit 0))) (.seq (.block 1 [] r06_Check_p40) (.reg r06_Check_p36)))
abbrev r06_Check_p42:List AG:=[o 5 (.mv (.c (.int .i64 0)))]
abbrev r06_Check_p43:List AG:=[o 17 (.load true 4 (.t 1)),o 18 (.call (.f n_r06_Told) [(.t 17)]),o 4 (.mv (.t 18))]
abbrev r06_Check_p44:List AG:=[o 2 (.mv (.c (.int .i64 8))),o 3 (.mv (.c (.str [])))]
abbrev r06_Check_p45:ACode:=(.seq (.reg r06_Check_p44) .ret)
abbrev r06_Check_p46:List AG:=[o 15 (.load true 4 (.t 1)),o 16 (.call (.f n_r06_limit) [(.t 15)])]
abbrev r06_Check_p47:List AG:=[o 1 (.box 4 (.t 0)),o 2 (.mv (.c (.int .i64 0))),o 3 (.mv (.c (.str [])))]
abbrev r06_Check:AFun:=⟨(.seq (.reg r06_Check_p47) (.seq (.seq (.reg r06_Check_p46) (.cond (.t 16) r06_Check_p45 .skip)) (.seq (.reg r06_Check_p43) (.seq (.seq (.reg r06_Check_p42) (.block 0 r06_Check_x35 (.loop r06_Check_m35 r06_Check_b35))) (.seq (.reg r06_Check_p34) (.seq (.reg r06_Check_p33) (.seq (.seq (.reg r06_Check_p32) (.cond (.t 42) r06_Check_p31 .skip)) (.seq (.reg r06_Check_p29) (.seq (.seq (.reg r06_Check_p28) (.cond (.t 50) r06_Check_p27 .skip)) (.seq (.seq (.reg r06_Check_p25) (.block 2 r06_Check_x18 (.loop r06_Check_m18 r06_Check_b18))) (.seq (.seq (.reg r06_Check_p17) (.block 4 r06_Check_x10 (.loop r06_Check_m10 r06_Check_b10))) (.seq (.reg r06_Check_p9) (.seq (.seq (.reg r06_Check_p8) (.block 6 r06_Check_x1 (.loop r06_Check_m1 r06_Check_b1))) (.seq (.reg r06_Check_p0) .ret)))))))))))))),120,[.tmp 2,.tmp 3]⟩
abbrev r06_Check_k1:List It:=[.code (.seq (.reg r06_Check_p0) .ret)]
abbrev r06_Check_L1 (x6 x13 x14:AV) (h:List Ob) (e:Cx:=cx):Cfg:=atC n_r06_Check (.code r06_Check_b1::.inLoop r06_Check_m1 r06_Check_b1::.inBlock 6 r06_Check_x1::r06_Check_k1) [U,U,U,U,U,U,x6,U,U,U,U,U,U,x13,x14,U,U,U,U,U,U,U,U,U,U,U,U,U,U,U,U,U,U,U,U,U,U,U,U,U,U,U,U,U,U,U,U,U,U,U,U,U,U,U,U,U,U,U,U,U,U,U,U,U,U,U,U,U,U,U,U,U,U,U,U,U,U,U,U,U,U,U,U,U,U,U,U,U,U,U,U,U,U,U,U,U,U,U,U,U,U,U,U,U,U,U,U,U,U,U,U,U,U,U,U,U,U,U,U,U] h e
abbrev r06_Check_k10:List It:=[.code (.seq (.reg r06_Check_p9) (.seq (.seq (.reg r06_Check_p8) (.block 6 r06_Check_x1 (.loop r06_Check_m1 r06_Check_b1))) (.seq (.reg r06_Check_p0) .ret)))]
abbrev r06_Check_L10 (x1 x6 x12:AV) (h:List Ob) (e:Cx:=cx):Cfg:=atC n_r06_Check (.code r06_Check_b10::.inLoop r06_Check_m10 r06_Check_b10::.inBlock 4 r06_Check_x10::r06_Check_k10) [U,x1,U,U,U,U,x6,U,U,U,U,U,x12,U,U,U,U,U,U,U,U,U,U,U,U,U,U,U,U,U,U,U,U,U,U,U,U,U,U,U,U,U,U,U,U,U,U,U,U,U,U,U,U,U,U,U,U,U,U,U,U,U,U,U,U,U,U,U,U,U,U,U,U,U,U,U,U,U,U,U,U,U,U,U,U,U,U,U,U,U,U,U,U,U,U,U,U,U,U,U,U,U,U,U,U,U,U,U,U,U,U,U,U,U,U,U,U,U,U,U] h e
abbrev r06_Check_k18:List It:=[.code (.seq (.seq (.reg r06_Check_p17) (.block 4 r06_Check_x10 (.loop r06_Check_m10 r06_Check_b10))) (.seq (.reg r06_Check_p9) (.seq (.seq (.reg r06_Check_p8) (.block 6 r06_Check_x1 (.loop r06_Check_m1 r06_Check_b1))) (.seq (.reg r06_Check_p0) .ret))))]
abbrev r06_Check_L18 (x1 x6 x11:AV) (h:List Ob) (e:Cx:=cx):Cfg:=atC n_r06_Check (.code r06_Check_b18::.inLoop r06_Check_m18 r06_Check_b18::.inBlock 2 r06_Check_x18::r06_Check_k18) [U,x1,U,U,U,U,x6,U,U,U,U,x11,U,U,U,U,U,U,U,U,U,U,U,U,U,U,U,U,U,U,U,U,U,U,U,U,U,U,U,U,U,U,U,U,U,U,U,U,U,U,U,U,U,U,U,U,U,U,U,U,U,U,U,U,U,U,U,U,U,U,U,U,U,U,U,U,U,U,U,U,U,U,U,U,U,U,U,U,U,U,U,U,U,U,U,U,U,U,U,U,U,U,U,U,U,U,U,U,U,U,U,U,U,U,U,U,U,U,U,U] h e
abbrev r06_Check_k35:List It:=[.code (.seq (.reg r06_Check_p34) (.seq (.reg r06_Check_p33) (.seq (.seq (.reg r06_Check_p32) (.cond (.t 42) r06_Check_p31 .skip)) (.seq (.reg r06_Check_p29) (.seq (.seq (.reg r06_Check_p28) (.cond (.t 50) r06_Check_p27 .skip)) (.seq (.seq (.reg r06_Check_p25) (.block 2 r06_Check_x18 (.loop r06_Check_m18 r06_Check_b18))) (.seq (.seq (.reg r06_Check_p17) (.block 4 r06_Check_x10 (.loop r06_Check_m10 r06_Check_b10))) (.seq (.reg r06_Check_p9) (.seq (.seq (.reg r06_Check_p8) (.block 6 r06_Check_x1 (.loop r06_Check_m1 r06_Check_b1))) (.seq (.reg r06_Check_p0) .ret))))))))))]
abbrev r06_Check_L35 (x1 x4 x5:AV) (h:List Ob) (e:Cx:=cx):Cfg:=atC n_r06_Check (.code r06_Check_b35::.inLoop r06_Check_m35 r06_Check_b35::.inBlock 0 r06_Check_x35::r06_Check_k35) [U,x1,U,U,x4,x5,U,U,U,U,U,U,U,U,U,U,U,U,U,U,U,U,U,U,U,U,U,U,U,U,U,U,U,U,U,U,U,U,U,U,U,U,U,U,U,U,U,U,U,U,U,U,U,U,U,U,U,U,U,U,U,U,U,U,U,U,U,U,U,U,U,U,U,U,U,U,U,U,U,U,U,U,U,U,U,U,U,U,U,U,U,U,U,U,U,U,U,U,U,U,U,U,U,U,U,U,U,U,U,U,U,U,U,U,U,U,U,U,U,U] h e
@[simp] theorem c_r06_Check:cfun Tryd.prog n_r06_Check=some r06_Check:=by kernel_rfl
@[simp] theorem e_r06_Check:hasBody Tryd.prog n_r06_Check=true:=by kernel_rfl
abbrev order_wait_p0:List AG:=[o 79 (.load true 2 (.t 4)),q (.store 2 (.t 2) (.t 79))]
abbrev order_wait_m1:List Bool:=[O,O,I,I,I,O,O,O,O,O,O,O,O,O,O,O,O,O,O,O,O,O,O,I,I,I,O,O,O,O,O,O,O,O,O,O,O,O,O,O,O,O,O,O,O,O,O,O,O,O,O,O,O,O,O,O,O,O,O,O,O,O,O,O,O,O,O,O,O,O,O,O,O,O,O,O,O,O,O,O]
abbrev order_wait_x1:List Bool:=[O,O,I,O,I,O,O,O,O,O,O,O,O,O,O,O,O,O,O,O,O,O,O,O,O,O,O,O,O,O,O,O,O,O,O,O,O,O,O,O,O,O,O,O,O,O,O,O,O,O,O,O,O,O,O,O,O,O,O,O,O,O,O,O,O,O,O,O,O,O,O,O,O,O,O,O,O,O,O,O]
abbrev order_wait_p2:List AG:=[o 78 (.ibin .add (.t 25) (.c (.int .i64 1))),o 25 (.mv (.t 78))]
abbrev order_wait_m3:List Bool:=[O,O,I,I,I,I,O,O,O,O,O,O,O,O,O,O,O,O,O,O,O,O,O,I,I,I,O,O,O,O,O,O,O,O,O,O,I,I,I,O,O,O,O,O,O,O,O,O,O,O,O,O,O,O,O,O,O,O,O,O,O,O,O,O,O,O,O,O,O,O,O,O,O,O,O,O,O,O,O,O]
abbrev order_wait_x3:List Bool:=[O,O,I,I,I,O,O,O,O,O,O,O,O,O,O,O,O,O,O,O,O,O,O,I,I,I,O,O,O,O,O,O,O,O,O,O,O,O,O,O,O,O,O,O,O,O,O,O,O,O,O,O,O,O,O,O,O,O,O,O,O,O,O,O,O,O,O,O,O,O,O,O,O,O,O,O,O,O,O,O]
abbrev order_wait_p4:List AG:=[o 77 (.ibin .add (.t 38) (.c (.int .i64 1))),o 38 (.mv (.t 77))]
abbrev order_wait_p5:List AG:=[o 65 (.off 1 (.t 4)),o 66 (.load false 1 (.t 65)),o 67 (.mv (.t 9)),o 68 (.off 1 (.t 4)),o 69 (.load false 1 (.t 68)),o 70 (.mv (.t 9)),o 71 (.ixAddr 1 (.t 69) (.t 70)),o 72 (.load false 1 (.t 71)),o 73 (.mv (.t 5)),o 74 (.lit 1 [(.int .i64 0)] [(0,(.t 73))]),o 75 (.append 1 t_int 8 (.t 72) (.t 74)),o 76 (.ixAddr 1 (.t 66) (.t 67)),q (.store 1 (.t 76) (.t 75))]
abbrev order_wait_p6:List AG:=[o 59 (.off 0 (.t 4)),o 60 (.load false 1 (.t 59)),o 61 (.mv (.t 5)),o 62 (.ixAddr 1 (.t 60) (.t 61)),o 63 (.load false 1 (.t 62)),o 64 (.mv (.t 9)),q (.upd (.sc .int) (.t 63) (.t 64) (.c (.bool true)))]
abbrev order_wait_p7:ACode:=(.seq (.reg order_wait_p6) (.dreg [O,I,O,O,I,O,O,I,O,O,O,O,O] [13,13,13,11,11,11,11,11,10,11,13,13,14] order_wait_p5))
abbrev order_wait_p8:List AG:=[o 48 (.mv (.t 10)),o 49 (.mv (.t 48)),oy 50 49 (.off 0 (.t 4)),oy 51 49 (.load false 1 (.t 50)),oy 52 49 (.mv (.t 5)),oy 53 49 (.ixAddr 1 (.t 51) (.t 52)),oy 54 49 (.load false 1 (.t 53)),oy 55 49 (.mv (.t 9)),oy 56 49 (.lookup (.sc .int) (.bool false) (.t 54) (.t 55) false),oy 57 49 (.not (.t 56)),o 58 (.pick (.t 49) (.t 57) (.c (.bool false)))]
abbrev order_wait_p9:List AG:=[o 43 (.mv (.t 3)),o 44 (.mv (.t 8)),o 45 (.lookup (.sc .str) (.int .i64 0) (.t 43) (.t 44) true),o 42 (.mv (.t 45)),o 46 (.extract (.t 42) 0),o 47 (.extract (.t 42) 1),o 9 (.mv (.t 46)),o 10 (.mv (.t 47))]
abbrev order_wait_p10:List AG:=[o 40 (.ixAddr 1 (.t 36) (.t 38)),o 41 (.load false 1 (.t 40)),o 8 (.mv (.t 41))]
abbrev order_wait_p11:ACode:=(.seq (.reg order_wait_p10) (.seq (.reg order_wait_p9) (.seq (.reg order_wait_p8) (.cond (.t 58) order_wait_p7 .skip))))
abbrev order_wait_p12:List AG:=[o 39 (.cmp .lss (.sc .int) (.t 38) (.t 37))]
abbrev order_wait_b3:ACode:=(.seq (.reg order_wait_p12) (.seq (.cond (.t 39) .skip (.exit 2)) (.seq (.block 3 [] order_wait_p11) (.reg order_wait_p4))))
abbrev order_wait_p13:List AG:=[o 35 (.off 2 (.t 6)),o 36 (.load false 1 (.t 35)),o 37 (.len (.t 36)),o 38 (.mv (.c (.int .i64 0)))]
abbrev order_wait_p14:List AG:=[o 30 (.off 0 (.t 4)),o 31 (.load false 1 (.t 30)),o 32 (.mv (.t 5)),o 33 (.mkMap),o 34 (.ixAddr 1 (.t 31) (.t 32)),q (.store 1 (.t 34) (.t 33))]
abbrev order_wait_p15:List AG:=[o 27 (.mv (.t 25)),o 28 (.ixAddr 5 (.t 23) (.t 25)),o 29 (.load true 5 (.t 28)),o 6 (.alloc [(.str []),(.int .i64 0),(.own 1 t_string []),(.own 1 t_string []),(.bool false)]),o 5 (.mv (.t 27)),q (.store 5 (.t 6) (.t 29))]
abbrev order_wait_p16:ACode:=(.seq (.reg order_wait_p15) (.seq (.reg order_wait_p14) (.seq (.reg order_wait_p13) (.block 2 order_wait_x3 (.loop order_wait_m3 order_wait_b3)))))
abbrev order_wait_p17:List AG:=[o 26 (.cmp .lss (.sc .int) (.t 25) (.t 24))]
abbrev order_wait_b1:ACode:=(.seq (.reg order_wait_p17) (.seq (.cond (.t 26) .skip (.exit 0)) (.seq (.block 1 [] order_wait_p16) (.reg order_wait_p2))))
abbrev order_wait_p18:List AG:=[o 22 (.off 3 (.t 1)),o 23 (.load false 1 (.t 22)),o 24 (.len (.t 23)),o 25 (.mv (.c (.int .i64 0)))]
abbrev order_wait_p19:List AG:=[o 13 (.off 3 (.t 1)),o 14 (.load false 1 (.t 13)),o 15 (.len (.t 14)),o 16 (.mkSlice 1 t_map_int_bool_2 8 .nilm (.t 15) (.t 15)),o 17 (.off 3 (.t 1)),o 18 (.load false 1 (.t 17)),o 19 (.len (.t 18)),o 20 (.mkSlice 1 t_int_2 24 (.list true 0 []) (.t 19) (.t 19)),o 21 (.build [(.list true 0 []),(.list true 0 [])] [(0,1,(.t 16)),(1,1,(.t 20))]),o 4 (.alloc [(.own 1 t_map_int_bool_2 []),(.own 1 t_int_2 [])]),q (.store 2 (.t 4) (.t 21))]
abbrev order_wait_p20:List AG:=[o 11 (.load true 4 (.t 1)),o 12 (.call (.f n_order_places) [(.t 11)]),o 3 (.mv (.t 12))]
abbrev order_wait_p21:List AG:=[o 1 (.box 4 (.t 0)),o 2 (.alloc [(.own 1 t_map_int_bool_2 []),(.own 1 t_int_2 [])])]
abbrev order_wait:AFun:=⟨(.seq (.reg order_wait_p21) (.seq (.reg order_wait_p20) (.seq (.oreg [[],[0],[1],[2,2],[],[4],[5],[6,6],[3,7],[],[9,8,0,1,2,3,4,5,6,7,8,9]] order_wait_p19) (.seq (.seq (.reg order_wait_p18) (.block 0 order_wait_x1 (.loop order_wait_m1 order_wait_b1))) (.seq (.reg order_wait_p0) .ret))))),80,[.cell 2 true 2]⟩
abbrev order_wait_k3:List It:=[.inBlock 1 [],.code (.reg order_wait_p2),.inLoop order_wait_m1 order_wait_b1,.inBlock 0 order_wait_x1,.code (.seq (.reg order_wait_p0) .ret)]
abbrev order_wait_L3 (x2 x3 x4 x5 x23 x24 x25 x36 x37 x38:AV) (h:List Ob) (e:Cx:=cx):Cfg:=atC n_order_wait (.code order_wait_b3::.inLoop order_wait_m3 order_wait_b3::.inBlock 2 order_wait_x3::order_wait_k3) [U,U,x2,x3,x4,x5,U,U,U,U,U,U,U,U,U,U,U,U,U,U,U,U,U,x23,x24,x25,U,U,U,U,U,U,U,U,U,U,x36,x37,x38,U,U,U,U,U,U,U,U,U,U,U,U,U,U,U,U,U,U,U,U,U,U,U,U,U,U,U,U,U,U,U,U,U,U,U,U,U,U,U,U,U] h e
abbrev order_wait_E3 (x2 x3 x4 x23 x24 x25:AV) (h:List Ob) (e:Cx:=cx):Cfg:=atC n_order_wait order_wait_k3 [U,U,x2,x3,x4,U,U,U,U,U,U,U,U,U,U,U,U,U,U,U,U,U,U,x23,x24,x25,U,U,U,U,U,U,U,U,U,U,U,U,U,U,U,U,U,U,U,U,U,U,U,U,U,U,U,U,U,U,U,U,U,U,U,U,U,U,U,U,U,U,U,U,U,U,U,U,U,U,U,U,U,U] h e
abbrev order_wait_k1:List It:=[.code (.seq (.reg order_wait_p0) .ret)]
abbrev order_wait_L1 (x2 x3 x4 x23 x24 x25:AV) (h:List Ob) (e:Cx:=cx):Cfg:=atC n_order_wait (.code order_wait_b1::.inLoop order_wait_m1 order_wait_b1::.inBlock 0 order_wait_x1::order_wait_k1) [U,U,x2,x3,x4,U,U,U,U,U,U,U,U,U,U,U,U,U,U,U,U,U,U,x23,x24,x25,U,U,U,U,U,U,U,U,U,U,U,U,U,U,U,U,U,U,U,U,U,U,U,U,U,U,U,U,U,U,U,U,U,U,U,U,U,U,U,U,U,U,U,U,U,U,U,U,U,U,U,U,U,U] h e
@[simp] theorem c_order_wait:cfun Tryd.prog n_order_wait=some order_wait:=by kernel_rfl
@[simp] theorem e_order_wait:hasBody Tryd.prog n_order_wait=true:=by kernel_rfl
abbrev slices_Clone_string_string_p0:List AG:=[o 5 (.lit 1 [] []),o 6 (.mv (.t 0)),o 7 (.append 1 t_string 16 (.t 5) (.t 6)),o 2 (.mv (.t 7))]
abbrev slices_Clone_string_string_p1:List AG:=[o 2 (.nilrow 1 t_string)]
abbrev slices_Clone_string_string_p2:ACode:=(.seq (.reg slices_Clone_string_string_p1) .ret)
abbrev slices_Clone_string_string_p3:List AG:=[o 3 (.mv (.t 0)),o 4 (.isnil false (.t 3))]
abbrev slices_Clone_string_string_p4:List AG:=[o 2 (.nilrow 1 t_string)]
abbrev slices_Clone_string_string:AFun:=⟨(.seq (.reg slices_Clone_string_string_p4) (.seq (.seq (.reg slices_Clone_string_string_p3) (.cond (.t 4) slices_Clone_string_string_p2 .skip)) (.seq (.reg slices_Clone_string_string_p0) .ret))),8,[.tmp 2]⟩
@[simp] theorem c_slices_Clone_string_string:cfun Tryd.prog n_slices_Clone_string_string=some slices_Clone_string_string:=by kernel_rfl
@[simp] theorem e_slices_Clone_string_string:hasBody Tryd.prog n_slices_Clone_string_string=true:=by kernel_rfl
abbrev net_Nets_p0:List AG:=[o 37 (.mv (.t 3)),o 2 (.mv (.t 37))]
abbrev net_Nets_m1:List Bool:=[O,O,O,I,O,O,O,O,O,O,O,O,O,O,O,O,O,O,O,O,O,O,O,O,O,I,I,I,O,O,O,O,O,O,O,O,O,O]
abbrev net_Nets_x1:List Bool:=[O,O,O,I,O,O,O,O,O,O,O,O,O,O,O,O,O,O,O,O,O,O,O,O,O,O,O,O,O,O,O,O,O,O,O,O,O,O]
abbrev net_Nets_p2:List AG:=[o 36 (.ibin .add (.t 27) (.c (.int .i64 1))),o 27 (.mv (.t 36))]
abbrev net_Nets_p3:List AG:=[o 31 (.mv (.t 3)),o 32 (.off 0 (.t 7)),o 33 (.load false 1 (.t 32)),o 34 (.lit 1 [(.str [])] [(0,(.t 33))]),o 35 (.append 1 t_string 16 (.t 31) (.t 34)),o 3 (.mv (.t 35))]
abbrev net_Nets_p4:List AG:=[o 29 (.ixAddr 5 (.t 25) (.t 27)),o 30 (.load true 5 (.t 29)),o 7 (.alloc [(.str []),(.int .i64 0),(.own 1 t_string []),(.own 1 t_string []),(.bool false)]),q (.store 5 (.t 7) (.t 30))]
abbrev net_Nets_p5:ACode:=(.seq (.reg net_Nets_p4) (.reg net_Nets_p3))
abbrev net_Nets_p6:List AG:=[o 28 (.cmp .lss (.sc .int) (.t 27) (.t 26))]
abbrev net_Nets_b1:ACode:=(.seq (.reg net_Nets_p6) (.seq (.cond (.t 28) .skip (.exit 2)) (.seq (.block 3 [] net_Nets_p5) (.reg net_Nets_p2))))
abbrev net_Nets_p7:List AG:=[o 24 (.off 3 (.t 1)),o 25 (.load false 1 (.t 24)),o 26 (.len (.t 25)),o 27 (.mv (.c (.int .i64 0)))]
abbrev net_Nets_m8:List Bool:=[O,I,O,I,O,O,O,O,O,O,O,O,I,I,I,O,O,O,O,O,O,O,O,O,O,O,O,O,O,O,O,O,O,O,O,O,O,O]
abbrev net_Nets_x8:List Bool:=[O,I,O,I,O,O,O,O,O,O,O,O,O,O,O,O,O,O,O,O,O,O,O,O,O,O,O,O,O,O,O,O,O,O,O,O,O,O]
abbrev net_Nets_p9:List AG:=[o 23 (.ibin .add (.t 14) (.c (.int .i64 1))),o 14 (.mv (.t 23))]
abbrev net_Nets_p10:List AG:=[o 18 (.mv (.t 3)),o 19 (.off 0 (.t 5)),o 20 (.load false 1 (.t 19)),o 21 (.lit 1 [(.str [])] [(0,(.t 20))]),o 22 (.append 1 t_string 16 (.t 18) (.t 21)),o 3 (.mv (.t 22))]
abbrev net_Nets_p11:List AG:=[o 16 (.ixAddr 3 (.t 12) (.t 14)),o 17 (.load true 3 (.t 16)),o 5 (.alloc [(.str []),(.str []),(.int .i64 0)]),q (.store 3 (.t 5) (.t 17))]
abbrev net_Nets_p12:ACode:=(.seq (.reg net_Nets_p11) (.reg net_Nets_p10))
abbrev net_Nets_p13:List AG:=[o 15 (.cmp .lss (.sc .int) (.t 14) (.t 13))]
abbrev net_Nets_b8:ACode:=(.seq (.reg net_Nets_p13) (.seq (.cond (.t 15) .skip (.exit 0)) (.seq (.block 1 [] net_Nets_p12) (.reg net_Nets_p9))))
abbrev net_Nets_p14:List AG:=[o 11 (.off 2 (.t 1)),o 12 (.load false 1 (.t 11)),o 13 (.len (.t 12)),o 14 (.mv (.c (.int .i64 0)))]
abbrev net_Nets_p15:List AG:=[o 8 (.off 0 (.t 1)),o 9 (.load false 1 (.t 8)),o 10 (.call (.f n_slices_Clone_string_string) [(.t 9)]),o 3 (.mv (.t 10))]
abbrev net_Nets_p16:List AG:=[o 1 (.box 4 (.t 0)),o 2 (.nilrow 1 t_string)]
abbrev net_Nets:AFun:=⟨(.seq (.reg net_Nets_p16) (.seq (.reg net_Nets_p15) (.seq (.seq (.reg net_Nets_p14) (.block 0 net_Nets_x8 (.loop net_Nets_m8 net_Nets_b8))) (.seq (.seq (.reg net_Nets_p7) (.block 2 net_Nets_x1 (.loop net_Nets_m1 net_Nets_b1))) (.seq (.reg net_Nets_p0) .ret))))),38,[.tmp 2]⟩
abbrev net_Nets_k1:List It:=[.code (.seq (.reg net_Nets_p0) .ret)]
abbrev net_Nets_L1 (x3 x25 x26 x27:AV) (h:List Ob) (e:Cx:=cx):Cfg:=atC n_net_Nets (.code net_Nets_b1::.inLoop net_Nets_m1 net_Nets_b1::.inBlock 2 net_Nets_x1::net_Nets_k1) [U,U,U,x3,U,U,U,U,U,U,U,U,U,U,U,U,U,U,U,U,U,U,U,U,U,x25,x26,x27,U,U,U,U,U,U,U,U,U,U] h e
abbrev net_Nets_k8:List It:=[.code (.seq (.seq (.reg net_Nets_p7) (.block 2 net_Nets_x1 (.loop net_Nets_m1 net_Nets_b1))) (.seq (.reg net_Nets_p0) .ret))]
abbrev net_Nets_L8 (x1 x3 x12 x13 x14:AV) (h:List Ob) (e:Cx:=cx):Cfg:=atC n_net_Nets (.code net_Nets_b8::.inLoop net_Nets_m8 net_Nets_b8::.inBlock 0 net_Nets_x8::net_Nets_k8) [U,x1,U,x3,U,U,U,U,U,U,U,U,x12,x13,x14,U,U,U,U,U,U,U,U,U,U,U,U,U,U,U,U,U,U,U,U,U,U,U] h e
@[simp] theorem c_net_Nets:cfun Tryd.prog n_net_Nets=some net_Nets:=by kernel_rfl
@[simp] theorem e_net_Nets:hasBody Tryd.prog n_net_Nets=true:=by kernel_rfl
abbrev r06_Nets_p0:List AG:=[o 42 (.mv (.t 3)),o 2 (.mv (.t 42))]
abbrev r06_Nets_m1:List Bool:=[O,I,O,I,O,I,O,O,O,O,O,O,O,O,O,O,O,O,O,O,O,O,O,O,O,O,O,O,O,O,O,O,O,O,O,O,O,O,O,O,O,O,O]
abbrev r06_Nets_x1:List Bool:=[O,O,O,I,O,O,O,O,O,O,O,O,O,O,O,O,O,O,O,O,O,O,O,O,O,O,O,O,O,O,O,O,O,O,O,O,O,O,O,O,O,O,O]
abbrev r06_Nets_p2:List AG:=[o 31 (.mv (.t 5)),o 32 (.ibin .add (.t 31) (.c (.int .i64 1))),o 5 (.mv (.t 32))]
abbrev r06_Nets_p3:List AG:=[o 33 (.mv (.t 3)),o 34 (.off 3 (.t 1)),o 35 (.load false 1 (.t 34)),o 36 (.mv (.t 5)),o 37 (.ixAddr 5 (.t 35) (.t 36)),o 38 (.off 0 (.t 37)),o 39 (.load false 1 (.t 38)),o 40 (.lit 1 [(.str [])] [(0,(.t 39))]),o 41 (.append 1 t_string 16 (.t 33) (.t 40)),o 3 (.mv (.t 41))]
abbrev r06_Nets_p4:List AG:=[o 26 (.mv (.t 5)),o 27 (.off 3 (.t 1)),o 28 (.load false 1 (.t 27)),o 29 (.len (.t 28)),o 30 (.cmp .lss (.sc .int) (.t 26) (.t 29))]
abbrev r06_Nets_b1:ACode:=(.seq (.seq (.reg r06_Nets_p4) (.cond (.t 30) .skip (.exit 2))) (.seq (.block 3 [] (.reg r06_Nets_p3)) (.reg r06_Nets_p2)))
abbrev r06_Nets_p5:List AG:=[o 5 (.mv (.c (.int .i64 0)))]
abbrev r06_Nets_m6:List Bool:=[O,I,O,I,I,O,O,O,O,O,O,O,O,O,O,O,O,O,O,O,O,O,O,O,O,O,O,O,O,O,O,O,O,O,O,O,O,O,O,O,O,O,O]
abbrev r06_Nets_x6:List Bool:=[O,I,O,I,O,O,O,O,O,O,O,O,O,O,O,O,O,O,O,O,O,O,O,O,O,O,O,O,O,O,O,O,O,O,O,O,O,O,O,O,O,O,O]
abbrev r06_Nets_p7:List AG:=[o 15 (.mv (.t 4)),o 16 (.ibin .add (.t 15) (.c (.int .i64 1))),o 4 (.mv (.t 16))]
abbrev r06_Nets_p8:List AG:=[o 17 (.mv (.t 3)),o 18 (.off 2 (.t 1)),o 19 (.load false 1 (.t 18)),o 20 (.mv (.t 4)),o 21 (.ixAddr 3 (.t 19) (.t 20)),o 22 (.off 0 (.t 21)),o 23 (.load false 1 (.t 22)),o 24 (.lit 1 [(.str [])] [(0,(.t 23))]),o 25 (.append 1 t_string 16 (.t 17) (.t 24)),o 3 (.mv (.t 25))]
abbrev r06_Nets_p9:List AG:=[o 10 (.mv (.t 4)),o 11 (.off 2 (.t 1)),o 12 (.load false 1 (.t 11)),o 13 (.len (.t 12)),o 14 (.cmp .lss (.sc .int) (.t 10) (.t 13))]
abbrev r06_Nets_b6:ACode:=(.seq (.seq (.reg r06_Nets_p9) (.cond (.t 14) .skip (.exit 0))) (.seq (.block 1 [] (.reg r06_Nets_p8)) (.reg r06_Nets_p7)))
abbrev r06_Nets_p10:List AG:=[o 4 (.mv (.c (.int .i64 0)))]
abbrev r06_Nets_p11:List AG:=[o 6 (.mv (.t 3)),o 7 (.off 0 (.t 1)),o 8 (.load false 1 (.t 7)),o 9 (.append 1 t_string 16 (.t 6) (.t 8)),o 3 (.mv (.t 9))]
abbrev r06_Nets_p12:List AG:=[o 3 (.nilrow 1 t_string)]
abbrev r06_Nets_p13:List AG:=[o 1 (.box 4 (.t 0)),o 2 (.nilrow 1 t_string)]
abbrev r06_Nets:AFun:=⟨(.seq (.reg r06_Nets_p13) (.seq (.reg r06_Nets_p12) (.seq (.reg r06_Nets_p11) (.seq (.seq (.reg r06_Nets_p10) (.block 0 r06_Nets_x6 (.loop r06_Nets_m6 r06_Nets_b6))) (.seq (.seq (.reg r06_Nets_p5) (.block 2 r06_Nets_x1 (.loop r06_Nets_m1 r06_Nets_b1))) (.seq (.reg r06_Nets_p0) .ret)))))),43,[.tmp 2]⟩
abbrev r06_Nets_k1:List It:=[.code (.seq (.reg r06_Nets_p0) .ret)]
abbrev r06_Nets_L1 (x1 x3 x5:AV) (h:List Ob) (e:Cx:=cx):Cfg:=atC n_r06_Nets (.code r06_Nets_b1::.inLoop r06_Nets_m1 r06_Nets_b1::.inBlock 2 r06_Nets_x1::r06_Nets_k1) [U,x1,U,x3,U,x5,U,U,U,U,U,U,U,U,U,U,U,U,U,U,U,U,U,U,U,U,U,U,U,U,U,U,U,U,U,U,U,U,U,U,U,U,U] h e
abbrev r06_Nets_k6:List It:=[.code (.seq (.seq (.reg r06_Nets_p5) (.block 2 r06_Nets_x1 (.loop r06_Nets_m1 r06_Nets_b1))) (.seq (.reg r06_Nets_p0) .ret))]
abbrev r06_Nets_L6 (x1 x3 x4:AV) (h:List Ob) (e:Cx:=cx):Cfg:=atC n_r06_Nets (.code r06_Nets_b6::.inLoop r06_Nets_m6 r06_Nets_b6::.inBlock 0 r06_Nets_x6::r06_Nets_k6) [U,x1,U,x3,x4,U,U,U,U,U,U,U,U,U,U,U,U,U,U,U,U,U,U,U,U,U,U,U,U,U,U,U,U,U,U,U,U,U,U,U,U,U,U] h e
@[simp] theorem c_r06_Nets:cfun Tryd.prog n_r06_Nets=some r06_Nets:=by kernel_rfl
@[simp] theorem e_r06_Nets:hasBody Tryd.prog n_r06_Nets=true:=by kernel_rfl
abbrev slices_Contains_string_string_p0:List AG:=[o 5 (.mv (.t 0)),o 6 (.mv (.t 1)),o 7 (.call (.f n_slices_Index_string_string) [(.t 5),(.t 6)]),o 8 (.cmp .geq (.sc .int) (.t 7) (.c (.int .i64 0))),o 4 (.mv (.t 8))]
abbrev slices_Contains_string_string_p1:List AG:=[o 4 (.mv (.c (.bool false)))]
abbrev slices_Contains_string_string:AFun:=⟨(.seq (.reg slices_Contains_string_string_p1) (.seq (.reg slices_Contains_string_string_p0) .ret)),9,[.tmp 4]⟩
@[simp] theorem c_slices_Contains_string_string:cfun Tryd.prog n_slices_Contains_string_string=some slices_Contains_string_string:=by kernel_rfl
@[simp] theorem e_slices_Contains_string_string:hasBody Tryd.prog n_slices_Contains_string_string=true:=by kernel_rfl
abbrev w06_FewGate_p0:List AG:=[o 11 (.mv (.t 3)),o 12 (.mv (.t 11)),oy 13 12 (.mv (.t 4)),o 14 (.pick (.t 12) (.t 13) (.c (.bool false))),o 15 (.mv (.t 14)),oy 16 15 (.off 0 (.t 1)),oy 17 15 (.load false 1 (.t 16)),oy 18 15 (.lenStr (.t 17)),oy 19 15 (.cmp .leq (.sc .int) (.t 18) (.c (.int .i64 60))),o 20 (.pick (.t 15) (.t 19) (.c (.bool false))),o 2 (.mv (.t 20))]
abbrev w06_FewGate_p1:List AG:=[o 8 (.off 3 (.t 1)),o 9 (.load false 1 (.t 8)),o 10 (.call (.f n_w05_Texts) [(.t 9),(.c (.int .i64 140))]),o 4 (.mv (.t 10))]
abbrev w06_FewGate_p2:List AG:=[o 5 (.off 2 (.t 1)),o 6 (.load false 1 (.t 5)),o 7 (.call (.f n_w05_Texts) [(.t 6),(.c (.int .i64 12))]),o 3 (.mv (.t 7))]
abbrev w06_FewGate_p3:List AG:=[o 1 (.box 5 (.t 0)),o 2 (.mv (.c (.bool false)))]
abbrev w06_FewGate:AFun:=⟨(.seq (.reg w06_FewGate_p3) (.seq (.reg w06_FewGate_p2) (.seq (.reg w06_FewGate_p1) (.seq (.reg w06_FewGate_p0) .ret)))),21,[.tmp 2]⟩
@[simp] theorem c_w06_FewGate:cfun Tryd.prog n_w06_FewGate=some w06_FewGate:=by kernel_rfl
@[simp] theorem e_w06_FewGate:hasBody Tryd.prog n_w06_FewGate=true:=by kernel_rfl
abbrev net_Check_1_p0:List AG:=[o 10 (.off 0 (.t 2)),o 11 (.load false 1 (.t 10)),o 12 (.off 1 (.t 2)),o 13 (.load false 1 (.t 12)),q (.store 1 (.t 0) (.t 11)),q (.store 1 (.t 1) (.t 13))]
abbrev net_Check_1_p1:List AG:=[o 9 (.mv (.t 3))]
abbrev net_Check_1_p2:List AG:=[o 5 (.recover),o 6 (.tassert (.t 5) t_net_wrong (.agg [(.int .i64 0),(.str [])]) true),o 4 (.mv (.t 6)),o 7 (.extract (.t 4) 0),o 8 (.extract (.t 4) 1),o 2 (.alloc [(.int .i64 0),(.str [])]),q (.store 2 (.t 2) (.t 7)),o 3 (.mv (.t 8))]
abbrev net_Check_1:AFun:=⟨(.seq (.reg net_Check_1_p2) (.seq (.reg net_Check_1_p1) (.cond (.t 9) (.dreg [O,O,O,I,O,O] [5,5,6,6,6,7] net_Check_1_p0) .skip))),14,[]⟩
@[simp] theorem c_net_Check_1:cfun Tryd.prog n_net_Check_1=some net_Check_1:=by kernel_rfl
@[simp] theorem e_net_Check_1:hasBody Tryd.prog n_net_Check_1=true:=by kernel_rfl
abbrev net_Check_2_p0:List AG:=[o 3 (.off 2 (.t 1)),o 4 (.load false 1 (.t 3)),o 5 (.len (.t 4)),o 6 (.cmp .gtr (.sc .int) (.t 5) (.c (.int .i64 8))),o 7 (.mv (.t 6)),on 8 7 (.off 3 (.t 1)),on 9 7 (.load false 1 (.t 8)),on 10 7 (.len (.t 9)),on 11 7 (.cmp .gtr (.sc .int) (.t 10) (.c (.int .i64 128))),o 12 (.pick (.t 7) (.c (.bool true)) (.t 11)),o 2 (.mv (.t 12))]
abbrev net_Check_2_p1:List AG:=[o 1 (.box 5 (.t 0)),o 2 (.mv (.c (.bool false)))]
abbrev net_Check_2:AFun:=⟨(.seq (.reg net_Check_2_p1) (.seq (.reg net_Check_2_p0) .ret)),13,[.tmp 2]⟩
@[simp] theorem c_net_Check_2:cfun Tryd.prog n_net_Check_2=some net_Check_2:=by kernel_rfl
@[simp] theorem e_net_Check_2:hasBody Tryd.prog n_net_Check_2=true:=by kernel_rfl
abbrev net_need_p0:List AG:=[o 8 (.mv (.t 1)),o 9 (.mv (.t 2)),o 10 (.build [(.int .i64 0),(.str [])] [(0,1,(.t 8)),(1,1,(.t 9))]),o 11 (.mkIface t_net_wrong (.t 10)),q (.panic (.t 11))]
abbrev net_need_p1:List AG:=[o 6 (.mv (.t 0)),o 7 (.not (.t 6))]
abbrev net_need:AFun:=⟨(.seq (.reg net_need_p1) (.cond (.t 7) (.reg net_need_p0) .skip)),12,[]⟩
@[simp] theorem c_net_need:cfun Tryd.prog n_net_need=some net_need:=by kernel_rfl
@[simp] theorem e_net_need:hasBody Tryd.prog n_net_need=true:=by kernel_rfl
abbrev slices_ContainsFunc_api_Gate_api_Gate_p0:List AG:=[o 5 (.mv (.t 0)),o 6 (.mv (.t 1)),o 7 (.call (.f n_slices_IndexFunc_api_Gate_api_Gate) [(.t 5),(.t 6)]),o 8 (.cmp .geq (.sc .int) (.t 7) (.c (.int .i64 0))),o 4 (.mv (.t 8))]
abbrev slices_ContainsFunc_api_Gate_api_Gate_p1:List AG:=[o 4 (.mv (.c (.bool false)))]
abbrev slices_ContainsFunc_api_Gate_api_Gate:AFun:=⟨(.seq (.reg slices_ContainsFunc_api_Gate_api_Gate_p1) (.seq (.reg slices_ContainsFunc_api_Gate_api_Gate_p0) .ret)),9,[.tmp 4]⟩
@[simp] theorem c_slices_ContainsFunc_api_Gate_api_Gate:cfun Tryd.prog n_slices_ContainsFunc_api_Gate_api_Gate=some slices_ContainsFunc_api_Gate_api_Gate:=by kernel_rfl
@[simp] theorem e_slices_ContainsFunc_api_Gate_api_Gate:hasBody Tryd.prog n_slices_ContainsFunc_api_Gate_api_Gate=true:=by kernel_rfl
abbrev net_told_p0:List AG:=[o 45 (.mv (.t 3)),o 2 (.mv (.t 45))]
abbrev net_told_m1:List Bool:=[O,O,O,I,O,O,O,O,O,O,O,O,O,O,O,O,O,O,O,O,O,O,O,O,O,O,O,O,O,O,I,I,I,O,O,O,O,O,O,O,O,O,O,O,O,O]
abbrev net_told_x1:List Bool:=[O,O,O,I,O,O,O,O,O,O,O,O,O,O,O,O,O,O,O,O,O,O,O,O,O,O,O,O,O,O,O,O,O,O,O,O,O,O,O,O,O,O,O,O,O,O]
abbrev net_told_p2:List AG:=[o 44 (.ibin .add (.t 32) (.c (.int .i64 1))),o 32 (.mv (.t 44))]
abbrev net_told_p3:List AG:=[o 36 (.mv (.t 3)),o 37 (.off 0 (.t 7)),o 38 (.load false 1 (.t 37)),o 39 (.lit 1 [(.str [])] [(0,(.t 38))]),o 40 (.append 1 t_string 16 (.t 36) (.t 39)),o 41 (.off 2 (.t 7)),o 42 (.load false 1 (.t 41)),o 43 (.append 1 t_string 16 (.t 40) (.t 42)),o 3 (.mv (.t 43))]
abbrev net_told_p4:List AG:=[o 34 (.ixAddr 5 (.t 30) (.t 32)),o 35 (.load true 5 (.t 34)),o 7 (.alloc [(.str []),(.int .i64 0),(.own 1 t_string []),(.own 1 t_string []),(.bool false)]),q (.store 5 (.t 7) (.t 35))]
abbrev net_told_p5:ACode:=(.seq (.reg net_told_p4) (.dreg [O,O,O,O,O,O,I,O,O] [5,4,4,5,8,8,8,10,10] net_told_p3))
abbrev net_told_p6:List AG:=[o 33 (.cmp .lss (.sc .int) (.t 32) (.t 31))]
abbrev net_told_b1:ACode:=(.seq (.reg net_told_p6) (.seq (.cond (.t 33) .skip (.exit 2)) (.seq (.block 3 [] net_told_p5) (.reg net_told_p2))))
abbrev net_told_p7:List AG:=[o 29 (.off 3 (.t 1)),o 30 (.load false 1 (.t 29)),o 31 (.len (.t 30)),o 32 (.mv (.c (.int .i64 0)))]
abbrev net_told_m8:List Bool:=[O,I,O,I,O,O,O,O,O,O,O,O,O,O,O,I,I,I,O,O,O,O,O,O,O,O,O,O,O,O,O,O,O,O,O,O,O,O,O,O,O,O,O,O,O,O]
abbrev net_told_x8:List Bool:=[O,I,O,I,O,O,O,O,O,O,O,O,O,O,O,O,O,O,O,O,O,O,O,O,O,O,O,O,O,O,O,O,O,O,O,O,O,O,O,O,O,O,O,O,O,O]
abbrev net_told_p9:List AG:=[o 28 (.ibin .add (.t 17) (.c (.int .i64 1))),o 17 (.mv (.t 28))]
abbrev net_told_p10:List AG:=[o 21 (.mv (.t 3)),o 22 (.off 0 (.t 5)),o 23 (.load false 1 (.t 22)),o 24 (.off 1 (.t 5)),o 25 (.load false 1 (.t 24)),o 26 (.lit 1 [(.str []),(.str [])] [(0,(.t 23)),(1,(.t 25))]),o 27 (.append 1 t_string 16 (.t 21) (.t 26)),o 3 (.mv (.t 27))]
abbrev net_told_p11:List AG:=[o 19 (.ixAddr 3 (.t 15) (.t 17)),o 20 (.load true 3 (.t 19)),o 5 (.alloc [(.str []),(.str []),(.int .i64 0)]),q (.store 3 (.t 5) (.t 20))]
abbrev net_told_p12:ACode:=(.seq (.reg net_told_p11) (.reg net_told_p10))
abbrev net_told_p13:List AG:=[o 18 (.cmp .lss (.sc .int) (.t 17) (.t 16))]
abbrev net_told_b8:ACode:=(.seq (.reg net_told_p13) (.seq (.cond (.t 18) .skip (.exit 0)) (.seq (.block 1 [] net_told_p12) (.reg net_told_p9))))
abbrev net_told_p14:List AG:=[o 14 (.off 2 (.t 1)),o 15 (.load false 1 (.t 14)),o 16 (.len (.t 15)),o 17 (.mv (.c (.int .i64 0)))]
abbrev net_told_p15:List AG:=[o 8 (.off 0 (.t 1)),o 9 (.load false 1 (.t 8)),o 10 (.off 1 (.t 1)),o 11 (.load false 1 (.t 10)),o 12 (.lit 1 [(.list true 0 []),(.list true 0 [])] [(0,(.t 9)),(1,(.t 11))]),o 13 (.call (.f n_slices_Concat_string_string) [(.t 12)]),o 3 (.mv (.t 13))]
abbrev net_told_p16:List AG:=[o 1 (.box 4 (.t 0)),o 2 (.nilrow 1 t_string)]
abbrev net_told:AFun:=⟨(.seq (.reg net_told_p16) (.seq (.reg net_told_p15) (.seq (.seq (.reg net_told_p14) (.block 0 net_told_x8 (.loop net_told_m8 net_told_b8))) (.seq (.seq (.reg net_told_p7) (.block 2 net_told_x1 (.loop net_told_m1 net_told_b1))) (.seq (.reg net_told_p0) .ret))))),46,[.tmp 2]⟩
abbrev net_told_k1:List It:=[.code (.seq (.reg net_told_p0) .ret)]
abbrev net_told_L1 (x3 x30 x31 x32:AV) (h:List Ob) (e:Cx:=cx):Cfg:=atC n_net_told (.code net_told_b1::.inLoop net_told_m1 net_told_b1::.inBlock 2 net_told_x1::net_told_k1) [U,U,U,x3,U,U,U,U,U,U,U,U,U,U,U,U,U,U,U,U,U,U,U,U,U,U,U,U,U,U,x30,x31,x32,U,U,U,U,U,U,U,U,U,U,U,U,U] h e
abbrev net_told_k8:List It:=[.code (.seq (.seq (.reg net_told_p7) (.block 2 net_told_x1 (.loop net_told_m1 net_told_b1))) (.seq (.reg net_told_p0) .ret))]
abbrev net_told_L8 (x1 x3 x15 x16 x17:AV) (h:List Ob) (e:Cx:=cx):Cfg:=atC n_net_told (.code net_told_b8::.inLoop net_told_m8 net_told_b8::.inBlock 0 net_told_x8::net_told_k8) [U,x1,U,x3,U,U,U,U,U,U,U,U,U,U,U,x15,x16,x17,U,U,U,U,U,U,U,U,U,U,U,U,U,U,U,U,U,U,U,U,U,U,U,U,U,U,U,U] h e
@[simp] theorem c_net_told:cfun Tryd.prog n_net_told=some net_told:=by kernel_rfl
@[simp] theorem e_net_told:hasBody Tryd.prog n_net_told=true:=by kernel_rfl
abbrev ident_Name_p0:List AG:=[o 3 (.mv (.t 0)),o 4 (.call (.f n_ident_name_plain) [(.t 3)]),o 2 (.mv (.t 4))]
abbrev ident_Name_p1:List AG:=[o 2 (.mv (.c (.bool false)))]
abbrev ident_Name:AFun:=⟨(.seq (.reg ident_Name_p1) (.seq (.reg ident_Name_p0) .ret)),5,[.tmp 2]⟩
@[simp] theorem c_ident_Name:cfun Tryd.prog n_ident_Name=some ident_Name:=by kernel_rfl
@[simp] theorem e_ident_Name:hasBody Tryd.prog n_ident_Name=true:=by kernel_rfl
abbrev net_once_p0:List AG:=[o 22 (.mv (.t 3)),o 2 (.mv (.t 22))]
abbrev net_once_m1:List Bool:=[O,O,O,I,O,O,O,I,I,I,O,O,O,O,O,O,O,O,O,O,O,O,O]
abbrev net_once_x1:List Bool:=[O,O,O,I,O,O,O,O,O,O,O,O,O,O,O,O,O,O,O,O,O,O,O]
abbrev net_once_p2:List AG:=[o 21 (.ibin .add (.t 9) (.c (.int .i64 1))),o 9 (.mv (.t 21))]
abbrev net_once_p3:List AG:=[o 19 (.mv (.t 3)),o 20 (.mv (.t 5)),q (.upd (.sc .str) (.t 19) (.t 20) (.c (.bool true)))]
abbrev net_once_p4:List AG:=[o 13 (.mv (.t 3)),o 14 (.mv (.t 5)),o 15 (.lookup (.sc .str) (.bool false) (.t 13) (.t 14) false),o 16 (.not (.t 15)),o 17 (.mv (.t 5)),o 18 (.call (.f n_net_need) [(.t 16),(.c (.int .i64 5)),(.t 17)])]
abbrev net_once_p5:List AG:=[o 11 (.ixAddr 1 (.t 7) (.t 9)),o 12 (.load false 1 (.t 11)),o 5 (.mv (.t 12))]
abbrev net_once_p6:ACode:=(.seq (.reg net_once_p5) (.seq (.reg net_once_p4) (.reg net_once_p3)))
abbrev net_once_p7:List AG:=[o 10 (.cmp .lss (.sc .int) (.t 9) (.t 8))]
abbrev net_once_b1:ACode:=(.seq (.reg net_once_p7) (.seq (.cond (.t 10) .skip (.exit 0)) (.seq (.block 1 [] net_once_p6) (.reg net_once_p2))))
abbrev net_once_p8:List AG:=[o 7 (.mv (.t 0)),o 8 (.len (.t 7)),o 9 (.mv (.c (.int .i64 0)))]
abbrev net_once_p9:List AG:=[o 6 (.mkMap),o 3 (.mv (.t 6))]
abbrev net_once_p10:List AG:=[o 2 (.mv (.c .nilm))]
abbrev net_once:AFun:=⟨(.seq (.reg net_once_p10) (.seq (.reg net_once_p9) (.seq (.seq (.reg net_once_p8) (.block 0 net_once_x1 (.loop net_once_m1 net_once_b1))) (.seq (.reg net_once_p0) .ret)))),23,[.tmp 2]⟩
abbrev net_once_k1:List It:=[.code (.seq (.reg net_once_p0) .ret)]
abbrev net_once_L1 (x3 x7 x8 x9:AV) (h:List Ob) (e:Cx:=cx):Cfg:=atC n_net_once (.code net_once_b1::.inLoop net_once_m1 net_once_b1::.inBlock 0 net_once_x1::net_once_k1) [U,U,U,x3,U,U,U,x7,x8,x9,U,U,U,U,U,U,U,U,U,U,U,U,U] h e
@[simp] theorem c_net_once:cfun Tryd.prog n_net_once=some net_once:=by kernel_rfl
@[simp] theorem e_net_once:hasBody Tryd.prog n_net_once=true:=by kernel_rfl
abbrev net_Gate_p0:List AG:=[o 18 (.off 1 (.t 1)),o 19 (.load false 1 (.t 18)),o 20 (.off 2 (.t 1)),o 21 (.load false 1 (.t 20)),o 22 (.len (.t 21)),o 23 (.call (.f n_net_has) [(.t 19),(.t 22)]),o 24 (.mv (.t 23)),oy 25 24 (.off 3 (.t 1)),oy 26 24 (.load false 1 (.t 25)),oy 27 24 (.len (.t 26)),oy 28 24 (.cmp .leq (.sc .int) (.t 27) (.c (.int .i64 128))),o 29 (.pick (.t 24) (.t 28) (.c (.bool false))),o 30 (.mv (.t 29)),oy 31 30 (.off 3 (.t 1)),oy 32 30 (.load false 1 (.t 31)),oy 33 30 (.mv (.t 3)),oy 34 30 (.call (.f n_slices_ContainsFunc_string_string) [(.t 32),(.t 33)]),oy 35 30 (.not (.t 34)),o 36 (.pick (.t 30) (.t 35) (.c (.bool false))),o 2 (.mv (.t 36))]
abbrev net_Gate_p1:List AG:=[o 2 (.mv (.c (.bool false)))]
abbrev net_Gate_p2:ACode:=(.seq (.reg net_Gate_p1) .ret)
abbrev net_Gate_p3:List AG:=[o 5 (.off 1 (.t 1)),o 6 (.load false 1 (.t 5)),o 7 (.cmp .neq (.sc .int) (.t 6) (.c (.int .i64 10))),o 8 (.mv (.t 7)),oy 9 8 (.off 3 (.t 1)),oy 10 8 (.load false 1 (.t 9)),oy 11 8 (.len (.t 10)),oy 12 8 (.cmp .gtr (.sc .int) (.t 11) (.c (.int .i64 0))),oy 13 8 (.mv (.t 12)),on 14 13 (.off 4 (.t 1)),on 15 13 (.load false 1 (.t 14)),oy 16 8 (.pick (.t 13) (.c (.bool true)) (.t 15)),o 17 (.pick (.t 8) (.t 16) (.c (.bool false)))]
abbrev net_Gate_p4:List AG:=[o 4 (.mkFunc (.func n_net_Gate_1) [] [(.t 1)]),o 3 (.mv (.t 4))]
abbrev net_Gate_p5:List AG:=[o 1 (.box 5 (.t 0)),o 2 (.mv (.c (.bool false)))]
abbrev net_Gate:AFun:=⟨(.seq (.reg net_Gate_p5) (.seq (.reg net_Gate_p4) (.seq (.seq (.reg net_Gate_p3) (.cond (.t 17) net_Gate_p2 .skip)) (.seq (.reg net_Gate_p0) .ret)))),37,[.tmp 2]⟩
@[simp] theorem c_net_Gate:cfun Tryd.prog n_net_Gate=some net_Gate:=by kernel_rfl
@[simp] theorem e_net_Gate:hasBody Tryd.prog n_net_Gate=true:=by kernel_rfl
abbrev net_used_p0:List AG:=[o 36 (.mv (.t 3)),o 2 (.mv (.t 36))]
abbrev net_used_m1:List Bool:=[O,O,O,I,O,O,O,O,O,O,O,O,O,O,O,O,O,O,O,O,O,O,O,O,O,I,I,I,O,O,O,O,O,O,O,O,O]
abbrev net_used_x1:List Bool:=[O,O,O,I,O,O,O,O,O,O,O,O,O,O,O,O,O,O,O,O,O,O,O,O,O,O,O,O,O,O,O,O,O,O,O,O,O]
abbrev net_used_p2:List AG:=[o 35 (.ibin .add (.t 27) (.c (.int .i64 1))),o 27 (.mv (.t 35))]
abbrev net_used_p3:List AG:=[o 31 (.mv (.t 3)),o 32 (.off 2 (.t 7)),o 33 (.load false 1 (.t 32)),o 34 (.append 1 t_string 16 (.t 31) (.t 33)),o 3 (.mv (.t 34))]
abbrev net_used_p4:List AG:=[o 29 (.ixAddr 5 (.t 25) (.t 27)),o 30 (.load true 5 (.t 29)),o 7 (.alloc [(.str []),(.int .i64 0),(.own 1 t_string []),(.own 1 t_string []),(.bool false)]),q (.store 5 (.t 7) (.t 30))]
abbrev net_used_p5:ACode:=(.seq (.reg net_used_p4) (.reg net_used_p3))
abbrev net_used_p6:List AG:=[o 28 (.cmp .lss (.sc .int) (.t 27) (.t 26))]
abbrev net_used_b1:ACode:=(.seq (.reg net_used_p6) (.seq (.cond (.t 28) .skip (.exit 2)) (.seq (.block 3 [] net_used_p5) (.reg net_used_p2))))
abbrev net_used_p7:List AG:=[o 24 (.off 3 (.t 1)),o 25 (.load false 1 (.t 24)),o 26 (.len (.t 25)),o 27 (.mv (.c (.int .i64 0)))]
abbrev net_used_m8:List Bool:=[O,I,O,I,O,O,O,O,O,O,O,O,I,I,I,O,O,O,O,O,O,O,O,O,O,O,O,O,O,O,O,O,O,O,O,O,O]
abbrev net_used_x8:List Bool:=[O,I,O,I,O,O,O,O,O,O,O,O,O,O,O,O,O,O,O,O,O,O,O,O,O,O,O,O,O,O,O,O,O,O,O,O,O]
abbrev net_used_p9:List AG:=[o 23 (.ibin .add (.t 14) (.c (.int .i64 1))),o 14 (.mv (.t 23))]
abbrev net_used_p10:List AG:=[o 18 (.mv (.t 3)),o 19 (.off 1 (.t 5)),o 20 (.load false 1 (.t 19)),o 21 (.lit 1 [(.str [])] [(0,(.t 20))]),o 22 (.append 1 t_string 16 (.t 18) (.t 21)),o 3 (.mv (.t 22))]
abbrev net_used_p11:List AG:=[o 16 (.ixAddr 3 (.t 12) (.t 14)),o 17 (.load true 3 (.t 16)),o 5 (.alloc [(.str []),(.str []),(.int .i64 0)]),q (.store 3 (.t 5) (.t 17))]
abbrev net_used_p12:ACode:=(.seq (.reg net_used_p11) (.reg net_used_p10))
abbrev net_used_p13:List AG:=[o 15 (.cmp .lss (.sc .int) (.t 14) (.t 13))]
abbrev net_used_b8:ACode:=(.seq (.reg net_used_p13) (.seq (.cond (.t 15) .skip (.exit 0)) (.seq (.block 1 [] net_used_p12) (.reg net_used_p9))))
abbrev net_used_p14:List AG:=[o 11 (.off 2 (.t 1)),o 12 (.load false 1 (.t 11)),o 13 (.len (.t 12)),o 14 (.mv (.c (.int .i64 0)))]
abbrev net_used_p15:List AG:=[o 8 (.off 1 (.t 1)),o 9 (.load false 1 (.t 8)),o 10 (.call (.f n_slices_Clone_string_string) [(.t 9)]),o 3 (.mv (.t 10))]
abbrev net_used_p16:List AG:=[o 1 (.box 4 (.t 0)),o 2 (.nilrow 1 t_string)]
abbrev net_used:AFun:=⟨(.seq (.reg net_used_p16) (.seq (.reg net_used_p15) (.seq (.seq (.reg net_used_p14) (.block 0 net_used_x8 (.loop net_used_m8 net_used_b8))) (.seq (.seq (.reg net_used_p7) (.block 2 net_used_x1 (.loop net_used_m1 net_used_b1))) (.seq (.reg net_used_p0) .ret))))),37,[.tmp 2]⟩
abbrev net_used_k1:List It:=[.code (.seq (.reg net_used_p0) .ret)]
abbrev net_used_L1 (x3 x25 x26 x27:AV) (h:List Ob) (e:Cx:=cx):Cfg:=atC n_net_used (.code net_used_b1::.inLoop net_used_m1 net_used_b1::.inBlock 2 net_used_x1::net_used_k1) [U,U,U,x3,U,U,U,U,U,U,U,U,U,U,U,U,U,U,U,U,U,U,U,U,U,x25,x26,x27,U,U,U,U,U,U,U,U,U] h e
abbrev net_used_k8:List It:=[.code (.seq (.seq (.reg net_used_p7) (.block 2 net_used_x1 (.loop net_used_m1 net_used_b1))) (.seq (.reg net_used_p0) .ret))]
abbrev net_used_L8 (x1 x3 x12 x13 x14:AV) (h:List Ob) (e:Cx:=cx):Cfg:=atC n_net_used (.code net_used_b8::.inLoop net_used_m8 net_used_b8::.inBlock 0 net_used_x8::net_used_k8) [U,x1,U,x3,U,U,U,U,U,U,U,U,x12,x13,x14,U,U,U,U,U,U,U,U,U,U,U,U,U,U,U,U,U,U,U,U,U,U] h e
@[simp] theorem c_net_used:cfun Tryd.prog n_net_used=some net_used:=by kernel_rfl
@[simp] theorem e_net_used:hasBody Tryd.prog n_net_used=true:=by kernel_rfl
abbrev slices_Index_string_string_p0:List AG:=[o 4 (.mv (.c (.int .i64 (-1))))]
abbrev slices_Index_string_string_m1:List Bool:=[I,I,O,O,O,O,O,I,I,O,O,O,O,O,O,O,O,O,O]
abbrev slices_Index_string_string_x1:List Bool:=[O,O,O,O,O,O,O,O,O,O,O,O,O,O,O,O,O,O,O]
abbrev slices_Index_string_string_p2:List AG:=[o 18 (.ibin .add (.t 8) (.c (.int .i64 1))),o 8 (.mv (.t 18))]
abbrev slices_Index_string_string_p3:List AG:=[o 17 (.mv (.t 5)),o 4 (.mv (.t 17))]
abbrev slices_Index_string_string_p4:ACode:=(.seq (.reg slices_Index_string_string_p3) .ret)
abbrev slices_Index_string_string_p5:List AG:=[o 11 (.mv (.t 1)),o 12 (.mv (.t 0)),o 13 (.mv (.t 5)),o 14 (.ixAddr 1 (.t 12) (.t 13)),o 15 (.load false 1 (.t 14)),o 16 (.cmp .eql (.sc .str) (.t 11) (.t 15))]
abbrev slices_Index_string_string_p6:List AG:=[o 10 (.mv (.t 8)),o 5 (.mv (.t 10))]
abbrev slices_Index_string_string_p7:ACode:=(.seq (.reg slices_Index_string_string_p6) (.seq (.reg slices_Index_string_string_p5) (.cond (.t 16) slices_Index_string_string_p4 .skip)))
abbrev slices_Index_string_string_p8:List AG:=[o 9 (.cmp .lss (.sc .int) (.t 8) (.t 7))]
abbrev slices_Index_string_string_b1:ACode:=(.seq (.reg slices_Index_string_string_p8) (.seq (.cond (.t 9) .skip (.exit 0)) (.seq (.block 1 [] slices_Index_string_string_p7) (.reg slices_Index_string_string_p2))))
abbrev slices_Index_string_string_p9:List AG:=[o 6 (.mv (.t 0)),o 7 (.len (.t 6)),o 8 (.mv (.c (.int .i64 0)))]
abbrev slices_Index_string_string_p10:List AG:=[o 4 (.mv (.c (.int .i64 0)))]
abbrev slices_Index_string_string:AFun:=⟨(.seq (.reg slices_Index_string_string_p10) (.seq (.seq (.reg slices_Index_string_string_p9) (.block 0 slices_Index_string_string_x1 (.loop slices_Index_string_string_m1 slices_Index_string_string_b1))) (.seq (.reg slices_Index_string_string_p0) .ret))),19,[.tmp 4]⟩
abbrev slices_Index_string_string_k1:List It:=[.code (.seq (.reg slices_Index_string_string_p0) .ret)]
abbrev slices_Index_string_string_L1 (x0 x1 x7 x8:AV) (h:List Ob) (e:Cx:=cx):Cfg:=atC n_slices_Index_string_string (.code slices_Index_string_string_b1::.inLoop slices_Index_string_string_m1 slices_Index_string_string_b1::.inBlock 0 slices_Index_string_string_x1::slices_Index_string_string_k1) [x0,x1,U,U,U,U,U,x7,x8,U,U,U,U,U,U,U,U,U,U] h e
@[simp] theorem c_slices_Index_string_string:cfun Tryd.prog n_slices_Index_string_string=some slices_Index_string_string:=by kernel_rfl
@[simp] theorem e_slices_Index_string_string:hasBody Tryd.prog n_slices_Index_string_string=true:=by kernel_rfl
abbrev order_coming_1_m0:List Bool:=[I,O,O,I,I,O,O,O,O,O,O,O,O,O,O,O,O,O,O,O,O,O,O,O,O,O,O,O,O,O,O,O,O,O,O,O,O,O,O,O,O,O,O,O,O,O,O,O,O,O,O,O,O,O,O,O,O,O,O,O,O,O,O,O,O,O,O,O,O,O,O,O,O,O]
abbrev order_coming_1_x0:List Bool:=[O,O,O,O,O,O,O,O,O,O,O,O,O,O,O,O,O,O,O,O,O,O,O,O,O,O,O,O,O,O,O,O,O,O,O,O,O,O,O,O,O,O,O,O,O,O,O,O,O,O,O,O,O,O,O,O,O,O,O,O,O,O,O,O,O,O,O,O,O,O,O,O,O,O]
abbrev order_coming_1_m1:List Bool:=[I,O,O,I,I,O,I,O,O,O,O,O,O,O,O,O,O,O,O,O,O,O,O,O,O,O,O,O,O,O,O,O,O,O,O,O,O,O,O,O,O,O,O,O,O,O,O,O,O,I,I,I,O,O,O,O,O,O,O,O,O,O,O,O,O,O,O,O,O,O,O,O,O,O]
abbrev order_coming_1_x1:List Bool:=[I,O,O,I,I,O,O,O,O,O,O,O,O,O,O,O,O,O,O,O,O,O,O,O,O,O,O,O,O,O,O,O,O,O,O,O,O,O,O,O,O,O,O,O,O,O,O,O,O,O,O,O,O,O,O,O,O,O,O,O,O,O,O,O,O,O,O,O,O,O,O,O,O,O]
abbrev order_coming_1_p2:List AG:=[o 73 (.ibin .add (.t 51) (.c (.int .i64 1))),o 51 (.mv (.t 73))]
abbrev order_coming_1_p3:List AG:=[o 68 (.mv (.t 4)),o 69 (.mkIface t_order_pile (.t 68)),o 70 (.mv (.t 8)),o 71 (.mkIface t_int (.t 70)),o 72 (.call (.f n_container_heap_Push) [(.t 69),(.t 71)])]
abbrev order_coming_1_p4:List AG:=[o 61 (.off 0 (.t 3)),o 62 (.load false 1 (.t 61)),o 63 (.mv (.t 8)),o 64 (.ixAddr 1 (.t 62) (.t 63)),o 65 (.load false 1 (.t 64)),o 66 (.lenMap (.t 65)),o 67 (.cmp .eql (.sc .int) (.t 66) (.c (.int .i64 0)))]
abbrev order_coming_1_p5:List AG:=[o 55 (.off 0 (.t 3)),o 56 (.load false 1 (.t 55)),o 57 (.mv (.t 8)),o 58 (.ixAddr 1 (.t 56) (.t 57)),o 59 (.load false 1 (.t 58)),o 60 (.mv (.t 6)),q (.delete (.sc .int) (.t 59) (.t 60))]
abbrev order_coming_1_p6:List AG:=[o 53 (.ixAddr 1 (.t 49) (.t 51)),o 54 (.load false 1 (.t 53)),o 8 (.mv (.t 54))]
abbrev order_coming_1_p7:ACode:=(.seq (.reg order_coming_1_p6) (.seq (.reg order_coming_1_p5) (.seq (.reg order_coming_1_p4) (.cond (.t 67) (.reg order_coming_1_p3) .skip))))
abbrev order_coming_1_p8:List AG:=[o 52 (.cmp .lss (.sc .int) (.t 51) (.t 50))]
abbrev order_coming_1_b1:ACode:=(.seq (.reg order_coming_1_p8) (.seq (.cond (.t 52) .skip (.exit 4)) (.seq (.block 5 [] order_coming_1_p7) (.reg order_coming_1_p2))))
abbrev order_coming_1_p9:List AG:=[o 45 (.off 1 (.t 3)),o 46 (.load false 1 (.t 45)),o 47 (.mv (.t 6)),o 48 (.ixAddr 1 (.t 46) (.t 47)),o 49 (.load false 1 (.t 48)),o 50 (.len (.t 49)),o 51 (.mv (.c (.int .i64 0)))]
abbrev order_coming_1_p10:List AG:=[o 41 (.mv (.t 0)),o 42 (.mv (.t 6)),o 43 (.call (.t 41) [(.t 42)]),o 44 (.not (.t 43))]
abbrev order_coming_1_p11:List AG:=[o 37 (.mv (.t 4)),o 38 (.mkIface t_order_pile (.t 37)),o 39 (.call (.f n_container_heap_Pop) [(.t 38)]),o 40 (.tassert (.t 39) t_int (.int .i64 0) false),o 6 (.mv (.t 40))]
abbrev order_coming_1_p12:ACode:=(.seq (.reg order_coming_1_p11) (.seq (.seq (.reg order_coming_1_p10) (.cond (.t 44) .ret .skip)) (.seq (.reg order_coming_1_p9) (.block 4 order_coming_1_x1 (.loop order_coming_1_m1 order_coming_1_b1)))))
abbrev order_coming_1_p13:List AG:=[o 32 (.mv (.t 4)),o 33 (.nilck (.t 32)),o 34 (.load false 1 (.t 33)),o 35 (.call (.f n_order_pile_Len) [(.t 34)]),o 36 (.cmp .gtr (.sc .int) (.t 35) (.c (.int .i64 0)))]
abbrev order_coming_1_b0:ACode:=(.seq (.seq (.reg order_coming_1_p13) (.cond (.t 36) .skip (.exit 2))) (.block 3 [] order_coming_1_p12))
abbrev order_coming_1_m14:List Bool:=[I,O,O,I,I,O,O,O,O,O,O,O,O,O,O,I,I,O,O,O,O,O,O,O,O,O,O,O,O,O,O,O,O,O,O,O,O,O,O,O,O,O,O,O,O,O,O,O,O,O,O,O,O,O,O,O,O,O,O,O,O,O,O,O,O,O,O,O,O,O,O,O,O,O]
abbrev order_coming_1_x14:List Bool:=[I,O,O,I,I,O,O,O,O,O,O,O,O,O,O,O,O,O,O,O,O,O,O,O,O,O,O,O,O,O,O,O,O,O,O,O,O,O,O,O,O,O,O,O,O,O,O,O,O,O,O,O,O,O,O,O,O,O,O,O,O,O,O,O,O,O,O,O,O,O,O,O,O,O]
abbrev order_coming_1_p15:List AG:=[o 31 (.ibin .add (.t 16) (.c (.int .i64 1))),o 16 (.mv (.t 31))]
abbrev order_coming_1_p16:List AG:=[o 26 (.mv (.t 4)),o 27 (.mkIface t_order_pile (.t 26)),o 28 (.mv (.t 5)),o 29 (.mkIface t_int (.t 28)),o 30 (.call (.f n_container_heap_Push) [(.t 27),(.t 29)])]
abbrev order_coming_1_p17:List AG:=[o 19 (.off 0 (.t 3)),o 20 (.load false 1 (.t 19)),o 21 (.mv (.t 5)),o 22 (.ixAddr 1 (.t 20) (.t 21)),o 23 (.load false 1 (.t 22)),o 24 (.lenMap (.t 23)),o 25 (.cmp .eql (.sc .int) (.t 24) (.c (.int .i64 0)))]
abbrev order_coming_1_p18:List AG:=[o 18 (.mv (.t 16)),o 5 (.mv (.t 18))]
abbrev order_coming_1_p19:ACode:=(.seq (.reg order_coming_1_p18) (.seq (.reg order_coming_1_p17) (.cond (.t 25) (.reg order_coming_1_p16) .skip)))
abbrev order_coming_1_p20:List AG:=[o 17 (.cmp .lss (.sc .int) (.t 16) (.t 15))]
abbrev order_coming_1_b14:ACode:=(.seq (.reg order_coming_1_p20) (.seq (.cond (.t 17) .skip (.exit 0)) (.seq (.block 1 [] order_coming_1_p19) (.reg order_coming_1_p15))))
abbrev order_coming_1_p21:List AG:=[o 13 (.off 3 (.t 1)),o 14 (.load false 1 (.t 13)),o 15 (.len (.t 14)),o 16 (.mv (.c (.int .i64 0)))]
abbrev order_coming_1_p22:List AG:=[o 11 (.lit 1 [] []),o 12 (.box 1 (.t 11)),o 4 (.mv (.t 12))]
abbrev order_coming_1_p23:List AG:=[o 9 (.load true 4 (.t 1)),o 10 (.call (.f n_order_wait) [(.t 9)]),o 3 (.alloc [(.own 1 t_map_int_bool_2 []),(.own 1 t_int_2 [])]),q (.store 2 (.t 3) (.t 10))]
abbrev order_coming_1:AFun:=⟨(.seq (.reg order_coming_1_p23) (.seq (.reg order_coming_1_p22) (.seq (.seq (.reg order_coming_1_p21) (.block 0 order_coming_1_x14 (.loop order_coming_1_m14 order_coming_1_b14))) (.block 2 order_coming_1_x0 (.loop order_coming_1_m0 order_coming_1_b0))))),74,[]⟩
abbrev order_coming_1_k1:List It:=[.inBlock 3 [],.inLoop order_coming_1_m0 order_coming_1_b0,.inBlock 2 order_coming_1_x0]
abbrev order_coming_1_L1 (x0 x3 x4 x6 x49 x50 x51:AV) (h:List Ob) (e:Cx:=cx):Cfg:=atC n_order_coming_1 (.code order_coming_1_b1::.inLoop order_coming_1_m1 order_coming_1_b1::.inBlock 4 order_coming_1_x1::order_coming_1_k1) [x0,U,U,x3,x4,U,x6,U,U,U,U,U,U,U,U,U,U,U,U,U,U,U,U,U,U,U,U,U,U,U,U,U,U,U,U,U,U,U,U,U,U,U,U,U,U,U,U,U,U,x49,x50,x51,U,U,U,U,U,U,U,U,U,U,U,U,U,U,U,U,U,U,U,U,U,U] h e
abbrev order_coming_1_E1 (x0 x3 x4:AV) (h:List Ob) (e:Cx:=cx):Cfg:=atC n_order_coming_1 order_coming_1_k1 [x0,U,U,x3,x4,U,U,U,U,U,U,U,U,U,U,U,U,U,U,U,U,U,U,U,U,U,U,U,U,U,U,U,U,U,U,U,U,U,U,U,U,U,U,U,U,U,U,U,U,U,U,U,U,U,U,U,U,U,U,U,U,U,U,U,U,U,U,U,U,U,U,U,U,U] h e
abbrev order_coming_1_k0:List It:=[]
abbrev order_coming_1_L0 (x0 x3 x4:AV) (h:List Ob) (e:Cx:=cx):Cfg:=atC n_order_coming_1 (.code order_coming_1_b0::.inLoop order_coming_1_m0 order_coming_1_b0::.inBlock 2 order_coming_1_x0::order_coming_1_k0) [x0,U,U,x3,x4,U,U,U,U,U,U,U,U,U,U,U,U,U,U,U,U,U,U,U,U,U,U,U,U,U,U,U,U,U,U,U,U,U,U,U,U,U,U,U,U,U,U,U,U,U,U,U,U,U,U,U,U,U,U,U,U,U,U,U,U,U,U,U,U,U,U,U,U,U] h e
abbrev order_coming_1_k14:List It:=[.code (.block 2 order_coming_1_x0 (.loop order_coming_1_m0 order_coming_1_b0))]
abbrev order_coming_1_L14 (x0 x3 x4 x15 x16:AV) (h:List Ob) (e:Cx:=cx):Cfg:=atC n_order_coming_1 (.code order_coming_1_b14::.inLoop order_coming_1_m14 order_coming_1_b14::.inBlock 0 order_coming_1_x14::order_coming_1_k14) [x0,U,U,x3,x4,U,U,U,U,U,U,U,U,U,U,x15,x16,U,U,U,U,U,U,U,U,U,U,U,U,U,U,U,U,U,U,U,U,U,U,U,U,U,U,U,U,U,U,U,U,U,U,U,U,U,U,U,U,U,U,U,U,U,U,U,U,U,U,U,U,U,U,U,U,U] h e
abbrev order_coming_1_E14 (x0 x3 x4:AV) (h:List Ob) (e:Cx:=cx):Cfg:=atC n_order_coming_1 order_coming_1_k14 [x0,U,U,x3,x4,U,U,U,U,U,U,U,U,U,U,U,U,U,U,U,U,U,U,U,U,U,U,U,U,U,U,U,U,U,U,U,U,U,U,U,U,U,U,U,U,U,U,U,U,U,U,U,U,U,U,U,U,U,U,U,U,U,U,U,U,U,U,U,U,U,U,U,U,U] h e
@[simp] theorem c_order_coming_1:cfun Tryd.prog n_order_coming_1=some order_coming_1:=by kernel_rfl
@[simp] theorem e_order_coming_1:hasBody Tryd.prog n_order_coming_1=true:=by kernel_rfl
abbrev container_heap_Push_p0:List AG:=[o 7 (.mv (.t 0)),o 8 (.mv (.t 0)),o 9 (.invoke (.t 8) "Len" []),o 10 (.ibin .sub (.t 9) (.c (.int .i64 1))),o 11 (.call (.f n_container_heap_up) [(.t 7),(.t 10)])]
abbrev container_heap_Push_p1:List AG:=[o 4 (.mv (.t 0)),o 5 (.mv (.t 1)),o 6 (.invoke (.t 4) "Push" [(.t 5)])]
abbrev container_heap_Push:AFun:=⟨(.seq (.reg container_heap_Push_p1) (.reg container_heap_Push_p0)),12,[]⟩
@[simp] theorem c_container_heap_Push:cfun Tryd.prog n_container_heap_Push=some container_heap_Push:=by kernel_rfl
@[simp] theorem e_container_heap_Push:hasBody Tryd.prog n_container_heap_Push=true:=by kernel_rfl
abbrev order_pile_Len_p0:List AG:=[o 3 (.mv (.t 0)),o 4 (.len (.t 3)),o 2 (.mv (.t 4))]
abbrev order_pile_Len_p1:List AG:=[o 2 (.mv (.c (.int .i64 0)))]
abbrev order_pile_Len:AFun:=⟨(.seq (.reg order_pile_Len_p1) (.seq (.reg order_pile_Len_p0) .ret)),5,[.tmp 2]⟩
@[simp] theorem c_order_pile_Len:cfun Tryd.prog n_order_pile_Len=some order_pile_Len:=by kernel_rfl
@[simp] theorem e_order_pile_Len:hasBody Tryd.prog n_order_pile_Len=true:=by kernel_rfl
abbrev container_heap_Pop_p0:List AG:=[o 13 (.mv (.t 0)),o 14 (.invoke (.t 13) "Pop" []),o 2 (.mv (.t 14))]
abbrev container_heap_Pop_p1:List AG:=[o 10 (.mv (.t 0)),o 11 (.mv (.t 3)),o 12 (.call (.f n_container_heap_down) [(.t 10),(.c (.int .i64 0)),(.t 11)])]
abbrev container_heap_Pop_p2:List AG:=[o 7 (.mv (.t 0)),o 8 (.mv (.t 3)),o 9 (.invoke (.t 7) "Swap" [(.c (.int .i64 0)),(.t 8)])]
abbrev container_heap_Pop_p3:List AG:=[o 4 (.mv (.t 0)),o 5 (.invoke (.t 4) "Len" []),o 6 (.ibin .sub (.t 5) (.c (.int .i64 1))),o 3 (.mv (.t 6))]
abbrev container_heap_Pop_p4:List AG:=[o 2 (.mv (.c .nili))]
abbrev container_heap_Pop:AFun:=⟨(.seq (.reg container_heap_Pop_p4) (.seq (.reg container_heap_Pop_p3) (.seq (.reg container_heap_Pop_p2) (.seq (.reg container_heap_Pop_p1) (.seq (.reg container_heap_Pop_p0) .ret))))),15,[.tmp 2]⟩
@[simp] theorem c_container_heap_Pop:cfun Tryd.prog n_container_heap_Pop=some container_heap_Pop:=by kernel_rfl
@[simp] theorem e_container_heap_Pop:hasBody Tryd.prog n_container_heap_Pop=true:=by kernel_rfl
abbrev r06_limit_p0:List AG:=[o 29 (.off 0 (.t 1)),o 30 (.load false 1 (.t 29)),o 31 (.len (.t 30)),o 32 (.off 2 (.t 1)),o 33 (.load false 1 (.t 32)),o 34 (.len (.t 33)),o 35 (.ibin .add (.t 31) (.t 34)),o 36 (.off 3 (.t 1)),o 37 (.load false 1 (.t 36)),o 38 (.len (.t 37)),o 39 (.ibin .add (.t 35) (.t 38)),o 40 (.cmp .gtr (.sc .int) (.t 39) (.c (.int .i64 200))),o 41 (.mv (.t 40)),on 42 41 (.off 1 (.t 1)),on 43 41 (.load false 1 (.t 42)),on 44 41 (.len (.t 43)),on 45 41 (.cmp .gtr (.sc .int) (.t 44) (.c (.int .i64 200))),o 46 (.pick (.t 41) (.c (.bool true)) (.t 45)),o 2 (.mv (.t 46))]
abbrev r06_limit_m1:List Bool:=[O,I,O,I,O,O,O,O,O,O,O,O,O,O,O,O,O,O,O,O,O,O,O,O,O,O,O,O,O,O,O,O,O,O,O,O,O,O,O,O,O,O,O,O,O,O,O]
abbrev r06_limit_x1:List Bool:=[O,I,O,O,O,O,O,O,O,O,O,O,O,O,O,O,O,O,O,O,O,O,O,O,O,O,O,O,O,O,O,O,O,O,O,O,O,O,O,O,O,O,O,O,O,O,O]
abbrev r06_limit_p2:List AG:=[o 9 (.mv (.t 3)),o 10 (.ibin .add (.t 9) (.c (.int .i64 1))),o 3 (.mv (.t 10))]
abbrev r06_limit_p3:List AG:=[o 2 (.mv (.c (.bool true)))]
abbrev r06_limit_p4:ACode:=(.seq (.reg r06_limit_p3) .ret)
abbrev r06_limit_p5:List AG:=[o 11 (.off 3 (.t 1)),o 12 (.load false 1 (.t 11)),o 13 (.mv (.t 3)),o 14 (.ixAddr 5 (.t 12) (.t 13)),o 15 (.off 2 (.t 14)),o 16 (.load false 1 (.t 15)),o 17 (.len (.t 16)),o 18 (.cmp .gtr (.sc .int) (.t 17) (.c (.int .i64 8))),o 19 (.mv (.t 18)),on 20 19 (.off 3 (.t 1)),on 21 19 (.load false 1 (.t 20)),on 22 19 (.mv (.t 3)),on 23 19 (.ixAddr 5 (.t 21) (.t 22)),on 24 19 (.off 3 (.t 23)),on 25 19 (.load false 1 (.t 24)),on 26 19 (.len (.t 25)),on 27 19 (.cmp .gtr (.sc .int) (.t 26) (.c (.int .i64 128))),o 28 (.pick (.t 19) (.c (.bool true)) (.t 27))]
abbrev r06_limit_p6:ACode:=(.seq (.reg r06_limit_p5) (.cond (.t 28) r06_limit_p4 .skip))
abbrev r06_limit_p7:List AG:=[o 4 (.mv (.t 3)),o 5 (.off 3 (.t 1)),o 6 (.load false 1 (.t 5)),o 7 (.len (.t 6)),o 8 (.cmp .lss (.sc .int) (.t 4) (.t 7))]
abbrev r06_limit_b1:ACode:=(.seq (.seq (.reg r06_limit_p7) (.cond (.t 8) .skip (.exit 0))) (.seq (.block 1 [] r06_limit_p6) (.reg r06_limit_p2)))
abbrev r06_limit_p8:List AG:=[o 3 (.mv (.c (.int .i64 0)))]
abbrev r06_limit_p9:List AG:=[o 1 (.box 4 (.t 0)),o 2 (.mv (.c (.bool false)))]
abbrev r06_limit:AFun:=⟨(.seq (.reg r06_limit_p9) (.seq (.seq (.reg r06_limit_p8) (.block 0 r06_limit_x1 (.loop r06_limit_m1 r06_limit_b1))) (.seq (.reg r06_limit_p0) .ret))),47,[.tmp 2]⟩
abbrev r06_limit_k1:List It:=[.code (.seq (.reg r06_limit_p0) .ret)]
abbrev r06_limit_L1 (x1 x3:AV) (h:List Ob) (e:Cx:=cx):Cfg:=atC n_r06_limit (.code r06_limit_b1::.inLoop r06_limit_m1 r06_limit_b1::.inBlock 0 r06_limit_x1::r06_limit_k1) [U,x1,U,x3,U,U,U,U,U,U,U,U,U,U,U,U,U,U,U,U,U,U,U,U,U,U,U,U,U,U,U,U,U,U,U,U,U,U,U,U,U,U,U,U,U,U,U] h e
@[simp] theorem c_r06_limit:cfun Tryd.prog n_r06_limit=some r06_limit:=by kernel_rfl
@[simp] theorem e_r06_limit:hasBody Tryd.prog n_r06_limit=true:=by kernel_rfl
abbrev r06_Told_p0:List AG:=[o 60 (.mv (.t 3)),o 2 (.mv (.t 60))]
abbrev r06_Told_m1:List Bool:=[O,I,O,I,O,I,O,O,O,O,O,O,O,O,O,O,O,O,O,O,O,O,O,O,O,O,O,O,O,O,O,O,O,O,O,O,O,O,O,O,O,O,O,O,O,O,O,O,O,O,O,O,O,O,O,O,O,O,O,O,O]
abbrev r06_Told_x1:List Bool:=[O,O,O,I,O,O,O,O,O,O,O,O,O,O,O,O,O,O,O,O,O,O,O,O,O,O,O,O,O,O,O,O,O,O,O,O,O,O,O,O,O,O,O,O,O,O,O,O,O,O,O,O,O,O,O,O,O,O,O,O,O]
abbrev r06_Told_p2:List AG:=[o 41 (.mv (.t 5)),o 42 (.ibin .add (.t 41) (.c (.int .i64 1))),o 5 (.mv (.t 42))]
abbrev r06_Told_p3:List AG:=[o 52 (.mv (.t 3)),o 53 (.off 3 (.t 1)),o 54 (.load false 1 (.t 53)),o 55 (.mv (.t 5)),o 56 (.ixAddr 5 (.t 54) (.t 55)),o 57 (.off 2 (.t 56)),o 58 (.load false 1 (.t 57)),o 59 (.append 1 t_string 16 (.t 52) (.t 58)),o 3 (.mv (.t 59))]
abbrev r06_Told_p4:List AG:=[o 43 (.mv (.t 3)),o 44 (.off 3 (.t 1)),o 45 (.load false 1 (.t 44)),o 46 (.mv (.t 5)),o 47 (.ixAddr 5 (.t 45) (.t 46)),o 48 (.off 0 (.t 47)),o 49 (.load false 1 (.t 48)),o 50 (.lit 1 [(.str [])] [(0,(.t 49))]),o 51 (.append 1 t_string 16 (.t 43) (.t 50)),o 3 (.mv (.t 51))]
abbrev r06_Told_p5:ACode:=(.seq (.reg r06_Told_p4) (.reg r06_Told_p3))
abbrev r06_Told_p6:List AG:=[o 36 (.mv (.t 5)),o 37 (.off 3 (.t 1)),o 38 (.load false 1 (.t 37)),o 39 (.len (.t 38)),o 40 (.cmp .lss (.sc .int) (.t 36) (.t 39))]
abbrev r06_Told_b1:ACode:=(.seq (.seq (.reg r06_Told_p6) (.cond (.t 40) .skip (.exit 2))) (.seq (.block 3 [] r06_Told_p5) (.reg r06_Told_p2)))
abbrev r06_Told_p7:List AG:=[o 5 (.mv (.c (.int .i64 0)))]
abbrev r06_Told_m8:List Bool:=[O,I,O,I,I,O,O,O,O,O,O,O,O,O,O,O,O,O,O,O,O,O,O,O,O,O,O,O,O,O,O,O,O,O,O,O,O,O,O,O,O,O,O,O,O,O,O,O,O,O,O,O,O,O,O,O,O,O,O,O,O]
abbrev r06_Told_x8:List Bool:=[O,I,O,I,O,O,O,O,O,O,O,O,O,O,O,O,O,O,O,O,O,O,O,O,O,O,O,O,O,O,O,O,O,O,O,O,O,O,O,O,O,O,O,O,O,O,O,O,O,O,O,O,O,O,O,O,O,O,O,O,O]
abbrev r06_Told_p9:List AG:=[o 19 (.mv (.t 4)),o 20 (.ibin .add (.t 19) (.c (.int .i64 1))),o 4 (.mv (.t 20))]
abbrev r06_Told_p10:List AG:=[o 21 (.mv (.t 3)),o 22 (.off 2 (.t 1)),o 23 (.load false 1 (.t 22)),o 24 (.mv (.t 4)),o 25 (.ixAddr 3 (.t 23) (.t 24)),o 26 (.off 0 (.t 25)),o 27 (.load false 1 (.t 26)),o 28 (.off 2 (.t 1)),o 29 (.load false 1 (.t 28)),o 30 (.mv (.t 4)),o 31 (.ixAddr 3 (.t 29) (.t 30)),o 32 (.off 1 (.t 31)),o 33 (.load false 1 (.t 32)),o 34 (.lit 1 [(.str []),(.str [])] [(0,(.t 27)),(1,(.t 33))]),o 35 (.append 1 t_string 16 (.t 21) (.t 34)),o 3 (.mv (.t 35))]
abbrev r06_Told_p11:List AG:=[o 14 (.mv (.t 4)),o 15 (.off 2 (.t 1)),o 16 (.load false 1 (.t 15)),o 17 (.len (.t 16)),o 18 (.cmp .lss (.sc .int) (.t 14) (.t 17))]
abbrev r06_Told_b8:ACode:=(.seq (.seq (.reg r06_Told_p11) (.cond (.t 18) .skip (.exit 0))) (.seq (.block 1 [] (.dreg [O,O,O,O,O,O,O,O,O,O,O,O,O,O,O,O] [15,14,14,14,14,14,14,14,14,14,14,14,14,15,17,17] r06_Told_p10)) (.reg r06_Told_p9)))
abbrev r06_Told_p12:List AG:=[o 4 (.mv (.c (.int .i64 0)))]
abbrev r06_Told_p13:List AG:=[o 10 (.mv (.t 3)),o 11 (.off 1 (.t 1)),o 12 (.load false 1 (.t 11)),o 13 (.append 1 t_string 16 (.t 10) (.t 12)),o 3 (.mv (.t 13))]
abbrev r06_Told_p14:List AG:=[o 6 (.mv (.t 3)),o 7 (.off 0 (.t 1)),o 8 (.load false 1 (.t 7)),o 9 (.append 1 t_string 16 (.t 6) (.t 8)),o 3 (.mv (.t 9))]
abbrev r06_Told_p15:List AG:=[o 3 (.nilrow 1 t_string)]
abbrev r06_Told_p16:List AG:=[o 1 (.box 4 (.t 0)),o 2 (.nilrow 1 t_string)]
abbrev r06_Told:AFun:=⟨(.seq (.reg r06_Told_p16) (.seq (.reg r06_Told_p15) (.seq (.reg r06_Told_p14) (.seq (.reg r06_Told_p13) (.seq (.seq (.reg r06_Told_p12) (.block 0 r06_Told_x8 (.loop r06_Told_m8 r06_Told_b8))) (.seq (.seq (.reg r06_Told_p7) (.block 2 r06_Told_x1 (.loop r06_Told_m1 r06_Told_b1))) (.seq (.reg r06_Told_p0) .ret))))))),61,[.tmp 2]⟩
abbrev r06_Told_k1:List It:=[.code (.seq (.reg r06_Told_p0) .ret)]
abbrev r06_Told_L1 (x1 x3 x5:AV) (h:List Ob) (e:Cx:=cx):Cfg:=atC n_r06_Told (.code r06_Told_b1::.inLoop r06_Told_m1 r06_Told_b1::.inBlock 2 r06_Told_x1::r06_Told_k1) [U,x1,U,x3,U,x5,U,U,U,U,U,U,U,U,U,U,U,U,U,U,U,U,U,U,U,U,U,U,U,U,U,U,U,U,U,U,U,U,U,U,U,U,U,U,U,U,U,U,U,U,U,U,U,U,U,U,U,U,U,U,U] h e
abbrev r06_Told_k8:List It:=[.code (.seq (.seq (.reg r06_Told_p7) (.block 2 r06_Told_x1 (.loop r06_Told_m1 r06_Told_b1))) (.seq (.reg r06_Told_p0) .ret))]
abbrev r06_Told_L8 (x1 x3 x4:AV) (h:List Ob) (e:Cx:=cx):Cfg:=atC n_r06_Told (.code r06_Told_b8::.inLoop r06_Told_m8 r06_Told_b8::.inBlock 0 r06_Told_x8::r06_Told_k8) [U,x1,U,x3,x4,U,U,U,U,U,U,U,U,U,U,U,U,U,U,U,U,U,U,U,U,U,U,U,U,U,U,U,U,U,U,U,U,U,U,U,U,U,U,U,U,U,U,U,U,U,U,U,U,U,U,U,U,U,U,U,U] h e
@[simp] theorem c_r06_Told:cfun Tryd.prog n_r06_Told=some r06_Told:=by kernel_rfl
@[simp] theorem e_r06_Told:hasBody Tryd.prog n_r06_Told=true:=by kernel_rfl
abbrev r04_Name_p0:List AG:=[o 20 (.mv (.t 0)),o 21 (.lenStr (.t 20)),o 22 (.cmp .geq (.sc .int) (.t 21) (.c (.int .i64 1))),o 23 (.mv (.t 22)),oy 24 23 (.mv (.t 0)),oy 25 23 (.lenStr (.t 24)),oy 26 23 (.cmp .leq (.sc .int) (.t 25) (.c (.int .i64 40))),o 27 (.pick (.t 23) (.t 26) (.c (.bool false))),o 2 (.mv (.t 27))]
abbrev r04_Name_m1:List Bool:=[I,O,O,I,O,O,O,O,O,O,O,O,O,O,O,O,O,O,O,O,O,O,O,O,O,O,O,O]
abbrev r04_Name_x1:List Bool:=[I,O,O,O,O,O,O,O,O,O,O,O,O,O,O,O,O,O,O,O,O,O,O,O,O,O,O,O]
abbrev r04_Name_p2:List AG:=[o 8 (.mv (.t 3)),o 9 (.ibin .add (.t 8) (.c (.int .i64 1))),o 3 (.mv (.t 9))]
abbrev r04_Name_p3:List AG:=[o 2 (.mv (.c (.bool false)))]
abbrev r04_Name_p4:ACode:=(.seq (.reg r04_Name_p3) .ret)
abbrev r04_Name_p5:List AG:=[o 10 (.mv (.t 0)),o 11 (.mv (.t 3)),o 12 (.ixStr (.t 10) (.t 11)),o 13 (.cmp .lss (.sc .int) (.t 12) (.c (.int .u8 33))),o 14 (.mv (.t 13)),on 15 14 (.mv (.t 0)),on 16 14 (.mv (.t 3)),on 17 14 (.ixStr (.t 15) (.t 16)),on 18 14 (.cmp .gtr (.sc .int) (.t 17) (.c (.int .u8 126))),o 19 (.pick (.t 14) (.c (.bool true)) (.t 18))]
abbrev r04_Name_p6:ACode:=(.seq (.reg r04_Name_p5) (.cond (.t 19) r04_Name_p4 .skip))
abbrev r04_Name_p7:List AG:=[o 4 (.mv (.t 3)),o 5 (.mv (.t 0)),o 6 (.lenStr (.t 5)),o 7 (.cmp .lss (.sc .int) (.t 4) (.t 6))]
abbrev r04_Name_b1:ACode:=(.seq (.seq (.reg r04_Name_p7) (.cond (.t 7) .skip (.exit 0))) (.seq (.block 1 [] r04_Name_p6) (.reg r04_Name_p2)))
abbrev r04_Name_p8:List AG:=[o 3 (.mv (.c (.int .i64 0)))]
abbrev r04_Name_p9:List AG:=[o 2 (.mv (.c (.bool false)))]
abbrev r04_Name:AFun:=⟨(.seq (.reg r04_Name_p9) (.seq (.seq (.reg r04_Name_p8) (.block 0 r04_Name_x1 (.loop r04_Name_m1 r04_Name_b1))) (.seq (.reg r04_Name_p0) .ret))),28,[.tmp 2]⟩
abbrev r04_Name_k1:List It:=[.code (.seq (.reg r04_Name_p0) .ret)]
abbrev r04_Name_L1 (x0 x3:AV) (h:List Ob) (e:Cx:=cx):Cfg:=atC n_r04_Name (.code r04_Name_b1::.inLoop r04_Name_m1 r04_Name_b1::.inBlock 0 r04_Name_x1::r04_Name_k1) [x0,U,U,x3,U,U,U,U,U,U,U,U,U,U,U,U,U,U,U,U,U,U,U,U,U,U,U,U] h e
@[simp] theorem c_r04_Name:cfun Tryd.prog n_r04_Name=some r04_Name:=by kernel_rfl
@[simp] theorem e_r04_Name:hasBody Tryd.prog n_r04_Name=true:=by kernel_rfl
abbrev r06_twice_p0:List AG:=[o 2 (.mv (.c (.str []))),o 3 (.mv (.c (.bool false)))]
abbrev r06_twice_m1:List Bool:=[I,O,O,O,I,O,O,O,O,O,O,O,O,O,O,O,O,O,O,O,O,O,O]
abbrev r06_twice_x1:List Bool:=[O,O,O,O,O,O,O,O,O,O,O,O,O,O,O,O,O,O,O,O,O,O,O]
abbrev r06_twice_p2:List AG:=[o 9 (.mv (.t 4)),o 10 (.ibin .add (.t 9) (.c (.int .i64 1))),o 4 (.mv (.t 10))]
abbrev r06_twice_p3:List AG:=[o 19 (.mv (.t 0)),o 20 (.mv (.t 4)),o 21 (.ixAddr 1 (.t 19) (.t 20)),o 22 (.load false 1 (.t 21)),o 2 (.mv (.t 22)),o 3 (.mv (.c (.bool true)))]
abbrev r06_twice_p4:ACode:=(.seq (.reg r06_twice_p3) .ret)
abbrev r06_twice_p5:List AG:=[o 11 (.mv (.t 0)),o 12 (.mv (.t 4)),o 13 (.slice 1 (.t 11) none (some (.t 12))),o 14 (.mv (.t 0)),o 15 (.mv (.t 4)),o 16 (.ixAddr 1 (.t 14) (.t 15)),o 17 (.load false 1 (.t 16)),o 18 (.call (.f n_r01_Has) [(.t 13),(.t 17)])]
abbrev r06_twice_p6:ACode:=(.seq (.dreg [O,O,O,O,O,O,O,O] [8,8,8,8,8,8,8,9] r06_twice_p5) (.cond (.t 18) r06_twice_p4 .skip))
abbrev r06_twice_p7:List AG:=[o 5 (.mv (.t 4)),o 6 (.mv (.t 0)),o 7 (.len (.t 6)),o 8 (.cmp .lss (.sc .int) (.t 5) (.t 7))]
abbrev r06_twice_b1:ACode:=(.seq (.seq (.reg r06_twice_p7) (.cond (.t 8) .skip (.exit 0))) (.seq (.block 1 [] r06_twice_p6) (.reg r06_twice_p2)))
abbrev r06_twice_p8:List AG:=[o 4 (.mv (.c (.int .i64 0)))]
abbrev r06_twice_p9:List AG:=[o 2 (.mv (.c (.str []))),o 3 (.mv (.c (.bool false)))]
abbrev r06_twice:AFun:=⟨(.seq (.reg r06_twice_p9) (.seq (.seq (.reg r06_twice_p8) (.block 0 r06_twice_x1 (.loop r06_twice_m1 r06_twice_b1))) (.seq (.reg r06_twice_p0) .ret))),23,[.tmp 2,.tmp 3]⟩
abbrev r06_twice_k1:List It:=[.code (.seq (.reg r06_twice_p0) .ret)]
abbrev r06_twice_L1 (x0 x4:AV) (h:List Ob) (e:Cx:=cx):Cfg:=atC n_r06_twice (.code r06_twice_b1::.inLoop r06_twice_m1 r06_twice_b1::.inBlock 0 r06_twice_x1::r06_twice_k1) [x0,U,U,U,x4,U,U,U,U,U,U,U,U,U,U,U,U,U,U,U,U,U,U] h e
@[simp] theorem c_r06_twice:cfun Tryd.prog n_r06_twice=some r06_twice:=by kernel_rfl
@[simp] theorem e_r06_twice:hasBody Tryd.prog n_r06_twice=true:=by kernel_rfl
abbrev r06_Gate_p0:List AG:=[o 66 (.off 1 (.t 1)),o 67 (.load false 1 (.t 66)),o 68 (.cmp .geq (.sc .int) (.t 67) (.c (.int .i64 4))),o 69 (.mv (.t 68)),oy 70 69 (.off 1 (.t 1)),oy 71 69 (.load false 1 (.t 70)),oy 72 69 (.cmp .leq (.sc .int) (.t 71) (.c (.int .i64 9))),o 73 (.pick (.t 69) (.t 72) (.c (.bool false))),o 74 (.mv (.t 73)),oy 75 74 (.mv (.t 3)),oy 76 74 (.cmp .geq (.sc .int) (.t 75) (.c (.int .i64 2))),o 77 (.pick (.t 74) (.t 76) (.c (.bool false))),o 78 (.mv (.t 77)),oy 79 78 (.mv (.t 3)),oy 80 78 (.cmp .leq (.sc .int) (.t 79) (.c (.int .i64 8))),o 81 (.pick (.t 78) (.t 80) (.c (.bool false))),o 2 (.mv (.t 81))]
abbrev r06_Gate_p1:List AG:=[o 64 (.mv (.t 3)),o 65 (.cmp .eql (.sc .int) (.t 64) (.c (.int .i64 1))),o 2 (.mv (.t 65))]
abbrev r06_Gate_p2:ACode:=(.seq (.reg r06_Gate_p1) .ret)
abbrev r06_Gate_p3:List AG:=[o 56 (.off 1 (.t 1)),o 57 (.load false 1 (.t 56)),o 58 (.cmp .eql (.sc .int) (.t 57) (.c (.int .i64 2))),o 59 (.mv (.t 58)),on 60 59 (.off 1 (.t 1)),on 61 59 (.load false 1 (.t 60)),on 62 59 (.cmp .eql (.sc .int) (.t 61) (.c (.int .i64 3))),o 63 (.pick (.t 59) (.c (.bool true)) (.t 62))]
abbrev r06_Gate_p4:List AG:=[o 54 (.mv (.t 3)),o 55 (.cmp .eql (.sc .int) (.t 54) (.c (.int .i64 0))),o 2 (.mv (.t 55))]
abbrev r06_Gate_p5:ACode:=(.seq (.reg r06_Gate_p4) .ret)
abbrev r06_Gate_p6:List AG:=[o 46 (.off 1 (.t 1)),o 47 (.load false 1 (.t 46)),o 48 (.cmp .eql (.sc .int) (.t 47) (.c (.int .i64 0))),o 49 (.mv (.t 48)),on 50 49 (.off 1 (.t 1)),on 51 49 (.load false 1 (.t 50)),on 52 49 (.cmp .eql (.sc .int) (.t 51) (.c (.int .i64 1))),o 53 (.pick (.t 49) (.c (.bool true)) (.t 52))]
abbrev r06_Gate_p7:List AG:=[o 2 (.mv (.c (.bool false)))]
abbrev r06_Gate_p8:ACode:=(.seq (.reg r06_Gate_p7) .ret)
abbrev r06_Gate_p9:List AG:=[o 38 (.off 3 (.t 1)),o 39 (.load false 1 (.t 38)),o 40 (.len (.t 39)),o 41 (.cmp .gtr (.sc .int) (.t 40) (.c (.int .i64 0))),o 42 (.mv (.t 41)),on 43 42 (.off 4 (.t 1)),on 44 42 (.load false 1 (.t 43)),o 45 (.pick (.t 42) (.c (.bool true)) (.t 44))]
abbrev r06_Gate_p10:List AG:=[o 30 (.mv (.t 3)),o 31 (.cmp .leq (.sc .int) (.t 30) (.c (.int .i64 8))),o 32 (.mv (.t 31)),oy 33 32 (.off 3 (.t 1)),oy 34 32 (.load false 1 (.t 33)),oy 35 32 (.len (.t 34)),oy 36 32 (.cmp .leq (.sc .int) (.t 35) (.c (.int .i64 128))),o 37 (.pick (.t 32) (.t 36) (.c (.bool false))),o 2 (.mv (.t 37))]
abbrev r06_Gate_m11:List Bool:=[O,I,O,I,I,O,O,O,O,O,O,O,O,O,O,O,O,O,O,O,O,O,O,O,O,O,O,O,O,O,O,O,O,O,O,O,O,O,O,O,O,O,O,O,O,O,O,O,O,O,O,O,O,O,O,O,O,O,O,O,O,O,O,O,O,O,O,O,O,O,O,O,O,O,O,O,O,O,O,O,O,O]
abbrev r06_Gate_x11:List Bool:=[O,I,O,I,O,O,O,O,O,O,O,O,O,O,O,O,O,O,O,O,O,O,O,O,O,O,O,O,O,O,O,O,O,O,O,O,O,O,O,O,O,O,O,O,O,O,O,O,O,O,O,O,O,O,O,O,O,O,O,O,O,O,O,O,O,O,O,O,O,O,O,O,O,O,O,O,O,O,O,O,O,O]
abbrev r06_Gate_p12:List AG:=[o 20 (.mv (.t 4)),o 21 (.ibin .add (.t 20) (.c (.int .i64 1))),o 4 (.mv (.t 21))]
abbrev r06_Gate_p13:List AG:=[o 2 (.mv (.c (.bool false)))]
abbrev r06_Gate_p14:ACode:=(.seq (.reg r06_Gate_p13) .ret)
abbrev r06_Gate_p15:List AG:=[o 22 (.off 3 (.t 1)),o 23 (.load false 1 (.t 22)),o 24 (.mv (.t 4)),o 25 (.ixAddr 1 (.t 23) (.t 24)),o 26 (.load false 1 (.t 25)),o 27 (.mv (.t 3)),o 28 (.call (.f n_r06_row) [(.t 26),(.t 27)]),o 29 (.not (.t 28))]
abbrev r06_Gate_p16:ACode:=(.seq (.reg r06_Gate_p15) (.cond (.t 29) r06_Gate_p14 .skip))
abbrev r06_Gate_p17:List AG:=[o 11 (.mv (.t 4)),o 12 (.off 3 (.t 1)),o 13 (.load false 1 (.t 12)),o 14 (.len (.t 13)),o 15 (.cmp .lss (.sc .int) (.t 11) (.t 14)),o 16 (.mv (.t 15)),oy 17 16 (.mv (.t 4)),oy 18 16 (.cmp .leq (.sc .int) (.t 17) (.c (.int .i64 128))),o 19 (.pick (.t 16) (.t 18) (.c (.bool false)))]
abbrev r06_Gate_b11:ACode:=(.seq (.seq (.reg r06_Gate_p17) (.cond (.t 19) .skip (.exit 0))) (.seq (.block 1 [] r06_Gate_p16) (.reg r06_Gate_p12)))
abbrev r06_Gate_p18:List AG:=[o 4 (.mv (.c (.int .i64 0)))]
abbrev r06_Gate_p19:ACode:=(.seq (.seq (.reg r06_Gate_p18) (.block 0 r06_Gate_x11 (.loop r06_Gate_m11 r06_Gate_b11))) (.seq (.reg r06_Gate_p10) .ret))
abbrev r06_Gate_p20:List AG:=[o 8 (.off 1 (.t 1)),o 9 (.load false 1 (.t 8)),o 10 (.cmp .eql (.sc .int) (.t 9) (.c (.int .i64 10)))]
abbrev r06_Gate_p21:List AG:=[o 5 (.off 2 (.t 1)),o 6 (.load false 1 (.t 5)),o 7 (.len (.t 6)),o 3 (.mv (.t 7))]
abbrev r06_Gate_p22:List AG:=[o 1 (.box 5 (.t 0)),o 2 (.mv (.c (.bool false)))]
abbrev r06_Gate:AFun:=⟨(.seq (.reg r06_Gate_p22) (.seq (.reg r06_Gate_p21) (.seq (.seq (.reg r06_Gate_p20) (.cond (.t 10) r06_Gate_p19 .skip)) (.seq (.seq (.reg r06_Gate_p9) (.cond (.t 45) r06_Gate_p8 .skip)) (.seq (.seq (.reg r06_Gate_p6) (.cond (.t 53) r06_Gate_p5 .skip)) (.seq (.seq (.reg r06_Gate_p3) (.cond (.t 63) r06_Gate_p2 .skip)) (.seq (.reg r06_Gate_p0) .ret))))))),82,[.tmp 2]⟩
abbrev r06_Gate_k11:List It:=[.code (.seq (.reg r06_Gate_p10) .ret),.code (.seq (.seq (.reg r06_Gate_p9) (.cond (.t 45) r06_Gate_p8 .skip)) (.seq (.seq (.reg r06_Gate_p6) (.cond (.t 53) r06_Gate_p5 .skip)) (.seq (.seq (.reg r06_Gate_p3) (.cond (.t 63) r06_Gate_p2 .skip)) (.seq (.reg r06_Gate_p0) .ret))))]
abbrev r06_Gate_L11 (x1 x3 x4:AV) (h:List Ob) (e:Cx:=cx):Cfg:=atC n_r06_Gate (.code r06_Gate_b11::.inLoop r06_Gate_m11 r06_Gate_b11::.inBlock 0 r06_Gate_x11::r06_Gate_k11) [U,x1,U,x3,x4,U,U,U,U,U,U,U,U,U,U,U,U,U,U,U,U,U,U,U,U,U,U,U,U,U,U,U,U,U,U,U,U,U,U,U,U,U,U,U,U,U,U,U,U,U,U,U,U,U,U,U,U,U,U,U,U,U,U,U,U,U,U,U,U,U,U,U,U,U,U,U,U,U,U,U,U,U] h e
@[simp] theorem c_r06_Gate:cfun Tryd.prog n_r06_Gate=some r06_Gate:=by kernel_rfl
@[simp] theorem e_r06_Gate:hasBody Tryd.prog n_r06_Gate=true:=by kernel_rfl
abbrev r06_Used_p0:List AG:=[o 41 (.mv (.t 3)),o 2 (.mv (.t 41))]
abbrev r06_Used_m1:List Bool:=[O,I,O,I,O,I,O,O,O,O,O,O,O,O,O,O,O,O,O,O,O,O,O,O,O,O,O,O,O,O,O,O,O,O,O,O,O,O,O,O,O,O]
abbrev r06_Used_x1:List Bool:=[O,O,O,I,O,O,O,O,O,O,O,O,O,O,O,O,O,O,O,O,O,O,O,O,O,O,O,O,O,O,O,O,O,O,O,O,O,O,O,O,O,O]
abbrev r06_Used_p2:List AG:=[o 31 (.mv (.t 5)),o 32 (.ibin .add (.t 31) (.c (.int .i64 1))),o 5 (.mv (.t 32))]
abbrev r06_Used_p3:List AG:=[o 33 (.mv (.t 3)),o 34 (.off 3 (.t 1)),o 35 (.load false 1 (.t 34)),o 36 (.mv (.t 5)),o 37 (.ixAddr 5 (.t 35) (.t 36)),o 38 (.off 2 (.t 37)),o 39 (.load false 1 (.t 38)),o 40 (.append 1 t_string 16 (.t 33) (.t 39)),o 3 (.mv (.t 40))]
abbrev r06_Used_p4:List AG:=[o 26 (.mv (.t 5)),o 27 (.off 3 (.t 1)),o 28 (.load false 1 (.t 27)),o 29 (.len (.t 28)),o 30 (.cmp .lss (.sc .int) (.t 26) (.t 29))]
abbrev r06_Used_b1:ACode:=(.seq (.seq (.reg r06_Used_p4) (.cond (.t 30) .skip (.exit 2))) (.seq (.block 3 [] (.reg r06_Used_p3)) (.reg r06_Used_p2)))
abbrev r06_Used_p5:List AG:=[o 5 (.mv (.c (.int .i64 0)))]
abbrev r06_Used_m6:List Bool:=[O,I,O,I,I,O,O,O,O,O,O,O,O,O,O,O,O,O,O,O,O,O,O,O,O,O,O,O,O,O,O,O,O,O,O,O,O,O,O,O,O,O]
abbrev r06_Used_x6:List Bool:=[O,I,O,I,O,O,O,O,O,O,O,O,O,O,O,O,O,O,O,O,O,O,O,O,O,O,O,O,O,O,O,O,O,O,O,O,O,O,O,O,O,O]
abbrev r06_Used_p7:List AG:=[o 15 (.mv (.t 4)),o 16 (.ibin .add (.t 15) (.c (.int .i64 1))),o 4 (.mv (.t 16))]
abbrev r06_Used_p8:List AG:=[o 17 (.mv (.t 3)),o 18 (.off 2 (.t 1)),o 19 (.load false 1 (.t 18)),o 20 (.mv (.t 4)),o 21 (.ixAddr 3 (.t 19) (.t 20)),o 22 (.off 1 (.t 21)),o 23 (.load false 1 (.t 22)),o 24 (.lit 1 [(.str [])] [(0,(.t 23))]),o 25 (.append 1 t_string 16 (.t 17) (.t 24)),o 3 (.mv (.t 25))]
abbrev r06_Used_p9:List AG:=[o 10 (.mv (.t 4)),o 11 (.off 2 (.t 1)),o 12 (.load false 1 (.t 11)),o 13 (.len (.t 12)),o 14 (.cmp .lss (.sc .int) (.t 10) (.t 13))]
abbrev r06_Used_b6:ACode:=(.seq (.seq (.reg r06_Used_p9) (.cond (.t 14) .skip (.exit 0))) (.seq (.block 1 [] (.reg r06_Used_p8)) (.reg r06_Used_p7)))
abbrev r06_Used_p10:List AG:=[o 4 (.mv (.c (.int .i64 0)))]
abbrev r06_Used_p11:List AG:=[o 6 (.mv (.t 3)),o 7 (.off 1 (.t 1)),o 8 (.load false 1 (.t 7)),o 9 (.append 1 t_string 16 (.t 6) (.t 8)),o 3 (.mv (.t 9))]
abbrev r06_Used_p12:List AG:=[o 3 (.nilrow 1 t_string)]
abbrev r06_Used_p13:List AG:=[o 1 (.box 4 (.t 0)),o 2 (.nilrow 1 t_string)]
abbrev r06_Used:AFun:=⟨(.seq (.reg r06_Used_p13) (.seq (.reg r06_Used_p12) (.seq (.reg r06_Used_p11) (.seq (.seq (.reg r06_Used_p10) (.block 0 r06_Used_x6 (.loop r06_Used_m6 r06_Used_b6))) (.seq (.seq (.reg r06_Used_p5) (.block 2 r06_Used_x1 (.loop r06_Used_m1 r06_Used_b1))) (.seq (.reg r06_Used_p0) .ret)))))),42,[.tmp 2]⟩
abbrev r06_Used_k1:List It:=[.code (.seq (.reg r06_Used_p0) .ret)]
abbrev r06_Used_L1 (x1 x3 x5:AV) (h:List Ob) (e:Cx:=cx):Cfg:=atC n_r06_Used (.code r06_Used_b1::.inLoop r06_Used_m1 r06_Used_b1::.inBlock 2 r06_Used_x1::r06_Used_k1) [U,x1,U,x3,U,x5,U,U,U,U,U,U,U,U,U,U,U,U,U,U,U,U,U,U,U,U,U,U,U,U,U,U,U,U,U,U,U,U,U,U,U,U] h e
abbrev r06_Used_k6:List It:=[.code (.seq (.seq (.reg r06_Used_p5) (.block 2 r06_Used_x1 (.loop r06_Used_m1 r06_Used_b1))) (.seq (.reg r06_Used_p0) .ret))]
abbrev r06_Used_L6 (x1 x3 x4:AV) (h:List Ob) (e:Cx:=cx):Cfg:=atC n_r06_Used (.code r06_Used_b6::.inLoop r06_Used_m6 r06_Used_b6::.inBlock 0 r06_Used_x6::r06_Used_k6) [U,x1,U,x3,x4,U,U,U,U,U,U,U,U,U,U,U,U,U,U,U,U,U,U,U,U,U,U,U,U,U,U,U,U,U,U,U,U,U,U,U,U,U] h e
@[simp] theorem c_r06_Used:cfun Tryd.prog n_r06_Used=some r06_Used:=by kernel_rfl
@[simp] theorem e_r06_Used:hasBody Tryd.prog n_r06_Used=true:=by kernel_rfl
abbrev slices_IndexFunc_api_Gate_api_Gate_p0:List AG:=[o 4 (.mv (.c (.int .i64 (-1))))]
abbrev slices_IndexFunc_api_Gate_api_Gate_m1:List Bool:=[I,I,O,O,O,O,O,I,I,O,O,O,O,O,O,O,O,O,O]
abbrev slices_IndexFunc_api_Gate_api_Gate_x1:List Bool:=[O,O,O,O,O,O,O,O,O,O,O,O,O,O,O,O,O,O,O]
abbrev slices_IndexFunc_api_Gate_api_Gate_p2:List AG:=[o 18 (.ibin .add (.t 8) (.c (.int .i64 1))),o 8 (.mv (.t 18))]
abbrev slices_IndexFunc_api_Gate_api_Gate_p3:List AG:=[o 17 (.mv (.t 5)),o 4 (.mv (.t 17))]
abbrev slices_IndexFunc_api_Gate_api_Gate_p4:ACode:=(.seq (.reg slices_IndexFunc_api_Gate_api_Gate_p3) .ret)
abbrev slices_IndexFunc_api_Gate_api_Gate_p5:List AG:=[o 11 (.mv (.t 1)),o 12 (.mv (.t 0)),o 13 (.mv (.t 5)),o 14 (.ixAddr 5 (.t 12) (.t 13)),o 15 (.load true 5 (.t 14)),o 16 (.call (.t 11) [(.t 15)])]
abbrev slices_IndexFunc_api_Gate_api_Gate_p6:List AG:=[o 10 (.mv (.t 8)),o 5 (.mv (.t 10))]
abbrev slices_IndexFunc_api_Gate_api_Gate_p7:ACode:=(.seq (.reg slices_IndexFunc_api_Gate_api_Gate_p6) (.seq (.reg slices_IndexFunc_api_Gate_api_Gate_p5) (.cond (.t 16) slices_IndexFunc_api_Gate_api_Gate_p4 .skip)))
abbrev slices_IndexFunc_api_Gate_api_Gate_p8:List AG:=[o 9 (.cmp .lss (.sc .int) (.t 8) (.t 7))]
abbrev slices_IndexFunc_api_Gate_api_Gate_b1:ACode:=(.seq (.reg slices_IndexFunc_api_Gate_api_Gate_p8) (.seq (.cond (.t 9) .skip (.exit 0)) (.seq (.block 1 [] slices_IndexFunc_api_Gate_api_Gate_p7) (.reg slices_IndexFunc_api_Gate_api_Gate_p2))))
abbrev slices_IndexFunc_api_Gate_api_Gate_p9:List AG:=[o 6 (.mv (.t 0)),o 7 (.len (.t 6)),o 8 (.mv (.c (.int .i64 0)))]
abbrev slices_IndexFunc_api_Gate_api_Gate_p10:List AG:=[o 4 (.mv (.c (.int .i64 0)))]
abbrev slices_IndexFunc_api_Gate_api_Gate:AFun:=⟨(.seq (.reg slices_IndexFunc_api_Gate_api_Gate_p10) (.seq (.seq (.reg slices_IndexFunc_api_Gate_api_Gate_p9) (.block 0 slices_IndexFunc_api_Gate_api_Gate_x1 (.loop slices_IndexFunc_api_Gate_api_Gate_m1 slices_IndexFunc_api_Gate_api_Gate_b1))) (.seq (.reg slices_IndexFunc_api_Gate_api_Gate_p0) .ret))),19,[.tmp 4]⟩
abbrev slices_IndexFunc_api_Gate_api_Gate_k1:List It:=[.code (.seq (.reg slices_IndexFunc_api_Gate_api_Gate_p0) .ret)]
abbrev slices_IndexFunc_api_Gate_api_Gate_L1 (x0 x1 x7 x8:AV) (h:List Ob) (e:Cx:=cx):Cfg:=atC n_slices_IndexFunc_api_Gate_api_Gate (.code slices_IndexFunc_api_Gate_api_Gate_b1::.inLoop slices_IndexFunc_api_Gate_api_Gate_m1 slices_IndexFunc_api_Gate_api_Gate_b1::.inBlock 0 slices_IndexFunc_api_Gate_api_Gate_x1::slices_IndexFunc_api_Gate_api_Gate_k1) [x0,x1,U,U,U,U,U,x7,x8,U,U,U,U,U,U,U,U,U,U] h e
@[simp] theorem c_slices_IndexFunc_api_Gate_api_Gate:cfun Tryd.prog n_slices_IndexFunc_api_Gate_api_Gate=some slices_IndexFunc_api_Gate_api_Gate:=by kernel_rfl
@[simp] theorem e_slices_IndexFunc_api_Gate_api_Gate:hasBody Tryd.prog n_slices_IndexFunc_api_Gate_api_Gate=true:=by kernel_rfl
abbrev slices_Concat_string_string_p0:List AG:=[o 35 (.mv (.t 6)),o 2 (.mv (.t 35))]
abbrev slices_Concat_string_string_m1:List Bool:=[O,O,O,O,O,O,I,O,O,O,O,O,O,O,O,O,O,O,O,O,O,O,O,O,O,I,I,I,O,O,O,O,O,O,O,O]
abbrev slices_Concat_string_string_x1:List Bool:=[O,O,O,O,O,O,I,O,O,O,O,O,O,O,O,O,O,O,O,O,O,O,O,O,O,O,O,O,O,O,O,O,O,O,O,O]
abbrev slices_Concat_string_string_p2:List AG:=[o 34 (.ibin .add (.t 27) (.c (.int .i64 1))),o 27 (.mv (.t 34))]
abbrev slices_Concat_string_string_p3:List AG:=[o 31 (.mv (.t 6)),o 32 (.mv (.t 8)),o 33 (.append 1 t_string 16 (.t 31) (.t 32)),o 6 (.mv (.t 33))]
abbrev slices_Concat_string_string_p4:List AG:=[o 29 (.ixAddr 1 (.t 25) (.t 27)),o 30 (.load false 1 (.t 29)),o 8 (.mv (.t 30))]
abbrev slices_Concat_string_string_p5:ACode:=(.seq (.reg slices_Concat_string_string_p4) (.reg slices_Concat_string_string_p3))
abbrev slices_Concat_string_string_p6:List AG:=[o 28 (.cmp .lss (.sc .int) (.t 27) (.t 26))]
abbrev slices_Concat_string_string_b1:ACode:=(.seq (.reg slices_Concat_string_string_p6) (.seq (.cond (.t 28) .skip (.exit 2)) (.seq (.block 3 [] slices_Concat_string_string_p5) (.reg slices_Concat_string_string_p2))))
abbrev slices_Concat_string_string_p7:List AG:=[o 25 (.mv (.t 0)),o 26 (.len (.t 25)),o 27 (.mv (.c (.int .i64 0)))]
abbrev slices_Concat_string_string_p8:List AG:=[o 23 (.mv (.t 3)),o 24 (.call (.f n_slices_Grow_string_string) [(.c (.list true 0 [])),(.t 23)]),o 6 (.mv (.t 24))]
abbrev slices_Concat_string_string_m9:List Bool:=[I,O,O,I,O,O,O,O,O,I,I,I,O,O,O,O,O,O,O,O,O,O,O,O,O,O,O,O,O,O,O,O,O,O,O,O]
abbrev slices_Concat_string_string_x9:List Bool:=[I,O,O,I,O,O,O,O,O,O,O,O,O,O,O,O,O,O,O,O,O,O,O,O,O,O,O,O,O,O,O,O,O,O,O,O]
abbrev slices_Concat_string_string_p10:List AG:=[o 22 (.ibin .add (.t 11) (.c (.int .i64 1))),o 11 (.mv (.t 22))]
abbrev slices_Concat_string_string_p11:List AG:=[o 21 (.mkIface t_string (.c (.str [108,101,110,32,111,117,116,32,111,102,32,114,97,110,103,101]))),q (.panic (.t 21))]
abbrev slices_Concat_string_string_p12:List AG:=[o 19 (.mv (.t 3)),o 20 (.cmp .lss (.sc .int) (.t 19) (.c (.int .i64 0)))]
abbrev slices_Concat_string_string_p13:List AG:=[o 15 (.mv (.t 3)),o 16 (.mv (.t 5)),o 17 (.len (.t 16)),o 18 (.ibin .add (.t 15) (.t 17)),o 3 (.mv (.t 18))]
abbrev slices_Concat_string_string_p14:List AG:=[o 13 (.ixAddr 1 (.t 9) (.t 11)),o 14 (.load false 1 (.t 13)),o 5 (.mv (.t 14))]
abbrev slices_Concat_string_string_p15:ACode:=(.seq (.reg slices_Concat_string_string_p14) (.seq (.reg slices_Concat_string_string_p13) (.seq (.reg slices_Concat_string_string_p12) (.cond (.t 20) (.reg slices_Concat_string_string_p11) .skip))))
abbrev slices_Concat_string_string_p16:List AG:=[o 12 (.cmp .lss (.sc .int) (.t 11) (.t 10))]
abbrev slices_Concat_string_string_b9:ACode:=(.seq (.reg slices_Concat_string_string_p16) (.seq (.cond (.t 12) .skip (.exit 0)) (.seq (.block 1 [] slices_Concat_string_string_p15) (.reg slices_Concat_string_string_p10))))
abbrev slices_Concat_string_string_p17:List AG:=[o 9 (.mv (.t 0)),o 10 (.len (.t 9)),o 11 (.mv (.c (.int .i64 0)))]
abbrev slices_Concat_string_string_p18:List AG:=[o 3 (.mv (.c (.int .i64 0)))]
abbrev slices_Concat_string_string_p19:List AG:=[o 2 (.nilrow 1 t_string)]
abbrev slices_Concat_string_string:AFun:=⟨(.seq (.reg slices_Concat_string_string_p19) (.seq (.reg slices_Concat_string_string_p18) (.seq (.seq (.reg slices_Concat_string_string_p17) (.block 0 slices_Concat_string_string_x9 (.loop slices_Concat_string_string_m9 slices_Concat_string_string_b9))) (.seq (.reg slices_Concat_string_string_p8) (.seq (.seq (.reg slices_Concat_string_string_p7) (.block 2 slices_Concat_string_string_x1 (.loop slices_Concat_string_string_m1 slices_Concat_string_string_b1))) (.seq (.reg slices_Concat_string_string_p0) .ret)))))),36,[.tmp 2]⟩
abbrev slices_Concat_string_string_k1:List It:=[.code (.seq (.reg slices_Concat_string_string_p0) .ret)]
abbrev slices_Concat_string_string_L1 (x6 x25 x26 x27:AV) (h:List Ob) (e:Cx:=cx):Cfg:=atC n_slices_Concat_string_string (.code slices_Concat_string_string_b1::.inLoop slices_Concat_string_string_m1 slices_Concat_string_string_b1::.inBlock 2 slices_Concat_string_string_x1::slices_Concat_string_string_k1) [U,U,U,U,U,U,x6,U,U,U,U,U,U,U,U,U,U,U,U,U,U,U,U,U,U,x25,x26,x27,U,U,U,U,U,U,U,U] h e
abbrev slices_Concat_string_string_k9:List It:=[.code (.seq (.reg slices_Concat_string_string_p8) (.seq (.seq (.reg slices_Concat_string_string_p7) (.block 2 slices_Concat_string_string_x1 (.loop slices_Concat_string_string_m1 slices_Concat_string_string_b1))) (.seq (.reg slices_Concat_string_string_p0) .ret)))]
abbrev slices_Concat_string_string_L9 (x0 x3 x9 x10 x11:AV) (h:List Ob) (e:Cx:=cx):Cfg:=atC n_slices_Concat_string_string (.code slices_Concat_string_string_b9::.inLoop slices_Concat_string_string_m9 slices_Concat_string_string_b9::.inBlock 0 slices_Concat_string_string_x9::slices_Concat_string_string_k9) [x0,U,U,x3,U,U,U,U,U,x9,x10,x11,U,U,U,U,U,U,U,U,U,U,U,U,U,U,U,U,U,U,U,U,U,U,U,U] h e
@[simp] theorem c_slices_Concat_string_string:cfun Tryd.prog n_slices_Concat_string_string=some slices_Concat_string_string:=by kernel_rfl
@[simp] theorem e_slices_Concat_string_string:hasBody Tryd.prog n_slices_Concat_string_string=true:=by kernel_rfl
abbrev ident_name_plain_p0:List AG:=[o 4 (.mv (.t 0)),o 5 (.cmp .neq (.sc .str) (.t 4) (.c (.str []))),o 6 (.mv (.t 5)),oy 7 6 (.mv (.t 0)),oy 8 6 (.lenStr (.t 7)),oy 9 6 (.cmp .leq (.sc .int) (.t 8) (.c (.int .i64 40))),o 10 (.pick (.t 6) (.t 9) (.c (.bool false))),o 11 (.mv (.t 10)),oy 12 11 (.mv (.t 0)),oy 13 11 (.mv (.t 3)),oy 14 11 (.call (.f n_strings_IndexFunc) [(.t 12),(.t 13)]),oy 15 11 (.cmp .lss (.sc .int) (.t 14) (.c (.int .i64 0))),o 16 (.pick (.t 11) (.t 15) (.c (.bool false))),o 2 (.mv (.t 16))]
abbrev ident_name_plain_p1:List AG:=[o 3 (.mv (.f n_ident_name_plain_1))]
abbrev ident_name_plain_p2:List AG:=[o 2 (.mv (.c (.bool false)))]
abbrev ident_name_plain:AFun:=⟨(.seq (.reg ident_name_plain_p2) (.seq (.reg ident_name_plain_p1) (.seq (.reg ident_name_plain_p0) .ret))),17,[.tmp 2]⟩
@[simp] theorem c_ident_name_plain:cfun Tryd.prog n_ident_name_plain=some ident_name_plain:=by kernel_rfl
@[simp] theorem e_ident_name_plain:hasBody Tryd.prog n_ident_name_plain=true:=by kernel_rfl
abbrev net_Gate_1_p0:List AG:=[o 4 (.mv (.t 0)),o 5 (.off 2 (.t 1)),o 6 (.load false 1 (.t 5)),o 7 (.len (.t 6)),o 8 (.call (.f n_net_row) [(.t 4),(.t 7)]),o 9 (.not (.t 8)),o 3 (.mv (.t 9))]
abbrev net_Gate_1_p1:List AG:=[o 3 (.mv (.c (.bool false)))]
abbrev net_Gate_1:AFun:=⟨(.seq (.reg net_Gate_1_p1) (.seq (.reg net_Gate_1_p0) .ret)),10,[.tmp 3]⟩
@[simp] theorem c_net_Gate_1:cfun Tryd.prog n_net_Gate_1=some net_Gate_1:=by kernel_rfl
@[simp] theorem e_net_Gate_1:hasBody Tryd.prog n_net_Gate_1=true:=by kernel_rfl
abbrev net_row_p0:List AG:=[o 5 (.mv (.t 0)),o 6 (.lenStr (.t 5)),o 7 (.mv (.t 1)),o 8 (.cmp .eql (.sc .int) (.t 6) (.t 7)),o 9 (.mv (.t 8)),oy 10 9 (.mv (.t 0)),oy 11 9 (.call (.f n_strings_Trim) [(.t 10),(.c (.str [48,49,45]))]),oy 12 9 (.cmp .eql (.sc .str) (.t 11) (.c (.str []))),o 13 (.pick (.t 9) (.t 12) (.c (.bool false))),o 4 (.mv (.t 13))]
abbrev net_row_p1:List AG:=[o 4 (.mv (.c (.bool false)))]
abbrev net_row:AFun:=⟨(.seq (.reg net_row_p1) (.seq (.reg net_row_p0) .ret)),14,[.tmp 4]⟩
@[simp] theorem c_net_row:cfun Tryd.prog n_net_row=some net_row:=by kernel_rfl
@[simp] theorem e_net_row:hasBody Tryd.prog n_net_row=true:=by kernel_rfl
abbrev net_has_p0:List AG:=[o 13 (.mv (.t 6)),o 14 (.mv (.t 13)),oy 15 14 (.mv (.t 1)),oy 16 14 (.arrAddr 2 1 (.t 5) (.c (.int .i64 0))),oy 17 14 (.load false 1 (.t 16)),oy 18 14 (.cmp .geq (.sc .int) (.t 15) (.t 17)),o 19 (.pick (.t 14) (.t 18) (.c (.bool false))),o 20 (.mv (.t 19)),oy 21 20 (.mv (.t 1)),oy 22 20 (.arrAddr 2 1 (.t 5) (.c (.int .i64 1))),oy 23 20 (.load false 1 (.t 22)),oy 24 20 (.cmp .leq (.sc .int) (.t 21) (.t 23)),o 25 (.pick (.t 20) (.t 24) (.c (.bool false))),o 4 (.mv (.t 25))]
abbrev net_has_p1:List AG:=[o 8 (.load false 1 (.g 0)),o 9 (.mv (.t 0)),o 10 (.lookup (.sc .int) (.agg [(.int .i64 0),(.int .i64 0)]) (.t 8) (.t 9) true),o 7 (.mv (.t 10)),o 11 (.extract (.t 7) 0),o 12 (.extract (.t 7) 1),o 5 (.alloc [(.int .i64 0),(.int .i64 0)]),q (.store 2 (.t 5) (.t 11)),o 6 (.mv (.t 12))]
abbrev net_has_p2:List AG:=[o 4 (.mv (.c (.bool false)))]
abbrev net_has:AFun:=⟨(.seq (.reg net_has_p2) (.seq (.reg net_has_p1) (.seq (.reg net_has_p0) .ret))),26,[.tmp 4]⟩
@[simp] theorem c_net_has:cfun Tryd.prog n_net_has=some net_has:=by kernel_rfl
@[simp] theorem e_net_has:hasBody Tryd.prog n_net_has=true:=by kernel_rfl
abbrev slices_ContainsFunc_string_string_p0:List AG:=[o 5 (.mv (.t 0)),o 6 (.mv (.t 1)),o 7 (.call (.f n_slices_IndexFunc_string_string) [(.t 5),(.t 6)]),o 8 (.cmp .geq (.sc .int) (.t 7) (.c (.int .i64 0))),o 4 (.mv (.t 8))]
abbrev slices_ContainsFunc_string_string_p1:List AG:=[o 4 (.mv (.c (.bool false)))]
abbrev slices_ContainsFunc_string_string:AFun:=⟨(.seq (.reg slices_ContainsFunc_string_string_p1) (.seq (.reg slices_ContainsFunc_string_string_p0) .ret)),9,[.tmp 4]⟩
@[simp] theorem c_slices_ContainsFunc_string_string:cfun Tryd.prog n_slices_ContainsFunc_string_string=some slices_ContainsFunc_string_string:=by kernel_rfl
@[simp] theorem e_slices_ContainsFunc_string_string:hasBody Tryd.prog n_slices_ContainsFunc_string_string=true:=by kernel_rfl
abbrev container_heap_up_m0:List Bool:=[I,I,O,O,O,O,O,O,O,O,O,O,O,O,O,O,O,O,O,O,O,O,O]
abbrev container_heap_up_x0:List Bool:=[O,O,O,O,O,O,O,O,O,O,O,O,O,O,O,O,O,O,O,O,O,O,O]
abbrev container_heap_up_p1:List AG:=[o 22 (.mv (.t 4)),o 1 (.mv (.t 22))]
abbrev container_heap_up_p2:List AG:=[o 18 (.mv (.t 0)),o 19 (.mv (.t 4)),o 20 (.mv (.t 1)),o 21 (.invoke (.t 18) "Swap" [(.t 19),(.t 20)])]
abbrev container_heap_up_p3:List AG:=[o 8 (.mv (.t 4)),o 9 (.mv (.t 1)),o 10 (.cmp .eql (.sc .int) (.t 8) (.t 9)),o 11 (.mv (.t 10)),on 12 11 (.mv (.t 0)),on 13 11 (.mv (.t 1)),on 14 11 (.mv (.t 4)),on 15 11 (.invoke (.t 12) "Less" [(.t 13),(.t 14)]),on 16 11 (.not (.t 15)),o 17 (.pick (.t 11) (.c (.bool true)) (.t 16))]
abbrev container_heap_up_p4:List AG:=[o 5 (.mv (.t 1)),o 6 (.ibin .sub (.t 5) (.c (.int .i64 1))),o 7 (.ibin .quo (.t 6) (.c (.int .i64 2))),o 4 (.mv (.t 7))]
abbrev container_heap_up_p5:ACode:=(.seq (.reg container_heap_up_p4) (.seq (.seq (.reg container_heap_up_p3) (.cond (.t 17) (.exit 0) .skip)) (.seq (.reg container_heap_up_p2) (.reg container_heap_up_p1))))
abbrev container_heap_up_b0:ACode:=(.block 1 [] container_heap_up_p5)
abbrev container_heap_up:AFun:=⟨(.block 0 container_heap_up_x0 (.loop container_heap_up_m0 container_heap_up_b0)),23,[]⟩
abbrev container_heap_up_k0:List It:=[]
abbrev container_heap_up_L0 (x0 x1:AV) (h:List Ob) (e:Cx:=cx):Cfg:=atC n_container_heap_up (.code container_heap_up_b0::.inLoop container_heap_up_m0 container_heap_up_b0::.inBlock 0 container_heap_up_x0::container_heap_up_k0) [x0,x1,U,U,U,U,U,U,U,U,U,U,U,U,U,U,U,U,U,U,U,U,U] h e
@[simp] theorem c_container_heap_up:cfun Tryd.prog n_container_heap_up=some container_heap_up:=by kernel_rfl
@[simp] theorem e_container_heap_up:hasBody Tryd.prog n_container_heap_up=true:=by kernel_rfl
abbrev container_heap_down_p0:List AG:=[o 45 (.mv (.t 7)),o 46 (.mv (.t 1)),o 47 (.cmp .gtr (.sc .int) (.t 45) (.t 46)),o 6 (.mv (.t 47))]
abbrev container_heap_down_m1:List Bool:=[I,I,I,O,O,O,O,I,O,O,O,O,O,O,O,O,O,O,O,O,O,O,O,O,O,O,O,O,O,O,O,O,O,O,O,O,O,O,O,O,O,O,O,O,O,O,O,O]
abbrev container_heap_down_x1:List Bool:=[O,I,O,O,O,O,O,I,O,O,O,O,O,O,O,O,O,O,O,O,O,O,O,O,O,O,O,O,O,O,O,O,O,O,O,O,O,O,O,O,O,O,O,O,O,O,O,O]
abbrev container_heap_down_p2:List AG:=[o 44 (.mv (.t 9)),o 7 (.mv (.t 44))]
abbrev container_heap_down_p3:List AG:=[o 40 (.mv (.t 0)),o 41 (.mv (.t 7)),o 42 (.mv (.t 9)),o 43 (.invoke (.t 40) "Swap" [(.t 41),(.t 42)])]
abbrev container_heap_down_p4:List AG:=[o 35 (.mv (.t 0)),o 36 (.mv (.t 9)),o 37 (.mv (.t 7)),o 38 (.invoke (.t 35) "Less" [(.t 36),(.t 37)]),o 39 (.not (.t 38))]
abbrev container_heap_down_p5:List AG:=[o 34 (.mv (.t 10)),o 9 (.mv (.t 34))]
abbrev container_heap_down_p6:List AG:=[o 25 (.mv (.t 10)),o 26 (.mv (.t 2)),o 27 (.cmp .lss (.sc .int) (.t 25) (.t 26)),o 28 (.mv (.t 27)),oy 29 28 (.mv (.t 0)),oy 30 28 (.mv (.t 10)),oy 31 28 (.mv (.t 8)),oy 32 28 (.invoke (.t 29) "Less" [(.t 30),(.t 31)]),o 33 (.pick (.t 28) (.t 32) (.c (.bool false)))]
abbrev container_heap_down_p7:List AG:=[o 23 (.mv (.t 8)),o 24 (.ibin .add (.t 23) (.c (.int .i64 1))),o 10 (.mv (.t 24))]
abbrev container_heap_down_p8:List AG:=[o 22 (.mv (.t 8)),o 9 (.mv (.t 22))]
abbrev container_heap_down_p9:List AG:=[o 15 (.mv (.t 8)),o 16 (.mv (.t 2)),o 17 (.cmp .geq (.sc .int) (.t 15) (.t 16)),o 18 (.mv (.t 17)),on 19 18 (.mv (.t 8)),on 20 18 (.cmp .lss (.sc .int) (.t 19) (.c (.int .i64 0))),o 21 (.pick (.t 18) (.c (.bool true)) (.t 20))]
abbrev container_heap_down_p10:List AG:=[o 12 (.mv (.t 7)),o 13 (.ibin .mul (.c (.int .i64 2)) (.t 12)),o 14 (.ibin .add (.t 13) (.c (.int .i64 1))),o 8 (.mv (.t 14))]
abbrev container_heap_down_p11:ACode:=(.seq (.reg container_heap_down_p10) (.seq (.seq (.reg container_heap_down_p9) (.cond (.t 21) (.exit 0) .skip)) (.seq (.reg container_heap_down_p8) (.seq (.seq (.reg container_heap_down_p7) (.seq (.reg container_heap_down_p6) (.cond (.t 33) (.reg container_heap_down_p5) .skip))) (.seq (.seq (.reg container_heap_down_p4) (.cond (.t 39) (.exit 0) .skip)) (.seq (.reg container_heap_down_p3) (.reg container_heap_down_p2)))))))
abbrev container_heap_down_b1:ACode:=(.block 1 [] container_heap_down_p11)
abbrev container_heap_down_p12:List AG:=[o 11 (.mv (.t 1)),o 7 (.mv (.t 11))]
abbrev container_heap_down_p13:List AG:=[o 6 (.mv (.c (.bool false)))]
abbrev container_heap_down:AFun:=⟨(.seq (.reg container_heap_down_p13) (.seq (.reg container_heap_down_p12) (.seq (.block 0 container_heap_down_x1 (.loop container_heap_down_m1 container_heap_down_b1)) (.seq (.reg container_heap_down_p0) .ret)))),48,[.tmp 6]⟩
abbrev container_heap_down_k1:List It:=[.code (.seq (.reg container_heap_down_p0) .ret)]
abbrev container_heap_down_L1 (x0 x1 x2 x7:AV) (h:List Ob) (e:Cx:=cx):Cfg:=atC n_container_heap_down (.code container_heap_down_b1::.inLoop container_heap_down_m1 container_heap_down_b1::.inBlock 0 container_heap_down_x1::container_heap_down_k1) [x0,x1,x2,U,U,U,U,x7,U,U,U,U,U,U,U,U,U,U,U,U,U,U,U,U,U,U,U,U,U,U,U,U,U,U,U,U,U,U,U,U,U,U,U,U,U,U,U,U] h e
@[simp] theorem c_container_heap_down:cfun Tryd.prog n_container_heap_down=some container_heap_down:=by kernel_rfl
@[simp] theorem e_container_heap_down:hasBody Tryd.prog n_container_heap_down=true:=by kernel_rfl
abbrev r06_row_p0:List AG:=[o 28 (.mv (.t 0)),o 29 (.lenStr (.t 28)),o 30 (.mv (.t 1)),o 31 (.cmp .eql (.sc .int) (.t 29) (.t 30)),o 4 (.mv (.t 31))]
abbrev r06_row_m1:List Bool:=[I,I,O,O,O,I,O,O,O,O,O,O,O,O,O,O,O,O,O,O,O,O,O,O,O,O,O,O,O,O,O,O]
abbrev r06_row_x1:List Bool:=[I,I,O,O,O,O,O,O,O,O,O,O,O,O,O,O,O,O,O,O,O,O,O,O,O,O,O,O,O,O,O,O]
abbrev r06_row_p2:List AG:=[o 10 (.mv (.t 5)),o 11 (.ibin .add (.t 10) (.c (.int .i64 1))),o 5 (.mv (.t 11))]
abbrev r06_row_p3:List AG:=[o 4 (.mv (.c (.bool false)))]
abbrev r06_row_p4:ACode:=(.seq (.reg r06_row_p3) .ret)
abbrev r06_row_p5:List AG:=[o 12 (.mv (.t 0)),o 13 (.mv (.t 5)),o 14 (.ixStr (.t 12) (.t 13)),o 15 (.cmp .neq (.sc .int) (.t 14) (.c (.int .u8 48))),o 16 (.mv (.t 15)),oy 17 16 (.mv (.t 0)),oy 18 16 (.mv (.t 5)),oy 19 16 (.ixStr (.t 17) (.t 18)),oy 20 16 (.cmp .neq (.sc .int) (.t 19) (.c (.int .u8 49))),o 21 (.pick (.t 16) (.t 20) (.c (.bool false))),o 22 (.mv (.t 21)),oy 23 22 (.mv (.t 0)),oy 24 22 (.mv (.t 5)),oy 25 22 (.ixStr (.t 23) (.t 24)),oy 26 22 (.cmp .neq (.sc .int) (.t 25) (.c (.int .u8 45))),o 27 (.pick (.t 22) (.t 26) (.c (.bool false)))]
abbrev r06_row_p6:ACode:=(.seq (.reg r06_row_p5) (.cond (.t 27) r06_row_p4 .skip))
abbrev r06_row_p7:List AG:=[o 6 (.mv (.t 5)),o 7 (.mv (.t 0)),o 8 (.lenStr (.t 7)),o 9 (.cmp .lss (.sc .int) (.t 6) (.t 8))]
abbrev r06_row_b1:ACode:=(.seq (.seq (.reg r06_row_p7) (.cond (.t 9) .skip (.exit 0))) (.seq (.block 1 [] r06_row_p6) (.reg r06_row_p2)))
abbrev r06_row_p8:List AG:=[o 5 (.mv (.c (.int .i64 0)))]
abbrev r06_row_p9:List AG:=[o 4 (.mv (.c (.bool false)))]
abbrev r06_row:AFun:=⟨(.seq (.reg r06_row_p9) (.seq (.seq (.reg r06_row_p8) (.block 0 r06_row_x1 (.loop r06_row_m1 r06_row_b1))) (.seq (.reg r06_row_p0) .ret))),32,[.tmp 4]⟩
abbrev r06_row_k1:List It:=[.code (.seq (.reg r06_row_p0) .ret)]
abbrev r06_row_L1 (x0 x1 x5:AV) (h:List Ob) (e:Cx:=cx):Cfg:=atC n_r06_row (.code r06_row_b1::.inLoop r06_row_m1 r06_row_b1::.inBlock 0 r06_row_x1::r06_row_k1) [x0,x1,U,U,U,x5,U,U,U,U,U,U,U,U,U,U,U,U,U,U,U,U,U,U,U,U,U,U,U,U,U,U] h e
@[simp] theorem c_r06_row:cfun Tryd.prog n_r06_row=some r06_row:=by kernel_rfl
@[simp] theorem e_r06_row:hasBody Tryd.prog n_r06_row=true:=by kernel_rfl
abbrev slices_Grow_string_string_p0:List AG:=[o 26 (.mv (.t 0)),o 4 (.mv (.t 26))]
abbrev slices_Grow_string_string_p1:List AG:=[o 17 (.mv (.t 0)),o 18 (.mv (.t 0)),o 19 (.cap (.t 18)),o 20 (.slice 1 (.t 17) none (some (.t 19))),o 21 (.mv (.t 1)),o 22 (.appendZ 1 t_string 16 (.str []) (.t 20) (.t 21)),o 23 (.mv (.t 0)),o 24 (.len (.t 23)),o 25 (.slice 1 (.t 22) none (some (.t 24))),o 0 (.mv (.t 25))]
abbrev slices_Grow_string_string_p2:List AG:=[o 15 (.mv (.t 1)),o 16 (.cmp .gtr (.sc .int) (.t 15) (.c (.int .i64 0)))]
abbrev slices_Grow_string_string_p3:List AG:=[o 8 (.mv (.t 1)),o 9 (.mv (.t 0)),o 10 (.cap (.t 9)),o 11 (.mv (.t 0)),o 12 (.len (.t 11)),o 13 (.ibin .sub (.t 10) (.t 12)),o 14 (.ibin .sub (.t 8) (.t 13)),o 1 (.mv (.t 14))]
abbrev slices_Grow_string_string_p4:List AG:=[o 7 (.mkIface t_string (.c (.str [99,97,110,110,111,116,32,98,101,32,110,101,103,97,116,105,118,101]))),q (.panic (.t 7))]
abbrev slices_Grow_string_string_p5:List AG:=[o 5 (.mv (.t 1)),o 6 (.cmp .lss (.sc .int) (.t 5) (.c (.int .i64 0)))]
abbrev slices_Grow_string_string_p6:List AG:=[o 4 (.nilrow 1 t_string)]
abbrev slices_Grow_string_string:AFun:=⟨(.seq (.reg slices_Grow_string_string_p6) (.seq (.seq (.reg slices_Grow_string_string_p5) (.cond (.t 6) (.reg slices_Grow_string_string_p4) .skip)) (.seq (.seq (.reg slices_Grow_string_string_p3) (.seq (.reg slices_Grow_string_string_p2) (.cond (.t 16) (.reg slices_Grow_string_string_p1) .skip))) (.seq (.reg slices_Grow_string_string_p0) .ret)))),27,[.tmp 4]⟩
@[simp] theorem c_slices_Grow_string_string:cfun Tryd.prog n_slices_Grow_string_string=some slices_Grow_string_string:=by kernel_rfl
@[simp] theorem e_slices_Grow_string_string:hasBody Tryd.prog n_slices_Grow_string_string=true:=by kernel_rfl
abbrev ident_name_plain_1_p0:List AG:=[o 3 (.mv (.t 0)),o 4 (.cmp .leq (.sc .int) (.t 3) (.c (.int .i32 32))),o 5 (.mv (.t 4)),on 6 5 (.mv (.t 0)),on 7 5 (.cmp .gtr (.sc .int) (.t 6) (.c (.int .i32 126))),o 8 (.pick (.t 5) (.c (.bool true)) (.t 7)),o 2 (.mv (.t 8))]
abbrev ident_name_plain_1_p1:List AG:=[o 2 (.mv (.c (.bool false)))]
abbrev ident_name_plain_1:AFun:=⟨(.seq (.reg ident_name_plain_1_p1) (.seq (.reg ident_name_plain_1_p0) .ret)),9,[.tmp 2]⟩
@[simp] theorem c_ident_name_plain_1:cfun Tryd.prog n_ident_name_plain_1=some ident_name_plain_1:=by kernel_rfl
@[simp] theorem e_ident_name_plain_1:hasBody Tryd.prog n_ident_name_plain_1=true:=by kernel_rfl
abbrev strings_IndexFunc_p0:List AG:=[o 5 (.mv (.t 0)),o 6 (.mv (.t 1)),o 7 (.call (.f n_strings_indexFunc) [(.t 5),(.t 6),(.c (.bool true))]),o 4 (.mv (.t 7))]
abbrev strings_IndexFunc_p1:List AG:=[o 4 (.mv (.c (.int .i64 0)))]
abbrev strings_IndexFunc:AFun:=⟨(.seq (.reg strings_IndexFunc_p1) (.seq (.reg strings_IndexFunc_p0) .ret)),8,[.tmp 4]⟩
@[simp] theorem c_strings_IndexFunc:cfun Tryd.prog n_strings_IndexFunc=some strings_IndexFunc:=by kernel_rfl
@[simp] theorem e_strings_IndexFunc:hasBody Tryd.prog n_strings_IndexFunc=true:=by kernel_rfl
@[simp] theorem e_strings_Trim:hasBody Tryd.prog n_strings_Trim=true:=by kernel_rfl
abbrev slices_IndexFunc_string_string_p0:List AG:=[o 4 (.mv (.c (.int .i64 (-1))))]
abbrev slices_IndexFunc_string_string_m1:List Bool:=[I,I,O,O,O,O,O,I,I,O,O,O,O,O,O,O,O,O,O]
abbrev slices_IndexFunc_string_string_x1:List Bool:=[O,O,O,O,O,O,O,O,O,O,O,O,O,O,O,O,O,O,O]
abbrev slices_IndexFunc_string_string_p2:List AG:=[o 18 (.ibin .add (.t 8) (.c (.int .i64 1))),o 8 (.mv (.t 18))]
abbrev slices_IndexFunc_string_string_p3:List AG:=[o 17 (.mv (.t 5)),o 4 (.mv (.t 17))]
abbrev slices_IndexFunc_string_string_p4:ACode:=(.seq (.reg slices_IndexFunc_string_string_p3) .ret)
abbrev slices_IndexFunc_string_string_p5:List AG:=[o 11 (.mv (.t 1)),o 12 (.mv (.t 0)),o 13 (.mv (.t 5)),o 14 (.ixAddr 1 (.t 12) (.t 13)),o 15 (.load false 1 (.t 14)),o 16 (.call (.t 11) [(.t 15)])]
abbrev slices_IndexFunc_string_string_p6:List AG:=[o 10 (.mv (.t 8)),o 5 (.mv (.t 10))]
abbrev slices_IndexFunc_string_string_p7:ACode:=(.seq (.reg slices_IndexFunc_string_string_p6) (.seq (.reg slices_IndexFunc_string_string_p5) (.cond (.t 16) slices_IndexFunc_string_string_p4 .skip)))
abbrev slices_IndexFunc_string_string_p8:List AG:=[o 9 (.cmp .lss (.sc .int) (.t 8) (.t 7))]
abbrev slices_IndexFunc_string_string_b1:ACode:=(.seq (.reg slices_IndexFunc_string_string_p8) (.seq (.cond (.t 9) .skip (.exit 0)) (.seq (.block 1 [] slices_IndexFunc_string_string_p7) (.reg slices_IndexFunc_string_string_p2))))
abbrev slices_IndexFunc_string_string_p9:List AG:=[o 6 (.mv (.t 0)),o 7 (.len (.t 6)),o 8 (.mv (.c (.int .i64 0)))]
abbrev slices_IndexFunc_string_string_p10:List AG:=[o 4 (.mv (.c (.int .i64 0)))]
abbrev slices_IndexFunc_string_string:AFun:=⟨(.seq (.reg slices_IndexFunc_string_string_p10) (.seq (.seq (.reg slices_IndexFunc_string_string_p9) (.block 0 slices_IndexFunc_string_string_x1 (.loop slices_IndexFunc_string_string_m1 slices_IndexFunc_string_string_b1))) (.seq (.reg slices_IndexFunc_string_string_p0) .ret))),19,[.tmp 4]⟩
abbrev slices_IndexFunc_string_string_k1:List It:=[.code (.seq (.reg slices_IndexFunc_string_string_p0) .ret)]
abbrev slices_IndexFunc_string_string_L1 (x0 x1 x7 x8:AV) (h:List Ob) (e:Cx:=cx):Cfg:=atC n_slices_IndexFunc_string_string (.code slices_IndexFunc_string_string_b1::.inLoop slices_IndexFunc_string_string_m1 slices_IndexFunc_string_string_b1::.inBlock 0 slices_IndexFunc_string_string_x1::slices_IndexFunc_string_string_k1) [x0,x1,U,U,U,U,U,x7,x8,U,U,U,U,U,U,U,U,U,U] h e
@[simp] theorem c_slices_IndexFunc_string_string:cfun Tryd.prog n_slices_IndexFunc_string_string=some slices_IndexFunc_string_string:=by kernel_rfl
@[simp] theorem e_slices_IndexFunc_string_string:hasBody Tryd.prog n_slices_IndexFunc_string_string=true:=by kernel_rfl
abbrev strings_indexFunc_p0:List AG:=[o 6 (.mv (.c (.int .i64 (-1))))]
abbrev strings_indexFunc_m1:List Bool:=[O,I,I,O,O,O,O,O,O,O,I,O,O,O,O,O,O,O,O,O,O]
abbrev strings_indexFunc_x1:List Bool:=[O,O,O,O,O,O,O,O,O,O,O,O,O,O,O,O,O,O,O,O,O]
abbrev strings_indexFunc_p2:List AG:=[o 20 (.mv (.t 7)),o 6 (.mv (.t 20))]
abbrev strings_indexFunc_p3:ACode:=(.seq (.reg strings_indexFunc_p2) .ret)
abbrev strings_indexFunc_p4:List AG:=[o 15 (.mv (.t 1)),o 16 (.mv (.t 8)),o 17 (.call (.t 15) [(.t 16)]),o 18 (.mv (.t 2)),o 19 (.cmp .eql (.sc .bool) (.t 17) (.t 18))]
abbrev strings_indexFunc_p5:List AG:=[o 13 (.extract (.t 11) 1),o 14 (.extract (.t 11) 2),o 7 (.mv (.t 13)),o 8 (.mv (.t 14))]
abbrev strings_indexFunc_p6:ACode:=(.seq (.reg strings_indexFunc_p5) (.seq (.reg strings_indexFunc_p4) (.cond (.t 19) strings_indexFunc_p3 .skip)))
abbrev strings_indexFunc_p7:List AG:=[o 11 (.next (.t 10)),o 12 (.extract (.t 11) 0)]
abbrev strings_indexFunc_b1:ACode:=(.seq (.reg strings_indexFunc_p7) (.seq (.cond (.t 12) .skip (.exit 0)) (.block 1 [] strings_indexFunc_p6)))
abbrev strings_indexFunc_p8:List AG:=[o 9 (.mv (.t 0)),o 10 (.range (.t 9))]
abbrev strings_indexFunc_p9:List AG:=[o 6 (.mv (.c (.int .i64 0)))]
abbrev strings_indexFunc:AFun:=⟨(.seq (.reg strings_indexFunc_p9) (.seq (.seq (.reg strings_indexFunc_p8) (.block 0 strings_indexFunc_x1 (.loop strings_indexFunc_m1 strings_indexFunc_b1))) (.seq (.reg strings_indexFunc_p0) .ret))),21,[.tmp 6]⟩
abbrev strings_indexFunc_k1:List It:=[.code (.seq (.reg strings_indexFunc_p0) .ret)]
abbrev strings_indexFunc_L1 (x1 x2 x10:AV) (h:List Ob) (e:Cx:=cx):Cfg:=atC n_strings_indexFunc (.code strings_indexFunc_b1::.inLoop strings_indexFunc_m1 strings_indexFunc_b1::.inBlock 0 strings_indexFunc_x1::strings_indexFunc_k1) [U,x1,x2,U,U,U,U,U,U,U,x10,U,U,U,U,U,U,U,U,U,U] h e
@[simp] theorem c_strings_indexFunc:cfun Tryd.prog n_strings_indexFunc=some strings_indexFunc:=by kernel_rfl
@[simp] theorem e_strings_indexFunc:hasBody Tryd.prog n_strings_indexFunc=true:=by kernel_rfl
abbrev order_pile_Less_p0:List AG:=[o 7 (.mv (.t 0)),o 8 (.mv (.t 1)),o 9 (.ixAddr 1 (.t 7) (.t 8)),o 10 (.load false 1 (.t 9)),o 11 (.mv (.t 0)),o 12 (.mv (.t 2)),o 13 (.ixAddr 1 (.t 11) (.t 12)),o 14 (.load false 1 (.t 13)),o 15 (.cmp .lss (.sc .int) (.t 10) (.t 14)),o 6 (.mv (.t 15))]
abbrev order_pile_Less_p1:List AG:=[o 6 (.mv (.c (.bool false)))]
abbrev order_pile_Less:AFun:=⟨(.seq (.reg order_pile_Less_p1) (.seq (.dreg [O,O,O,O,O,O,O,O,O,O] [11,11,11,11,11,11,11,11,11,11] order_pile_Less_p0) .ret)),16,[.tmp 6]⟩
@[simp] theorem c_order_pile_Less:cfun Tryd.prog n_order_pile_Less=some order_pile_Less:=by kernel_rfl
@[simp] theorem e_order_pile_Less:hasBody Tryd.prog n_order_pile_Less=true:=by kernel_rfl
abbrev order_pile_Pop_p0:List AG:=[o 25 (.mv (.t 3)),o 26 (.mkIface t_int (.t 25)),o 2 (.mv (.t 26))]
abbrev order_pile_Pop_p1:List AG:=[o 14 (.mv (.t 0)),o 15 (.mv (.t 0)),o 16 (.nilck (.t 15)),o 17 (.load false 1 (.t 16)),o 18 (.mv (.t 0)),o 19 (.nilck (.t 18)),o 20 (.load false 1 (.t 19)),o 21 (.len (.t 20)),o 22 (.ibin .sub (.t 21) (.c (.int .i64 1))),o 23 (.slice 1 (.t 17) none (some (.t 22))),o 24 (.nilck (.t 14)),q (.store 1 (.t 24) (.t 23))]
abbrev order_pile_Pop_p2:List AG:=[o 4 (.mv (.t 0)),o 5 (.nilck (.t 4)),o 6 (.load false 1 (.t 5)),o 7 (.mv (.t 0)),o 8 (.nilck (.t 7)),o 9 (.load false 1 (.t 8)),o 10 (.len (.t 9)),o 11 (.ibin .sub (.t 10) (.c (.int .i64 1))),o 12 (.ixAddr 1 (.t 6) (.t 11)),o 13 (.load false 1 (.t 12)),o 3 (.mv (.t 13))]
abbrev order_pile_Pop_p3:List AG:=[o 2 (.mv (.c .nili))]
abbrev order_pile_Pop:AFun:=⟨(.seq (.reg order_pile_Pop_p3) (.seq (.dreg [O,O,O,O,O,O,O,O,O,O,O] [12,12,12,12,12,12,12,12,12,12,12] order_pile_Pop_p2) (.seq (.dreg [O,O,O,O,O,O,O,O,O,O,O,O] [12,12,12,12,12,12,12,12,12,12,12,13] order_pile_Pop_p1) (.seq (.reg order_pile_Pop_p0) .ret)))),27,[.tmp 2]⟩
@[simp] theorem c_order_pile_Pop:cfun Tryd.prog n_order_pile_Pop=some order_pile_Pop:=by kernel_rfl
@[simp] theorem e_order_pile_Pop:hasBody Tryd.prog n_order_pile_Pop=true:=by kernel_rfl
abbrev order_pile_Push_p0:List AG:=[o 4 (.mv (.t 0)),o 5 (.mv (.t 0)),o 6 (.nilck (.t 5)),o 7 (.load false 1 (.t 6)),o 8 (.mv (.t 1)),o 9 (.tassert (.t 8) t_int (.int .i64 0) false),o 10 (.lit 1 [(.int .i64 0)] [(0,(.t 9))]),o 11 (.append 1 t_int 8 (.t 7) (.t 10)),o 12 (.nilck (.t 4)),q (.store 1 (.t 12) (.t 11))]
abbrev order_pile_Push:AFun:=⟨(.dreg [O,O,O,I,O,O,O,O,O,O] [10,8,8,8,7,7,8,10,10,11] order_pile_Push_p0),13,[]⟩
@[simp] theorem c_order_pile_Push:cfun Tryd.prog n_order_pile_Push=some order_pile_Push:=by kernel_rfl
@[simp] theorem e_order_pile_Push:hasBody Tryd.prog n_order_pile_Push=true:=by kernel_rfl
abbrev order_pile_Swap_p0:List AG:=[o 6 (.mv (.t 0)),o 7 (.mv (.t 1)),o 8 (.mv (.t 0)),o 9 (.mv (.t 2)),o 10 (.mv (.t 0)),o 11 (.mv (.t 2)),o 12 (.ixAddr 1 (.t 10) (.t 11)),o 13 (.load false 1 (.t 12)),o 14 (.mv (.t 0)),o 15 (.mv (.t 1)),o 16 (.ixAddr 1 (.t 14) (.t 15)),o 17 (.load false 1 (.t 16)),o 18 (.ixAddr 1 (.t 6) (.t 7)),q (.store 1 (.t 18) (.t 13)),o 19 (.ixAddr 1 (.t 8) (.t 9)),q (.store 1 (.t 19) (.t 17))]
abbrev order_pile_Swap:AFun:=⟨(.dreg [O,O,O,O,O,O,O,O,O,O,O,O,O,O,O,O] [14,14,16,16,14,14,14,14,14,14,14,14,14,16,16,17] order_pile_Swap_p0),20,[]⟩
@[simp] theorem c_order_pile_Swap:cfun Tryd.prog n_order_pile_Swap=some order_pile_Swap:=by kernel_rfl
@[simp] theorem e_order_pile_Swap:hasBody Tryd.prog n_order_pile_Swap=true:=by kernel_rfl
end Go.Proofs.YtpkngebjapfibaaDoor
