/- The functions, as the abstract machine has them. Printed by a program. -/
import Derived.Test.YtpinapmcemimcaaGreatDoorAMd
import Derived.Test.YtpinapmcemimcaaGreatDoorChecked
import Derived.KernelRfl
set_option linter.unusedSimpArgs false
set_option linter.unusedVariables false
namespace Go.Proofs.YtpinapmcemimcaaGreatDoor
open Go.AM Go.Proofs
abbrev zz1 (d i:Nat):AG:=o d (.mv (.t i))
abbrev zz2 (d k i:Nat):AG:=o d (.load false k (.t i))
abbrev zz3 (d k i:Nat):AG:=o d (.load true k (.t i))
abbrev zz4 (d k i:Nat):AG:=o d (.off k (.t i))
abbrev zz5 (d k i j:Nat):AG:=o d (.ixAddr k (.t i) (.t j))
abbrev zz6 (d i:Nat) (n:Int):AG:=o d (.ibin .add (.t i) (.c (.int .i64 n)))
abbrev zz7 (d i j:Nat):AG:=o d (.cmp .lss (.sc .int) (.t i) (.t j))
abbrev zz8 (d i j:Nat):AG:=o d (.pick (.t i) (.t j) (.c (.bool false)))
abbrev zz9 (d:Nat) (n:Int):AG:=o d (.mv (.c (.int .i64 n)))
abbrev zza (d i:Nat):AG:=o d (.len (.t i))
abbrev zzb (k a x:Nat):AG:=q (.store k (.t a) (.t x))
abbrev zzc (d i k:Nat):AG:=o d (.extract (.t i) k)
abbrev zzd (d j k i:Nat):AG:=oy d j (.load false k (.t i))
abbrev zze (d j i:Nat):AG:=oy d j (.mv (.t i))
abbrev zzf (d:Nat) (f:FuncId) (i:Nat):AG:=o d (.call (.f f) [(.t i)])
abbrev zzg (d:Nat) (f:FuncId) (i j:Nat):AG:=o d (.call (.f f) [(.t i),(.t j)])
abbrev zzh (d:Nat):AG:=o d (.mv (.c (.bool false)))
abbrev n_w08_StepGates:FuncId:=3
abbrev n_w08_works:FuncId:=8
abbrev n_w06_FewGate:FuncId:=9
abbrev n_step_Gate:FuncId:=10
abbrev n_r08_Gate:FuncId:=11
abbrev n_w07_Little:FuncId:=12
abbrev n_step_Start:FuncId:=13
abbrev n_step_Values:FuncId:=15
abbrev n_step_Step:FuncId:=17
abbrev n_r08_Bools:FuncId:=20
abbrev n_step_Allowed:FuncId:=21
abbrev n_step_Run:FuncId:=23
abbrev n_r08_Rows:FuncId:=25
abbrev n_w06_Few:FuncId:=26
abbrev n_net_Canon:FuncId:=29
abbrev n_w05_Texts:FuncId:=30
abbrev n_net_Gate:FuncId:=31
abbrev n_step_of:FuncId:=32
abbrev n_step_Gate_1:FuncId:=33
abbrev n_slices_ContainsFunc_string_string:FuncId:=34
abbrev n_step_Gate_1_1:FuncId:=35
abbrev n_step_fits:FuncId:=36
abbrev n_r06_Gate:FuncId:=37
abbrev n_r06_Rows:FuncId:=38
abbrev n_r08_fits:FuncId:=39
abbrev n_step_right:FuncId:=40
abbrev n_step_begin:FuncId:=42
abbrev n_step_machine_values:FuncId:=43
abbrev n_step_pick:FuncId:=44
abbrev n_step_machine_step:FuncId:=46
abbrev n_step_machine_steps:FuncId:=47
abbrev n_slices_Clone_bool_bool:FuncId:=48
abbrev n_order_right:FuncId:=49
abbrev n_slices_Clone_string_string:FuncId:=51
abbrev n_net_has:FuncId:=54
abbrev n_net_rows:FuncId:=55
abbrev n_slices_Equal_string_string:FuncId:=56
abbrev n_net_Gate_1:FuncId:=57
abbrev n_net_row:FuncId:=58
abbrev n_step_of_1:FuncId:=59
abbrev n_step_of_2:FuncId:=60
abbrev n_step_count:FuncId:=61
abbrev n_step_of_3:FuncId:=62
abbrev n_step_of_4:FuncId:=63
abbrev n_slices_IndexFunc_string_string:FuncId:=64
abbrev n_r06_row:FuncId:=65
abbrev n_r06_all:FuncId:=66
abbrev n_r06_odd:FuncId:=67
abbrev n_order_Check:FuncId:=68
abbrev n_order_Sort:FuncId:=70
abbrev n_net_Nets:FuncId:=71
abbrev n_slices_Concat_bool_bool:FuncId:=72
abbrev n_step_machine_steps_1:FuncId:=75
abbrev n_net_Check:FuncId:=76
abbrev n_strings_Repeat:FuncId:=78
abbrev n_net_parity:FuncId:=79
abbrev n_strings_Trim:FuncId:=80
abbrev n_order_places:FuncId:=82
abbrev n_order_coming:FuncId:=83
abbrev n_slices_Grow_bool_bool:FuncId:=84
abbrev n_net_Check_1:FuncId:=85
abbrev n_net_Check_2:FuncId:=86
abbrev n_net_need:FuncId:=87
abbrev n_slices_ContainsFunc_api_Gate_api_Gate:FuncId:=88
abbrev n_net_told:FuncId:=89
abbrev n_ident_Name:FuncId:=90
abbrev n_net_once:FuncId:=91
abbrev n_net_used:FuncId:=92
abbrev n_net_parity_1:FuncId:=99
abbrev n_math_bits_OnesCount:FuncId:=100
abbrev n_order_coming_1:FuncId:=114
abbrev n_order_wait:FuncId:=115
abbrev n_container_heap_Push:FuncId:=116
abbrev n_order_pile_Len:FuncId:=117
abbrev n_container_heap_Pop:FuncId:=118
abbrev n_slices_IndexFunc_api_Gate_api_Gate:FuncId:=119
abbrev n_slices_Concat_string_string:FuncId:=120
abbrev n_ident_name_plain:FuncId:=121
abbrev n_math_bits_OnesCount32:FuncId:=127
abbrev n_math_bits_OnesCount64:FuncId:=128
abbrev n_container_heap_up:FuncId:=133
abbrev n_container_heap_down:FuncId:=134
abbrev n_slices_Grow_string_string:FuncId:=135
abbrev n_ident_name_plain_1:FuncId:=136
abbrev n_strings_IndexFunc:FuncId:=137
abbrev n_strings_indexFunc:FuncId:=143
abbrev n_order_pile_Less:FuncId:=168
abbrev n_order_pile_Pop:FuncId:=169
abbrev n_order_pile_Push:FuncId:=170
abbrev n_order_pile_Swap:FuncId:=171
abbrev t_int:TypeId:=3
abbrev t_bool:TypeId:=4
abbrev t_uint8:TypeId:=5
abbrev t_string:TypeId:=9
abbrev t_api_Gate:TypeId:=25
abbrev t_bool_2:TypeId:=26
abbrev t_api_Latch_2:TypeId:=55
abbrev t_int_2:TypeId:=75
abbrev t_net_wrong:TypeId:=118
abbrev t_order_pile:TypeId:=153
@[simp] theorem m_order_pile_Push:cmeth Tryz.prog t_order_pile "Push" = some (n_order_pile_Push,none):=by kernel_rfl
@[simp] theorem m_order_pile_Len:cmeth Tryz.prog t_order_pile "Len" = some (n_order_pile_Len,some (false,1)):=by kernel_rfl
@[simp] theorem m_order_pile_Swap:cmeth Tryz.prog t_order_pile "Swap" = some (n_order_pile_Swap,some (false,1)):=by kernel_rfl
@[simp] theorem m_order_pile_Pop:cmeth Tryz.prog t_order_pile "Pop" = some (n_order_pile_Pop,none):=by kernel_rfl
@[simp] theorem m_order_pile_Less:cmeth Tryz.prog t_order_pile "Less" = some (n_order_pile_Less,some (false,1)):=by kernel_rfl
abbrev t_order_pile_2:TypeId:=154
@[simp] theorem m_order_pile_2_Len:cmeth Tryz.prog t_order_pile_2 "Len" = some (n_order_pile_Len,none):=by kernel_rfl
@[simp] theorem m_order_pile_2_Swap:cmeth Tryz.prog t_order_pile_2 "Swap" = some (n_order_pile_Swap,none):=by kernel_rfl
@[simp] theorem m_order_pile_2_Less:cmeth Tryz.prog t_order_pile_2 "Less" = some (n_order_pile_Less,none):=by kernel_rfl
abbrev t_map_int_bool_2:TypeId:=155
abbrev ya:List AG:=[zz1 36 5,zz1 37 36,zze 38 37 7,zze 39 37 9,oy 40 37 (.cmp .eql (.sc .bool) (.t 38) (.t 39)),zz8 41 37 40,zz1 42 41,zze 43 42 8,zze 44 42 10,oy 45 42 (.cmp .eql (.sc .int) (.t 43) (.t 44)),zz8 46 42 45,zz1 4 46]
abbrev yd:List AG:=[zz3 31 5 2,zz1 32 1,zzg 33 n_r08_Gate 31 32,zz1 30 33,zzc 34 30 0,zzc 35 30 1,zz1 9 34,zz1 10 35]
abbrev ye:List AG:=[zz3 25 5 2,zz1 26 1,zzg 27 n_step_Gate 25 26,zz1 24 27,zzc 28 24 0,zzc 29 24 1,zz1 7 28,zz1 8 29]
abbrev yf:List AG:=[zz1 23 5,zz1 4 23]
abbrev yg:ACode:=(.seq (.reg yf) .ret)
abbrev yh:List AG:=[zz1 16 6,o 17 (.not (.t 16)),zz1 18 17,on 19 18 (.mv (.t 1)),on 20 18 (.len (.t 19)),on 21 18 (.cmp .gtr (.sc .int) (.t 20) (.c (.int .i64 60))),o 22 (.pick (.t 18) (.c (.bool true)) (.t 21))]
abbrev yi:List AG:=[zz3 14 5 2,zzf 15 n_w06_FewGate 14,zz1 6 15]
abbrev yj:List AG:=[zzh 4]
abbrev yk:ACode:=(.seq (.reg yj) .ret)
abbrev ym:List AG:=[zz1 12 5,o 13 (.not (.t 12))]
abbrev yo:List AG:=[o 11 (.call (.f n_w08_works) []),zz1 5 11]
abbrev yp:List AG:=[o 2 (.box 5 (.t 0)),zzh 4]
abbrev w08_StepGates:AFun:=⟨(.seq (.reg yp) (.seq (.reg yo) (.seq (.seq (.reg ym) (.cond (.t 13) yk .skip)) (.seq (.reg yi) (.seq (.seq (.reg yh) (.cond (.t 22) yg .skip)) (.seq (.reg ye) (.seq (.reg yd) (.seq (.reg ya) .ret)))))))),47,[.tmp 4]⟩
@[simp] theorem c_w08_StepGates:cfun Tryz.prog n_w08_StepGates=some w08_StepGates:=by kernel_rfl
@[simp] theorem e_w08_StepGates:hasBody Tryz.prog n_w08_StepGates=true:=by kernel_rfl
abbrev yq:List AG:=[zz1 54 3,o 55 (.cmp .eql (.sc .int) (.t 54) (.c (.int .i64 0))),zz1 56 55,zze 57 56 4,oy 58 56 (.lit 1 [(.bool false)] [(0,(.c (.bool false)))]),oy 59 56 (.lit 1 [(.bool false)] [(0,(.c (.bool true)))]),oy 60 56 (.lit 1 [(.bool false)] [(0,(.c (.bool false)))]),oy 61 56 (.lit 1 [(.list true 0 []),(.list true 0 []),(.list true 0 [])] [(0,(.t 58)),(1,(.t 59)),(2,(.t 60))]),oy 62 56 (.call (.f n_r08_Rows) [(.t 57),(.t 61)]),zz8 63 56 62,zz1 64 63,zze 65 64 5,oy 66 64 (.len (.t 65)),oy 67 64 (.cmp .eql (.sc .int) (.t 66) (.c (.int .i64 1))),zz8 68 64 67,zz1 69 68,zze 70 69 5,oy 71 69 (.ixAddr 1 (.t 70) (.c (.int .i64 0))),zzd 72 69 1 71,zz8 73 69 72,zz1 74 73,zze 75 74 6,oy 76 74 (.cmp .eql (.sc .int) (.t 75) (.c (.int .i64 0))),zz8 77 74 76,zz1 78 77,zze 79 78 7,oy 80 78 (.not (.t 79)),zz8 81 78 80,zz1 82 81,zze 83 82 8,oy 84 82 (.cmp .eql (.sc .int) (.t 83) (.c (.int .i64 0))),zz8 85 82 84,zz1 86 85,zze 87 86 9,oy 88 86 (.lit 1 [(.bool false),(.bool false)] [(0,(.c (.bool false))),(1,(.c (.bool true)))]),oy 89 86 (.call (.f n_r08_Bools) [(.t 87),(.t 88)]),zz8 90 86 89,zz1 91 90,zze 92 91 10,oy 93 91 (.cmp .eql (.sc .int) (.t 92) (.c (.int .i64 0))),zz8 94 91 93,zz1 95 94,zze 96 95 13,oy 97 95 (.cmp .eql (.sc .int) (.t 96) (.c (.int .i64 11))),zz8 98 95 97,zz1 99 98,oy 100 99 (.load true 4 (.t 1)),zze 101 99 2,oy 102 99 (.call (.f n_step_Allowed) [(.t 100),(.t 101)]),zz8 103 99 102,zz1 104 103,oy 105 104 (.load true 4 (.t 1)),zze 106 104 5,oy 107 104 (.call (.f n_step_Allowed) [(.t 105),(.t 106)]),oy 108 104 (.not (.t 107)),zz8 109 104 108,zz1 0 109]
abbrev yr:List AG:=[zz3 49 4 1,o 50 (.call (.f n_step_Step) [(.t 49),(.c (.list true 0 [])),(.c (.list true 0 []))]),zz1 48 50,zzc 51 48 0,zzc 52 48 1,zzc 53 48 2,zz1 11 51,zz1 12 52,zz1 13 53]
abbrev yu:List AG:=[zz3 43 4 1,zz1 44 2,o 45 (.call (.f n_step_Values) [(.t 43),(.t 44),(.c (.list true 0 []))]),zz1 42 45,zzc 46 42 0,zzc 47 42 1,zz1 9 46,zz1 10 47]
abbrev yv:List AG:=[o 35 (.lit 1 [(.str []),(.str [])] [(0,(.c (.str [97]))),(1,(.c (.str [98])))]),o 36 (.lit 1 [(.str [])] [(0,(.c (.str [49,45])))]),o 37 (.build [(.str []),(.int .i64 0),(.list true 0 []),(.list true 0 []),(.bool false)] [(1,1,(.c (.int .i64 10))),(2,1,(.t 35)),(3,1,(.t 36)),(4,1,(.c (.bool true)))]),o 38 (.lit 1 [(.bool false),(.bool false)] [(0,(.c (.bool true))),(1,(.c (.bool false)))]),zzg 39 n_step_Gate 37 38,zz1 34 39,zzc 40 34 0,zzc 41 34 1,zz1 7 40,zz1 8 41]
abbrev yw:List AG:=[zz3 27 4 1,zz1 28 2,o 29 (.lit 1 [(.list true 0 []),(.list true 0 []),(.list true 0 [])] [(0,(.c (.list true 0 []))),(1,(.c (.list true 0 []))),(2,(.c (.list true 0 [])))]),o 30 (.call (.f n_step_Run) [(.t 27),(.t 28),(.t 29)]),zz1 26 30,zzc 31 26 0,zzc 32 26 1,zzc 33 26 2,zz1 4 31,zz1 5 32,zz1 6 33]
abbrev yx:List AG:=[zz3 22 4 1,o 23 (.call (.f n_step_Start) [(.t 22),(.c (.list true 0 []))]),zz1 21 23,zzc 24 21 0,zzc 25 21 1,zz1 2 24,zz1 3 25]
abbrev yy:List AG:=[o 14 (.lit 1 [(.str [])] [(0,(.c (.str [113])))]),o 15 (.build [(.str []),(.str []),(.int .i64 0)] [(0,1,(.c (.str [113]))),(1,1,(.c (.str [122])))]),o 16 (.lit 3 [(.agg [(.str []),(.str []),(.int .i64 0)])] [(0,(.t 15))]),o 17 (.lit 1 [(.str [])] [(0,(.c (.str [113])))]),o 18 (.build [(.str []),(.int .i64 0),(.list true 0 []),(.list true 0 []),(.bool false)] [(0,1,(.c (.str [122]))),(1,1,(.c (.int .i64 3))),(2,1,(.t 17))]),o 19 (.lit 5 [(.agg [(.str []),(.int .i64 0),(.list true 0 []),(.list true 0 []),(.bool false)])] [(0,(.t 18))]),o 20 (.build [(.list true 0 []),(.list true 0 []),(.list true 0 []),(.list true 0 [])] [(1,1,(.t 14)),(2,1,(.t 16)),(3,1,(.t 19))]),o 1 (.alloc [(.own 1 t_string []),(.own 1 t_string []),(.own 3 t_api_Latch_2 []),(.own 5 t_api_Gate [])]),zzb 4 1 20]
abbrev yz:List AG:=[zzh 0]
abbrev w08_works:AFun:=⟨(.seq (.reg yz) (.seq (.reg yy) (.seq (.reg yx) (.seq (.reg yw) (.seq (.reg yv) (.seq (.reg yu) (.seq (.reg yr) (.seq (.reg yq) .ret)))))))),110,[.tmp 0]⟩
@[simp] theorem c_w08_works:cfun Tryz.prog n_w08_works=some w08_works:=by kernel_rfl
@[simp] theorem e_w08_works:hasBody Tryz.prog n_w08_works=true:=by kernel_rfl
abbrev yA:List AG:=[zz1 11 3,zz1 12 11,zze 13 12 4,zz8 14 12 13,zz1 15 14,oy 16 15 (.off 0 (.t 1)),zzd 17 15 1 16,oy 18 15 (.lenStr (.t 17)),oy 19 15 (.cmp .leq (.sc .int) (.t 18) (.c (.int .i64 60))),zz8 20 15 19,zz1 2 20]
abbrev yB:List AG:=[zz4 8 3 1,zz2 9 1 8,o 10 (.call (.f n_w05_Texts) [(.t 9),(.c (.int .i64 140))]),zz1 4 10]
abbrev yC:List AG:=[zz4 5 2 1,zz2 6 1 5,o 7 (.call (.f n_w05_Texts) [(.t 6),(.c (.int .i64 12))]),zz1 3 7]
abbrev yD:List AG:=[o 1 (.box 5 (.t 0)),zzh 2]
abbrev w06_FewGate:AFun:=⟨(.seq (.reg yD) (.seq (.reg yC) (.seq (.reg yB) (.seq (.reg yA) .ret)))),21,[.tmp 2]⟩
@[simp] theorem c_w06_FewGate:cfun Tryz.prog n_w06_FewGate=some w06_FewGate:=by kernel_rfl
@[simp] theorem e_w06_FewGate:hasBody Tryz.prog n_w06_FewGate=true:=by kernel_rfl
abbrev yE:List AG:=[zz4 29 0 6,zz2 30 1 29,zz1 31 1,o 32 (.call (.t 30) [(.t 31)]),zz4 33 1 6,zz2 34 1 33,o 35 (.cmp .neq (.sc .bool) (.t 32) (.t 34)),zz1 4 35,zz9 5 0]
abbrev yF:List AG:=[o 27 (.mkFunc (.func n_step_Gate_1) [] [(.t 2)]),zz4 28 0 6,zzb 1 28 27]
abbrev yG:List AG:=[zz4 24 4 2,zz2 25 1 24,zz4 26 1 6,zzb 1 26 25]
abbrev yH:ACode:=(.seq (.reg yG) (.reg yF))
abbrev yI:List AG:=[zz4 21 1 2,zz2 22 1 21,o 23 (.cmp .eql (.sc .int) (.t 22) (.c (.int .i64 10)))]
abbrev yJ:List AG:=[zz4 18 1 2,zz2 19 1 18,zzf 20 n_step_of 19,o 6 (.alloc [.nilf,(.bool false)]),zzb 2 6 20]
abbrev yK:List AG:=[zzh 4,zz9 5 1]
abbrev yL:ACode:=(.seq (.reg yK) .ret)
abbrev yM:List AG:=[zz3 7 5 2,zzf 8 n_net_Gate 7,o 9 (.not (.t 8)),zz1 10 9,on 11 10 (.mv (.t 1)),on 12 10 (.len (.t 11)),on 13 10 (.off 2 (.t 2)),on 14 10 (.load false 1 (.t 13)),on 15 10 (.len (.t 14)),on 16 10 (.cmp .neq (.sc .int) (.t 12) (.t 15)),o 17 (.pick (.t 10) (.c (.bool true)) (.t 16))]
abbrev yN:List AG:=[o 2 (.box 5 (.t 0)),zzh 4,zz9 5 0]
abbrev step_Gate:AFun:=⟨(.seq (.reg yN) (.seq (.seq (.reg yM) (.cond (.t 17) yL .skip)) (.seq (.reg yJ) (.seq (.seq (.reg yI) (.cond (.t 23) yH .skip)) (.seq (.dreg [O,O,O,O,O,I,O,O,O] [4,4,4,10,10,10,10,10,10] yE) .ret))))),36,[.tmp 4,.tmp 5]⟩
@[simp] theorem c_step_Gate:cfun Tryz.prog n_step_Gate=some step_Gate:=by kernel_rfl
@[simp] theorem e_step_Gate:hasBody Tryz.prog n_step_Gate=true:=by kernel_rfl
abbrev yO:List AG:=[zz1 57 11,zz1 58 7,o 59 (.cmp .neq (.sc .bool) (.t 57) (.t 58)),zz1 4 59,zz9 5 0]
abbrev yP:List Bool:=[O,I,O,O,O,O,I,I,O,O,O,I,I,O,O,O,O,O,O,O,O,O,O,O,O,O,O,O,O,O,O,O,O,O,O,O,O,O,O,O,O,O,O,O,O,O,O,O,O,O,O,O,O,O,O,O,O,O,O,O]
abbrev yQ:List Bool:=[O,O,O,O,O,O,O,I,O,O,O,I,O,O,O,O,O,O,O,O,O,O,O,O,O,O,O,O,O,O,O,O,O,O,O,O,O,O,O,O,O,O,O,O,O,O,O,O,O,O,O,O,O,O,O,O,O,O,O,O]
abbrev yR:List AG:=[zz1 46 12,zz6 47 46 1,zz1 12 47]
abbrev yS:List AG:=[zz1 48 11,zz1 49 48,on 50 49 (.mv (.t 6)),on 51 49 (.mv (.t 12)),on 52 49 (.ixAddr 1 (.t 50) (.t 51)),on 53 49 (.load false 1 (.t 52)),on 54 49 (.mv (.t 1)),on 55 49 (.call (.f n_r08_fits) [(.t 53),(.t 54)]),o 56 (.pick (.t 49) (.c (.bool true)) (.t 55)),zz1 11 56]
abbrev yT:List AG:=[zz1 42 12,zz1 43 6,zza 44 43,zz7 45 42 44]
abbrev yU:ACode:=(.seq (.seq (.reg yT) (.cond (.t 45) .skip (.exit 0))) (.seq (.block 1 [] (.reg yS)) (.reg yR)))
abbrev yV:List AG:=[zz9 12 0]
abbrev yW:List AG:=[zzh 11]
abbrev yX:List AG:=[zz1 41 9,zz1 7 41]
abbrev yY:List AG:=[zz1 40 8,zz1 6 40]
abbrev yZ:List AG:=[zz4 32 1 2,zz2 33 1 32,zz1 34 1,zza 35 34,zzg 36 n_r06_Rows 33 35,zz1 31 36,zzc 37 31 0,zzc 38 31 1,zzc 39 31 2,zz1 8 37,zz1 9 38,zz1 10 39]
abbrev yba:ACode:=(.seq (.reg yZ) (.seq (.reg yY) (.reg yX)))
abbrev ybb:List AG:=[zz4 28 1 2,zz2 29 1 28,o 30 (.cmp .neq (.sc .int) (.t 29) (.c (.int .i64 10)))]
abbrev ybc:List AG:=[zz4 26 4 2,zz2 27 1 26,zz1 7 27]
abbrev ybd:List AG:=[zz4 24 3 2,zz2 25 1 24,zz1 6 25]
abbrev ybe:List AG:=[zzh 4,zz9 5 1]
abbrev ybf:ACode:=(.seq (.reg ybe) .ret)
abbrev ybg:List AG:=[zz3 13 5 2,zzf 14 n_r06_Gate 13,o 15 (.not (.t 14)),zz1 16 15,on 17 16 (.mv (.t 1)),on 18 16 (.len (.t 17)),on 19 16 (.off 2 (.t 2)),on 20 16 (.load false 1 (.t 19)),on 21 16 (.len (.t 20)),on 22 16 (.cmp .neq (.sc .int) (.t 18) (.t 21)),o 23 (.pick (.t 16) (.c (.bool true)) (.t 22))]
abbrev ybh:List AG:=[o 2 (.box 5 (.t 0)),zzh 4,zz9 5 0]
abbrev r08_Gate:AFun:=⟨(.seq (.reg ybh) (.seq (.seq (.reg ybg) (.cond (.t 23) ybf .skip)) (.seq (.reg ybd) (.seq (.reg ybc) (.seq (.seq (.reg ybb) (.cond (.t 30) yba .skip)) (.seq (.reg yW) (.seq (.seq (.reg yV) (.block 0 yQ (.loop yP yU))) (.seq (.reg yO) .ret)))))))),60,[.tmp 4,.tmp 5]⟩
abbrev ybi:List It:=[.code (.seq (.reg yO) .ret)]
abbrev ybj (x1 x6 x7 x11 x12:AV) (h:List Ob) (e:Cx:=cx):Cfg:=atC n_r08_Gate (.code yU::.inLoop yP yU::.inBlock 0 yQ::ybi) [U,x1,U,U,U,U,x6,x7,U,U,U,x11,x12,U,U,U,U,U,U,U,U,U,U,U,U,U,U,U,U,U,U,U,U,U,U,U,U,U,U,U,U,U,U,U,U,U,U,U,U,U,U,U,U,U,U,U,U,U,U,U] h e
@[simp] theorem c_r08_Gate:cfun Tryz.prog n_r08_Gate=some r08_Gate:=by kernel_rfl
@[simp] theorem e_r08_Gate:hasBody Tryz.prog n_r08_Gate=true:=by kernel_rfl
abbrev ybk:List AG:=[zz1 6 3,zz1 7 6,oy 8 7 (.off 3 (.t 1)),zzd 9 7 1 8,oy 10 7 (.len (.t 9)),oy 11 7 (.cmp .leq (.sc .int) (.t 10) (.c (.int .i64 24))),zz8 12 7 11,zz1 13 12,oy 14 13 (.off 0 (.t 1)),zzd 15 13 1 14,oy 16 13 (.len (.t 15)),oy 17 13 (.cmp .leq (.sc .int) (.t 16) (.c (.int .i64 24))),zz8 18 13 17,zz1 19 18,oy 20 19 (.off 2 (.t 1)),zzd 21 19 1 20,oy 22 19 (.len (.t 21)),oy 23 19 (.cmp .leq (.sc .int) (.t 22) (.c (.int .i64 24))),zz8 24 19 23,zz1 2 24]
abbrev ybl:List AG:=[zz3 4 4 1,zzf 5 n_w06_Few 4,zz1 3 5]
abbrev ybm:List AG:=[o 1 (.box 4 (.t 0)),zzh 2]
abbrev w07_Little:AFun:=⟨(.seq (.reg ybm) (.seq (.reg ybl) (.seq (.reg ybk) .ret))),25,[.tmp 2]⟩
@[simp] theorem c_w07_Little:cfun Tryz.prog n_w07_Little=some w07_Little:=by kernel_rfl
@[simp] theorem e_w07_Little:hasBody Tryz.prog n_w07_Little=true:=by kernel_rfl
abbrev ybn:List AG:=[zz1 41 6,zz1 4 41,zz9 5 0]
abbrev ybo:List Bool:=[O,I,O,O,O,O,I,O,O,O,O,O,O,O,I,I,I,O,O,O,O,O,O,O,O,O,O,O,O,O,O,O,O,O,O,O,O,O,O,O,O,O]
abbrev ybp:List Bool:=[O,O,O,O,O,O,I,O,O,O,O,O,O,O,O,O,O,O,O,O,O,O,O,O,O,O,O,O,O,O,O,O,O,O,O,O,O,O,O,O,O,O]
abbrev ybq:List AG:=[zz6 40 16 1,zz1 16 40]
abbrev ybr:List AG:=[zz1 36 6,zz1 37 9,o 38 (.lit 1 [(.bool false)] [(0,(.t 37))]),o 39 (.append 1 t_bool 1 (.t 36) (.t 38)),zz1 6 39]
abbrev ybs:List AG:=[zz1 31 1,o 32 (.ixAddr 1 (.t 31) (.c (.int .i64 0))),zz2 33 1 32,zz1 34 1,o 35 (.slice 1 (.t 34) (some (.c (.int .i64 1))) none),zz1 9 33,zz1 1 35]
abbrev ybt:List AG:=[zz4 23 2 8,zz2 24 1 23,o 25 (.cmp .eql (.sc .int) (.t 24) (.c (.int .i64 2))),zz1 26 25,zze 27 26 1,oy 28 26 (.len (.t 27)),oy 29 26 (.cmp .gtr (.sc .int) (.t 28) (.c (.int .i64 0))),zz8 30 26 29]
abbrev ybu:List AG:=[zz4 20 2 8,zz2 21 1 20,o 22 (.cmp .eql (.sc .int) (.t 21) (.c (.int .i64 1))),zz1 9 22]
abbrev ybv:List AG:=[zz5 18 3 14 16,zz3 19 3 18,o 8 (.alloc [(.str []),(.str []),(.int .i64 0)]),zzb 3 8 19]
abbrev ybw:ACode:=(.seq (.reg ybv) (.seq (.reg ybu) (.seq (.seq (.reg ybt) (.cond (.t 30) (.dreg [O,O,O,O,O,O,O] [8,8,8,8,8,8,8] ybs) .skip)) (.reg ybr))))
abbrev ybx:List AG:=[zz7 17 16 15]
abbrev yby:ACode:=(.seq (.reg ybx) (.seq (.cond (.t 17) .skip (.exit 0)) (.seq (.block 1 [] ybw) (.reg ybq))))
abbrev ybz:List AG:=[zz4 13 2 2,zz2 14 1 13,zza 15 14,zz9 16 0]
abbrev ybA:List AG:=[o 6 (.nilrow 1 t_bool)]
abbrev ybB:List AG:=[o 4 (.nilrow 1 t_bool),zz9 5 1]
abbrev ybC:ACode:=(.seq (.reg ybB) .ret)
abbrev ybD:List AG:=[zz3 10 4 2,zzf 11 n_step_right 10,o 12 (.not (.t 11))]
abbrev ybE:List AG:=[o 2 (.box 4 (.t 0)),o 4 (.nilrow 1 t_bool),zz9 5 0]
abbrev step_Start:AFun:=⟨(.seq (.reg ybE) (.seq (.seq (.reg ybD) (.cond (.t 12) ybC .skip)) (.seq (.reg ybA) (.seq (.seq (.reg ybz) (.block 0 ybp (.loop ybo yby))) (.seq (.reg ybn) .ret))))),42,[.tmp 4,.tmp 5]⟩
abbrev ybF:List It:=[.code (.seq (.reg ybn) .ret)]
abbrev ybG (x1 x6 x14 x15 x16:AV) (h:List Ob) (e:Cx:=cx):Cfg:=atC n_step_Start (.code yby::.inLoop ybo yby::.inBlock 0 ybp::ybF) [U,x1,U,U,U,U,x6,U,U,U,U,U,U,U,x14,x15,x16,U,U,U,U,U,U,U,U,U,U,U,U,U,U,U,U,U,U,U,U,U,U,U,U,U] h e
@[simp] theorem c_step_Start:cfun Tryz.prog n_step_Start=some step_Start:=by kernel_rfl
@[simp] theorem e_step_Start:hasBody Tryz.prog n_step_Start=true:=by kernel_rfl
abbrev ybH:List AG:=[zz1 29 10,zz1 30 8,o 31 (.nilck (.t 30)),zz4 32 4 31,zz2 33 1 32,zzg 34 n_step_pick 29 33,zz1 6 34,zz9 7 0]
abbrev ybI:List AG:=[zz1 28 9,o 6 (.nilrow 1 t_bool),zz1 7 28]
abbrev ybJ:ACode:=(.seq (.reg ybI) .ret)
abbrev ybK:List AG:=[zz1 26 9,o 27 (.cmp .neq (.sc .int) (.t 26) (.c (.int .i64 0)))]
abbrev ybL:List AG:=[zz1 20 8,zz1 21 1,zz1 22 2,o 23 (.call (.f n_step_machine_values) [(.t 20),(.t 21),(.t 22)]),zz1 19 23,zzc 24 19 0,zzc 25 19 1,zz1 10 24,zz1 9 25]
abbrev ybM:List AG:=[zz1 18 9,o 6 (.nilrow 1 t_bool),zz1 7 18]
abbrev ybN:ACode:=(.seq (.reg ybM) .ret)
abbrev ybO:List AG:=[zz1 16 9,o 17 (.cmp .neq (.sc .int) (.t 16) (.c (.int .i64 0)))]
abbrev ybP:List AG:=[zz3 12 4 3,zzf 13 n_step_begin 12,zz1 11 13,zzc 14 11 0,zzc 15 11 1,zz1 8 14,zz1 9 15]
abbrev ybQ:List AG:=[o 3 (.box 4 (.t 0)),o 6 (.nilrow 1 t_bool),zz9 7 0]
abbrev step_Values:AFun:=⟨(.seq (.reg ybQ) (.seq (.reg ybP) (.seq (.seq (.reg ybO) (.cond (.t 17) ybN .skip)) (.seq (.reg ybL) (.seq (.seq (.reg ybK) (.cond (.t 27) ybJ .skip)) (.seq (.reg ybH) .ret)))))),35,[.tmp 6,.tmp 7]⟩
@[simp] theorem c_step_Values:cfun Tryz.prog n_step_Values=some step_Values:=by kernel_rfl
@[simp] theorem e_step_Values:hasBody Tryz.prog n_step_Values=true:=by kernel_rfl
abbrev ybR:List AG:=[zz1 19 9,zz1 20 1,zz1 21 2,o 22 (.call (.f n_step_machine_step) [(.t 19),(.t 20),(.t 21)]),zzc 23 22 0,zzc 24 22 1,zzc 25 22 2,zz1 6 23,zz1 7 24,zz1 8 25]
abbrev ybS:List AG:=[zz1 18 10,o 6 (.nilrow 1 t_bool),o 7 (.nilrow 1 t_bool),zz1 8 18]
abbrev ybT:ACode:=(.seq (.reg ybS) .ret)
abbrev ybU:List AG:=[zz1 16 10,o 17 (.cmp .neq (.sc .int) (.t 16) (.c (.int .i64 0)))]
abbrev ybV:List AG:=[zz3 12 4 3,zzf 13 n_step_begin 12,zz1 11 13,zzc 14 11 0,zzc 15 11 1,zz1 9 14,zz1 10 15]
abbrev ybW:List AG:=[o 3 (.box 4 (.t 0)),o 6 (.nilrow 1 t_bool),o 7 (.nilrow 1 t_bool),zz9 8 0]
abbrev step_Step:AFun:=⟨(.seq (.reg ybW) (.seq (.reg ybV) (.seq (.seq (.reg ybU) (.cond (.t 17) ybT .skip)) (.seq (.reg ybR) .ret)))),26,[.tmp 6,.tmp 7,.tmp 8]⟩
@[simp] theorem c_step_Step:cfun Tryz.prog n_step_Step=some step_Step:=by kernel_rfl
@[simp] theorem e_step_Step:hasBody Tryz.prog n_step_Step=true:=by kernel_rfl
abbrev ybX:List AG:=[o 4 (.mv (.c (.bool true)))]
abbrev ybY:List Bool:=[I,I,O,O,O,I,O,O,O,O,O,O,O,O,O,O,O,O,O,O,O,O,O,O,O,O]
abbrev ybZ:List Bool:=[O,O,O,O,O,O,O,O,O,O,O,O,O,O,O,O,O,O,O,O,O,O,O,O,O,O]
abbrev yca:List AG:=[zz1 15 5,zz6 16 15 1,zz1 5 16]
abbrev ycb:List AG:=[zzh 4]
abbrev ycc:ACode:=(.seq (.reg ycb) .ret)
abbrev ycd:List AG:=[zz1 17 0,zz1 18 5,zz5 19 1 17 18,zz2 20 1 19,zz1 21 1,zz1 22 5,zz5 23 1 21 22,zz2 24 1 23,o 25 (.cmp .neq (.sc .bool) (.t 20) (.t 24))]
abbrev yce:ACode:=(.seq (.dreg [O,O,O,O,O,O,O,O,O] [10,10,10,10,10,10,10,10,10] ycd) (.cond (.t 25) ycc .skip))
abbrev ycf:List AG:=[zz1 11 5,zz1 12 0,zza 13 12,zz7 14 11 13]
abbrev ycg:ACode:=(.seq (.seq (.reg ycf) (.cond (.t 14) .skip (.exit 0))) (.seq (.block 1 [] yce) (.reg yca)))
abbrev ych:List AG:=[zz9 5 0]
abbrev yci:List AG:=[zzh 4]
abbrev ycj:ACode:=(.seq (.reg yci) .ret)
abbrev yck:List AG:=[zz1 6 0,zza 7 6,zz1 8 1,zza 9 8,o 10 (.cmp .neq (.sc .int) (.t 7) (.t 9))]
abbrev ycl:List AG:=[zzh 4]
abbrev r08_Bools:AFun:=⟨(.seq (.reg ycl) (.seq (.seq (.reg yck) (.cond (.t 10) ycj .skip)) (.seq (.seq (.reg ych) (.block 0 ybZ (.loop ybY ycg))) (.seq (.reg ybX) .ret)))),26,[.tmp 4]⟩
abbrev ycm:List It:=[.code (.seq (.reg ybX) .ret)]
abbrev ycn (x0 x1 x5:AV) (h:List Ob) (e:Cx:=cx):Cfg:=atC n_r08_Bools (.code ycg::.inLoop ybY ycg::.inBlock 0 ybZ::ycm) [x0,x1,U,U,U,x5,U,U,U,U,U,U,U,U,U,U,U,U,U,U,U,U,U,U,U,U] h e
@[simp] theorem c_r08_Bools:cfun Tryz.prog n_r08_Bools=some r08_Bools:=by kernel_rfl
@[simp] theorem e_r08_Bools:hasBody Tryz.prog n_r08_Bools=true:=by kernel_rfl
abbrev yco:List AG:=[o 4 (.mv (.c (.bool true)))]
abbrev ycp:List Bool:=[O,I,O,O,O,O,O,O,O,O,O,O,O,O,O,O,O,O,O,I,I,I,O,O,O,O,O,O,O,O,O,O,O,O,O,O,O,O,O,O]
abbrev ycq:List Bool:=[O,O,O,O,O,O,O,O,O,O,O,O,O,O,O,O,O,O,O,O,O,O,O,O,O,O,O,O,O,O,O,O,O,O,O,O,O,O,O,O]
abbrev ycr:List AG:=[zz6 39 21 1,zz1 21 39]
abbrev ycs:List AG:=[zzh 4]
abbrev yct:ACode:=(.seq (.reg ycs) .ret)
abbrev ycu:List AG:=[zz4 26 2 6,zz2 27 1 26,o 28 (.cmp .lss (.sc .int) (.t 27) (.c (.int .i64 2))),zz1 29 28,oy 30 29 (.off 2 (.t 6)),zzd 31 29 1 30,oy 32 29 (.cmp .eql (.sc .int) (.t 31) (.c (.int .i64 1))),zze 33 29 1,zze 34 29 5,oy 35 29 (.ixAddr 1 (.t 33) (.t 34)),zzd 36 29 1 35,oy 37 29 (.cmp .neq (.sc .bool) (.t 32) (.t 36)),zz8 38 29 37]
abbrev ycv:List AG:=[zz1 23 21,zz5 24 3 19 21,zz3 25 3 24,o 6 (.alloc [(.str []),(.str []),(.int .i64 0)]),zz1 5 23,zzb 3 6 25]
abbrev ycw:ACode:=(.seq (.reg ycv) (.seq (.dreg [O,O,O,O,O,O,O,O,O,O,O,O,O] [14,14,14,14,14,14,14,14,14,14,14,14,14] ycu) (.cond (.t 38) yct .skip)))
abbrev ycx:List AG:=[zz7 22 21 20]
abbrev ycy:ACode:=(.seq (.reg ycx) (.seq (.cond (.t 22) .skip (.exit 0)) (.seq (.block 1 [] ycw) (.reg ycr))))
abbrev ycz:List AG:=[zz4 18 2 2,zz2 19 1 18,zza 20 19,zz9 21 0]
abbrev ycA:List AG:=[zzh 4]
abbrev ycB:ACode:=(.seq (.reg ycA) .ret)
abbrev ycC:List AG:=[zz3 7 4 2,zzf 8 n_step_right 7,o 9 (.not (.t 8)),zz1 10 9,on 11 10 (.mv (.t 1)),on 12 10 (.len (.t 11)),on 13 10 (.off 2 (.t 2)),on 14 10 (.load false 1 (.t 13)),on 15 10 (.len (.t 14)),on 16 10 (.cmp .neq (.sc .int) (.t 12) (.t 15)),o 17 (.pick (.t 10) (.c (.bool true)) (.t 16))]
abbrev ycD:List AG:=[o 2 (.box 4 (.t 0)),zzh 4]
abbrev step_Allowed:AFun:=⟨(.seq (.reg ycD) (.seq (.seq (.reg ycC) (.cond (.t 17) ycB .skip)) (.seq (.seq (.reg ycz) (.block 0 ycq (.loop ycp ycy))) (.seq (.reg yco) .ret)))),40,[.tmp 4]⟩
abbrev ycE:List It:=[.code (.seq (.reg yco) .ret)]
abbrev ycF (x1 x19 x20 x21:AV) (h:List Ob) (e:Cx:=cx):Cfg:=atC n_step_Allowed (.code ycy::.inLoop ycp ycy::.inBlock 0 ycq::ycE) [U,x1,U,U,U,U,U,U,U,U,U,U,U,U,U,U,U,U,U,x19,x20,x21,U,U,U,U,U,U,U,U,U,U,U,U,U,U,U,U,U,U] h e
@[simp] theorem c_step_Allowed:cfun Tryz.prog n_step_Allowed=some step_Allowed:=by kernel_rfl
@[simp] theorem e_step_Allowed:hasBody Tryz.prog n_step_Allowed=true:=by kernel_rfl
abbrev ycG:List AG:=[zz2 48 1 11,zz2 49 1 4,zzf 50 n_slices_Clone_bool_bool 49,zz1 6 48,zz1 7 50,zz9 8 0]
abbrev ycH:List AG:=[zz2 47 1 10,o 6 (.nilrow 1 t_bool_2),o 7 (.nilrow 1 t_bool),zz1 8 47]
abbrev ycI:ACode:=(.seq (.dreg [I,O,O,O] [5,3,5,5] ycH) .ret)
abbrev ycJ:List AG:=[zz2 45 1 10,o 46 (.cmp .neq (.sc .int) (.t 45) (.c (.int .i64 0)))]
abbrev ycK:List AG:=[zz1 13 39]
abbrev ycL:List AG:=[zz1 12 38]
abbrev ycM:List AG:=[zz2 40 1 11,zz1 41 12,o 42 (.lit 1 [(.list true 0 [])] [(0,(.t 41))]),o 43 (.append 1 t_bool_2 24 (.t 40) (.t 42)),zz1 44 13,zzb 1 11 43,zzb 1 4 44]
abbrev ycN:ACode:=(.seq (.reg ycL) (.reg ycK))
abbrev ycO:ACode:=(.block 2 [] (.reg ycM))
abbrev ycP:ACode:=(.rangeFunc (.t 37) [38,39] [O,O,O,O,I,O,I,I,I,O,O,I,O,O,O,O,O,O,O,O,O,O,O,O,O,O,O,O,O,O,O,O,O,O,O,O,O,O,O,O,O,O,O,O,O,O,O,O,O,O,O] ycN ycO)
abbrev ycQ:List AG:=[zz1 34 9,zz2 35 1 4,zz1 36 2,o 37 (.call (.f n_step_machine_steps) [(.t 34),(.t 35),(.t 36),(.t 10)])]
abbrev ycR:List AG:=[o 11 (.alloc [(.own 1 t_bool_2 [])])]
abbrev ycS:List AG:=[zz2 22 1 10,o 6 (.nilrow 1 t_bool_2),o 7 (.nilrow 1 t_bool),zz1 8 22]
abbrev ycT:List AG:=[o 6 (.nilrow 1 t_bool_2),o 7 (.nilrow 1 t_bool),zz9 8 8]
abbrev ycU:List AG:=[o 6 (.nilrow 1 t_bool_2),o 7 (.nilrow 1 t_bool),zz9 8 11]
abbrev ycV:ACode:=(.seq (.reg ycU) .ret)
abbrev ycW:List AG:=[zz2 28 1 4,zza 29 28,zz4 30 2 3,zz2 31 1 30,zza 32 31,o 33 (.cmp .neq (.sc .int) (.t 29) (.t 32)),zz1 27 33]
abbrev ycX:ACode:=(.seq (.reg ycT) .ret)
abbrev ycY:ACode:=(.seq (.reg ycW) (.cond (.t 27) ycV .skip))
abbrev ycZ:List AG:=[zz1 24 2,zza 25 24,o 26 (.cmp .gtr (.sc .int) (.t 25) (.c (.int .i64 40))),zz1 23 26]
abbrev yda:ACode:=(.seq (.dreg [I,O,O,O] [5,3,5,5] ycS) .ret)
abbrev ydb:ACode:=(.seq (.reg ycZ) (.cond (.t 23) ycX ycY))
abbrev ydc:List AG:=[zz2 20 1 10,o 21 (.cmp .neq (.sc .int) (.t 20) (.c (.int .i64 0))),zz1 19 21]
abbrev ydd:ACode:=(.seq (.reg ydc) (.cond (.t 19) yda ydb))
abbrev yde:List AG:=[zz3 15 4 3,zzf 16 n_step_begin 15,zz1 14 16,zzc 17 14 0,zzc 18 14 1,o 10 (.alloc [(.int .i64 0)]),zz1 9 17,zzb 1 10 18]
abbrev ydf:List AG:=[o 3 (.box 4 (.t 0)),o 4 (.box 1 (.t 1)),o 6 (.nilrow 1 t_bool_2),o 7 (.nilrow 1 t_bool),zz9 8 0]
abbrev step_Run:AFun:=⟨(.seq (.reg ydf) (.seq (.reg yde) (.seq (.block 0 [] ydd) (.seq (.reg ycR) (.seq (.seq (.reg ycQ) (.block 1 [] ycP)) (.seq (.seq (.reg ycJ) (.cond (.t 46) ycI .skip)) (.seq (.dreg [I,O,O,O,O,O] [7,3,7,7,7,7] ycG) .ret))))))),51,[.tmp 6,.tmp 7,.tmp 8]⟩
@[simp] theorem c_step_Run:cfun Tryz.prog n_step_Run=some step_Run:=by kernel_rfl
@[simp] theorem e_step_Run:hasBody Tryz.prog n_step_Run=true:=by kernel_rfl
abbrev ydg:List AG:=[o 4 (.mv (.c (.bool true)))]
abbrev ydh:List Bool:=[I,I,O,O,O,I,O,O,O,O,O,O,O,O,O,O,O,O,O,O,O,O,O,O,O,O,O]
abbrev ydi:List Bool:=[O,O,O,O,O,O,O,O,O,O,O,O,O,O,O,O,O,O,O,O,O,O,O,O,O,O,O]
abbrev ydj:List AG:=[zz1 15 5,zz6 16 15 1,zz1 5 16]
abbrev ydk:List AG:=[zzh 4]
abbrev ydl:ACode:=(.seq (.reg ydk) .ret)
abbrev ydm:List AG:=[zz1 17 0,zz1 18 5,zz5 19 1 17 18,zz2 20 1 19,zz1 21 1,zz1 22 5,zz5 23 1 21 22,zz2 24 1 23,zzg 25 n_r08_Bools 20 24,o 26 (.not (.t 25))]
abbrev ydn:ACode:=(.seq (.dreg [O,O,O,O,O,O,O,O,O,O] [9,9,9,9,9,9,9,9,11,11] ydm) (.cond (.t 26) ydl .skip))
abbrev ydo:List AG:=[zz1 11 5,zz1 12 0,zza 13 12,zz7 14 11 13]
abbrev ydp:ACode:=(.seq (.seq (.reg ydo) (.cond (.t 14) .skip (.exit 0))) (.seq (.block 1 [] ydn) (.reg ydj)))
abbrev ydq:List AG:=[zz9 5 0]
abbrev ydr:List AG:=[zzh 4]
abbrev yds:ACode:=(.seq (.reg ydr) .ret)
abbrev ydt:List AG:=[zz1 6 0,zza 7 6,zz1 8 1,zza 9 8,o 10 (.cmp .neq (.sc .int) (.t 7) (.t 9))]
abbrev ydu:List AG:=[zzh 4]
abbrev r08_Rows:AFun:=⟨(.seq (.reg ydu) (.seq (.seq (.reg ydt) (.cond (.t 10) yds .skip)) (.seq (.seq (.reg ydq) (.block 0 ydi (.loop ydh ydp))) (.seq (.reg ydg) .ret)))),27,[.tmp 4]⟩
abbrev ydv:List It:=[.code (.seq (.reg ydg) .ret)]
abbrev ydw (x0 x1 x5:AV) (h:List Ob) (e:Cx:=cx):Cfg:=atC n_r08_Rows (.code ydp::.inLoop ydh ydp::.inBlock 0 ydi::ydv) [x0,x1,U,U,U,x5,U,U,U,U,U,U,U,U,U,U,U,U,U,U,U,U,U,U,U,U,U] h e
@[simp] theorem c_r08_Rows:cfun Tryz.prog n_r08_Rows=some r08_Rows:=by kernel_rfl
@[simp] theorem e_r08_Rows:hasBody Tryz.prog n_r08_Rows=true:=by kernel_rfl
abbrev ydx:List AG:=[zz1 62 6,zz1 63 62,zze 64 63 7,zz8 65 63 64,zz1 66 65,oy 67 66 (.off 3 (.t 1)),zzd 68 66 1 67,oy 69 66 (.len (.t 68)),oy 70 66 (.cmp .leq (.sc .int) (.t 69) (.c (.int .i64 210))),zz8 71 66 70,zz1 72 71,oy 73 72 (.off 2 (.t 1)),zzd 74 72 1 73,oy 75 72 (.len (.t 74)),oy 76 72 (.cmp .leq (.sc .int) (.t 75) (.c (.int .i64 210))),zz8 77 72 76,zz1 2 77]
abbrev ydy:List AG:=[zz4 59 1 1,zz2 60 1 59,o 61 (.call (.f n_w05_Texts) [(.t 60),(.c (.int .i64 210))]),zz1 7 61]
abbrev ydz:List AG:=[zz4 56 0 1,zz2 57 1 56,o 58 (.call (.f n_w05_Texts) [(.t 57),(.c (.int .i64 210))]),zz1 6 58]
abbrev ydA:List Bool:=[O,I,O,O,O,I,O,O,O,O,O,O,O,O,O,O,O,O,O,O,O,O,O,O,O,O,O,O,O,O,O,O,O,O,O,O,O,O,O,O,O,O,O,O,O,O,O,O,O,O,O,O,O,O,O,O,O,O,O,O,O,O,O,O,O,O,O,O,O,O,O,O,O,O,O,O,O,O]
abbrev ydB:List Bool:=[O,I,O,O,O,O,O,O,O,O,O,O,O,O,O,O,O,O,O,O,O,O,O,O,O,O,O,O,O,O,O,O,O,O,O,O,O,O,O,O,O,O,O,O,O,O,O,O,O,O,O,O,O,O,O,O,O,O,O,O,O,O,O,O,O,O,O,O,O,O,O,O,O,O,O,O,O,O]
abbrev ydC:List AG:=[zz1 36 5,zz6 37 36 1,zz1 5 37]
abbrev ydD:List AG:=[zzh 2]
abbrev ydE:ACode:=(.seq (.reg ydD) .ret)
abbrev ydF:List AG:=[zz4 38 2 1,zz2 39 1 38,zz1 40 5,zz5 41 3 39 40,zz4 42 0 41,zz2 43 1 42,o 44 (.lenStr (.t 43)),o 45 (.cmp .gtr (.sc .int) (.t 44) (.c (.int .i64 60))),zz1 46 45,on 47 46 (.off 2 (.t 1)),on 48 46 (.load false 1 (.t 47)),on 49 46 (.mv (.t 5)),on 50 46 (.ixAddr 3 (.t 48) (.t 49)),on 51 46 (.off 1 (.t 50)),on 52 46 (.load false 1 (.t 51)),on 53 46 (.lenStr (.t 52)),on 54 46 (.cmp .gtr (.sc .int) (.t 53) (.c (.int .i64 60))),o 55 (.pick (.t 46) (.c (.bool true)) (.t 54))]
abbrev ydG:ACode:=(.seq (.reg ydF) (.cond (.t 55) ydE .skip))
abbrev ydH:List AG:=[zz1 27 5,zz4 28 2 1,zz2 29 1 28,zza 30 29,zz7 31 27 30,zz1 32 31,zze 33 32 5,oy 34 32 (.cmp .leq (.sc .int) (.t 33) (.c (.int .i64 210))),zz8 35 32 34]
abbrev ydI:ACode:=(.seq (.seq (.reg ydH) (.cond (.t 35) .skip (.exit 2))) (.seq (.block 3 [] ydG) (.reg ydC)))
abbrev ydJ:List AG:=[zz9 5 0]
abbrev ydK:List Bool:=[O,I,O,I,O,O,O,O,O,O,O,O,O,O,O,O,O,O,O,O,O,O,O,O,O,O,O,O,O,O,O,O,O,O,O,O,O,O,O,O,O,O,O,O,O,O,O,O,O,O,O,O,O,O,O,O,O,O,O,O,O,O,O,O,O,O,O,O,O,O,O,O,O,O,O,O,O,O]
abbrev ydL:List Bool:=[O,I,O,O,O,O,O,O,O,O,O,O,O,O,O,O,O,O,O,O,O,O,O,O,O,O,O,O,O,O,O,O,O,O,O,O,O,O,O,O,O,O,O,O,O,O,O,O,O,O,O,O,O,O,O,O,O,O,O,O,O,O,O,O,O,O,O,O,O,O,O,O,O,O,O,O,O,O]
abbrev ydM:List AG:=[zz1 17 3,zz6 18 17 1,zz1 3 18]
abbrev ydN:List AG:=[zzh 2]
abbrev ydO:ACode:=(.seq (.reg ydN) .ret)
abbrev ydP:List AG:=[zz1 25 4,o 26 (.not (.t 25))]
abbrev ydQ:List AG:=[zz4 19 3 1,zz2 20 1 19,zz1 21 3,zz5 22 5 20 21,zz3 23 5 22,zzf 24 n_w06_FewGate 23,zz1 4 24]
abbrev ydR:ACode:=(.seq (.reg ydQ) (.seq (.reg ydP) (.cond (.t 26) ydO .skip)))
abbrev ydS:List AG:=[zz1 8 3,zz4 9 3 1,zz2 10 1 9,zza 11 10,zz7 12 8 11,zz1 13 12,zze 14 13 3,oy 15 13 (.cmp .leq (.sc .int) (.t 14) (.c (.int .i64 210))),zz8 16 13 15]
abbrev ydT:ACode:=(.seq (.seq (.reg ydS) (.cond (.t 16) .skip (.exit 0))) (.seq (.block 1 [] ydR) (.reg ydM)))
abbrev ydU:List AG:=[zz9 3 0]
abbrev ydV:List AG:=[o 1 (.box 4 (.t 0)),zzh 2]
abbrev w06_Few:AFun:=⟨(.seq (.reg ydV) (.seq (.seq (.reg ydU) (.block 0 ydL (.loop ydK ydT))) (.seq (.seq (.reg ydJ) (.block 2 ydB (.loop ydA ydI))) (.seq (.reg ydz) (.seq (.reg ydy) (.seq (.reg ydx) .ret)))))),78,[.tmp 2]⟩
@[simp] theorem c_w06_Few:cfun Tryz.prog n_w06_Few=some w06_Few:=by kernel_rfl
@[simp] theorem e_w06_Few:hasBody Tryz.prog n_w06_Few=true:=by kernel_rfl
abbrev ydW:List AG:=[zz3 71 5 1,zzb 5 2 71]
abbrev ydX:List Bool:=[O,I,I,I,O,O,O,O,O,O,O,O,O,O,O,O,O,O,O,O,O,O,O,O,O,O,O,O,O,O,O,O,O,O,O,O,O,O,O,O,O,O,O,O,O,O,O,O,O,O,O,O,O,O,O,O,O,O,O,O,O,O,O,O,O,O,O,O,O,O,O,O]
abbrev ydY:List Bool:=[O,I,I,O,O,O,O,O,O,O,O,O,O,O,O,O,O,O,O,O,O,O,O,O,O,O,O,O,O,O,O,O,O,O,O,O,O,O,O,O,O,O,O,O,O,O,O,O,O,O,O,O,O,O,O,O,O,O,O,O,O,O,O,O,O,O,O,O,O,O,O,O]
abbrev ydZ:List AG:=[zz1 39 3,zz6 40 39 1,zz1 3 40]
abbrev yea:List AG:=[zz4 65 0 1,zz2 66 1 65,zz1 67 3,zz4 68 2 1,zz2 69 1 68,o 70 (.build [(.str []),(.int .i64 0),(.list true 0 []),(.list true 0 []),(.bool false)] [(0,1,(.t 66)),(1,1,(.t 67)),(2,1,(.t 69))]),zzb 5 2 70]
abbrev yeb:ACode:=(.seq (.reg yea) .ret)
abbrev yec:List AG:=[zz1 55 5,zz4 56 4 1,zz2 57 1 56,o 58 (.cmp .eql (.sc .bool) (.t 55) (.t 57)),zz1 59 58,zze 60 59 4,oy 61 59 (.off 3 (.t 1)),zzd 62 59 1 61,oy 63 59 (.call (.f n_slices_Equal_string_string) [(.t 60),(.t 62)]),zz8 64 59 63]
abbrev yed:List AG:=[zz1 48 3,zz4 49 2 1,zz2 50 1 49,zza 51 50,zzg 52 n_net_rows 48 51,zz1 47 52,zzc 53 47 0,zzc 54 47 1,zz1 4 53,zz1 5 54]
abbrev yee:List AG:=[zz1 41 3,zz4 42 2 1,zz2 43 1 42,zza 44 43,zzg 45 n_net_has 41 44,o 46 (.not (.t 45))]
abbrev yef:ACode:=(.seq (.seq (.reg yee) (.cond (.t 46) (.exit 2) .skip)) (.seq (.reg yed) (.seq (.reg yec) (.cond (.t 64) yeb .skip))))
abbrev yeg:List AG:=[zz1 37 3,o 38 (.cmp .lss (.sc .int) (.t 37) (.c (.int .i64 10)))]
abbrev yeh:ACode:=(.seq (.seq (.reg yeg) (.cond (.t 38) .skip (.exit 1))) (.seq (.block 2 [] yef) (.reg ydZ)))
abbrev yei:List AG:=[zz9 3 0]
abbrev yej:List AG:=[zz3 36 5 1,zzb 5 2 36]
abbrev yek:ACode:=(.seq (.reg yej) .ret)
abbrev yel:List AG:=[zz4 33 1 1,zz2 34 1 33,o 35 (.cmp .neq (.sc .int) (.t 34) (.c (.int .i64 10)))]
abbrev yem:List AG:=[zz4 27 1 1,q (.store 1 (.t 27) (.c (.int .i64 2)))]
abbrev yen:List AG:=[zz4 32 1 1,q (.store 1 (.t 32) (.c (.int .i64 3)))]
abbrev yeo:List AG:=[o 31 (.cmp .eql (.sc .int) (.t 22) (.c (.int .i64 9))),zz1 28 31]
abbrev yep:List AG:=[o 30 (.cmp .eql (.sc .int) (.t 22) (.c (.int .i64 7))),zz1 28 30]
abbrev yeq:ACode:=(.seq (.reg yep) (.cond (.t 28) .skip (.reg yeo)))
abbrev yer:List AG:=[o 29 (.cmp .eql (.sc .int) (.t 22) (.c (.int .i64 5))),zz1 28 29]
abbrev yes:ACode:=(.seq (.seq (.reg yer) (.cond (.t 28) .skip yeq)) (.cond (.t 28) (.reg yen) .skip))
abbrev yeu:List AG:=[o 26 (.cmp .eql (.sc .int) (.t 22) (.c (.int .i64 8))),zz1 23 26]
abbrev yev:List AG:=[o 25 (.cmp .eql (.sc .int) (.t 22) (.c (.int .i64 6))),zz1 23 25]
abbrev yew:ACode:=(.seq (.reg yev) (.cond (.t 23) .skip (.reg yeu)))
abbrev yex:List AG:=[o 24 (.cmp .eql (.sc .int) (.t 22) (.c (.int .i64 4))),zz1 23 24]
abbrev yey:ACode:=(.seq (.seq (.reg yex) (.cond (.t 23) .skip yew)) (.cond (.t 23) (.reg yem) yes))
abbrev yez:List AG:=[zz4 21 1 1,zz2 22 1 21]
abbrev yeA:ACode:=(.seq (.reg yez) (.block 0 [] yey))
abbrev yeB:List AG:=[zz4 6 2 1,zz2 7 1 6,zza 8 7,o 9 (.cmp .eql (.sc .int) (.t 8) (.c (.int .i64 1))),zz1 10 9,oy 11 10 (.off 3 (.t 1)),zzd 12 10 1 11,oy 13 10 (.len (.t 12)),oy 14 10 (.cmp .eql (.sc .int) (.t 13) (.c (.int .i64 0))),zz8 15 10 14,zz1 16 15,oy 17 16 (.off 4 (.t 1)),zzd 18 16 1 17,oy 19 16 (.not (.t 18)),zz8 20 16 19]
abbrev yeC:List AG:=[o 1 (.box 5 (.t 0)),o 2 (.alloc [(.str []),(.int .i64 0),(.own 1 t_string []),(.own 1 t_string []),(.bool false)])]
abbrev net_Canon:AFun:=⟨(.seq (.reg yeC) (.seq (.seq (.reg yeB) (.cond (.t 20) yeA .skip)) (.seq (.seq (.reg yel) (.cond (.t 35) yek .skip)) (.seq (.seq (.reg yei) (.block 1 ydY (.loop ydX yeh))) (.seq (.reg ydW) .ret))))),72,[.cell 2 true 5]⟩
@[simp] theorem c_net_Canon:cfun Tryz.prog n_net_Canon=some net_Canon:=by kernel_rfl
@[simp] theorem e_net_Canon:hasBody Tryz.prog n_net_Canon=true:=by kernel_rfl
abbrev yeD:List AG:=[zz1 23 0,zza 24 23,zz1 25 1,o 26 (.cmp .leq (.sc .int) (.t 24) (.t 25)),zz1 4 26]
abbrev yeE:List Bool:=[I,I,O,O,O,I,O,O,O,O,O,O,O,O,O,O,O,O,O,O,O,O,O,O,O,O,O]
abbrev yeF:List Bool:=[I,I,O,O,O,O,O,O,O,O,O,O,O,O,O,O,O,O,O,O,O,O,O,O,O,O,O]
abbrev yeG:List AG:=[zz1 15 5,zz6 16 15 1,zz1 5 16]
abbrev yeH:List AG:=[zzh 4]
abbrev yeI:ACode:=(.seq (.reg yeH) .ret)
abbrev yeJ:List AG:=[zz1 17 0,zz1 18 5,zz5 19 1 17 18,zz2 20 1 19,o 21 (.lenStr (.t 20)),o 22 (.cmp .gtr (.sc .int) (.t 21) (.c (.int .i64 60)))]
abbrev yeK:ACode:=(.seq (.reg yeJ) (.cond (.t 22) yeI .skip))
abbrev yeL:List AG:=[zz1 6 5,zz1 7 0,zza 8 7,zz7 9 6 8,zz1 10 9,zze 11 10 5,zze 12 10 1,oy 13 10 (.cmp .leq (.sc .int) (.t 11) (.t 12)),zz8 14 10 13]
abbrev yeM:ACode:=(.seq (.seq (.reg yeL) (.cond (.t 14) .skip (.exit 0))) (.seq (.block 1 [] yeK) (.reg yeG)))
abbrev yeN:List AG:=[zz9 5 0]
abbrev yeO:List AG:=[zzh 4]
abbrev w05_Texts:AFun:=⟨(.seq (.reg yeO) (.seq (.seq (.reg yeN) (.block 0 yeF (.loop yeE yeM))) (.seq (.reg yeD) .ret))),27,[.tmp 4]⟩
abbrev yeP:List It:=[.code (.seq (.reg yeD) .ret)]
abbrev yeQ (x0 x1 x5:AV) (h:List Ob) (e:Cx:=cx):Cfg:=atC n_w05_Texts (.code yeM::.inLoop yeE yeM::.inBlock 0 yeF::yeP) [x0,x1,U,U,U,x5,U,U,U,U,U,U,U,U,U,U,U,U,U,U,U,U,U,U,U,U,U] h e
@[simp] theorem c_w05_Texts:cfun Tryz.prog n_w05_Texts=some w05_Texts:=by kernel_rfl
@[simp] theorem e_w05_Texts:hasBody Tryz.prog n_w05_Texts=true:=by kernel_rfl
abbrev yeR:List AG:=[zz4 18 1 1,zz2 19 1 18,zz4 20 2 1,zz2 21 1 20,zza 22 21,zzg 23 n_net_has 19 22,zz1 24 23,oy 25 24 (.off 3 (.t 1)),zzd 26 24 1 25,oy 27 24 (.len (.t 26)),oy 28 24 (.cmp .leq (.sc .int) (.t 27) (.c (.int .i64 128))),zz8 29 24 28,zz1 30 29,oy 31 30 (.off 3 (.t 1)),zzd 32 30 1 31,zze 33 30 3,oy 34 30 (.call (.f n_slices_ContainsFunc_string_string) [(.t 32),(.t 33)]),oy 35 30 (.not (.t 34)),zz8 36 30 35,zz1 2 36]
abbrev yeS:List AG:=[zzh 2]
abbrev yeT:ACode:=(.seq (.reg yeS) .ret)
abbrev yeU:List AG:=[zz4 5 1 1,zz2 6 1 5,o 7 (.cmp .neq (.sc .int) (.t 6) (.c (.int .i64 10))),zz1 8 7,oy 9 8 (.off 3 (.t 1)),zzd 10 8 1 9,oy 11 8 (.len (.t 10)),oy 12 8 (.cmp .gtr (.sc .int) (.t 11) (.c (.int .i64 0))),zze 13 8 12,on 14 13 (.off 4 (.t 1)),on 15 13 (.load false 1 (.t 14)),oy 16 8 (.pick (.t 13) (.c (.bool true)) (.t 15)),zz8 17 8 16]
abbrev yeV:List AG:=[o 4 (.mkFunc (.func n_net_Gate_1) [] [(.t 1)]),zz1 3 4]
abbrev yeW:List AG:=[o 1 (.box 5 (.t 0)),zzh 2]
abbrev net_Gate:AFun:=⟨(.seq (.reg yeW) (.seq (.reg yeV) (.seq (.seq (.reg yeU) (.cond (.t 17) yeT .skip)) (.seq (.reg yeR) .ret)))),37,[.tmp 2]⟩
@[simp] theorem c_net_Gate:cfun Tryz.prog n_net_Gate=some net_Gate:=by kernel_rfl
@[simp] theorem e_net_Gate:hasBody Tryz.prog n_net_Gate=true:=by kernel_rfl
abbrev yeX:List AG:=[zz3 35 2 3,zzb 2 2 35]
abbrev yeY:List AG:=[zz4 34 0 3,q (.store 1 (.t 34) (.f n_step_of_4))]
abbrev yeZ:List AG:=[zz4 33 0 3,q (.store 1 (.t 33) (.f n_step_of_3))]
abbrev yfa:List AG:=[zz4 32 0 3,q (.store 1 (.t 32) (.f n_step_of_2))]
abbrev yfb:List AG:=[zz4 31 0 3,q (.store 1 (.t 31) (.f n_step_of_1))]
abbrev yfc:List AG:=[o 30 (.cmp .eql (.sc .int) (.t 13) (.c (.int .i64 9))),zz1 28 30]
abbrev yfd:List AG:=[o 29 (.cmp .eql (.sc .int) (.t 13) (.c (.int .i64 8))),zz1 28 29]
abbrev yfe:List AG:=[o 27 (.cmp .eql (.sc .int) (.t 13) (.c (.int .i64 7))),zz1 25 27]
abbrev yff:List AG:=[o 26 (.cmp .eql (.sc .int) (.t 13) (.c (.int .i64 6))),zz1 25 26]
abbrev yfg:List AG:=[o 24 (.cmp .eql (.sc .int) (.t 13) (.c (.int .i64 5))),zz1 22 24]
abbrev yfh:List AG:=[o 23 (.cmp .eql (.sc .int) (.t 13) (.c (.int .i64 4))),zz1 22 23]
abbrev yfi:List AG:=[o 21 (.cmp .eql (.sc .int) (.t 13) (.c (.int .i64 3))),zz1 20 21]
abbrev yfj:List AG:=[o 19 (.cmp .eql (.sc .int) (.t 13) (.c (.int .i64 2))),zz1 18 19]
abbrev yfk:List AG:=[o 17 (.cmp .eql (.sc .int) (.t 13) (.c (.int .i64 1))),zz1 16 17]
abbrev yfl:List AG:=[o 15 (.cmp .eql (.sc .int) (.t 13) (.c (.int .i64 0))),zz1 14 15]
abbrev yfm:ACode:=(.seq (.seq (.seq (.reg yfl) (.cond (.t 14) (.exit 2) .skip)) (.seq (.seq (.reg yfk) (.cond (.t 16) (.exit 3) .skip)) (.seq (.seq (.reg yfj) (.cond (.t 18) (.exit 4) .skip)) (.seq (.seq (.reg yfi) (.cond (.t 20) (.exit 5) .skip)) (.seq (.seq (.seq (.reg yfh) (.cond (.t 22) .skip (.reg yfg))) (.cond (.t 22) (.exit 6) .skip)) (.seq (.seq (.seq (.reg yff) (.cond (.t 25) .skip (.reg yfe))) (.cond (.t 25) (.exit 7) .skip)) (.seq (.seq (.reg yfd) (.cond (.t 28) .skip (.reg yfc))) (.cond (.t 28) (.exit 8) .skip)))))))) (.exit 1))
abbrev yfn:ACode:=(.block 2 [] yfm)
abbrev yfo:ACode:=(.seq (.block 3 [] yfn) (.seq (.reg yfb) (.exit 1)))
abbrev yfp:ACode:=(.block 4 [] yfo)
abbrev yfq:ACode:=(.block 5 [] yfp)
abbrev yfr:ACode:=(.seq (.block 6 [] yfq) (.seq (.reg yfa) (.exit 1)))
abbrev yfs:ACode:=(.seq (.block 7 [] yfr) (.seq (.reg yeZ) (.exit 1)))
abbrev yft:ACode:=(.seq (.block 8 [] yfs) (.seq (.reg yeY) (.exit 1)))
abbrev yfu:List AG:=[zz1 13 0]
abbrev yfv:List AG:=[zz4 12 1 3,q (.store 1 (.t 12) (.c (.bool true)))]
abbrev yfw:List AG:=[o 11 (.cmp .eql (.sc .int) (.t 5) (.c (.int .i64 9))),zz1 6 11]
abbrev yfx:List AG:=[o 10 (.cmp .eql (.sc .int) (.t 5) (.c (.int .i64 7))),zz1 6 10]
abbrev yfy:ACode:=(.seq (.reg yfx) (.cond (.t 6) .skip (.reg yfw)))
abbrev yfz:List AG:=[o 9 (.cmp .eql (.sc .int) (.t 5) (.c (.int .i64 5))),zz1 6 9]
abbrev yfA:ACode:=(.seq (.reg yfz) (.cond (.t 6) .skip yfy))
abbrev yfB:List AG:=[o 8 (.cmp .eql (.sc .int) (.t 5) (.c (.int .i64 3))),zz1 6 8]
abbrev yfC:ACode:=(.seq (.reg yfB) (.cond (.t 6) .skip yfA))
abbrev yfD:List AG:=[o 7 (.cmp .eql (.sc .int) (.t 5) (.c (.int .i64 1))),zz1 6 7]
abbrev yfE:ACode:=(.seq (.seq (.reg yfD) (.cond (.t 6) .skip yfC)) (.cond (.t 6) (.reg yfv) .skip))
abbrev yfF:List AG:=[zz1 5 0]
abbrev yfG:List AG:=[o 4 (.build [.nilf,(.bool false)] []),o 3 (.alloc [.nilf,(.bool false)]),zzb 2 3 4]
abbrev yfH:List AG:=[o 2 (.alloc [.nilf,(.bool false)])]
abbrev step_of:AFun:=⟨(.seq (.reg yfH) (.seq (.reg yfG) (.seq (.seq (.reg yfF) (.block 0 [] yfE)) (.seq (.seq (.reg yfu) (.block 1 [] yft)) (.seq (.reg yeX) .ret))))),36,[.cell 2 true 2]⟩
@[simp] theorem c_step_of:cfun Tryz.prog n_step_of=some step_of:=by kernel_rfl
@[simp] theorem e_step_of:hasBody Tryz.prog n_step_of=true:=by kernel_rfl
abbrev yfI:List AG:=[zz4 4 3 1,zz2 5 1 4,o 6 (.mkFunc (.func n_step_Gate_1_1) [] [(.t 2)]),zzg 7 n_slices_ContainsFunc_string_string 5 6,zz1 3 7]
abbrev yfJ:List AG:=[o 2 (.box 1 (.t 0)),zzh 3]
abbrev step_Gate_1:AFun:=⟨(.seq (.reg yfJ) (.seq (.reg yfI) .ret)),8,[.tmp 3]⟩
@[simp] theorem c_step_Gate_1:cfun Tryz.prog n_step_Gate_1=some step_Gate_1:=by kernel_rfl
@[simp] theorem e_step_Gate_1:hasBody Tryz.prog n_step_Gate_1=true:=by kernel_rfl
abbrev yfK:List AG:=[zz1 5 0,zz1 6 1,zzg 7 n_slices_IndexFunc_string_string 5 6,o 8 (.cmp .geq (.sc .int) (.t 7) (.c (.int .i64 0))),zz1 4 8]
abbrev yfL:List AG:=[zzh 4]
abbrev slices_ContainsFunc_string_string:AFun:=⟨(.seq (.reg yfL) (.seq (.reg yfK) .ret)),9,[.tmp 4]⟩
@[simp] theorem c_slices_ContainsFunc_string_string:cfun Tryz.prog n_slices_ContainsFunc_string_string=some slices_ContainsFunc_string_string:=by kernel_rfl
@[simp] theorem e_slices_ContainsFunc_string_string:hasBody Tryz.prog n_slices_ContainsFunc_string_string=true:=by kernel_rfl
abbrev yfM:List AG:=[zz1 4 0,zz2 5 1 1,zzg 6 n_step_fits 4 5,zz1 3 6]
abbrev yfN:List AG:=[zzh 3]
abbrev step_Gate_1_1:AFun:=⟨(.seq (.reg yfN) (.seq (.reg yfM) .ret)),7,[.tmp 3]⟩
@[simp] theorem c_step_Gate_1_1:cfun Tryz.prog n_step_Gate_1_1=some step_Gate_1_1:=by kernel_rfl
@[simp] theorem e_step_Gate_1_1:hasBody Tryz.prog n_step_Gate_1_1=true:=by kernel_rfl
abbrev yfO:List AG:=[o 4 (.mv (.c (.bool true)))]
abbrev yfP:List Bool:=[I,O,O,O,O,O,O,I,I,I,O,O,O,O,O,O,O,O,O,O,O,O,O,O,O,O,O]
abbrev yfQ:List Bool:=[O,O,O,O,O,O,O,O,O,O,O,O,O,O,O,O,O,O,O,O,O,O,O,O,O,O,O]
abbrev yfR:List AG:=[zz6 26 9 1,zz1 9 26]
abbrev yfS:List AG:=[zzh 4]
abbrev yfT:ACode:=(.seq (.reg yfS) .ret)
abbrev yfU:List AG:=[zz1 14 0,zz1 15 5,o 16 (.ixStr (.t 14) (.t 15)),o 17 (.cmp .neq (.sc .int) (.t 16) (.c (.int .u8 45))),zz1 18 17,zze 19 18 0,zze 20 18 5,oy 21 18 (.ixStr (.t 19) (.t 20)),oy 22 18 (.cmp .eql (.sc .int) (.t 21) (.c (.int .u8 49))),zze 23 18 6,oy 24 18 (.cmp .neq (.sc .bool) (.t 22) (.t 23)),zz8 25 18 24]
abbrev yfV:List AG:=[zz1 11 9,zz5 12 1 7 9,zz2 13 1 12,zz1 5 11,zz1 6 13]
abbrev yfW:ACode:=(.seq (.reg yfV) (.seq (.reg yfU) (.cond (.t 25) yfT .skip)))
abbrev yfX:List AG:=[zz7 10 9 8]
abbrev yfY:ACode:=(.seq (.reg yfX) (.seq (.cond (.t 10) .skip (.exit 0)) (.seq (.block 1 [] yfW) (.reg yfR))))
abbrev yfZ:List AG:=[zz1 7 1,zza 8 7,zz9 9 0]
abbrev yga:List AG:=[zzh 4]
abbrev step_fits:AFun:=⟨(.seq (.reg yga) (.seq (.seq (.reg yfZ) (.block 0 yfQ (.loop yfP yfY))) (.seq (.reg yfO) .ret))),27,[.tmp 4]⟩
abbrev ygb:List It:=[.code (.seq (.reg yfO) .ret)]
abbrev ygc (x0 x7 x8 x9:AV) (h:List Ob) (e:Cx:=cx):Cfg:=atC n_step_fits (.code yfY::.inLoop yfP yfY::.inBlock 0 yfQ::ygb) [x0,U,U,U,U,U,U,x7,x8,x9,U,U,U,U,U,U,U,U,U,U,U,U,U,U,U,U,U] h e
@[simp] theorem c_step_fits:cfun Tryz.prog n_step_fits=some step_fits:=by kernel_rfl
@[simp] theorem e_step_fits:hasBody Tryz.prog n_step_fits=true:=by kernel_rfl
abbrev ygd:List AG:=[zz4 66 1 1,zz2 67 1 66,o 68 (.cmp .geq (.sc .int) (.t 67) (.c (.int .i64 4))),zz1 69 68,oy 70 69 (.off 1 (.t 1)),zzd 71 69 1 70,oy 72 69 (.cmp .leq (.sc .int) (.t 71) (.c (.int .i64 9))),zz8 73 69 72,zz1 74 73,zze 75 74 3,oy 76 74 (.cmp .geq (.sc .int) (.t 75) (.c (.int .i64 2))),zz8 77 74 76,zz1 78 77,zze 79 78 3,oy 80 78 (.cmp .leq (.sc .int) (.t 79) (.c (.int .i64 8))),zz8 81 78 80,zz1 2 81]
abbrev yge:List AG:=[zz1 64 3,o 65 (.cmp .eql (.sc .int) (.t 64) (.c (.int .i64 1))),zz1 2 65]
abbrev ygf:ACode:=(.seq (.reg yge) .ret)
abbrev ygg:List AG:=[zz4 56 1 1,zz2 57 1 56,o 58 (.cmp .eql (.sc .int) (.t 57) (.c (.int .i64 2))),zz1 59 58,on 60 59 (.off 1 (.t 1)),on 61 59 (.load false 1 (.t 60)),on 62 59 (.cmp .eql (.sc .int) (.t 61) (.c (.int .i64 3))),o 63 (.pick (.t 59) (.c (.bool true)) (.t 62))]
abbrev ygh:List AG:=[zz1 54 3,o 55 (.cmp .eql (.sc .int) (.t 54) (.c (.int .i64 0))),zz1 2 55]
abbrev ygi:ACode:=(.seq (.reg ygh) .ret)
abbrev ygj:List AG:=[zz4 46 1 1,zz2 47 1 46,o 48 (.cmp .eql (.sc .int) (.t 47) (.c (.int .i64 0))),zz1 49 48,on 50 49 (.off 1 (.t 1)),on 51 49 (.load false 1 (.t 50)),on 52 49 (.cmp .eql (.sc .int) (.t 51) (.c (.int .i64 1))),o 53 (.pick (.t 49) (.c (.bool true)) (.t 52))]
abbrev ygk:List AG:=[zzh 2]
abbrev ygl:ACode:=(.seq (.reg ygk) .ret)
abbrev ygm:List AG:=[zz4 38 3 1,zz2 39 1 38,zza 40 39,o 41 (.cmp .gtr (.sc .int) (.t 40) (.c (.int .i64 0))),zz1 42 41,on 43 42 (.off 4 (.t 1)),on 44 42 (.load false 1 (.t 43)),o 45 (.pick (.t 42) (.c (.bool true)) (.t 44))]
abbrev ygn:List AG:=[zz1 30 3,o 31 (.cmp .leq (.sc .int) (.t 30) (.c (.int .i64 8))),zz1 32 31,oy 33 32 (.off 3 (.t 1)),zzd 34 32 1 33,oy 35 32 (.len (.t 34)),oy 36 32 (.cmp .leq (.sc .int) (.t 35) (.c (.int .i64 128))),zz8 37 32 36,zz1 2 37]
abbrev ygo:List Bool:=[O,I,O,I,I,O,O,O,O,O,O,O,O,O,O,O,O,O,O,O,O,O,O,O,O,O,O,O,O,O,O,O,O,O,O,O,O,O,O,O,O,O,O,O,O,O,O,O,O,O,O,O,O,O,O,O,O,O,O,O,O,O,O,O,O,O,O,O,O,O,O,O,O,O,O,O,O,O,O,O,O,O]
abbrev ygp:List Bool:=[O,I,O,I,O,O,O,O,O,O,O,O,O,O,O,O,O,O,O,O,O,O,O,O,O,O,O,O,O,O,O,O,O,O,O,O,O,O,O,O,O,O,O,O,O,O,O,O,O,O,O,O,O,O,O,O,O,O,O,O,O,O,O,O,O,O,O,O,O,O,O,O,O,O,O,O,O,O,O,O,O,O]
abbrev ygq:List AG:=[zz1 20 4,zz6 21 20 1,zz1 4 21]
abbrev ygr:List AG:=[zzh 2]
abbrev ygs:ACode:=(.seq (.reg ygr) .ret)
abbrev ygt:List AG:=[zz4 22 3 1,zz2 23 1 22,zz1 24 4,zz5 25 1 23 24,zz2 26 1 25,zz1 27 3,zzg 28 n_r06_row 26 27,o 29 (.not (.t 28))]
abbrev ygu:ACode:=(.seq (.reg ygt) (.cond (.t 29) ygs .skip))
abbrev ygv:List AG:=[zz1 11 4,zz4 12 3 1,zz2 13 1 12,zza 14 13,zz7 15 11 14,zz1 16 15,zze 17 16 4,oy 18 16 (.cmp .leq (.sc .int) (.t 17) (.c (.int .i64 128))),zz8 19 16 18]
abbrev ygw:ACode:=(.seq (.seq (.reg ygv) (.cond (.t 19) .skip (.exit 0))) (.seq (.block 1 [] ygu) (.reg ygq)))
abbrev ygx:List AG:=[zz9 4 0]
abbrev ygy:ACode:=(.seq (.seq (.reg ygx) (.block 0 ygp (.loop ygo ygw))) (.seq (.reg ygn) .ret))
abbrev ygz:List AG:=[zz4 8 1 1,zz2 9 1 8,o 10 (.cmp .eql (.sc .int) (.t 9) (.c (.int .i64 10)))]
abbrev ygA:List AG:=[zz4 5 2 1,zz2 6 1 5,zza 7 6,zz1 3 7]
abbrev ygB:List AG:=[o 1 (.box 5 (.t 0)),zzh 2]
abbrev r06_Gate:AFun:=⟨(.seq (.reg ygB) (.seq (.reg ygA) (.seq (.seq (.reg ygz) (.cond (.t 10) ygy .skip)) (.seq (.seq (.reg ygm) (.cond (.t 45) ygl .skip)) (.seq (.seq (.reg ygj) (.cond (.t 53) ygi .skip)) (.seq (.seq (.reg ygg) (.cond (.t 63) ygf .skip)) (.seq (.reg ygd) .ret))))))),82,[.tmp 2]⟩
abbrev ygC:List It:=[.code (.seq (.reg ygn) .ret),.code (.seq (.seq (.reg ygm) (.cond (.t 45) ygl .skip)) (.seq (.seq (.reg ygj) (.cond (.t 53) ygi .skip)) (.seq (.seq (.reg ygg) (.cond (.t 63) ygf .skip)) (.seq (.reg ygd) .ret))))]
abbrev ygD (x1 x3 x4:AV) (h:List Ob) (e:Cx:=cx):Cfg:=atC n_r06_Gate (.code ygw::.inLoop ygo ygw::.inBlock 0 ygp::ygC) [U,x1,U,x3,x4,U,U,U,U,U,U,U,U,U,U,U,U,U,U,U,U,U,U,U,U,U,U,U,U,U,U,U,U,U,U,U,U,U,U,U,U,U,U,U,U,U,U,U,U,U,U,U,U,U,U,U,U,U,U,U,U,U,U,U,U,U,U,U,U,U,U,U,U,U,U,U,U,U,U,U,U,U] h e
@[simp] theorem c_r06_Gate:cfun Tryz.prog n_r06_Gate=some r06_Gate:=by kernel_rfl
@[simp] theorem e_r06_Gate:hasBody Tryz.prog n_r06_Gate=true:=by kernel_rfl
abbrev ygE:List AG:=[zz1 81 1,o 82 (.call (.f n_r06_odd) [(.t 81),(.c (.int .i64 0))]),zz1 83 0,o 84 (.cmp .eql (.sc .int) (.t 83) (.c (.int .i64 9))),zz1 4 82,zzh 5,zz1 6 84]
abbrev ygF:List AG:=[zz1 79 1,o 80 (.call (.f n_r06_odd) [(.t 79),(.c (.int .i64 1))]),zz1 4 80,zzh 5,o 6 (.mv (.c (.bool true)))]
abbrev ygG:ACode:=(.seq (.reg ygF) .ret)
abbrev ygH:List AG:=[zz1 77 0,o 78 (.cmp .eql (.sc .int) (.t 77) (.c (.int .i64 8)))]
abbrev ygI:List AG:=[o 4 (.nilrow 1 t_string),zzh 5,zzh 6]
abbrev ygJ:ACode:=(.seq (.reg ygI) .ret)
abbrev ygK:List AG:=[zz1 71 1,o 72 (.cmp .lss (.sc .int) (.t 71) (.c (.int .i64 2))),zz1 73 72,on 74 73 (.mv (.t 1)),on 75 73 (.cmp .gtr (.sc .int) (.t 74) (.c (.int .i64 8))),o 76 (.pick (.t 73) (.c (.bool true)) (.t 75))]
abbrev ygL:List AG:=[zz1 10 1,o 11 (.cmp .eql (.sc .int) (.t 10) (.c (.int .i64 0))),o 4 (.nilrow 1 t_string),zzh 5,zz1 6 11]
abbrev ygM:List AG:=[o 14 (.lit 1 [(.str [])] [(0,(.c (.str [])))]),zz1 15 1,o 16 (.cmp .eql (.sc .int) (.t 15) (.c (.int .i64 0))),zz1 4 14,zzh 5,zz1 6 16]
abbrev ygN:List AG:=[o 19 (.lit 1 [(.str [])] [(0,(.c (.str [49])))]),zz1 20 1,o 21 (.cmp .eql (.sc .int) (.t 20) (.c (.int .i64 1))),zz1 4 19,zzh 5,zz1 6 21]
abbrev ygO:List AG:=[o 24 (.lit 1 [(.str [])] [(0,(.c (.str [48])))]),zz1 25 1,o 26 (.cmp .eql (.sc .int) (.t 25) (.c (.int .i64 1))),zz1 4 24,zzh 5,zz1 6 26]
abbrev ygP:List AG:=[zz1 29 1,o 30 (.call (.f n_r06_all) [(.c (.str [49])),(.t 29)]),o 31 (.lit 1 [(.str [])] [(0,(.t 30))]),zz1 32 1,o 33 (.cmp .geq (.sc .int) (.t 32) (.c (.int .i64 2))),zz1 34 33,zze 35 34 1,oy 36 34 (.cmp .leq (.sc .int) (.t 35) (.c (.int .i64 8))),zz8 37 34 36,zz1 4 31,zzh 5,zz1 6 37]
abbrev ygQ:List AG:=[zz1 40 1,o 41 (.call (.f n_r06_all) [(.c (.str [49])),(.t 40)]),o 42 (.lit 1 [(.str [])] [(0,(.t 41))]),zz1 43 1,o 44 (.cmp .geq (.sc .int) (.t 43) (.c (.int .i64 2))),zz1 45 44,zze 46 45 1,oy 47 45 (.cmp .leq (.sc .int) (.t 46) (.c (.int .i64 8))),zz8 48 45 47,zz1 4 42,o 5 (.mv (.c (.bool true))),zz1 6 48]
abbrev ygR:List AG:=[zz1 51 1,o 52 (.call (.f n_r06_all) [(.c (.str [48])),(.t 51)]),o 53 (.lit 1 [(.str [])] [(0,(.t 52))]),zz1 54 1,o 55 (.cmp .geq (.sc .int) (.t 54) (.c (.int .i64 2))),zz1 56 55,zze 57 56 1,oy 58 56 (.cmp .leq (.sc .int) (.t 57) (.c (.int .i64 8))),zz8 59 56 58,zz1 4 53,o 5 (.mv (.c (.bool true))),zz1 6 59]
abbrev ygS:List AG:=[zz1 62 1,o 63 (.call (.f n_r06_all) [(.c (.str [48])),(.t 62)]),o 64 (.lit 1 [(.str [])] [(0,(.t 63))]),zz1 65 1,o 66 (.cmp .geq (.sc .int) (.t 65) (.c (.int .i64 2))),zz1 67 66,zze 68 67 1,oy 69 67 (.cmp .leq (.sc .int) (.t 68) (.c (.int .i64 8))),zz8 70 67 69,zz1 4 64,zzh 5,zz1 6 70]
abbrev ygT:ACode:=(.seq (.reg ygS) .ret)
abbrev ygU:List AG:=[o 61 (.cmp .eql (.sc .int) (.t 7) (.c (.int .i64 7))),zz1 60 61]
abbrev ygV:ACode:=(.seq (.reg ygR) .ret)
abbrev ygW:ACode:=(.seq (.reg ygU) (.cond (.t 60) ygT .skip))
abbrev ygX:List AG:=[o 50 (.cmp .eql (.sc .int) (.t 7) (.c (.int .i64 6))),zz1 49 50]
abbrev ygY:ACode:=(.seq (.reg ygQ) .ret)
abbrev ygZ:ACode:=(.seq (.reg ygX) (.cond (.t 49) ygV ygW))
abbrev yha:List AG:=[o 39 (.cmp .eql (.sc .int) (.t 7) (.c (.int .i64 5))),zz1 38 39]
abbrev yhb:ACode:=(.seq (.reg ygP) .ret)
abbrev yhc:ACode:=(.seq (.reg yha) (.cond (.t 38) ygY ygZ))
abbrev yhd:List AG:=[o 28 (.cmp .eql (.sc .int) (.t 7) (.c (.int .i64 4))),zz1 27 28]
abbrev yhe:ACode:=(.seq (.reg ygO) .ret)
abbrev yhf:ACode:=(.seq (.reg yhd) (.cond (.t 27) yhb yhc))
abbrev yhg:List AG:=[o 23 (.cmp .eql (.sc .int) (.t 7) (.c (.int .i64 3))),zz1 22 23]
abbrev yhh:ACode:=(.seq (.reg ygN) .ret)
abbrev yhi:ACode:=(.seq (.reg yhg) (.cond (.t 22) yhe yhf))
abbrev yhj:List AG:=[o 18 (.cmp .eql (.sc .int) (.t 7) (.c (.int .i64 2))),zz1 17 18]
abbrev yhk:ACode:=(.seq (.reg ygM) .ret)
abbrev yhl:ACode:=(.seq (.reg yhj) (.cond (.t 17) yhh yhi))
abbrev yhm:List AG:=[o 13 (.cmp .eql (.sc .int) (.t 7) (.c (.int .i64 1))),zz1 12 13]
abbrev yhn:ACode:=(.seq (.reg ygL) .ret)
abbrev yho:ACode:=(.seq (.reg yhm) (.cond (.t 12) yhk yhl))
abbrev yhp:List AG:=[o 9 (.cmp .eql (.sc .int) (.t 7) (.c (.int .i64 0))),zz1 8 9]
abbrev yhq:ACode:=(.seq (.reg yhp) (.cond (.t 8) yhn yho))
abbrev yhr:List AG:=[zz1 7 0]
abbrev yhs:List AG:=[o 4 (.nilrow 1 t_string),zzh 5,zzh 6]
abbrev r06_Rows:AFun:=⟨(.seq (.reg yhs) (.seq (.seq (.reg yhr) (.block 0 [] yhq)) (.seq (.seq (.reg ygK) (.cond (.t 76) ygJ .skip)) (.seq (.seq (.reg ygH) (.cond (.t 78) ygG .skip)) (.seq (.reg ygE) .ret))))),85,[.tmp 4,.tmp 5,.tmp 6]⟩
@[simp] theorem c_r06_Rows:cfun Tryz.prog n_r06_Rows=some r06_Rows:=by kernel_rfl
@[simp] theorem e_r06_Rows:hasBody Tryz.prog n_r06_Rows=true:=by kernel_rfl
abbrev yht:List AG:=[o 4 (.mv (.c (.bool true)))]
abbrev yhu:List Bool:=[I,I,O,O,O,I,O,O,O,O,O,O,O,O,O,O,O,O,O,O,O,O,O,O,O,O,O,O,O,O,O,O,O,O,O]
abbrev yhv:List Bool:=[O,O,O,O,O,O,O,O,O,O,O,O,O,O,O,O,O,O,O,O,O,O,O,O,O,O,O,O,O,O,O,O,O,O,O]
abbrev yhw:List AG:=[zz1 10 5,zz6 11 10 1,zz1 5 11]
abbrev yhx:List AG:=[zzh 4]
abbrev yhy:ACode:=(.seq (.reg yhx) .ret)
abbrev yhz:List AG:=[zz1 12 0,zz1 13 5,o 14 (.ixStr (.t 12) (.t 13)),o 15 (.cmp .eql (.sc .int) (.t 14) (.c (.int .u8 49))),zz1 16 15,zze 17 16 1,zze 18 16 5,oy 19 16 (.ixAddr 1 (.t 17) (.t 18)),zzd 20 16 1 19,oy 21 16 (.not (.t 20)),zz8 22 16 21,zz1 23 22,on 24 23 (.mv (.t 0)),on 25 23 (.mv (.t 5)),on 26 23 (.ixStr (.t 24) (.t 25)),on 27 23 (.cmp .eql (.sc .int) (.t 26) (.c (.int .u8 48))),on 28 23 (.mv (.t 27)),zze 29 28 1,zze 30 28 5,oy 31 28 (.ixAddr 1 (.t 29) (.t 30)),zzd 32 28 1 31,on 33 23 (.pick (.t 28) (.t 32) (.c (.bool false))),o 34 (.pick (.t 23) (.c (.bool true)) (.t 33))]
abbrev yhA:ACode:=(.seq (.reg yhz) (.cond (.t 34) yhy .skip))
abbrev yhB:List AG:=[zz1 6 5,zz1 7 1,zza 8 7,zz7 9 6 8]
abbrev yhC:ACode:=(.seq (.seq (.reg yhB) (.cond (.t 9) .skip (.exit 0))) (.seq (.block 1 [] yhA) (.reg yhw)))
abbrev yhD:List AG:=[zz9 5 0]
abbrev yhE:List AG:=[zzh 4]
abbrev r08_fits:AFun:=⟨(.seq (.reg yhE) (.seq (.seq (.reg yhD) (.block 0 yhv (.loop yhu yhC))) (.seq (.reg yht) .ret))),35,[.tmp 4]⟩
abbrev yhF:List It:=[.code (.seq (.reg yht) .ret)]
abbrev yhG (x0 x1 x5:AV) (h:List Ob) (e:Cx:=cx):Cfg:=atC n_r08_fits (.code yhC::.inLoop yhu yhC::.inBlock 0 yhv::yhF) [x0,x1,U,U,U,x5,U,U,U,U,U,U,U,U,U,U,U,U,U,U,U,U,U,U,U,U,U,U,U,U,U,U,U,U,U] h e
@[simp] theorem c_r08_fits:cfun Tryz.prog n_r08_fits=some r08_fits:=by kernel_rfl
@[simp] theorem e_r08_fits:hasBody Tryz.prog n_r08_fits=true:=by kernel_rfl
abbrev yhH:List AG:=[zz1 10 3,o 11 (.cmp .eql (.sc .int) (.t 10) (.c (.int .i64 0))),zz1 2 11]
abbrev yhI:List AG:=[zz3 6 4 1,zzf 7 n_order_Check 6,zz1 5 7,zzc 8 5 0,zzc 9 5 1,zz1 3 8,zz1 4 9]
abbrev yhJ:List AG:=[o 1 (.box 4 (.t 0)),zzh 2]
abbrev step_right:AFun:=⟨(.seq (.reg yhJ) (.seq (.reg yhI) (.seq (.reg yhH) .ret))),12,[.tmp 2]⟩
@[simp] theorem c_step_right:cfun Tryz.prog n_step_right=some step_right:=by kernel_rfl
@[simp] theorem e_step_right:hasBody Tryz.prog n_step_right=true:=by kernel_rfl
abbrev yhK:List AG:=[zz3 14 4 1,zz3 15 4 1,zzf 16 n_net_Nets 15,zz1 17 4,o 18 (.build [(.list true 0 []),(.list true 0 []),(.list true 0 []),(.list true 0 []),(.list true 0 []),(.list true 0 [])] [(0,4,(.t 14)),(4,1,(.t 16)),(5,1,(.t 17))]),o 19 (.box 6 (.t 18)),zz1 2 19,zz9 3 0]
abbrev yhL:List AG:=[zz3 10 4 1,zzf 11 n_order_Sort 10,zz1 9 11,zzc 12 9 0,zzc 13 9 1,zz1 4 12,zz1 5 13]
abbrev yhM:List AG:=[o 2 (.mv (.c .nilp)),zz9 3 1]
abbrev yhN:ACode:=(.seq (.reg yhM) .ret)
abbrev yhO:List AG:=[zz3 6 4 1,zzf 7 n_step_right 6,o 8 (.not (.t 7))]
abbrev yhP:List AG:=[o 1 (.box 4 (.t 0)),o 2 (.mv (.c .nilp)),zz9 3 0]
abbrev step_begin:AFun:=⟨(.seq (.reg yhP) (.seq (.seq (.reg yhO) (.cond (.t 8) yhN .skip)) (.seq (.reg yhL) (.seq (.dreg [I,O,O,O,O,O,O,O] [6,3,6,6,6,9,9,9] yhK) .ret)))),20,[.tmp 2,.tmp 3]⟩
@[simp] theorem c_step_begin:cfun Tryz.prog n_step_begin=some step_begin:=by kernel_rfl
@[simp] theorem e_step_begin:hasBody Tryz.prog n_step_begin=true:=by kernel_rfl
abbrev yhQ:List AG:=[zz1 85 8,zz1 6 85,zz9 7 0]
abbrev yhR:List Bool:=[I,O,O,O,O,O,O,O,I,O,O,O,O,O,O,O,O,O,O,O,O,O,O,O,O,O,O,O,O,O,O,O,O,O,O,O,O,O,O,O,O,O,O,O,O,O,O,O,O,O,O,O,O,O,O,O,O,O,I,I,I,O,O,O,O,O,O,O,O,O,O,O,O,O,O,O,O,O,O,O,O,O,O,O,O,O]
abbrev yhS:List Bool:=[O,O,O,O,O,O,O,O,I,O,O,O,O,O,O,O,O,O,O,O,O,O,O,O,O,O,O,O,O,O,O,O,O,O,O,O,O,O,O,O,O,O,O,O,O,O,O,O,O,O,O,O,O,O,O,O,O,O,O,O,O,O,O,O,O,O,O,O,O,O,O,O,O,O,O,O,O,O,O,O,O,O,O,O,O,O]
abbrev yhT:List AG:=[zz6 84 60 1,zz1 60 84]
abbrev yhU:List AG:=[zz1 73 8,zz4 74 0 13,zz2 75 1 74,zz3 76 5 13,zz1 77 8,zz4 78 2 13,zz2 79 1 78,zzg 80 n_step_pick 77 79,zzg 81 n_step_Gate 76 80,zz1 72 81,zzc 82 72 0,zzc 83 72 1,q (.upd (.sc .str) (.t 73) (.t 75) (.t 82))]
abbrev yhV:List AG:=[zz1 64 0,o 65 (.nilck (.t 64)),zz4 66 0 65,zz4 67 3 66,zz2 68 1 67,zz1 69 12,zz5 70 5 68 69,zz3 71 5 70,o 13 (.alloc [(.str []),(.int .i64 0),(.own 1 t_string []),(.own 1 t_string []),(.bool false)]),zzb 5 13 71]
abbrev yhW:List AG:=[zz5 62 1 58 60,zz2 63 1 62,zz1 12 63]
abbrev yhX:ACode:=(.seq (.reg yhW) (.seq (.reg yhV) (.dreg [O,O,I,I,O,O,O,O,O,O,O,O,O] [13,13,13,9,8,8,8,9,13,13,13,14,14] yhU)))
abbrev yhY:List AG:=[zz7 61 60 59]
abbrev yhZ:ACode:=(.seq (.reg yhY) (.seq (.cond (.t 61) .skip (.exit 2)) (.seq (.block 3 [] yhX) (.reg yhT))))
abbrev yia:List AG:=[zz1 55 0,o 56 (.nilck (.t 55)),zz4 57 5 56,zz2 58 1 57,zza 59 58,zz9 60 0]
abbrev yib:List Bool:=[I,O,O,O,O,O,O,O,I,O,O,O,O,O,O,O,O,O,O,O,O,O,O,O,O,O,O,O,O,O,O,O,O,O,O,O,O,O,I,I,I,O,O,O,O,O,O,O,O,O,O,O,O,O,O,O,O,O,O,O,O,O,O,O,O,O,O,O,O,O,O,O,O,O,O,O,O,O,O,O,O,O,O,O,O,O]
abbrev yic:List Bool:=[I,O,O,O,O,O,O,O,I,O,O,O,O,O,O,O,O,O,O,O,O,O,O,O,O,O,O,O,O,O,O,O,O,O,O,O,O,O,O,O,O,O,O,O,O,O,O,O,O,O,O,O,O,O,O,O,O,O,O,O,O,O,O,O,O,O,O,O,O,O,O,O,O,O,O,O,O,O,O,O,O,O,O,O,O,O]
abbrev yid:List AG:=[zz6 54 40 1,zz1 40 54]
abbrev yie:List AG:=[zz1 45 8,zz1 46 0,o 47 (.nilck (.t 46)),zz4 48 4 47,zz2 49 1 48,zz1 50 9,zz5 51 1 49 50,zz2 52 1 51,zz1 53 10,q (.upd (.sc .str) (.t 45) (.t 52) (.t 53))]
abbrev yif:List AG:=[zz1 42 40,zz5 43 1 38 40,zz2 44 1 43,zz1 9 42,zz1 10 44]
abbrev yig:ACode:=(.seq (.reg yif) (.reg yie))
abbrev yih:List AG:=[zz7 41 40 39]
abbrev yii:ACode:=(.seq (.reg yih) (.seq (.cond (.t 41) .skip (.exit 0)) (.seq (.block 1 [] yig) (.reg yid))))
abbrev yij:List AG:=[zz1 35 2,zz1 36 1,o 37 (.lit 1 [(.list true 0 []),(.list true 0 [])] [(0,(.t 35)),(1,(.t 36))]),zzf 38 n_slices_Concat_bool_bool 37,zza 39 38,zz9 40 0]
abbrev yik:List AG:=[o 34 (.mkMap),zz1 8 34]
abbrev yil:List AG:=[o 6 (.mv (.c .nilm)),zz9 7 11]
abbrev yim:ACode:=(.seq (.reg yil) .ret)
abbrev yin:List AG:=[zz1 14 1,zza 15 14,zz1 16 0,o 17 (.nilck (.t 16)),zz4 18 0 17,zz4 19 2 18,zz2 20 1 19,zza 21 20,o 22 (.cmp .neq (.sc .int) (.t 15) (.t 21)),zz1 23 22,on 24 23 (.mv (.t 2)),on 25 23 (.len (.t 24)),on 26 23 (.mv (.t 0)),on 27 23 (.nilck (.t 26)),on 28 23 (.off 0 (.t 27)),on 29 23 (.off 0 (.t 28)),on 30 23 (.load false 1 (.t 29)),on 31 23 (.len (.t 30)),on 32 23 (.cmp .neq (.sc .int) (.t 25) (.t 31)),o 33 (.pick (.t 23) (.c (.bool true)) (.t 32))]
abbrev yio:List AG:=[o 6 (.mv (.c .nilm)),zz9 7 0]
abbrev step_machine_values:AFun:=⟨(.seq (.reg yio) (.seq (.seq (.reg yin) (.cond (.t 33) yim .skip)) (.seq (.reg yik) (.seq (.seq (.reg yij) (.block 0 yic (.loop yib yii))) (.seq (.seq (.reg yia) (.block 2 yhS (.loop yhR yhZ))) (.seq (.reg yhQ) .ret)))))),86,[.tmp 6,.tmp 7]⟩
abbrev yip:List It:=[.code (.seq (.reg yhQ) .ret)]
abbrev yiq (x0 x8 x58 x59 x60:AV) (h:List Ob) (e:Cx:=cx):Cfg:=atC n_step_machine_values (.code yhZ::.inLoop yhR yhZ::.inBlock 2 yhS::yip) [x0,U,U,U,U,U,U,U,x8,U,U,U,U,U,U,U,U,U,U,U,U,U,U,U,U,U,U,U,U,U,U,U,U,U,U,U,U,U,U,U,U,U,U,U,U,U,U,U,U,U,U,U,U,U,U,U,U,U,x58,x59,x60,U,U,U,U,U,U,U,U,U,U,U,U,U,U,U,U,U,U,U,U,U,U,U,U,U] h e
abbrev yir (x8:AV) (h:List Ob) (e:Cx:=cx):Cfg:=atC n_step_machine_values yip [U,U,U,U,U,U,U,U,x8,U,U,U,U,U,U,U,U,U,U,U,U,U,U,U,U,U,U,U,U,U,U,U,U,U,U,U,U,U,U,U,U,U,U,U,U,U,U,U,U,U,U,U,U,U,U,U,U,U,U,U,U,U,U,U,U,U,U,U,U,U,U,U,U,U,U,U,U,U,U,U,U,U,U,U,U,U] h e
abbrev yis:List It:=[.code (.seq (.seq (.reg yia) (.block 2 yhS (.loop yhR yhZ))) (.seq (.reg yhQ) .ret))]
abbrev yit (x0 x8 x38 x39 x40:AV) (h:List Ob) (e:Cx:=cx):Cfg:=atC n_step_machine_values (.code yii::.inLoop yib yii::.inBlock 0 yic::yis) [x0,U,U,U,U,U,U,U,x8,U,U,U,U,U,U,U,U,U,U,U,U,U,U,U,U,U,U,U,U,U,U,U,U,U,U,U,U,U,x38,x39,x40,U,U,U,U,U,U,U,U,U,U,U,U,U,U,U,U,U,U,U,U,U,U,U,U,U,U,U,U,U,U,U,U,U,U,U,U,U,U,U,U,U,U,U,U,U] h e
abbrev yiu (x0 x8:AV) (h:List Ob) (e:Cx:=cx):Cfg:=atC n_step_machine_values yis [x0,U,U,U,U,U,U,U,x8,U,U,U,U,U,U,U,U,U,U,U,U,U,U,U,U,U,U,U,U,U,U,U,U,U,U,U,U,U,U,U,U,U,U,U,U,U,U,U,U,U,U,U,U,U,U,U,U,U,U,U,U,U,U,U,U,U,U,U,U,U,U,U,U,U,U,U,U,U,U,U,U,U,U,U,U,U] h e
@[simp] theorem c_step_machine_values:cfun Tryz.prog n_step_machine_values=some step_machine_values:=by kernel_rfl
@[simp] theorem e_step_machine_values:hasBody Tryz.prog n_step_machine_values=true:=by kernel_rfl
abbrev yiv:List AG:=[zz1 21 5,zz1 4 21]
abbrev yiw:List Bool:=[I,O,O,O,O,I,O,O,I,I,I,O,O,O,O,O,O,O,O,O,O,O]
abbrev yix:List Bool:=[O,O,O,O,O,I,O,O,O,O,O,O,O,O,O,O,O,O,O,O,O,O]
abbrev yiy:List AG:=[zz6 20 10 1,zz1 10 20]
abbrev yiz:List AG:=[zz1 14 5,zz1 15 0,zz1 16 7,o 17 (.lookup (.sc .str) (.bool false) (.t 15) (.t 16) false),o 18 (.lit 1 [(.bool false)] [(0,(.t 17))]),o 19 (.append 1 t_bool 1 (.t 14) (.t 18)),zz1 5 19]
abbrev yiA:List AG:=[zz5 12 1 8 10,zz2 13 1 12,zz1 7 13]
abbrev yiB:ACode:=(.seq (.reg yiA) (.reg yiz))
abbrev yiC:List AG:=[zz7 11 10 9]
abbrev yiD:ACode:=(.seq (.reg yiC) (.seq (.cond (.t 11) .skip (.exit 0)) (.seq (.block 1 [] yiB) (.reg yiy))))
abbrev yiE:List AG:=[zz1 8 1,zza 9 8,zz9 10 0]
abbrev yiF:List AG:=[o 5 (.nilrow 1 t_bool)]
abbrev yiG:List AG:=[o 4 (.nilrow 1 t_bool)]
abbrev step_pick:AFun:=⟨(.seq (.reg yiG) (.seq (.reg yiF) (.seq (.seq (.reg yiE) (.block 0 yix (.loop yiw yiD))) (.seq (.reg yiv) .ret)))),22,[.tmp 4]⟩
abbrev yiH:List It:=[.code (.seq (.reg yiv) .ret)]
abbrev yiI (x0 x5 x8 x9 x10:AV) (h:List Ob) (e:Cx:=cx):Cfg:=atC n_step_pick (.code yiD::.inLoop yiw yiD::.inBlock 0 yix::yiH) [x0,U,U,U,U,x5,U,U,x8,x9,x10,U,U,U,U,U,U,U,U,U,U,U] h e
@[simp] theorem c_step_pick:cfun Tryz.prog n_step_pick=some step_pick:=by kernel_rfl
@[simp] theorem e_step_pick:hasBody Tryz.prog n_step_pick=true:=by kernel_rfl
abbrev yiJ:List AG:=[zz1 42 9,zz1 43 0,o 44 (.nilck (.t 43)),zz4 45 0 44,zz4 46 1 45,zz2 47 1 46,zzg 48 n_step_pick 42 47,zz1 49 11,zz1 6 48,zz1 7 49,zz9 8 0]
abbrev yiK:List Bool:=[I,O,O,O,O,O,O,O,O,I,O,I,O,O,O,O,O,O,O,O,O,O,O,O,O,O,O,O,I,I,I,O,O,O,O,O,O,O,O,O,O,O,O,O,O,O,O,O,O,O]
abbrev yiL:List Bool:=[I,O,O,O,O,O,O,O,O,I,O,I,O,O,O,O,O,O,O,O,O,O,O,O,O,O,O,O,O,O,O,O,O,O,O,O,O,O,O,O,O,O,O,O,O,O,O,O,O,O]
abbrev yiM:List AG:=[zz6 41 30 1,zz1 30 41]
abbrev yiN:List AG:=[zz1 34 11,zz1 35 9,zz4 36 1 13,zz2 37 1 36,o 38 (.lookup (.sc .str) (.bool false) (.t 35) (.t 37) false),o 39 (.lit 1 [(.bool false)] [(0,(.t 38))]),o 40 (.append 1 t_bool 1 (.t 34) (.t 39)),zz1 11 40]
abbrev yiO:List AG:=[zz5 32 3 28 30,zz3 33 3 32,o 13 (.alloc [(.str []),(.str []),(.int .i64 0)]),zzb 3 13 33]
abbrev yiP:ACode:=(.seq (.reg yiO) (.reg yiN))
abbrev yiQ:List AG:=[zz7 31 30 29]
abbrev yiR:ACode:=(.seq (.reg yiQ) (.seq (.cond (.t 31) .skip (.exit 0)) (.seq (.block 1 [] yiP) (.reg yiM))))
abbrev yiS:List AG:=[zz1 24 0,o 25 (.nilck (.t 24)),zz4 26 0 25,zz4 27 2 26,zz2 28 1 27,zza 29 28,zz9 30 0]
abbrev yiT:List AG:=[o 11 (.nilrow 1 t_bool)]
abbrev yiU:List AG:=[zz1 23 10,o 6 (.nilrow 1 t_bool),o 7 (.nilrow 1 t_bool),zz1 8 23]
abbrev yiV:ACode:=(.seq (.reg yiU) .ret)
abbrev yiW:List AG:=[zz1 21 10,o 22 (.cmp .neq (.sc .int) (.t 21) (.c (.int .i64 0)))]
abbrev yiX:List AG:=[zz1 15 0,zz1 16 1,zz1 17 2,o 18 (.call (.f n_step_machine_values) [(.t 15),(.t 16),(.t 17)]),zz1 14 18,zzc 19 14 0,zzc 20 14 1,zz1 9 19,zz1 10 20]
abbrev yiY:List AG:=[o 6 (.nilrow 1 t_bool),o 7 (.nilrow 1 t_bool),zz9 8 0]
abbrev step_machine_step:AFun:=⟨(.seq (.reg yiY) (.seq (.reg yiX) (.seq (.seq (.reg yiW) (.cond (.t 22) yiV .skip)) (.seq (.reg yiT) (.seq (.seq (.reg yiS) (.block 0 yiL (.loop yiK yiR))) (.seq (.reg yiJ) .ret)))))),50,[.tmp 6,.tmp 7,.tmp 8]⟩
abbrev yiZ:List It:=[.code (.seq (.reg yiJ) .ret)]
abbrev yja (x0 x9 x11 x28 x29 x30:AV) (h:List Ob) (e:Cx:=cx):Cfg:=atC n_step_machine_step (.code yiR::.inLoop yiK yiR::.inBlock 0 yiL::yiZ) [x0,U,U,U,U,U,U,U,U,x9,U,x11,U,U,U,U,U,U,U,U,U,U,U,U,U,U,U,U,x28,x29,x30,U,U,U,U,U,U,U,U,U,U,U,U,U,U,U,U,U,U,U] h e
abbrev yjb (x0 x9 x11:AV) (h:List Ob) (e:Cx:=cx):Cfg:=atC n_step_machine_step yiZ [x0,U,U,U,U,U,U,U,U,x9,U,x11,U,U,U,U,U,U,U,U,U,U,U,U,U,U,U,U,U,U,U,U,U,U,U,U,U,U,U,U,U,U,U,U,U,U,U,U,U,U] h e
@[simp] theorem c_step_machine_step:cfun Tryz.prog n_step_machine_step=some step_machine_step:=by kernel_rfl
@[simp] theorem e_step_machine_step:hasBody Tryz.prog n_step_machine_step=true:=by kernel_rfl
abbrev yjc:List AG:=[o 9 (.mkFunc (.func n_step_machine_steps_1) [] [(.t 6),(.t 4),(.t 5),(.t 7)]),zz1 8 9]
abbrev yjd:List AG:=[o 4 (.box 1 (.t 0)),o 5 (.box 1 (.t 1)),o 6 (.box 1 (.t 2)),o 7 (.box 1 (.t 3)),o 8 (.mv (.c .nilf))]
abbrev step_machine_steps:AFun:=⟨(.seq (.reg yjd) (.seq (.reg yjc) .ret)),10,[.tmp 8]⟩
@[simp] theorem c_step_machine_steps:cfun Tryz.prog n_step_machine_steps=some step_machine_steps:=by kernel_rfl
@[simp] theorem e_step_machine_steps:hasBody Tryz.prog n_step_machine_steps=true:=by kernel_rfl
abbrev yje:List AG:=[o 5 (.lit 1 [] []),zz1 6 0,o 7 (.append 1 t_bool 1 (.t 5) (.t 6)),zz1 2 7]
abbrev yjf:List AG:=[o 2 (.nilrow 1 t_bool)]
abbrev yjg:ACode:=(.seq (.reg yjf) .ret)
abbrev yjh:List AG:=[zz1 3 0,o 4 (.isnil false (.t 3))]
abbrev yji:List AG:=[o 2 (.nilrow 1 t_bool)]
abbrev slices_Clone_bool_bool:AFun:=⟨(.seq (.reg yji) (.seq (.seq (.reg yjh) (.cond (.t 4) yjg .skip)) (.seq (.reg yje) .ret))),8,[.tmp 2]⟩
@[simp] theorem c_slices_Clone_bool_bool:cfun Tryz.prog n_slices_Clone_bool_bool=some slices_Clone_bool_bool:=by kernel_rfl
@[simp] theorem e_slices_Clone_bool_bool:hasBody Tryz.prog n_slices_Clone_bool_bool=true:=by kernel_rfl
abbrev yjj:List AG:=[zz1 10 3,o 11 (.cmp .eql (.sc .int) (.t 10) (.c (.int .i64 0))),zz1 2 11]
abbrev yjk:List AG:=[zz3 6 4 1,zzf 7 n_net_Check 6,zz1 5 7,zzc 8 5 0,zzc 9 5 1,zz1 3 8,zz1 4 9]
abbrev yjl:List AG:=[o 1 (.box 4 (.t 0)),zzh 2]
abbrev order_right:AFun:=⟨(.seq (.reg yjl) (.seq (.reg yjk) (.seq (.reg yjj) .ret))),12,[.tmp 2]⟩
@[simp] theorem c_order_right:cfun Tryz.prog n_order_right=some order_right:=by kernel_rfl
@[simp] theorem e_order_right:hasBody Tryz.prog n_order_right=true:=by kernel_rfl
abbrev yjm:List AG:=[o 5 (.lit 1 [] []),zz1 6 0,o 7 (.append 1 t_string 16 (.t 5) (.t 6)),zz1 2 7]
abbrev yjn:List AG:=[o 2 (.nilrow 1 t_string)]
abbrev yjo:ACode:=(.seq (.reg yjn) .ret)
abbrev yjp:List AG:=[zz1 3 0,o 4 (.isnil false (.t 3))]
abbrev yjq:List AG:=[o 2 (.nilrow 1 t_string)]
abbrev slices_Clone_string_string:AFun:=⟨(.seq (.reg yjq) (.seq (.seq (.reg yjp) (.cond (.t 4) yjo .skip)) (.seq (.reg yjm) .ret))),8,[.tmp 2]⟩
@[simp] theorem c_slices_Clone_string_string:cfun Tryz.prog n_slices_Clone_string_string=some slices_Clone_string_string:=by kernel_rfl
@[simp] theorem e_slices_Clone_string_string:hasBody Tryz.prog n_slices_Clone_string_string=true:=by kernel_rfl
abbrev yjr:List AG:=[zz1 13 6,zz1 14 13,zze 15 14 1,oy 16 14 (.arrAddr 2 1 (.t 5) (.c (.int .i64 0))),zzd 17 14 1 16,oy 18 14 (.cmp .geq (.sc .int) (.t 15) (.t 17)),zz8 19 14 18,zz1 20 19,zze 21 20 1,oy 22 20 (.arrAddr 2 1 (.t 5) (.c (.int .i64 1))),zzd 23 20 1 22,oy 24 20 (.cmp .leq (.sc .int) (.t 21) (.t 23)),zz8 25 20 24,zz1 4 25]
abbrev yjs:List AG:=[o 8 (.load false 1 (.g 0)),zz1 9 0,o 10 (.lookup (.sc .int) (.agg [(.int .i64 0),(.int .i64 0)]) (.t 8) (.t 9) true),zz1 7 10,zzc 11 7 0,zzc 12 7 1,o 5 (.alloc [(.int .i64 0),(.int .i64 0)]),zzb 2 5 11,zz1 6 12]
abbrev yjt:List AG:=[zzh 4]
abbrev net_has:AFun:=⟨(.seq (.reg yjt) (.seq (.reg yjs) (.seq (.reg yjr) .ret))),26,[.tmp 4]⟩
@[simp] theorem c_net_has:cfun Tryz.prog n_net_has=some net_has:=by kernel_rfl
@[simp] theorem e_net_has:hasBody Tryz.prog n_net_has=true:=by kernel_rfl
abbrev yju:List AG:=[zz2 45 1 8,zz1 4 45,zzh 5]
abbrev yjv:List AG:=[zz1 9 40]
abbrev yjw:List AG:=[zz2 41 1 8,zz1 42 9,o 43 (.lit 1 [(.str [])] [(0,(.t 42))]),o 44 (.append 1 t_string 16 (.t 41) (.t 43)),zzb 1 8 44]
abbrev yjx:ACode:=(.block 2 [] (.reg yjw))
abbrev yjy:ACode:=(.rangeFunc (.t 39) [40] [O,O,O,O,I,I,O,O,I,O,O,O,O,O,O,O,O,O,O,O,O,O,O,O,O,O,O,O,O,O,O,O,O,O,O,O,O,O,O,O,O,O,O,O,O,O] (.reg yjv) yjx)
abbrev yjz:List AG:=[zz1 36 1,zz1 37 0,o 38 (.cmp .eql (.sc .int) (.t 37) (.c (.int .i64 8))),zzg 39 n_net_parity 36 38]
abbrev yjA:List AG:=[o 8 (.alloc [(.own 1 t_string [])])]
abbrev yjB:List AG:=[o 4 (.nilrow 1 t_string),zzh 5]
abbrev yjC:List AG:=[zz1 21 6,o 22 (.lit 1 [(.str [])] [(0,(.t 21))]),zz1 4 22,zzh 5]
abbrev yjD:List AG:=[zz1 26 7,o 27 (.lit 1 [(.str [])] [(0,(.t 26))]),zz1 4 27,zzh 5]
abbrev yjE:List AG:=[zz1 30 6,o 31 (.lit 1 [(.str [])] [(0,(.t 30))]),zz1 4 31,o 5 (.mv (.c (.bool true)))]
abbrev yjF:List AG:=[zz1 34 7,o 35 (.lit 1 [(.str [])] [(0,(.t 34))]),zz1 4 35,o 5 (.mv (.c (.bool true)))]
abbrev yjG:ACode:=(.seq (.reg yjF) .ret)
abbrev yjH:List AG:=[o 33 (.cmp .eql (.sc .int) (.t 14) (.c (.int .i64 6))),zz1 32 33]
abbrev yjI:ACode:=(.seq (.reg yjE) .ret)
abbrev yjJ:ACode:=(.seq (.reg yjH) (.cond (.t 32) yjG .skip))
abbrev yjK:List AG:=[o 29 (.cmp .eql (.sc .int) (.t 14) (.c (.int .i64 5))),zz1 28 29]
abbrev yjL:ACode:=(.seq (.reg yjD) .ret)
abbrev yjM:ACode:=(.seq (.reg yjK) (.cond (.t 28) yjI yjJ))
abbrev yjN:List AG:=[o 25 (.cmp .eql (.sc .int) (.t 14) (.c (.int .i64 7))),zz1 23 25]
abbrev yjO:List AG:=[o 24 (.cmp .eql (.sc .int) (.t 14) (.c (.int .i64 3))),zz1 23 24]
abbrev yjP:ACode:=(.seq (.reg yjC) .ret)
abbrev yjQ:ACode:=(.seq (.seq (.reg yjO) (.cond (.t 23) .skip (.reg yjN))) (.cond (.t 23) yjL yjM))
abbrev yjR:List AG:=[o 20 (.cmp .eql (.sc .int) (.t 14) (.c (.int .i64 4))),zz1 17 20]
abbrev yjS:List AG:=[o 19 (.cmp .eql (.sc .int) (.t 14) (.c (.int .i64 2))),zz1 17 19]
abbrev yjT:ACode:=(.seq (.reg yjS) (.cond (.t 17) .skip (.reg yjR)))
abbrev yjU:List AG:=[o 18 (.cmp .eql (.sc .int) (.t 14) (.c (.int .i64 1))),zz1 17 18]
abbrev yjV:ACode:=(.seq (.reg yjB) .ret)
abbrev yjW:ACode:=(.seq (.seq (.reg yjU) (.cond (.t 17) .skip yjT)) (.cond (.t 17) yjP yjQ))
abbrev yjX:List AG:=[o 16 (.cmp .eql (.sc .int) (.t 14) (.c (.int .i64 0))),zz1 15 16]
abbrev yjY:ACode:=(.seq (.reg yjX) (.cond (.t 15) yjV yjW))
abbrev yjZ:List AG:=[zz1 14 0]
abbrev yka:List AG:=[zz1 10 1,o 11 (.call (.f n_strings_Repeat) [(.c (.str [49])),(.t 10)]),zz1 12 1,o 13 (.call (.f n_strings_Repeat) [(.c (.str [48])),(.t 12)]),zz1 6 11,zz1 7 13]
abbrev ykb:List AG:=[o 4 (.nilrow 1 t_string),zzh 5]
abbrev net_rows:AFun:=⟨(.seq (.reg ykb) (.seq (.reg yka) (.seq (.seq (.reg yjZ) (.block 0 [] yjY)) (.seq (.reg yjA) (.seq (.seq (.reg yjz) (.block 1 [] yjy)) (.seq (.reg yju) .ret)))))),46,[.tmp 4,.tmp 5]⟩
@[simp] theorem c_net_rows:cfun Tryz.prog n_net_rows=some net_rows:=by kernel_rfl
@[simp] theorem e_net_rows:hasBody Tryz.prog n_net_rows=true:=by kernel_rfl
abbrev ykc:List AG:=[o 4 (.mv (.c (.bool true)))]
abbrev ykd:List Bool:=[I,I,O,O,O,O,O,O,O,O,O,O,I,I,O,O,O,O,O,O,O,O,O,O,O,O]
abbrev yke:List Bool:=[O,O,O,O,O,O,O,O,O,O,O,O,O,O,O,O,O,O,O,O,O,O,O,O,O,O]
abbrev ykf:List AG:=[zz6 25 13 1,zz1 13 25]
abbrev ykg:List AG:=[zzh 4]
abbrev ykh:ACode:=(.seq (.reg ykg) .ret)
abbrev yki:List AG:=[zz1 16 0,zz1 17 5,zz5 18 1 16 17,zz2 19 1 18,zz1 20 1,zz1 21 5,zz5 22 1 20 21,zz2 23 1 22,o 24 (.cmp .neq (.sc .str) (.t 19) (.t 23))]
abbrev ykj:List AG:=[zz1 15 13,zz1 5 15]
abbrev ykk:ACode:=(.seq (.reg ykj) (.seq (.dreg [O,O,O,O,O,O,O,O,O] [10,10,10,10,10,10,10,10,10] yki) (.cond (.t 24) ykh .skip)))
abbrev ykl:List AG:=[zz7 14 13 12]
abbrev ykm:ACode:=(.seq (.reg ykl) (.seq (.cond (.t 14) .skip (.exit 0)) (.seq (.block 1 [] ykk) (.reg ykf))))
abbrev ykn:List AG:=[zz1 11 0,zza 12 11,zz9 13 0]
abbrev yko:List AG:=[zzh 4]
abbrev ykp:ACode:=(.seq (.reg yko) .ret)
abbrev ykq:List AG:=[zz1 6 0,zza 7 6,zz1 8 1,zza 9 8,o 10 (.cmp .neq (.sc .int) (.t 7) (.t 9))]
abbrev ykr:List AG:=[zzh 4]
abbrev slices_Equal_string_string:AFun:=⟨(.seq (.reg ykr) (.seq (.seq (.reg ykq) (.cond (.t 10) ykp .skip)) (.seq (.seq (.reg ykn) (.block 0 yke (.loop ykd ykm))) (.seq (.reg ykc) .ret)))),26,[.tmp 4]⟩
@[simp] theorem c_slices_Equal_string_string:cfun Tryz.prog n_slices_Equal_string_string=some slices_Equal_string_string:=by kernel_rfl
@[simp] theorem e_slices_Equal_string_string:hasBody Tryz.prog n_slices_Equal_string_string=true:=by kernel_rfl
abbrev yks:List AG:=[zz1 4 0,zz4 5 2 1,zz2 6 1 5,zza 7 6,zzg 8 n_net_row 4 7,o 9 (.not (.t 8)),zz1 3 9]
abbrev ykt:List AG:=[zzh 3]
abbrev net_Gate_1:AFun:=⟨(.seq (.reg ykt) (.seq (.reg yks) .ret)),10,[.tmp 3]⟩
@[simp] theorem c_net_Gate_1:cfun Tryz.prog n_net_Gate_1=some net_Gate_1:=by kernel_rfl
@[simp] theorem e_net_Gate_1:hasBody Tryz.prog n_net_Gate_1=true:=by kernel_rfl
abbrev yku:List AG:=[zz1 5 0,o 6 (.lenStr (.t 5)),zz1 7 1,o 8 (.cmp .eql (.sc .int) (.t 6) (.t 7)),zz1 9 8,zze 10 9 0,oy 11 9 (.call (.f n_strings_Trim) [(.t 10),(.c (.str [48,49,45]))]),oy 12 9 (.cmp .eql (.sc .str) (.t 11) (.c (.str []))),zz8 13 9 12,zz1 4 13]
abbrev ykv:List AG:=[zzh 4]
abbrev net_row:AFun:=⟨(.seq (.reg ykv) (.seq (.reg yku) .ret)),14,[.tmp 4]⟩
@[simp] theorem c_net_row:cfun Tryz.prog n_net_row=some net_row:=by kernel_rfl
@[simp] theorem e_net_row:hasBody Tryz.prog n_net_row=true:=by kernel_rfl
abbrev ykw:List AG:=[zzh 2]
abbrev ykx:List AG:=[zzh 2]
abbrev step_of_1:AFun:=⟨(.seq (.reg ykx) (.seq (.reg ykw) .ret)),3,[.tmp 2]⟩
@[simp] theorem c_step_of_1:cfun Tryz.prog n_step_of_1=some step_of_1:=by kernel_rfl
@[simp] theorem e_step_of_1:hasBody Tryz.prog n_step_of_1=true:=by kernel_rfl
abbrev yky:List AG:=[zz1 3 0,zzf 4 n_step_count 3,zz1 5 0,zza 6 5,o 7 (.cmp .eql (.sc .int) (.t 4) (.t 6)),zz1 2 7]
abbrev ykz:List AG:=[zzh 2]
abbrev step_of_2:AFun:=⟨(.seq (.reg ykz) (.seq (.reg yky) .ret)),8,[.tmp 2]⟩
@[simp] theorem c_step_of_2:cfun Tryz.prog n_step_of_2=some step_of_2:=by kernel_rfl
@[simp] theorem e_step_of_2:hasBody Tryz.prog n_step_of_2=true:=by kernel_rfl
abbrev ykA:List AG:=[zz1 16 3,zz1 2 16]
abbrev ykB:List Bool:=[O,O,O,I,O,O,I,I,I,O,O,O,O,O,O,O,O]
abbrev ykC:List Bool:=[O,O,O,I,O,O,O,O,O,O,O,O,O,O,O,O,O]
abbrev ykD:List AG:=[zz6 15 8 1,zz1 8 15]
abbrev ykE:List AG:=[zz1 13 3,zz6 14 13 1,zz1 3 14]
abbrev ykF:List AG:=[zz1 12 5]
abbrev ykG:List AG:=[zz5 10 1 6 8,zz2 11 1 10,zz1 5 11]
abbrev ykH:ACode:=(.seq (.reg ykG) (.seq (.reg ykF) (.cond (.t 12) (.reg ykE) .skip)))
abbrev ykI:List AG:=[zz7 9 8 7]
abbrev ykJ:ACode:=(.seq (.reg ykI) (.seq (.cond (.t 9) .skip (.exit 0)) (.seq (.block 1 [] ykH) (.reg ykD))))
abbrev ykK:List AG:=[zz1 6 0,zza 7 6,zz9 8 0]
abbrev ykL:List AG:=[zz9 3 0]
abbrev ykM:List AG:=[zz9 2 0]
abbrev step_count:AFun:=⟨(.seq (.reg ykM) (.seq (.reg ykL) (.seq (.seq (.reg ykK) (.block 0 ykC (.loop ykB ykJ))) (.seq (.reg ykA) .ret)))),17,[.tmp 2]⟩
abbrev ykN:List It:=[.code (.seq (.reg ykA) .ret)]
abbrev ykO (x3 x6 x7 x8:AV) (h:List Ob) (e:Cx:=cx):Cfg:=atC n_step_count (.code ykJ::.inLoop ykB ykJ::.inBlock 0 ykC::ykN) [U,U,U,x3,U,U,x6,x7,x8,U,U,U,U,U,U,U,U] h e
@[simp] theorem c_step_count:cfun Tryz.prog n_step_count=some step_count:=by kernel_rfl
@[simp] theorem e_step_count:hasBody Tryz.prog n_step_count=true:=by kernel_rfl
abbrev ykP:List AG:=[zz1 3 0,zzf 4 n_step_count 3,o 5 (.cmp .gtr (.sc .int) (.t 4) (.c (.int .i64 0))),zz1 2 5]
abbrev ykQ:List AG:=[zzh 2]
abbrev step_of_3:AFun:=⟨(.seq (.reg ykQ) (.seq (.reg ykP) .ret)),6,[.tmp 2]⟩
@[simp] theorem c_step_of_3:cfun Tryz.prog n_step_of_3=some step_of_3:=by kernel_rfl
@[simp] theorem e_step_of_3:hasBody Tryz.prog n_step_of_3=true:=by kernel_rfl
abbrev ykR:List AG:=[zz1 3 0,zzf 4 n_step_count 3,o 5 (.ibin .rem (.t 4) (.c (.int .i64 2))),o 6 (.cmp .eql (.sc .int) (.t 5) (.c (.int .i64 1))),zz1 2 6]
abbrev ykS:List AG:=[zzh 2]
abbrev step_of_4:AFun:=⟨(.seq (.reg ykS) (.seq (.reg ykR) .ret)),7,[.tmp 2]⟩
@[simp] theorem c_step_of_4:cfun Tryz.prog n_step_of_4=some step_of_4:=by kernel_rfl
@[simp] theorem e_step_of_4:hasBody Tryz.prog n_step_of_4=true:=by kernel_rfl
abbrev ykT:List AG:=[o 4 (.mv (.c (.int .i64 (-1))))]
abbrev ykU:List Bool:=[I,I,O,O,O,O,O,I,I,O,O,O,O,O,O,O,O,O,O]
abbrev ykV:List Bool:=[O,O,O,O,O,O,O,O,O,O,O,O,O,O,O,O,O,O,O]
abbrev ykW:List AG:=[zz6 18 8 1,zz1 8 18]
abbrev ykX:List AG:=[zz1 17 5,zz1 4 17]
abbrev ykY:ACode:=(.seq (.reg ykX) .ret)
abbrev ykZ:List AG:=[zz1 11 1,zz1 12 0,zz1 13 5,zz5 14 1 12 13,zz2 15 1 14,o 16 (.call (.t 11) [(.t 15)])]
abbrev yla:List AG:=[zz1 10 8,zz1 5 10]
abbrev ylb:ACode:=(.seq (.reg yla) (.seq (.reg ykZ) (.cond (.t 16) ykY .skip)))
abbrev ylc:List AG:=[zz7 9 8 7]
abbrev yle:ACode:=(.seq (.reg ylc) (.seq (.cond (.t 9) .skip (.exit 0)) (.seq (.block 1 [] ylb) (.reg ykW))))
abbrev ylf:List AG:=[zz1 6 0,zza 7 6,zz9 8 0]
abbrev ylg:List AG:=[zz9 4 0]
abbrev slices_IndexFunc_string_string:AFun:=⟨(.seq (.reg ylg) (.seq (.seq (.reg ylf) (.block 0 ykV (.loop ykU yle))) (.seq (.reg ykT) .ret))),19,[.tmp 4]⟩
abbrev ylh:List It:=[.code (.seq (.reg ykT) .ret)]
abbrev yli (x0 x1 x7 x8:AV) (h:List Ob) (e:Cx:=cx):Cfg:=atC n_slices_IndexFunc_string_string (.code yle::.inLoop ykU yle::.inBlock 0 ykV::ylh) [x0,x1,U,U,U,U,U,x7,x8,U,U,U,U,U,U,U,U,U,U] h e
@[simp] theorem c_slices_IndexFunc_string_string:cfun Tryz.prog n_slices_IndexFunc_string_string=some slices_IndexFunc_string_string:=by kernel_rfl
@[simp] theorem e_slices_IndexFunc_string_string:hasBody Tryz.prog n_slices_IndexFunc_string_string=true:=by kernel_rfl
abbrev ylj:List AG:=[zz1 28 0,o 29 (.lenStr (.t 28)),zz1 30 1,o 31 (.cmp .eql (.sc .int) (.t 29) (.t 30)),zz1 4 31]
abbrev ylk:List Bool:=[I,I,O,O,O,I,O,O,O,O,O,O,O,O,O,O,O,O,O,O,O,O,O,O,O,O,O,O,O,O,O,O]
abbrev yll:List Bool:=[I,I,O,O,O,O,O,O,O,O,O,O,O,O,O,O,O,O,O,O,O,O,O,O,O,O,O,O,O,O,O,O]
abbrev ylm:List AG:=[zz1 10 5,zz6 11 10 1,zz1 5 11]
abbrev yln:List AG:=[zzh 4]
abbrev ylo:ACode:=(.seq (.reg yln) .ret)
abbrev ylp:List AG:=[zz1 12 0,zz1 13 5,o 14 (.ixStr (.t 12) (.t 13)),o 15 (.cmp .neq (.sc .int) (.t 14) (.c (.int .u8 48))),zz1 16 15,zze 17 16 0,zze 18 16 5,oy 19 16 (.ixStr (.t 17) (.t 18)),oy 20 16 (.cmp .neq (.sc .int) (.t 19) (.c (.int .u8 49))),zz8 21 16 20,zz1 22 21,zze 23 22 0,zze 24 22 5,oy 25 22 (.ixStr (.t 23) (.t 24)),oy 26 22 (.cmp .neq (.sc .int) (.t 25) (.c (.int .u8 45))),zz8 27 22 26]
abbrev ylq:ACode:=(.seq (.reg ylp) (.cond (.t 27) ylo .skip))
abbrev ylr:List AG:=[zz1 6 5,zz1 7 0,o 8 (.lenStr (.t 7)),zz7 9 6 8]
abbrev yls:ACode:=(.seq (.seq (.reg ylr) (.cond (.t 9) .skip (.exit 0))) (.seq (.block 1 [] ylq) (.reg ylm)))
abbrev ylt:List AG:=[zz9 5 0]
abbrev ylu:List AG:=[zzh 4]
abbrev r06_row:AFun:=⟨(.seq (.reg ylu) (.seq (.seq (.reg ylt) (.block 0 yll (.loop ylk yls))) (.seq (.reg ylj) .ret))),32,[.tmp 4]⟩
abbrev ylv:List It:=[.code (.seq (.reg ylj) .ret)]
abbrev ylw (x0 x1 x5:AV) (h:List Ob) (e:Cx:=cx):Cfg:=atC n_r06_row (.code yls::.inLoop ylk yls::.inBlock 0 yll::ylv) [x0,x1,U,U,U,x5,U,U,U,U,U,U,U,U,U,U,U,U,U,U,U,U,U,U,U,U,U,U,U,U,U,U] h e
@[simp] theorem c_r06_row:cfun Tryz.prog n_r06_row=some r06_row:=by kernel_rfl
@[simp] theorem e_r06_row:hasBody Tryz.prog n_r06_row=true:=by kernel_rfl
abbrev ylx:List AG:=[zz1 15 5,zz1 4 15]
abbrev yly:List Bool:=[I,I,O,O,O,I,I,O,O,O,O,O,O,O,O,O]
abbrev ylz:List Bool:=[O,O,O,O,O,I,O,O,O,O,O,O,O,O,O,O]
abbrev ylA:List AG:=[zz1 10 6,zz6 11 10 1,zz1 6 11]
abbrev ylB:List AG:=[zz1 12 5,zz1 13 0,o 14 (.concat (.t 12) (.t 13)),zz1 5 14]
abbrev ylC:List AG:=[zz1 7 6,zz1 8 1,zz7 9 7 8]
abbrev ylD:ACode:=(.seq (.seq (.reg ylC) (.cond (.t 9) .skip (.exit 0))) (.seq (.block 1 [] (.reg ylB)) (.reg ylA)))
abbrev ylE:List AG:=[zz9 6 0]
abbrev ylF:List AG:=[o 5 (.mv (.c (.str [])))]
abbrev ylG:List AG:=[o 4 (.mv (.c (.str [])))]
abbrev r06_all:AFun:=⟨(.seq (.reg ylG) (.seq (.reg ylF) (.seq (.seq (.reg ylE) (.block 0 ylz (.loop yly ylD))) (.seq (.reg ylx) .ret)))),16,[.tmp 4]⟩
abbrev ylH:List It:=[.code (.seq (.reg ylx) .ret)]
abbrev ylI (x0 x1 x5 x6:AV) (h:List Ob) (e:Cx:=cx):Cfg:=atC n_r06_all (.code ylD::.inLoop yly ylD::.inBlock 0 ylz::ylH) [x0,x1,U,U,U,x5,x6,U,U,U,U,U,U,U,U,U] h e
@[simp] theorem c_r06_all:cfun Tryz.prog n_r06_all=some r06_all:=by kernel_rfl
@[simp] theorem e_r06_all:hasBody Tryz.prog n_r06_all=true:=by kernel_rfl
abbrev ylJ:List AG:=[zz1 43 5,zz1 4 43]
abbrev ylK:List Bool:=[I,I,O,O,O,I,I,O,O,O,O,O,O,O,O,O,O,O,O,O,O,O,O,O,O,O,O,O,O,O,O,O,O,O,O,O,O,O,O,O,O,O,O,O]
abbrev ylL:List Bool:=[O,O,O,O,O,I,O,O,O,O,O,O,O,O,O,O,O,O,O,O,O,O,O,O,O,O,O,O,O,O,O,O,O,O,O,O,O,O,O,O,O,O,O,O]
abbrev ylM:List AG:=[zz1 15 6,zz6 16 15 1,zz1 6 16]
abbrev ylN:List AG:=[zz1 39 5,zz1 40 7,o 41 (.lit 1 [(.str [])] [(0,(.t 40))]),o 42 (.append 1 t_string 16 (.t 39) (.t 41)),zz1 5 42]
abbrev ylO:List AG:=[zz1 35 8,o 36 (.ibin .rem (.t 35) (.c (.int .i64 2))),zz1 37 1,o 38 (.cmp .eql (.sc .int) (.t 36) (.t 37))]
abbrev ylP:List Bool:=[I,I,O,O,O,I,I,I,I,I,O,O,O,O,O,O,O,O,O,O,O,O,O,O,O,O,O,O,O,O,O,O,O,O,O,O,O,O,O,O,O,O,O,O]
abbrev ylQ:List Bool:=[I,I,O,O,O,I,I,I,I,O,O,O,O,O,O,O,O,O,O,O,O,O,O,O,O,O,O,O,O,O,O,O,O,O,O,O,O,O,O,O,O,O,O,O]
abbrev ylR:List AG:=[zz1 21 9,o 22 (.ibin .sub (.t 21) (.c (.int .i64 1))),zz1 9 22]
abbrev ylS:List AG:=[zz1 31 8,zz6 32 31 1,zz1 8 32]
abbrev ylT:List AG:=[zz1 29 7,o 30 (.concat (.t 29) (.c (.str [49]))),zz1 7 30]
abbrev ylU:List AG:=[zz1 33 7,o 34 (.concat (.t 33) (.c (.str [48]))),zz1 7 34]
abbrev ylV:ACode:=(.seq (.reg ylT) (.reg ylS))
abbrev ylW:List AG:=[zz1 23 6,zz1 24 9,o 25 (.conv .u64 (.t 24)),o 26 (.ibin .shr (.t 23) (.t 25)),o 27 (.ibin .rem (.t 26) (.c (.int .i64 2))),o 28 (.cmp .eql (.sc .int) (.t 27) (.c (.int .i64 1)))]
abbrev ylX:ACode:=(.seq (.reg ylW) (.cond (.t 28) ylV (.reg ylU)))
abbrev ylY:List AG:=[zz1 19 9,o 20 (.cmp .geq (.sc .int) (.t 19) (.c (.int .i64 0)))]
abbrev ylZ:ACode:=(.seq (.seq (.reg ylY) (.cond (.t 20) .skip (.exit 2))) (.seq (.block 3 [] ylX) (.reg ylR)))
abbrev yma:List AG:=[zz1 17 0,o 18 (.ibin .sub (.t 17) (.c (.int .i64 1))),zz1 9 18]
abbrev ymb:List AG:=[zz9 8 0]
abbrev ymc:List AG:=[o 7 (.mv (.c (.str [])))]
abbrev ymd:ACode:=(.seq (.reg ymc) (.seq (.reg ymb) (.seq (.seq (.reg yma) (.block 2 ylQ (.loop ylP ylZ))) (.seq (.reg ylO) (.cond (.t 38) (.reg ylN) .skip)))))
abbrev yme:List AG:=[zz1 10 6,zz1 11 0,o 12 (.conv .u64 (.t 11)),o 13 (.ibin .shl (.c (.int .i64 1)) (.t 12)),zz7 14 10 13]
abbrev ymf:ACode:=(.seq (.seq (.reg yme) (.cond (.t 14) .skip (.exit 0))) (.seq (.block 1 [] ymd) (.reg ylM)))
abbrev ymg:List AG:=[zz9 6 0]
abbrev ymh:List AG:=[o 5 (.nilrow 1 t_string)]
abbrev ymi:List AG:=[o 4 (.nilrow 1 t_string)]
abbrev r06_odd:AFun:=⟨(.seq (.reg ymi) (.seq (.reg ymh) (.seq (.seq (.reg ymg) (.block 0 ylL (.loop ylK ymf))) (.seq (.reg ylJ) .ret)))),44,[.tmp 4]⟩
abbrev ymj:List It:=[.code (.seq (.reg ylO) (.cond (.t 38) (.reg ylN) .skip)),.inBlock 1 [],.code (.reg ylM),.inLoop ylK ymf,.inBlock 0 ylL,.code (.seq (.reg ylJ) .ret)]
abbrev ymk (x0 x1 x5 x6 x7 x8 x9:AV) (h:List Ob) (e:Cx:=cx):Cfg:=atC n_r06_odd (.code ylZ::.inLoop ylP ylZ::.inBlock 2 ylQ::ymj) [x0,x1,U,U,U,x5,x6,x7,x8,x9,U,U,U,U,U,U,U,U,U,U,U,U,U,U,U,U,U,U,U,U,U,U,U,U,U,U,U,U,U,U,U,U,U,U] h e
abbrev yml (x0 x1 x5 x6 x7 x8:AV) (h:List Ob) (e:Cx:=cx):Cfg:=atC n_r06_odd ymj [x0,x1,U,U,U,x5,x6,x7,x8,U,U,U,U,U,U,U,U,U,U,U,U,U,U,U,U,U,U,U,U,U,U,U,U,U,U,U,U,U,U,U,U,U,U,U] h e
abbrev ymm:List It:=[.code (.seq (.reg ylJ) .ret)]
abbrev ymn (x0 x1 x5 x6:AV) (h:List Ob) (e:Cx:=cx):Cfg:=atC n_r06_odd (.code ymf::.inLoop ylK ymf::.inBlock 0 ylL::ymm) [x0,x1,U,U,U,x5,x6,U,U,U,U,U,U,U,U,U,U,U,U,U,U,U,U,U,U,U,U,U,U,U,U,U,U,U,U,U,U,U,U,U,U,U,U,U] h e
@[simp] theorem c_r06_odd:cfun Tryz.prog n_r06_odd=some r06_odd:=by kernel_rfl
@[simp] theorem e_r06_odd:hasBody Tryz.prog n_r06_odd=true:=by kernel_rfl
abbrev ymo:List AG:=[zz9 2 0,o 3 (.mv (.c (.str [])))]
abbrev ymp:List AG:=[zz1 25 7,o 26 (.ixAddr 1 (.t 25) (.c (.int .i64 0))),zz2 27 1 26,zz9 2 7,zz1 3 27]
abbrev ymq:ACode:=(.seq (.dreg [O,O,O,O,O] [6,6,6,6,6] ymp) .ret)
abbrev ymr:List AG:=[zz1 22 7,zza 23 22,o 24 (.cmp .gtr (.sc .int) (.t 23) (.c (.int .i64 0)))]
abbrev yms:List AG:=[zz3 18 4 1,zzf 19 n_order_Sort 18,zz1 17 19,zzc 20 17 0,zzc 21 17 1,zz1 6 20,zz1 7 21]
abbrev ymt:List AG:=[zz1 15 4,zz1 16 5,zz1 2 15,zz1 3 16]
abbrev ymu:ACode:=(.seq (.reg ymt) .ret)
abbrev ymv:List AG:=[zz1 13 4,o 14 (.cmp .neq (.sc .int) (.t 13) (.c (.int .i64 0)))]
abbrev ymw:List AG:=[zz3 9 4 1,zzf 10 n_net_Check 9,zz1 8 10,zzc 11 8 0,zzc 12 8 1,zz1 4 11,zz1 5 12]
abbrev ymx:List AG:=[o 1 (.box 4 (.t 0)),zz9 2 0,o 3 (.mv (.c (.str [])))]
abbrev order_Check:AFun:=⟨(.seq (.reg ymx) (.seq (.seq (.reg ymw) (.seq (.reg ymv) (.cond (.t 14) ymu .skip))) (.seq (.seq (.reg yms) (.seq (.reg ymr) (.cond (.t 24) ymq .skip))) (.seq (.reg ymo) .ret)))),28,[.tmp 2,.tmp 3]⟩
@[simp] theorem c_order_Check:cfun Tryz.prog n_order_Check=some order_Check:=by kernel_rfl
@[simp] theorem e_order_Check:hasBody Tryz.prog n_order_Check=true:=by kernel_rfl
abbrev ymy:List AG:=[zz2 52 1 4,zz1 53 7,zz1 2 52,zz1 3 53]
abbrev ymz:List Bool:=[O,O,O,O,I,I,O,I,O,O,O,O,O,O,O,O,O,O,O,O,O,O,O,O,O,O,O,O,O,O,O,O,I,I,I,O,O,O,O,O,O,O,O,O,O,O,O,O,O,O,O,O,O,O]
abbrev ymA:List Bool:=[O,O,O,O,I,O,O,I,O,O,O,O,O,O,O,O,O,O,O,O,O,O,O,O,O,O,O,O,O,O,O,O,O,O,O,O,O,O,O,O,O,O,O,O,O,O,O,O,O,O,O,O,O,O]
abbrev ymB:List AG:=[zz6 51 34 1,zz1 34 51]
abbrev ymC:List AG:=[zz1 46 7,zz4 47 0 9,zz2 48 1 47,o 49 (.lit 1 [(.str [])] [(0,(.t 48))]),o 50 (.append 1 t_string 16 (.t 46) (.t 49)),zz1 7 50]
abbrev ymD:List AG:=[zz1 45 11]
abbrev ymE:List AG:=[zz2 39 1 5,zz4 40 0 9,zz2 41 1 40,o 42 (.lookup (.sc .str) (.int .i64 0) (.t 39) (.t 41) true),zz1 38 42,zzc 43 38 0,zzc 44 38 1,zz1 10 43,zz1 11 44]
abbrev ymF:List AG:=[zz5 36 5 32 34,zz3 37 5 36,o 9 (.alloc [(.str []),(.int .i64 0),(.own 1 t_string []),(.own 1 t_string []),(.bool false)]),zzb 5 9 37]
abbrev ymG:ACode:=(.seq (.reg ymF) (.seq (.reg ymE) (.seq (.reg ymD) (.cond (.t 45) (.reg ymC) .skip))))
abbrev ymH:List AG:=[zz7 35 34 33]
abbrev ymI:ACode:=(.seq (.reg ymH) (.seq (.cond (.t 35) .skip (.exit 2)) (.seq (.block 3 [] ymG) (.reg ymB))))
abbrev ymJ:List AG:=[zz4 31 3 1,zz2 32 1 31,zza 33 32,zz9 34 0]
abbrev ymK:List AG:=[o 7 (.nilrow 1 t_string)]
abbrev ymL:List AG:=[zz1 6 19]
abbrev ymM:List AG:=[zz2 24 1 5,zz4 25 3 1,zz2 26 1 25,zz1 27 6,zz5 28 5 26 27,zz4 29 0 28,zz2 30 1 29,q (.delete (.sc .str) (.t 24) (.t 30))]
abbrev ymN:List AG:=[zz2 20 1 4,zz1 21 6,o 22 (.lit 1 [(.int .i64 0)] [(0,(.t 21))]),o 23 (.append 1 t_int 8 (.t 20) (.t 22)),zzb 1 4 23]
abbrev ymO:ACode:=(.seq (.reg ymN) (.dreg [O,O,O,O,O,O,O,O] [8,8,8,8,8,8,8,9] ymM))
abbrev ymP:ACode:=(.block 1 [] ymO)
abbrev ymQ:ACode:=(.rangeFunc (.t 18) [19] [O,I,I,I,I,I,O,O,O,O,O,O,O,O,O,O,O,O,O,O,O,O,O,O,O,O,O,O,O,O,O,O,O,O,O,O,O,O,O,O,O,O,O,O,O,O,O,O,O,O,O,O,O,O] (.reg ymL) ymP)
abbrev ymR:List AG:=[zz3 17 4 1,zzf 18 n_order_coming 17]
abbrev ymS:List AG:=[zz3 15 4 1,zzf 16 n_order_places 15,o 5 (.alloc [.nilm]),zzb 1 5 16]
abbrev ymT:List AG:=[o 4 (.alloc [(.own 1 t_int [])])]
abbrev ymU:List AG:=[o 2 (.nilrow 1 t_int),o 3 (.nilrow 1 t_string)]
abbrev ymV:ACode:=(.seq (.reg ymU) .ret)
abbrev ymW:List AG:=[zz3 12 4 1,zzf 13 n_order_right 12,o 14 (.not (.t 13))]
abbrev ymX:List AG:=[o 1 (.box 4 (.t 0)),o 2 (.nilrow 1 t_int),o 3 (.nilrow 1 t_string)]
abbrev order_Sort:AFun:=⟨(.seq (.reg ymX) (.seq (.seq (.reg ymW) (.cond (.t 14) ymV .skip)) (.seq (.reg ymT) (.seq (.reg ymS) (.seq (.seq (.reg ymR) (.block 0 [] ymQ)) (.seq (.reg ymK) (.seq (.seq (.reg ymJ) (.block 2 ymA (.loop ymz ymI))) (.seq (.reg ymy) .ret)))))))),54,[.tmp 2,.tmp 3]⟩
abbrev ymY:List It:=[.code (.seq (.reg ymy) .ret)]
abbrev ymZ (x4 x5 x7 x32 x33 x34:AV) (h:List Ob) (e:Cx:=cx):Cfg:=atC n_order_Sort (.code ymI::.inLoop ymz ymI::.inBlock 2 ymA::ymY) [U,U,U,U,x4,x5,U,x7,U,U,U,U,U,U,U,U,U,U,U,U,U,U,U,U,U,U,U,U,U,U,U,U,x32,x33,x34,U,U,U,U,U,U,U,U,U,U,U,U,U,U,U,U,U,U,U] h e
@[simp] theorem c_order_Sort:cfun Tryz.prog n_order_Sort=some order_Sort:=by kernel_rfl
@[simp] theorem e_order_Sort:hasBody Tryz.prog n_order_Sort=true:=by kernel_rfl
abbrev yna:List AG:=[zz1 37 3,zz1 2 37]
abbrev ynb:List Bool:=[O,O,O,I,O,O,O,O,O,O,O,O,O,O,O,O,O,O,O,O,O,O,O,O,O,I,I,I,O,O,O,O,O,O,O,O,O,O]
abbrev ync:List Bool:=[O,O,O,I,O,O,O,O,O,O,O,O,O,O,O,O,O,O,O,O,O,O,O,O,O,O,O,O,O,O,O,O,O,O,O,O,O,O]
abbrev ynd:List AG:=[zz6 36 27 1,zz1 27 36]
abbrev yne:List AG:=[zz1 31 3,zz4 32 0 7,zz2 33 1 32,o 34 (.lit 1 [(.str [])] [(0,(.t 33))]),o 35 (.append 1 t_string 16 (.t 31) (.t 34)),zz1 3 35]
abbrev ynf:List AG:=[zz5 29 5 25 27,zz3 30 5 29,o 7 (.alloc [(.str []),(.int .i64 0),(.own 1 t_string []),(.own 1 t_string []),(.bool false)]),zzb 5 7 30]
abbrev yng:ACode:=(.seq (.reg ynf) (.reg yne))
abbrev ynh:List AG:=[zz7 28 27 26]
abbrev yni:ACode:=(.seq (.reg ynh) (.seq (.cond (.t 28) .skip (.exit 2)) (.seq (.block 3 [] yng) (.reg ynd))))
abbrev ynj:List AG:=[zz4 24 3 1,zz2 25 1 24,zza 26 25,zz9 27 0]
abbrev ynk:List Bool:=[O,I,O,I,O,O,O,O,O,O,O,O,I,I,I,O,O,O,O,O,O,O,O,O,O,O,O,O,O,O,O,O,O,O,O,O,O,O]
abbrev ynl:List Bool:=[O,I,O,I,O,O,O,O,O,O,O,O,O,O,O,O,O,O,O,O,O,O,O,O,O,O,O,O,O,O,O,O,O,O,O,O,O,O]
abbrev ynm:List AG:=[zz6 23 14 1,zz1 14 23]
abbrev ynn:List AG:=[zz1 18 3,zz4 19 0 5,zz2 20 1 19,o 21 (.lit 1 [(.str [])] [(0,(.t 20))]),o 22 (.append 1 t_string 16 (.t 18) (.t 21)),zz1 3 22]
abbrev yno:List AG:=[zz5 16 3 12 14,zz3 17 3 16,o 5 (.alloc [(.str []),(.str []),(.int .i64 0)]),zzb 3 5 17]
abbrev ynp:ACode:=(.seq (.reg yno) (.reg ynn))
abbrev ynq:List AG:=[zz7 15 14 13]
abbrev ynr:ACode:=(.seq (.reg ynq) (.seq (.cond (.t 15) .skip (.exit 0)) (.seq (.block 1 [] ynp) (.reg ynm))))
abbrev yns:List AG:=[zz4 11 2 1,zz2 12 1 11,zza 13 12,zz9 14 0]
abbrev ynt:List AG:=[zz4 8 0 1,zz2 9 1 8,zzf 10 n_slices_Clone_string_string 9,zz1 3 10]
abbrev ynu:List AG:=[o 1 (.box 4 (.t 0)),o 2 (.nilrow 1 t_string)]
abbrev net_Nets:AFun:=⟨(.seq (.reg ynu) (.seq (.reg ynt) (.seq (.seq (.reg yns) (.block 0 ynl (.loop ynk ynr))) (.seq (.seq (.reg ynj) (.block 2 ync (.loop ynb yni))) (.seq (.reg yna) .ret))))),38,[.tmp 2]⟩
abbrev ynv:List It:=[.code (.seq (.reg yna) .ret)]
abbrev ynw (x3 x25 x26 x27:AV) (h:List Ob) (e:Cx:=cx):Cfg:=atC n_net_Nets (.code yni::.inLoop ynb yni::.inBlock 2 ync::ynv) [U,U,U,x3,U,U,U,U,U,U,U,U,U,U,U,U,U,U,U,U,U,U,U,U,U,x25,x26,x27,U,U,U,U,U,U,U,U,U,U] h e
abbrev ynx:List It:=[.code (.seq (.seq (.reg ynj) (.block 2 ync (.loop ynb yni))) (.seq (.reg yna) .ret))]
abbrev yny (x1 x3 x12 x13 x14:AV) (h:List Ob) (e:Cx:=cx):Cfg:=atC n_net_Nets (.code ynr::.inLoop ynk ynr::.inBlock 0 ynl::ynx) [U,x1,U,x3,U,U,U,U,U,U,U,U,x12,x13,x14,U,U,U,U,U,U,U,U,U,U,U,U,U,U,U,U,U,U,U,U,U,U,U] h e
@[simp] theorem c_net_Nets:cfun Tryz.prog n_net_Nets=some net_Nets:=by kernel_rfl
@[simp] theorem e_net_Nets:hasBody Tryz.prog n_net_Nets=true:=by kernel_rfl
abbrev ynz:List AG:=[zz1 35 6,zz1 2 35]
abbrev ynA:List Bool:=[O,O,O,O,O,O,I,O,O,O,O,O,O,O,O,O,O,O,O,O,O,O,O,O,O,I,I,I,O,O,O,O,O,O,O,O]
abbrev ynB:List Bool:=[O,O,O,O,O,O,I,O,O,O,O,O,O,O,O,O,O,O,O,O,O,O,O,O,O,O,O,O,O,O,O,O,O,O,O,O]
abbrev ynC:List AG:=[zz6 34 27 1,zz1 27 34]
abbrev ynD:List AG:=[zz1 31 6,zz1 32 8,o 33 (.append 1 t_bool 1 (.t 31) (.t 32)),zz1 6 33]
abbrev ynE:List AG:=[zz5 29 1 25 27,zz2 30 1 29,zz1 8 30]
abbrev ynF:ACode:=(.seq (.reg ynE) (.reg ynD))
abbrev ynG:List AG:=[zz7 28 27 26]
abbrev ynH:ACode:=(.seq (.reg ynG) (.seq (.cond (.t 28) .skip (.exit 2)) (.seq (.block 3 [] ynF) (.reg ynC))))
abbrev ynI:List AG:=[zz1 25 0,zza 26 25,zz9 27 0]
abbrev ynJ:List AG:=[zz1 23 3,o 24 (.call (.f n_slices_Grow_bool_bool) [(.c (.list true 0 [])),(.t 23)]),zz1 6 24]
abbrev ynK:List Bool:=[I,O,O,I,O,O,O,O,O,I,I,I,O,O,O,O,O,O,O,O,O,O,O,O,O,O,O,O,O,O,O,O,O,O,O,O]
abbrev ynL:List Bool:=[I,O,O,I,O,O,O,O,O,O,O,O,O,O,O,O,O,O,O,O,O,O,O,O,O,O,O,O,O,O,O,O,O,O,O,O]
abbrev ynM:List AG:=[zz6 22 11 1,zz1 11 22]
abbrev ynN:List AG:=[o 21 (.mkIface t_string (.c (.str [108,101,110,32,111,117,116,32,111,102,32,114,97,110,103,101]))),q (.panic (.t 21))]
abbrev ynO:List AG:=[zz1 19 3,o 20 (.cmp .lss (.sc .int) (.t 19) (.c (.int .i64 0)))]
abbrev ynP:List AG:=[zz1 15 3,zz1 16 5,zza 17 16,o 18 (.ibin .add (.t 15) (.t 17)),zz1 3 18]
abbrev ynQ:List AG:=[zz5 13 1 9 11,zz2 14 1 13,zz1 5 14]
abbrev ynR:ACode:=(.seq (.reg ynQ) (.seq (.reg ynP) (.seq (.reg ynO) (.cond (.t 20) (.reg ynN) .skip))))
abbrev ynS:List AG:=[zz7 12 11 10]
abbrev ynT:ACode:=(.seq (.reg ynS) (.seq (.cond (.t 12) .skip (.exit 0)) (.seq (.block 1 [] ynR) (.reg ynM))))
abbrev ynU:List AG:=[zz1 9 0,zza 10 9,zz9 11 0]
abbrev ynV:List AG:=[zz9 3 0]
abbrev ynW:List AG:=[o 2 (.nilrow 1 t_bool)]
abbrev slices_Concat_bool_bool:AFun:=⟨(.seq (.reg ynW) (.seq (.reg ynV) (.seq (.seq (.reg ynU) (.block 0 ynL (.loop ynK ynT))) (.seq (.reg ynJ) (.seq (.seq (.reg ynI) (.block 2 ynB (.loop ynA ynH))) (.seq (.reg ynz) .ret)))))),36,[.tmp 2]⟩
abbrev ynX:List It:=[.code (.seq (.reg ynz) .ret)]
abbrev ynY (x6 x25 x26 x27:AV) (h:List Ob) (e:Cx:=cx):Cfg:=atC n_slices_Concat_bool_bool (.code ynH::.inLoop ynA ynH::.inBlock 2 ynB::ynX) [U,U,U,U,U,U,x6,U,U,U,U,U,U,U,U,U,U,U,U,U,U,U,U,U,U,x25,x26,x27,U,U,U,U,U,U,U,U] h e
abbrev ynZ:List It:=[.code (.seq (.reg ynJ) (.seq (.seq (.reg ynI) (.block 2 ynB (.loop ynA ynH))) (.seq (.reg ynz) .ret)))]
abbrev yoa (x0 x3 x9 x10 x11:AV) (h:List Ob) (e:Cx:=cx):Cfg:=atC n_slices_Concat_bool_bool (.code ynT::.inLoop ynK ynT::.inBlock 0 ynL::ynZ) [x0,U,U,x3,U,U,U,U,U,x9,x10,x11,U,U,U,U,U,U,U,U,U,U,U,U,U,U,U,U,U,U,U,U,U,U,U,U] h e
@[simp] theorem c_slices_Concat_bool_bool:cfun Tryz.prog n_slices_Concat_bool_bool=some slices_Concat_bool_bool:=by kernel_rfl
@[simp] theorem e_slices_Concat_bool_bool:hasBody Tryz.prog n_slices_Concat_bool_bool=true:=by kernel_rfl
abbrev yob:List Bool:=[I,O,I,I,I,O,O,O,O,O,O,I,I,I,O,O,O,O,O,O,O,O,O,O,O,O,O,O,O,O,O,O,O,O,O,O,O,O,O]
abbrev yoc:List Bool:=[O,O,O,O,O,O,O,O,O,O,O,O,O,O,O,O,O,O,O,O,O,O,O,O,O,O,O,O,O,O,O,O,O,O,O,O,O,O,O]
abbrev yod:List AG:=[zz6 38 13 1,zz1 13 38]
abbrev yoe:List AG:=[zz1 37 9,zzb 1 3 37]
abbrev yof:List AG:=[zz1 28 10,o 29 (.cmp .neq (.sc .int) (.t 28) (.c (.int .i64 0))),zz1 30 29,on 31 30 (.mv (.t 0)),on 32 30 (.mv (.t 8)),on 33 30 (.mv (.t 9)),on 34 30 (.call (.t 31) [(.t 32),(.t 33)]),on 35 30 (.not (.t 34)),o 36 (.pick (.t 30) (.c (.bool true)) (.t 35))]
abbrev yog:List AG:=[zz2 25 1 4,zz1 26 10,o 27 (.nilck (.t 25)),zzb 1 27 26]
abbrev yoh:List AG:=[zz2 18 1 2,zz2 19 1 3,zz1 20 7,o 21 (.call (.f n_step_machine_step) [(.t 18),(.t 19),(.t 20)]),zz1 17 21,zzc 22 17 0,zzc 23 17 1,zzc 24 17 2,zz1 8 22,zz1 9 23,zz1 10 24]
abbrev yoi:List AG:=[zz5 15 1 11 13,zz2 16 1 15,zz1 7 16]
abbrev yoj:ACode:=(.seq (.reg yoi) (.seq (.reg yoh) (.seq (.seq (.reg yog) (.seq (.reg yof) (.cond (.t 36) .ret .skip))) (.reg yoe))))
abbrev yok:List AG:=[zz7 14 13 12]
abbrev yol:ACode:=(.seq (.reg yok) (.seq (.cond (.t 14) .skip (.exit 0)) (.seq (.block 1 [] yoj) (.reg yod))))
abbrev yom:List AG:=[zz2 11 1 1,zza 12 11,zz9 13 0]
abbrev step_machine_steps_1:AFun:=⟨(.seq (.reg yom) (.block 0 yoc (.loop yob yol))),39,[]⟩
abbrev yon:List It:=[]
abbrev yoo (x0 x2 x3 x4 x11 x12 x13:AV) (h:List Ob) (e:Cx:=cx):Cfg:=atC n_step_machine_steps_1 (.code yol::.inLoop yob yol::.inBlock 0 yoc::yon) [x0,U,x2,x3,x4,U,U,U,U,U,U,x11,x12,x13,U,U,U,U,U,U,U,U,U,U,U,U,U,U,U,U,U,U,U,U,U,U,U,U,U] h e
@[simp] theorem c_step_machine_steps_1:cfun Tryz.prog n_step_machine_steps_1=some step_machine_steps_1:=by kernel_rfl
@[simp] theorem e_step_machine_steps_1:hasBody Tryz.prog n_step_machine_steps_1=true:=by kernel_rfl
abbrev yop:List AG:=[q (.store 1 (.t 2) (.c (.int .i64 0))),q (.store 1 (.t 3) (.c (.str [])))]
abbrev yoq:List Bool:=[O,O,I,I,O,O,O,I,O,O,O,O,O,O,O,O,O,O,O,O,O,O,O,O,O,O,O,O,O,O,O,O,O,O,O,O,O,O,O,O,O,O,O,O,O,O,O,O,O,O,O,O,O,O,O,O,O,O,O,O,O,O,O,O,O,O,O,O,O,O,O,O,O,O,O,O,O,O,O,O,O,O,O,O,O,O,O,O,O,O,O,O,I,I,I,O,O,O,O,O,O,O,O,O]
abbrev yor:List Bool:=[O,O,I,I,O,O,O,O,O,O,O,O,O,O,O,O,O,O,O,O,O,O,O,O,O,O,O,O,O,O,O,O,O,O,O,O,O,O,O,O,O,O,O,O,O,O,O,O,O,O,O,O,O,O,O,O,O,O,O,O,O,O,O,O,O,O,O,O,O,O,O,O,O,O,O,O,O,O,O,O,O,O,O,O,O,O,O,O,O,O,O,O,O,O,O,O,O,O,O,O,O,O,O,O]
abbrev yos:List AG:=[zz6 103 94 1,zz1 94 103]
abbrev yot:List AG:=[zz1 98 7,zz1 99 13,o 100 (.lookup (.sc .str) (.bool false) (.t 98) (.t 99) false),zz1 101 13,o 102 (.call (.f n_net_need) [(.t 100),(.c (.int .i64 6)),(.t 101)])]
abbrev you:List AG:=[zz5 96 1 92 94,zz2 97 1 96,zz1 13 97]
abbrev yov:ACode:=(.seq (.reg you) (.reg yot))
abbrev yow:List AG:=[zz7 95 94 93]
abbrev yox:ACode:=(.seq (.reg yow) (.seq (.cond (.t 95) .skip (.exit 6)) (.seq (.block 7 [] yov) (.reg yos))))
abbrev yoy:List AG:=[zz3 91 4 1,zzf 92 n_net_used 91,zza 93 92,zz9 94 0]
abbrev yoz:List Bool:=[O,I,I,I,O,O,O,I,O,O,O,O,O,O,O,O,O,O,O,O,O,O,O,O,O,O,O,O,O,O,O,O,O,O,O,O,O,O,O,O,O,O,O,O,O,O,O,O,O,O,O,O,O,O,O,O,O,O,O,O,O,O,O,O,O,O,O,O,O,O,O,O,O,O,O,O,O,O,O,I,I,I,O,O,O,O,O,O,O,O,O,O,O,O,O,O,O,O,O,O,O,O,O,O]
abbrev yoA:List Bool:=[O,I,I,I,O,O,O,I,O,O,O,O,O,O,O,O,O,O,O,O,O,O,O,O,O,O,O,O,O,O,O,O,O,O,O,O,O,O,O,O,O,O,O,O,O,O,O,O,O,O,O,O,O,O,O,O,O,O,O,O,O,O,O,O,O,O,O,O,O,O,O,O,O,O,O,O,O,O,O,O,O,O,O,O,O,O,O,O,O,O,O,O,O,O,O,O,O,O,O,O,O,O,O,O]
abbrev yoB:List AG:=[zz6 90 81 1,zz1 81 90]
abbrev yoC:List AG:=[zz3 85 5 11,zzf 86 n_net_Gate 85,zz4 87 0 11,zz2 88 1 87,o 89 (.call (.f n_net_need) [(.t 86),(.c (.int .i64 1)),(.t 88)])]
abbrev yoD:List AG:=[zz5 83 5 79 81,zz3 84 5 83,o 11 (.alloc [(.str []),(.int .i64 0),(.own 1 t_string []),(.own 1 t_string []),(.bool false)]),zzb 5 11 84]
abbrev yoE:ACode:=(.seq (.reg yoD) (.dreg [O,O,O,I,O] [2,5,5,5,6] yoC))
abbrev yoF:List AG:=[zz7 82 81 80]
abbrev yoG:ACode:=(.seq (.reg yoF) (.seq (.cond (.t 82) .skip (.exit 4)) (.seq (.block 5 [] yoE) (.reg yoB))))
abbrev yoH:List AG:=[zz4 78 3 1,zz2 79 1 78,zza 80 79,zz9 81 0]
abbrev yoI:List Bool:=[O,I,I,I,O,O,O,I,O,O,O,O,O,O,O,O,O,O,O,O,O,O,O,O,O,O,O,O,O,O,O,O,O,O,O,O,O,O,O,O,O,O,O,O,O,O,O,O,O,O,O,O,O,O,O,O,O,O,O,O,I,I,I,O,O,O,O,O,O,O,O,O,O,O,O,O,O,O,O,O,O,O,O,O,O,O,O,O,O,O,O,O,O,O,O,O,O,O,O,O,O,O,O,O]
abbrev yoJ:List Bool:=[O,I,I,I,O,O,O,I,O,O,O,O,O,O,O,O,O,O,O,O,O,O,O,O,O,O,O,O,O,O,O,O,O,O,O,O,O,O,O,O,O,O,O,O,O,O,O,O,O,O,O,O,O,O,O,O,O,O,O,O,O,O,O,O,O,O,O,O,O,O,O,O,O,O,O,O,O,O,O,O,O,O,O,O,O,O,O,O,O,O,O,O,O,O,O,O,O,O,O,O,O,O,O,O]
abbrev yoK:List AG:=[zz6 77 62 1,zz1 62 77]
abbrev yoL:List AG:=[zz4 66 2 9,zz2 67 1 66,o 68 (.cmp .geq (.sc .int) (.t 67) (.c (.int .i64 0))),zz1 69 68,oy 70 69 (.off 2 (.t 9)),zzd 71 69 1 70,oy 72 69 (.cmp .leq (.sc .int) (.t 71) (.c (.int .i64 2))),zz8 73 69 72,zz4 74 0 9,zz2 75 1 74,o 76 (.call (.f n_net_need) [(.t 73),(.c (.int .i64 1)),(.t 75)])]
abbrev yoM:List AG:=[zz5 64 3 60 62,zz3 65 3 64,o 9 (.alloc [(.str []),(.str []),(.int .i64 0)]),zzb 3 9 65]
abbrev yoN:ACode:=(.seq (.reg yoM) (.reg yoL))
abbrev yoO:List AG:=[zz7 63 62 61]
abbrev yoP:ACode:=(.seq (.reg yoO) (.seq (.cond (.t 63) .skip (.exit 2)) (.seq (.block 3 [] yoN) (.reg yoK))))
abbrev yoQ:List AG:=[zz4 59 2 1,zz2 60 1 59,zza 61 60,zz9 62 0]
abbrev yoR:List AG:=[zz4 56 1 1,zz2 57 1 56,zzf 58 n_net_once 57]
abbrev yoS:List AG:=[zz3 53 4 1,zzf 54 n_net_Nets 53,zzf 55 n_net_once 54,zz1 7 55]
abbrev yoT:List Bool:=[O,I,I,I,O,O,O,O,O,O,O,O,O,O,O,O,O,O,O,O,O,O,O,O,O,O,O,O,O,O,O,O,O,O,O,O,O,O,O,O,O,O,I,I,I,O,O,O,O,O,O,O,O,O,O,O,O,O,O,O,O,O,O,O,O,O,O,O,O,O,O,O,O,O,O,O,O,O,O,O,O,O,O,O,O,O,O,O,O,O,O,O,O,O,O,O,O,O,O,O,O,O,O,O]
abbrev yoU:List Bool:=[O,I,I,I,O,O,O,O,O,O,O,O,O,O,O,O,O,O,O,O,O,O,O,O,O,O,O,O,O,O,O,O,O,O,O,O,O,O,O,O,O,O,O,O,O,O,O,O,O,O,O,O,O,O,O,O,O,O,O,O,O,O,O,O,O,O,O,O,O,O,O,O,O,O,O,O,O,O,O,O,O,O,O,O,O,O,O,O,O,O,O,O,O,O,O,O,O,O,O,O,O,O,O,O]
abbrev yoV:List AG:=[zz6 52 44 1,zz1 44 52]
abbrev yoW:List AG:=[zz1 48 6,zzf 49 n_ident_Name 48,zz1 50 6,o 51 (.call (.f n_net_need) [(.t 49),(.c (.int .i64 4)),(.t 50)])]
abbrev yoX:List AG:=[zz5 46 1 42 44,zz2 47 1 46,zz1 6 47]
abbrev yoY:ACode:=(.seq (.reg yoX) (.reg yoW))
abbrev yoZ:List AG:=[zz7 45 44 43]
abbrev ypa:ACode:=(.seq (.reg yoZ) (.seq (.cond (.t 45) .skip (.exit 0)) (.seq (.block 1 [] yoY) (.reg yoV))))
abbrev ypb:List AG:=[zz3 41 4 1,zzf 42 n_net_told 41,zza 43 42,zz9 44 0]
abbrev ypc:List AG:=[zz4 15 0 1,zz2 16 1 15,zza 17 16,zz4 18 2 1,zz2 19 1 18,zza 20 19,o 21 (.ibin .add (.t 17) (.t 20)),zz4 22 3 1,zz2 23 1 22,zza 24 23,o 25 (.ibin .add (.t 21) (.t 24)),o 26 (.cmp .leq (.sc .int) (.t 25) (.c (.int .i64 200))),zz1 27 26,oy 28 27 (.off 1 (.t 1)),zzd 29 27 1 28,oy 30 27 (.len (.t 29)),oy 31 27 (.cmp .leq (.sc .int) (.t 30) (.c (.int .i64 200))),zz8 32 27 31,zz1 33 32,oy 34 33 (.off 3 (.t 1)),zzd 35 33 1 34,zze 36 33 4,oy 37 33 (.call (.f n_slices_ContainsFunc_api_Gate_api_Gate) [(.t 35),(.t 36)]),oy 38 33 (.not (.t 37)),zz8 39 33 38,o 40 (.call (.f n_net_need) [(.t 39),(.c (.int .i64 8)),(.c (.str []))])]
abbrev ypd:List AG:=[o 4 (.mv (.f n_net_Check_2))]
abbrev ype:List AG:=[o 14 (.mkFunc (.func n_net_Check_1) [] [(.t 2),(.t 3)]),q (.defer (.t 14) [])]
abbrev ypf:List AG:=[o 1 (.box 4 (.t 0)),o 2 (.alloc [(.int .i64 0)]),o 3 (.alloc [(.str [])])]
abbrev net_Check:AFun:=⟨(.seq (.reg ypf) (.seq (.reg ype) (.seq (.reg ypd) (.seq (.reg ypc) (.seq (.seq (.reg ypb) (.block 0 yoU (.loop yoT ypa))) (.seq (.reg yoS) (.seq (.reg yoR) (.seq (.seq (.reg yoQ) (.block 2 yoJ (.loop yoI yoP))) (.seq (.seq (.reg yoH) (.block 4 yoA (.loop yoz yoG))) (.seq (.seq (.reg yoy) (.block 6 yor (.loop yoq yox))) (.seq (.reg yop) .ret))))))))))),104,[.cell 2 false 1,.cell 3 false 1]⟩
abbrev ypg:List It:=[.code (.seq (.reg yop) .ret)]
abbrev yph (x2 x3 x7 x92 x93 x94:AV) (h:List Ob) (e:Cx:=cx):Cfg:=atC n_net_Check (.code yox::.inLoop yoq yox::.inBlock 6 yor::ypg) [U,U,x2,x3,U,U,U,x7,U,U,U,U,U,U,U,U,U,U,U,U,U,U,U,U,U,U,U,U,U,U,U,U,U,U,U,U,U,U,U,U,U,U,U,U,U,U,U,U,U,U,U,U,U,U,U,U,U,U,U,U,U,U,U,U,U,U,U,U,U,U,U,U,U,U,U,U,U,U,U,U,U,U,U,U,U,U,U,U,U,U,U,U,x92,x93,x94,U,U,U,U,U,U,U,U,U] h e
abbrev ypi:List It:=[.code (.seq (.seq (.reg yoy) (.block 6 yor (.loop yoq yox))) (.seq (.reg yop) .ret))]
abbrev ypj (x1 x2 x3 x7 x79 x80 x81:AV) (h:List Ob) (e:Cx:=cx):Cfg:=atC n_net_Check (.code yoG::.inLoop yoz yoG::.inBlock 4 yoA::ypi) [U,x1,x2,x3,U,U,U,x7,U,U,U,U,U,U,U,U,U,U,U,U,U,U,U,U,U,U,U,U,U,U,U,U,U,U,U,U,U,U,U,U,U,U,U,U,U,U,U,U,U,U,U,U,U,U,U,U,U,U,U,U,U,U,U,U,U,U,U,U,U,U,U,U,U,U,U,U,U,U,U,x79,x80,x81,U,U,U,U,U,U,U,U,U,U,U,U,U,U,U,U,U,U,U,U,U,U] h e
abbrev ypk:List It:=[.code (.seq (.seq (.reg yoH) (.block 4 yoA (.loop yoz yoG))) (.seq (.seq (.reg yoy) (.block 6 yor (.loop yoq yox))) (.seq (.reg yop) .ret)))]
abbrev ypl (x1 x2 x3 x7 x60 x61 x62:AV) (h:List Ob) (e:Cx:=cx):Cfg:=atC n_net_Check (.code yoP::.inLoop yoI yoP::.inBlock 2 yoJ::ypk) [U,x1,x2,x3,U,U,U,x7,U,U,U,U,U,U,U,U,U,U,U,U,U,U,U,U,U,U,U,U,U,U,U,U,U,U,U,U,U,U,U,U,U,U,U,U,U,U,U,U,U,U,U,U,U,U,U,U,U,U,U,U,x60,x61,x62,U,U,U,U,U,U,U,U,U,U,U,U,U,U,U,U,U,U,U,U,U,U,U,U,U,U,U,U,U,U,U,U,U,U,U,U,U,U,U,U,U] h e
abbrev ypm:List It:=[.code (.seq (.reg yoS) (.seq (.reg yoR) (.seq (.seq (.reg yoQ) (.block 2 yoJ (.loop yoI yoP))) (.seq (.seq (.reg yoH) (.block 4 yoA (.loop yoz yoG))) (.seq (.seq (.reg yoy) (.block 6 yor (.loop yoq yox))) (.seq (.reg yop) .ret))))))]
abbrev ypn (x1 x2 x3 x42 x43 x44:AV) (h:List Ob) (e:Cx:=cx):Cfg:=atC n_net_Check (.code ypa::.inLoop yoT ypa::.inBlock 0 yoU::ypm) [U,x1,x2,x3,U,U,U,U,U,U,U,U,U,U,U,U,U,U,U,U,U,U,U,U,U,U,U,U,U,U,U,U,U,U,U,U,U,U,U,U,U,U,x42,x43,x44,U,U,U,U,U,U,U,U,U,U,U,U,U,U,U,U,U,U,U,U,U,U,U,U,U,U,U,U,U,U,U,U,U,U,U,U,U,U,U,U,U,U,U,U,U,U,U,U,U,U,U,U,U,U,U,U,U,U,U] h e
@[simp] theorem c_net_Check:cfun Tryz.prog n_net_Check=some net_Check:=by kernel_rfl
@[simp] theorem e_net_Check:hasBody Tryz.prog n_net_Check=true:=by kernel_rfl
@[simp] theorem e_strings_Repeat:hasBody Tryz.prog n_strings_Repeat=true:=by kernel_rfl
abbrev ypo:List AG:=[o 5 (.mkFunc (.func n_net_parity_1) [] [(.t 2),(.t 3)]),zz1 4 5]
abbrev ypp:List AG:=[o 2 (.box 1 (.t 0)),o 3 (.box 1 (.t 1)),o 4 (.mv (.c .nilf))]
abbrev net_parity:AFun:=⟨(.seq (.reg ypp) (.seq (.reg ypo) .ret)),6,[.tmp 4]⟩
@[simp] theorem c_net_parity:cfun Tryz.prog n_net_parity=some net_parity:=by kernel_rfl
@[simp] theorem e_net_parity:hasBody Tryz.prog n_net_parity=true:=by kernel_rfl
@[simp] theorem e_strings_Trim:hasBody Tryz.prog n_strings_Trim=true:=by kernel_rfl
abbrev ypq:List AG:=[zz1 20 3,zz1 2 20]
abbrev ypr:List Bool:=[O,O,O,I,O,O,O,O,I,I,I,O,O,O,O,O,O,O,O,O,O]
abbrev yps:List Bool:=[O,O,O,I,O,O,O,O,O,O,O,O,O,O,O,O,O,O,O,O,O]
abbrev ypt:List AG:=[zz6 19 10 1,zz1 10 19]
abbrev ypu:List AG:=[zz1 15 3,zz4 16 0 5,zz2 17 1 16,zz1 18 4,q (.upd (.sc .str) (.t 15) (.t 17) (.t 18))]
abbrev ypv:List AG:=[zz1 12 10,zz5 13 5 8 10,zz3 14 5 13,o 5 (.alloc [(.str []),(.int .i64 0),(.own 1 t_string []),(.own 1 t_string []),(.bool false)]),zz1 4 12,zzb 5 5 14]
abbrev ypw:ACode:=(.seq (.reg ypv) (.reg ypu))
abbrev ypx:List AG:=[zz7 11 10 9]
abbrev ypy:ACode:=(.seq (.reg ypx) (.seq (.cond (.t 11) .skip (.exit 0)) (.seq (.block 1 [] ypw) (.reg ypt))))
abbrev ypz:List AG:=[zz4 7 3 1,zz2 8 1 7,zza 9 8,zz9 10 0]
abbrev ypA:List AG:=[o 6 (.mkMap),zz1 3 6]
abbrev ypB:List AG:=[o 1 (.box 4 (.t 0)),o 2 (.mv (.c .nilm))]
abbrev order_places:AFun:=⟨(.seq (.reg ypB) (.seq (.reg ypA) (.seq (.seq (.reg ypz) (.block 0 yps (.loop ypr ypy))) (.seq (.reg ypq) .ret)))),21,[.tmp 2]⟩
abbrev ypC:List It:=[.code (.seq (.reg ypq) .ret)]
abbrev ypD (x3 x8 x9 x10:AV) (h:List Ob) (e:Cx:=cx):Cfg:=atC n_order_places (.code ypy::.inLoop ypr ypy::.inBlock 0 yps::ypC) [U,U,U,x3,U,U,U,U,x8,x9,x10,U,U,U,U,U,U,U,U,U,U] h e
@[simp] theorem c_order_places:cfun Tryz.prog n_order_places=some order_places:=by kernel_rfl
@[simp] theorem e_order_places:hasBody Tryz.prog n_order_places=true:=by kernel_rfl
abbrev ypE:List AG:=[o 3 (.mkFunc (.func n_order_coming_1) [] [(.t 1)]),zz1 2 3]
abbrev ypF:List AG:=[o 1 (.box 4 (.t 0)),o 2 (.mv (.c .nilf))]
abbrev order_coming:AFun:=⟨(.seq (.reg ypF) (.seq (.reg ypE) .ret)),4,[.tmp 2]⟩
@[simp] theorem c_order_coming:cfun Tryz.prog n_order_coming=some order_coming:=by kernel_rfl
@[simp] theorem e_order_coming:hasBody Tryz.prog n_order_coming=true:=by kernel_rfl
abbrev ypG:List AG:=[zz1 26 0,zz1 4 26]
abbrev ypH:List AG:=[zz1 17 0,zz1 18 0,o 19 (.cap (.t 18)),o 20 (.slice 1 (.t 17) none (some (.t 19))),zz1 21 1,o 22 (.appendZ 1 t_bool 1 (.bool false) (.t 20) (.t 21)),zz1 23 0,zza 24 23,o 25 (.slice 1 (.t 22) none (some (.t 24))),zz1 0 25]
abbrev ypI:List AG:=[zz1 15 1,o 16 (.cmp .gtr (.sc .int) (.t 15) (.c (.int .i64 0)))]
abbrev ypJ:List AG:=[zz1 8 1,zz1 9 0,o 10 (.cap (.t 9)),zz1 11 0,zza 12 11,o 13 (.ibin .sub (.t 10) (.t 12)),o 14 (.ibin .sub (.t 8) (.t 13)),zz1 1 14]
abbrev ypK:List AG:=[o 7 (.mkIface t_string (.c (.str [99,97,110,110,111,116,32,98,101,32,110,101,103,97,116,105,118,101]))),q (.panic (.t 7))]
abbrev ypL:List AG:=[zz1 5 1,o 6 (.cmp .lss (.sc .int) (.t 5) (.c (.int .i64 0)))]
abbrev ypM:List AG:=[o 4 (.nilrow 1 t_bool)]
abbrev slices_Grow_bool_bool:AFun:=⟨(.seq (.reg ypM) (.seq (.seq (.reg ypL) (.cond (.t 6) (.reg ypK) .skip)) (.seq (.seq (.reg ypJ) (.seq (.reg ypI) (.cond (.t 16) (.reg ypH) .skip))) (.seq (.reg ypG) .ret)))),27,[.tmp 4]⟩
@[simp] theorem c_slices_Grow_bool_bool:cfun Tryz.prog n_slices_Grow_bool_bool=some slices_Grow_bool_bool:=by kernel_rfl
@[simp] theorem e_slices_Grow_bool_bool:hasBody Tryz.prog n_slices_Grow_bool_bool=true:=by kernel_rfl
abbrev ypN:List AG:=[zz4 10 0 2,zz2 11 1 10,zz4 12 1 2,zz2 13 1 12,zzb 1 0 11,zzb 1 1 13]
abbrev ypO:List AG:=[zz1 9 3]
abbrev ypP:List AG:=[o 5 (.recover),o 6 (.tassert (.t 5) t_net_wrong (.agg [(.int .i64 0),(.str [])]) true),zz1 4 6,zzc 7 4 0,zzc 8 4 1,o 2 (.alloc [(.int .i64 0),(.str [])]),zzb 2 2 7,zz1 3 8]
abbrev net_Check_1:AFun:=⟨(.seq (.reg ypP) (.seq (.reg ypO) (.cond (.t 9) (.dreg [O,O,O,I,O,O] [5,5,6,6,6,7] ypN) .skip))),14,[]⟩
@[simp] theorem c_net_Check_1:cfun Tryz.prog n_net_Check_1=some net_Check_1:=by kernel_rfl
@[simp] theorem e_net_Check_1:hasBody Tryz.prog n_net_Check_1=true:=by kernel_rfl
abbrev ypQ:List AG:=[zz4 3 2 1,zz2 4 1 3,zza 5 4,o 6 (.cmp .gtr (.sc .int) (.t 5) (.c (.int .i64 8))),zz1 7 6,on 8 7 (.off 3 (.t 1)),on 9 7 (.load false 1 (.t 8)),on 10 7 (.len (.t 9)),on 11 7 (.cmp .gtr (.sc .int) (.t 10) (.c (.int .i64 128))),o 12 (.pick (.t 7) (.c (.bool true)) (.t 11)),zz1 2 12]
abbrev ypR:List AG:=[o 1 (.box 5 (.t 0)),zzh 2]
abbrev net_Check_2:AFun:=⟨(.seq (.reg ypR) (.seq (.reg ypQ) .ret)),13,[.tmp 2]⟩
@[simp] theorem c_net_Check_2:cfun Tryz.prog n_net_Check_2=some net_Check_2:=by kernel_rfl
@[simp] theorem e_net_Check_2:hasBody Tryz.prog n_net_Check_2=true:=by kernel_rfl
abbrev ypS:List AG:=[zz1 8 1,zz1 9 2,o 10 (.build [(.int .i64 0),(.str [])] [(0,1,(.t 8)),(1,1,(.t 9))]),o 11 (.mkIface t_net_wrong (.t 10)),q (.panic (.t 11))]
abbrev ypT:List AG:=[zz1 6 0,o 7 (.not (.t 6))]
abbrev net_need:AFun:=⟨(.seq (.reg ypT) (.cond (.t 7) (.reg ypS) .skip)),12,[]⟩
@[simp] theorem c_net_need:cfun Tryz.prog n_net_need=some net_need:=by kernel_rfl
@[simp] theorem e_net_need:hasBody Tryz.prog n_net_need=true:=by kernel_rfl
abbrev ypU:List AG:=[zz1 5 0,zz1 6 1,zzg 7 n_slices_IndexFunc_api_Gate_api_Gate 5 6,o 8 (.cmp .geq (.sc .int) (.t 7) (.c (.int .i64 0))),zz1 4 8]
abbrev ypV:List AG:=[zzh 4]
abbrev slices_ContainsFunc_api_Gate_api_Gate:AFun:=⟨(.seq (.reg ypV) (.seq (.reg ypU) .ret)),9,[.tmp 4]⟩
@[simp] theorem c_slices_ContainsFunc_api_Gate_api_Gate:cfun Tryz.prog n_slices_ContainsFunc_api_Gate_api_Gate=some slices_ContainsFunc_api_Gate_api_Gate:=by kernel_rfl
@[simp] theorem e_slices_ContainsFunc_api_Gate_api_Gate:hasBody Tryz.prog n_slices_ContainsFunc_api_Gate_api_Gate=true:=by kernel_rfl
abbrev ypW:List AG:=[zz1 45 3,zz1 2 45]
abbrev ypX:List Bool:=[O,O,O,I,O,O,O,O,O,O,O,O,O,O,O,O,O,O,O,O,O,O,O,O,O,O,O,O,O,O,I,I,I,O,O,O,O,O,O,O,O,O,O,O,O,O]
abbrev ypY:List Bool:=[O,O,O,I,O,O,O,O,O,O,O,O,O,O,O,O,O,O,O,O,O,O,O,O,O,O,O,O,O,O,O,O,O,O,O,O,O,O,O,O,O,O,O,O,O,O]
abbrev ypZ:List AG:=[zz6 44 32 1,zz1 32 44]
abbrev yqa:List AG:=[zz1 36 3,zz4 37 0 7,zz2 38 1 37,o 39 (.lit 1 [(.str [])] [(0,(.t 38))]),o 40 (.append 1 t_string 16 (.t 36) (.t 39)),zz4 41 2 7,zz2 42 1 41,o 43 (.append 1 t_string 16 (.t 40) (.t 42)),zz1 3 43]
abbrev yqb:List AG:=[zz5 34 5 30 32,zz3 35 5 34,o 7 (.alloc [(.str []),(.int .i64 0),(.own 1 t_string []),(.own 1 t_string []),(.bool false)]),zzb 5 7 35]
abbrev yqc:ACode:=(.seq (.reg yqb) (.dreg [O,O,O,O,O,O,I,O,O] [5,4,4,5,8,8,8,10,10] yqa))
abbrev yqd:List AG:=[zz7 33 32 31]
abbrev yqe:ACode:=(.seq (.reg yqd) (.seq (.cond (.t 33) .skip (.exit 2)) (.seq (.block 3 [] yqc) (.reg ypZ))))
abbrev yqf:List AG:=[zz4 29 3 1,zz2 30 1 29,zza 31 30,zz9 32 0]
abbrev yqg:List Bool:=[O,I,O,I,O,O,O,O,O,O,O,O,O,O,O,I,I,I,O,O,O,O,O,O,O,O,O,O,O,O,O,O,O,O,O,O,O,O,O,O,O,O,O,O,O,O]
abbrev yqh:List Bool:=[O,I,O,I,O,O,O,O,O,O,O,O,O,O,O,O,O,O,O,O,O,O,O,O,O,O,O,O,O,O,O,O,O,O,O,O,O,O,O,O,O,O,O,O,O,O]
abbrev yqi:List AG:=[zz6 28 17 1,zz1 17 28]
abbrev yqj:List AG:=[zz1 21 3,zz4 22 0 5,zz2 23 1 22,zz4 24 1 5,zz2 25 1 24,o 26 (.lit 1 [(.str []),(.str [])] [(0,(.t 23)),(1,(.t 25))]),o 27 (.append 1 t_string 16 (.t 21) (.t 26)),zz1 3 27]
abbrev yqk:List AG:=[zz5 19 3 15 17,zz3 20 3 19,o 5 (.alloc [(.str []),(.str []),(.int .i64 0)]),zzb 3 5 20]
abbrev yql:ACode:=(.seq (.reg yqk) (.reg yqj))
abbrev yqm:List AG:=[zz7 18 17 16]
abbrev yqn:ACode:=(.seq (.reg yqm) (.seq (.cond (.t 18) .skip (.exit 0)) (.seq (.block 1 [] yql) (.reg yqi))))
abbrev yqo:List AG:=[zz4 14 2 1,zz2 15 1 14,zza 16 15,zz9 17 0]
abbrev yqp:List AG:=[zz4 8 0 1,zz2 9 1 8,zz4 10 1 1,zz2 11 1 10,o 12 (.lit 1 [(.list true 0 []),(.list true 0 [])] [(0,(.t 9)),(1,(.t 11))]),zzf 13 n_slices_Concat_string_string 12,zz1 3 13]
abbrev yqq:List AG:=[o 1 (.box 4 (.t 0)),o 2 (.nilrow 1 t_string)]
abbrev net_told:AFun:=⟨(.seq (.reg yqq) (.seq (.reg yqp) (.seq (.seq (.reg yqo) (.block 0 yqh (.loop yqg yqn))) (.seq (.seq (.reg yqf) (.block 2 ypY (.loop ypX yqe))) (.seq (.reg ypW) .ret))))),46,[.tmp 2]⟩
abbrev yqr:List It:=[.code (.seq (.reg ypW) .ret)]
abbrev yqs (x3 x30 x31 x32:AV) (h:List Ob) (e:Cx:=cx):Cfg:=atC n_net_told (.code yqe::.inLoop ypX yqe::.inBlock 2 ypY::yqr) [U,U,U,x3,U,U,U,U,U,U,U,U,U,U,U,U,U,U,U,U,U,U,U,U,U,U,U,U,U,U,x30,x31,x32,U,U,U,U,U,U,U,U,U,U,U,U,U] h e
abbrev yqt:List It:=[.code (.seq (.seq (.reg yqf) (.block 2 ypY (.loop ypX yqe))) (.seq (.reg ypW) .ret))]
abbrev yqu (x1 x3 x15 x16 x17:AV) (h:List Ob) (e:Cx:=cx):Cfg:=atC n_net_told (.code yqn::.inLoop yqg yqn::.inBlock 0 yqh::yqt) [U,x1,U,x3,U,U,U,U,U,U,U,U,U,U,U,x15,x16,x17,U,U,U,U,U,U,U,U,U,U,U,U,U,U,U,U,U,U,U,U,U,U,U,U,U,U,U,U] h e
@[simp] theorem c_net_told:cfun Tryz.prog n_net_told=some net_told:=by kernel_rfl
@[simp] theorem e_net_told:hasBody Tryz.prog n_net_told=true:=by kernel_rfl
abbrev yqv:List AG:=[zz1 3 0,zzf 4 n_ident_name_plain 3,zz1 2 4]
abbrev yqw:List AG:=[zzh 2]
abbrev ident_Name:AFun:=⟨(.seq (.reg yqw) (.seq (.reg yqv) .ret)),5,[.tmp 2]⟩
@[simp] theorem c_ident_Name:cfun Tryz.prog n_ident_Name=some ident_Name:=by kernel_rfl
@[simp] theorem e_ident_Name:hasBody Tryz.prog n_ident_Name=true:=by kernel_rfl
abbrev yqx:List AG:=[zz1 22 3,zz1 2 22]
abbrev yqy:List Bool:=[O,O,O,I,O,O,O,I,I,I,O,O,O,O,O,O,O,O,O,O,O,O,O]
abbrev yqz:List Bool:=[O,O,O,I,O,O,O,O,O,O,O,O,O,O,O,O,O,O,O,O,O,O,O]
abbrev yqA:List AG:=[zz6 21 9 1,zz1 9 21]
abbrev yqB:List AG:=[zz1 19 3,zz1 20 5,q (.upd (.sc .str) (.t 19) (.t 20) (.c (.bool true)))]
abbrev yqC:List AG:=[zz1 13 3,zz1 14 5,o 15 (.lookup (.sc .str) (.bool false) (.t 13) (.t 14) false),o 16 (.not (.t 15)),zz1 17 5,o 18 (.call (.f n_net_need) [(.t 16),(.c (.int .i64 5)),(.t 17)])]
abbrev yqD:List AG:=[zz5 11 1 7 9,zz2 12 1 11,zz1 5 12]
abbrev yqE:ACode:=(.seq (.reg yqD) (.seq (.reg yqC) (.reg yqB)))
abbrev yqF:List AG:=[zz7 10 9 8]
abbrev yqG:ACode:=(.seq (.reg yqF) (.seq (.cond (.t 10) .skip (.exit 0)) (.seq (.block 1 [] yqE) (.reg yqA))))
abbrev yqH:List AG:=[zz1 7 0,zza 8 7,zz9 9 0]
abbrev yqI:List AG:=[o 6 (.mkMap),zz1 3 6]
abbrev yqJ:List AG:=[o 2 (.mv (.c .nilm))]
abbrev net_once:AFun:=⟨(.seq (.reg yqJ) (.seq (.reg yqI) (.seq (.seq (.reg yqH) (.block 0 yqz (.loop yqy yqG))) (.seq (.reg yqx) .ret)))),23,[.tmp 2]⟩
abbrev yqK:List It:=[.code (.seq (.reg yqx) .ret)]
abbrev yqL (x3 x7 x8 x9:AV) (h:List Ob) (e:Cx:=cx):Cfg:=atC n_net_once (.code yqG::.inLoop yqy yqG::.inBlock 0 yqz::yqK) [U,U,U,x3,U,U,U,x7,x8,x9,U,U,U,U,U,U,U,U,U,U,U,U,U] h e
@[simp] theorem c_net_once:cfun Tryz.prog n_net_once=some net_once:=by kernel_rfl
@[simp] theorem e_net_once:hasBody Tryz.prog n_net_once=true:=by kernel_rfl
abbrev yqM:List AG:=[zz1 36 3,zz1 2 36]
abbrev yqN:List Bool:=[O,O,O,I,O,O,O,O,O,O,O,O,O,O,O,O,O,O,O,O,O,O,O,O,O,I,I,I,O,O,O,O,O,O,O,O,O]
abbrev yqO:List Bool:=[O,O,O,I,O,O,O,O,O,O,O,O,O,O,O,O,O,O,O,O,O,O,O,O,O,O,O,O,O,O,O,O,O,O,O,O,O]
abbrev yqP:List AG:=[zz6 35 27 1,zz1 27 35]
abbrev yqQ:List AG:=[zz1 31 3,zz4 32 2 7,zz2 33 1 32,o 34 (.append 1 t_string 16 (.t 31) (.t 33)),zz1 3 34]
abbrev yqR:List AG:=[zz5 29 5 25 27,zz3 30 5 29,o 7 (.alloc [(.str []),(.int .i64 0),(.own 1 t_string []),(.own 1 t_string []),(.bool false)]),zzb 5 7 30]
abbrev yqS:ACode:=(.seq (.reg yqR) (.reg yqQ))
abbrev yqT:List AG:=[zz7 28 27 26]
abbrev yqU:ACode:=(.seq (.reg yqT) (.seq (.cond (.t 28) .skip (.exit 2)) (.seq (.block 3 [] yqS) (.reg yqP))))
abbrev yqV:List AG:=[zz4 24 3 1,zz2 25 1 24,zza 26 25,zz9 27 0]
abbrev yqW:List Bool:=[O,I,O,I,O,O,O,O,O,O,O,O,I,I,I,O,O,O,O,O,O,O,O,O,O,O,O,O,O,O,O,O,O,O,O,O,O]
abbrev yqX:List Bool:=[O,I,O,I,O,O,O,O,O,O,O,O,O,O,O,O,O,O,O,O,O,O,O,O,O,O,O,O,O,O,O,O,O,O,O,O,O]
abbrev yqY:List AG:=[zz6 23 14 1,zz1 14 23]
abbrev yqZ:List AG:=[zz1 18 3,zz4 19 1 5,zz2 20 1 19,o 21 (.lit 1 [(.str [])] [(0,(.t 20))]),o 22 (.append 1 t_string 16 (.t 18) (.t 21)),zz1 3 22]
abbrev yra:List AG:=[zz5 16 3 12 14,zz3 17 3 16,o 5 (.alloc [(.str []),(.str []),(.int .i64 0)]),zzb 3 5 17]
abbrev yrb:ACode:=(.seq (.reg yra) (.reg yqZ))
abbrev yrc:List AG:=[zz7 15 14 13]
abbrev yrd:ACode:=(.seq (.reg yrc) (.seq (.cond (.t 15) .skip (.exit 0)) (.seq (.block 1 [] yrb) (.reg yqY))))
abbrev yre:List AG:=[zz4 11 2 1,zz2 12 1 11,zza 13 12,zz9 14 0]
abbrev yrf:List AG:=[zz4 8 1 1,zz2 9 1 8,zzf 10 n_slices_Clone_string_string 9,zz1 3 10]
abbrev yrg:List AG:=[o 1 (.box 4 (.t 0)),o 2 (.nilrow 1 t_string)]
abbrev net_used:AFun:=⟨(.seq (.reg yrg) (.seq (.reg yrf) (.seq (.seq (.reg yre) (.block 0 yqX (.loop yqW yrd))) (.seq (.seq (.reg yqV) (.block 2 yqO (.loop yqN yqU))) (.seq (.reg yqM) .ret))))),37,[.tmp 2]⟩
abbrev yrh:List It:=[.code (.seq (.reg yqM) .ret)]
abbrev yri (x3 x25 x26 x27:AV) (h:List Ob) (e:Cx:=cx):Cfg:=atC n_net_used (.code yqU::.inLoop yqN yqU::.inBlock 2 yqO::yrh) [U,U,U,x3,U,U,U,U,U,U,U,U,U,U,U,U,U,U,U,U,U,U,U,U,U,x25,x26,x27,U,U,U,U,U,U,U,U,U] h e
abbrev yrj:List It:=[.code (.seq (.seq (.reg yqV) (.block 2 yqO (.loop yqN yqU))) (.seq (.reg yqM) .ret))]
abbrev yrk (x1 x3 x12 x13 x14:AV) (h:List Ob) (e:Cx:=cx):Cfg:=atC n_net_used (.code yrd::.inLoop yqW yrd::.inBlock 0 yqX::yrj) [U,x1,U,x3,U,U,U,U,U,U,U,U,x12,x13,x14,U,U,U,U,U,U,U,U,U,U,U,U,U,U,U,U,U,U,U,U,U,U] h e
@[simp] theorem c_net_used:cfun Tryz.prog n_net_used=some net_used:=by kernel_rfl
@[simp] theorem e_net_used:hasBody Tryz.prog n_net_used=true:=by kernel_rfl
abbrev yrl:List Bool:=[I,I,I,O,O,O,O,O,I,I,O,O,O,O,O,O,O,O,O,O,O,O,O,O,O,O,O,O,O,O,O,O,O,O,O,O,O,O,O,O,O,O,O,O,O]
abbrev yrm:List Bool:=[O,O,O,O,O,O,O,O,O,O,O,O,O,O,O,O,O,O,O,O,O,O,O,O,O,O,O,O,O,O,O,O,O,O,O,O,O,O,O,O,O,O,O,O,O]
abbrev yrn:List AG:=[zz6 44 9 1,zz1 9 44]
abbrev yro:List AG:=[zz1 39 0,zz1 40 5,o 41 (.toStr (.t 40)),o 42 (.call (.t 39) [(.t 41)]),o 43 (.not (.t 42))]
abbrev yrp:List Bool:=[I,I,I,O,I,I,O,O,I,I,O,O,O,O,O,O,O,O,O,O,O,O,I,I,O,O,O,O,O,O,O,O,O,O,O,O,O,O,O,O,O,O,O,O,O]
abbrev yrq:List Bool:=[I,I,I,O,O,I,O,O,I,I,O,O,O,O,O,O,O,O,O,O,O,O,O,O,O,O,O,O,O,O,O,O,O,O,O,O,O,O,O,O,O,O,O,O,O]
abbrev yrr:List AG:=[zz6 38 23 1,zz1 23 38]
abbrev yrs:List AG:=[zz1 26 5,zz1 27 6,zz1 28 4,zz2 29 1 1,o 30 (.ibin .sub (.t 29) (.c (.int .i64 1))),zz1 31 6,o 32 (.ibin .sub (.t 30) (.t 31)),o 33 (.ibin .shr (.t 28) (.t 32)),o 34 (.ibin .and (.t 33) (.c (.int .i64 1))),o 35 (.conv .u8 (.t 34)),o 36 (.ibin .add (.c (.int .u8 48)) (.t 35)),zz5 37 1 26 27,zzb 1 37 36]
abbrev yrt:List AG:=[zz1 25 23,zz1 6 25]
abbrev yru:ACode:=(.seq (.reg yrt) (.reg yrs))
abbrev yrv:List AG:=[zz7 24 23 22]
abbrev yrw:ACode:=(.seq (.reg yrv) (.seq (.cond (.t 24) .skip (.exit 2)) (.seq (.block 3 [] yru) (.reg yrr))))
abbrev yrx:List AG:=[zz1 21 5,zza 22 21,zz9 23 0]
abbrev yry:List AG:=[zz2 19 1 1,o 20 (.mkSlice 1 t_uint8 1 (.int .u8 0) (.t 19) (.t 19)),zz1 5 20]
abbrev yrz:List AG:=[zz1 12 4,o 13 (.conv .u64 (.t 12)),zzf 14 n_math_bits_OnesCount 13,o 15 (.ibin .rem (.t 14) (.c (.int .i64 2))),o 16 (.cmp .eql (.sc .int) (.t 15) (.c (.int .i64 1))),zz2 17 1 2,o 18 (.cmp .neq (.sc .bool) (.t 16) (.t 17))]
abbrev yrA:List AG:=[zz1 11 9,zz1 4 11]
abbrev yrB:ACode:=(.seq (.reg yrA) (.seq (.seq (.dreg [O,O,O,O,O,I,O] [3,3,8,8,8,8,8] yrz) (.cond (.t 18) (.exit 1) .skip)) (.seq (.reg yry) (.seq (.seq (.reg yrx) (.block 2 yrq (.loop yrp yrw))) (.seq (.reg yro) (.cond (.t 43) .ret .skip))))))
abbrev yrC:List AG:=[zz7 10 9 8]
abbrev yrD:ACode:=(.seq (.reg yrC) (.seq (.cond (.t 10) .skip (.exit 0)) (.seq (.block 1 [] yrB) (.reg yrn))))
abbrev yrE:List AG:=[zz2 7 1 1,o 8 (.ibin .shl (.c (.int .i64 1)) (.t 7)),zz9 9 0]
abbrev net_parity_1:AFun:=⟨(.seq (.reg yrE) (.block 0 yrm (.loop yrl yrD))),45,[]⟩
@[simp] theorem c_net_parity_1:cfun Tryz.prog n_net_parity_1=some net_parity_1:=by kernel_rfl
@[simp] theorem e_net_parity_1:hasBody Tryz.prog n_net_parity_1=true:=by kernel_rfl
abbrev yrF:List AG:=[zz1 6 0,zzf 7 n_math_bits_OnesCount64 6,zz1 2 7]
abbrev yrG:List AG:=[zz1 3 0,o 4 (.conv .u32 (.t 3)),zzf 5 n_math_bits_OnesCount32 4,zz1 2 5]
abbrev yrH:ACode:=(.seq (.reg yrG) .ret)
abbrev yrI:List AG:=[zz9 2 0]
abbrev math_bits_OnesCount:AFun:=⟨(.seq (.reg yrI) (.seq (.cond (.c (.bool false)) yrH .skip) (.seq (.reg yrF) .ret))),8,[.tmp 2]⟩
@[simp] theorem c_math_bits_OnesCount:cfun Tryz.prog n_math_bits_OnesCount=some math_bits_OnesCount:=by kernel_rfl
@[simp] theorem e_math_bits_OnesCount:hasBody Tryz.prog n_math_bits_OnesCount=true:=by kernel_rfl
abbrev yrJ:List Bool:=[I,O,O,I,I,O,O,O,O,O,O,O,O,O,O,O,O,O,O,O,O,O,O,O,O,O,O,O,O,O,O,O,O,O,O,O,O,O,O,O,O,O,O,O,O,O,O,O,O,O,O,O,O,O,O,O,O,O,O,O,O,O,O,O,O,O,O,O,O,O,O,O,O,O]
abbrev yrK:List Bool:=[O,O,O,O,O,O,O,O,O,O,O,O,O,O,O,O,O,O,O,O,O,O,O,O,O,O,O,O,O,O,O,O,O,O,O,O,O,O,O,O,O,O,O,O,O,O,O,O,O,O,O,O,O,O,O,O,O,O,O,O,O,O,O,O,O,O,O,O,O,O,O,O,O,O]
abbrev yrL:List Bool:=[I,O,O,I,I,O,I,O,O,O,O,O,O,O,O,O,O,O,O,O,O,O,O,O,O,O,O,O,O,O,O,O,O,O,O,O,O,O,O,O,O,O,O,O,O,O,O,O,O,I,I,I,O,O,O,O,O,O,O,O,O,O,O,O,O,O,O,O,O,O,O,O,O,O]
abbrev yrM:List Bool:=[I,O,O,I,I,O,O,O,O,O,O,O,O,O,O,O,O,O,O,O,O,O,O,O,O,O,O,O,O,O,O,O,O,O,O,O,O,O,O,O,O,O,O,O,O,O,O,O,O,O,O,O,O,O,O,O,O,O,O,O,O,O,O,O,O,O,O,O,O,O,O,O,O,O]
abbrev yrN:List AG:=[zz6 73 51 1,zz1 51 73]
abbrev yrO:List AG:=[zz1 68 4,o 69 (.mkIface t_order_pile (.t 68)),zz1 70 8,o 71 (.mkIface t_int (.t 70)),zzg 72 n_container_heap_Push 69 71]
abbrev yrP:List AG:=[zz4 61 0 3,zz2 62 1 61,zz1 63 8,zz5 64 1 62 63,zz2 65 1 64,o 66 (.lenMap (.t 65)),o 67 (.cmp .eql (.sc .int) (.t 66) (.c (.int .i64 0)))]
abbrev yrQ:List AG:=[zz4 55 0 3,zz2 56 1 55,zz1 57 8,zz5 58 1 56 57,zz2 59 1 58,zz1 60 6,q (.delete (.sc .int) (.t 59) (.t 60))]
abbrev yrR:List AG:=[zz5 53 1 49 51,zz2 54 1 53,zz1 8 54]
abbrev yrS:ACode:=(.seq (.reg yrR) (.seq (.reg yrQ) (.seq (.reg yrP) (.cond (.t 67) (.reg yrO) .skip))))
abbrev yrT:List AG:=[zz7 52 51 50]
abbrev yrU:ACode:=(.seq (.reg yrT) (.seq (.cond (.t 52) .skip (.exit 4)) (.seq (.block 5 [] yrS) (.reg yrN))))
abbrev yrV:List AG:=[zz4 45 1 3,zz2 46 1 45,zz1 47 6,zz5 48 1 46 47,zz2 49 1 48,zza 50 49,zz9 51 0]
abbrev yrW:List AG:=[zz1 41 0,zz1 42 6,o 43 (.call (.t 41) [(.t 42)]),o 44 (.not (.t 43))]
abbrev yrX:List AG:=[zz1 37 4,o 38 (.mkIface t_order_pile (.t 37)),zzf 39 n_container_heap_Pop 38,o 40 (.tassert (.t 39) t_int (.int .i64 0) false),zz1 6 40]
abbrev yrY:ACode:=(.seq (.reg yrX) (.seq (.seq (.reg yrW) (.cond (.t 44) .ret .skip)) (.seq (.reg yrV) (.block 4 yrM (.loop yrL yrU)))))
abbrev yrZ:List AG:=[zz1 32 4,o 33 (.nilck (.t 32)),zz2 34 1 33,zzf 35 n_order_pile_Len 34,o 36 (.cmp .gtr (.sc .int) (.t 35) (.c (.int .i64 0)))]
abbrev ysa:ACode:=(.seq (.seq (.reg yrZ) (.cond (.t 36) .skip (.exit 2))) (.block 3 [] yrY))
abbrev ysb:List Bool:=[I,O,O,I,I,O,O,O,O,O,O,O,O,O,O,I,I,O,O,O,O,O,O,O,O,O,O,O,O,O,O,O,O,O,O,O,O,O,O,O,O,O,O,O,O,O,O,O,O,O,O,O,O,O,O,O,O,O,O,O,O,O,O,O,O,O,O,O,O,O,O,O,O,O]
abbrev ysc:List Bool:=[I,O,O,I,I,O,O,O,O,O,O,O,O,O,O,O,O,O,O,O,O,O,O,O,O,O,O,O,O,O,O,O,O,O,O,O,O,O,O,O,O,O,O,O,O,O,O,O,O,O,O,O,O,O,O,O,O,O,O,O,O,O,O,O,O,O,O,O,O,O,O,O,O,O]
abbrev ysd:List AG:=[zz6 31 16 1,zz1 16 31]
abbrev yse:List AG:=[zz1 26 4,o 27 (.mkIface t_order_pile (.t 26)),zz1 28 5,o 29 (.mkIface t_int (.t 28)),zzg 30 n_container_heap_Push 27 29]
abbrev ysf:List AG:=[zz4 19 0 3,zz2 20 1 19,zz1 21 5,zz5 22 1 20 21,zz2 23 1 22,o 24 (.lenMap (.t 23)),o 25 (.cmp .eql (.sc .int) (.t 24) (.c (.int .i64 0)))]
abbrev ysg:List AG:=[zz1 18 16,zz1 5 18]
abbrev ysh:ACode:=(.seq (.reg ysg) (.seq (.reg ysf) (.cond (.t 25) (.reg yse) .skip)))
abbrev ysi:List AG:=[zz7 17 16 15]
abbrev ysj:ACode:=(.seq (.reg ysi) (.seq (.cond (.t 17) .skip (.exit 0)) (.seq (.block 1 [] ysh) (.reg ysd))))
abbrev ysk:List AG:=[zz4 13 3 1,zz2 14 1 13,zza 15 14,zz9 16 0]
abbrev ysl:List AG:=[o 11 (.lit 1 [] []),o 12 (.box 1 (.t 11)),zz1 4 12]
abbrev ysm:List AG:=[zz3 9 4 1,zzf 10 n_order_wait 9,o 3 (.alloc [(.own 1 t_map_int_bool_2 []),(.own 1 t_int_2 [])]),zzb 2 3 10]
abbrev order_coming_1:AFun:=⟨(.seq (.reg ysm) (.seq (.reg ysl) (.seq (.seq (.reg ysk) (.block 0 ysc (.loop ysb ysj))) (.block 2 yrK (.loop yrJ ysa))))),74,[]⟩
abbrev ysn:List It:=[.inBlock 3 [],.inLoop yrJ ysa,.inBlock 2 yrK]
abbrev yso (x0 x3 x4 x6 x49 x50 x51:AV) (h:List Ob) (e:Cx:=cx):Cfg:=atC n_order_coming_1 (.code yrU::.inLoop yrL yrU::.inBlock 4 yrM::ysn) [x0,U,U,x3,x4,U,x6,U,U,U,U,U,U,U,U,U,U,U,U,U,U,U,U,U,U,U,U,U,U,U,U,U,U,U,U,U,U,U,U,U,U,U,U,U,U,U,U,U,U,x49,x50,x51,U,U,U,U,U,U,U,U,U,U,U,U,U,U,U,U,U,U,U,U,U,U] h e
abbrev ysp (x0 x3 x4:AV) (h:List Ob) (e:Cx:=cx):Cfg:=atC n_order_coming_1 ysn [x0,U,U,x3,x4,U,U,U,U,U,U,U,U,U,U,U,U,U,U,U,U,U,U,U,U,U,U,U,U,U,U,U,U,U,U,U,U,U,U,U,U,U,U,U,U,U,U,U,U,U,U,U,U,U,U,U,U,U,U,U,U,U,U,U,U,U,U,U,U,U,U,U,U,U] h e
abbrev ysq:List It:=[]
abbrev ysr (x0 x3 x4:AV) (h:List Ob) (e:Cx:=cx):Cfg:=atC n_order_coming_1 (.code ysa::.inLoop yrJ ysa::.inBlock 2 yrK::ysq) [x0,U,U,x3,x4,U,U,U,U,U,U,U,U,U,U,U,U,U,U,U,U,U,U,U,U,U,U,U,U,U,U,U,U,U,U,U,U,U,U,U,U,U,U,U,U,U,U,U,U,U,U,U,U,U,U,U,U,U,U,U,U,U,U,U,U,U,U,U,U,U,U,U,U,U] h e
abbrev yss:List It:=[.code (.block 2 yrK (.loop yrJ ysa))]
abbrev yst (x0 x3 x4 x15 x16:AV) (h:List Ob) (e:Cx:=cx):Cfg:=atC n_order_coming_1 (.code ysj::.inLoop ysb ysj::.inBlock 0 ysc::yss) [x0,U,U,x3,x4,U,U,U,U,U,U,U,U,U,U,x15,x16,U,U,U,U,U,U,U,U,U,U,U,U,U,U,U,U,U,U,U,U,U,U,U,U,U,U,U,U,U,U,U,U,U,U,U,U,U,U,U,U,U,U,U,U,U,U,U,U,U,U,U,U,U,U,U,U,U] h e
abbrev ysu (x0 x3 x4:AV) (h:List Ob) (e:Cx:=cx):Cfg:=atC n_order_coming_1 yss [x0,U,U,x3,x4,U,U,U,U,U,U,U,U,U,U,U,U,U,U,U,U,U,U,U,U,U,U,U,U,U,U,U,U,U,U,U,U,U,U,U,U,U,U,U,U,U,U,U,U,U,U,U,U,U,U,U,U,U,U,U,U,U,U,U,U,U,U,U,U,U,U,U,U,U] h e
@[simp] theorem c_order_coming_1:cfun Tryz.prog n_order_coming_1=some order_coming_1:=by kernel_rfl
@[simp] theorem e_order_coming_1:hasBody Tryz.prog n_order_coming_1=true:=by kernel_rfl
abbrev ysv:List AG:=[zz3 79 2 4,zzb 2 2 79]
abbrev ysw:List Bool:=[O,O,I,I,I,O,O,O,O,O,O,O,O,O,O,O,O,O,O,O,O,O,O,I,I,I,O,O,O,O,O,O,O,O,O,O,O,O,O,O,O,O,O,O,O,O,O,O,O,O,O,O,O,O,O,O,O,O,O,O,O,O,O,O,O,O,O,O,O,O,O,O,O,O,O,O,O,O,O,O]
abbrev ysx:List Bool:=[O,O,I,O,I,O,O,O,O,O,O,O,O,O,O,O,O,O,O,O,O,O,O,O,O,O,O,O,O,O,O,O,O,O,O,O,O,O,O,O,O,O,O,O,O,O,O,O,O,O,O,O,O,O,O,O,O,O,O,O,O,O,O,O,O,O,O,O,O,O,O,O,O,O,O,O,O,O,O,O]
abbrev ysy:List AG:=[zz6 78 25 1,zz1 25 78]
abbrev ysz:List Bool:=[O,O,I,I,I,I,O,O,O,O,O,O,O,O,O,O,O,O,O,O,O,O,O,I,I,I,O,O,O,O,O,O,O,O,O,O,I,I,I,O,O,O,O,O,O,O,O,O,O,O,O,O,O,O,O,O,O,O,O,O,O,O,O,O,O,O,O,O,O,O,O,O,O,O,O,O,O,O,O,O]
abbrev ysA:List Bool:=[O,O,I,I,I,O,O,O,O,O,O,O,O,O,O,O,O,O,O,O,O,O,O,I,I,I,O,O,O,O,O,O,O,O,O,O,O,O,O,O,O,O,O,O,O,O,O,O,O,O,O,O,O,O,O,O,O,O,O,O,O,O,O,O,O,O,O,O,O,O,O,O,O,O,O,O,O,O,O,O]
abbrev ysB:List AG:=[zz6 77 38 1,zz1 38 77]
abbrev ysC:List AG:=[zz4 65 1 4,zz2 66 1 65,zz1 67 9,zz4 68 1 4,zz2 69 1 68,zz1 70 9,zz5 71 1 69 70,zz2 72 1 71,zz1 73 5,o 74 (.lit 1 [(.int .i64 0)] [(0,(.t 73))]),o 75 (.append 1 t_int 8 (.t 72) (.t 74)),zz5 76 1 66 67,zzb 1 76 75]
abbrev ysD:List AG:=[zz4 59 0 4,zz2 60 1 59,zz1 61 5,zz5 62 1 60 61,zz2 63 1 62,zz1 64 9,q (.upd (.sc .int) (.t 63) (.t 64) (.c (.bool true)))]
abbrev ysE:ACode:=(.seq (.reg ysD) (.dreg [O,I,O,O,I,O,O,I,O,O,O,O,O] [13,13,13,11,11,11,11,11,10,11,13,13,14] ysC))
abbrev ysF:List AG:=[zz1 48 10,zz1 49 48,oy 50 49 (.off 0 (.t 4)),zzd 51 49 1 50,zze 52 49 5,oy 53 49 (.ixAddr 1 (.t 51) (.t 52)),zzd 54 49 1 53,zze 55 49 9,oy 56 49 (.lookup (.sc .int) (.bool false) (.t 54) (.t 55) false),oy 57 49 (.not (.t 56)),zz8 58 49 57]
abbrev ysG:List AG:=[zz1 43 3,zz1 44 8,o 45 (.lookup (.sc .str) (.int .i64 0) (.t 43) (.t 44) true),zz1 42 45,zzc 46 42 0,zzc 47 42 1,zz1 9 46,zz1 10 47]
abbrev ysH:List AG:=[zz5 40 1 36 38,zz2 41 1 40,zz1 8 41]
abbrev ysI:ACode:=(.seq (.reg ysH) (.seq (.reg ysG) (.seq (.reg ysF) (.cond (.t 58) ysE .skip))))
abbrev ysJ:List AG:=[zz7 39 38 37]
abbrev ysK:ACode:=(.seq (.reg ysJ) (.seq (.cond (.t 39) .skip (.exit 2)) (.seq (.block 3 [] ysI) (.reg ysB))))
abbrev ysL:List AG:=[zz4 35 2 6,zz2 36 1 35,zza 37 36,zz9 38 0]
abbrev ysM:List AG:=[zz4 30 0 4,zz2 31 1 30,zz1 32 5,o 33 (.mkMap),zz5 34 1 31 32,zzb 1 34 33]
abbrev ysN:List AG:=[zz1 27 25,zz5 28 5 23 25,zz3 29 5 28,o 6 (.alloc [(.str []),(.int .i64 0),(.own 1 t_string []),(.own 1 t_string []),(.bool false)]),zz1 5 27,zzb 5 6 29]
abbrev ysO:ACode:=(.seq (.reg ysN) (.seq (.reg ysM) (.seq (.reg ysL) (.block 2 ysA (.loop ysz ysK)))))
abbrev ysP:List AG:=[zz7 26 25 24]
abbrev ysQ:ACode:=(.seq (.reg ysP) (.seq (.cond (.t 26) .skip (.exit 0)) (.seq (.block 1 [] ysO) (.reg ysy))))
abbrev ysR:List AG:=[zz4 22 3 1,zz2 23 1 22,zza 24 23,zz9 25 0]
abbrev ysS:List AG:=[zz4 13 3 1,zz2 14 1 13,zza 15 14,o 16 (.mkSlice 1 t_map_int_bool_2 8 .nilm (.t 15) (.t 15)),zz4 17 3 1,zz2 18 1 17,zza 19 18,o 20 (.mkSlice 1 t_int_2 24 (.list true 0 []) (.t 19) (.t 19)),o 21 (.build [(.list true 0 []),(.list true 0 [])] [(0,1,(.t 16)),(1,1,(.t 20))]),o 4 (.alloc [(.own 1 t_map_int_bool_2 []),(.own 1 t_int_2 [])]),zzb 2 4 21]
abbrev ysT:List AG:=[zz3 11 4 1,zzf 12 n_order_places 11,zz1 3 12]
abbrev ysU:List AG:=[o 1 (.box 4 (.t 0)),o 2 (.alloc [(.own 1 t_map_int_bool_2 []),(.own 1 t_int_2 [])])]
abbrev order_wait:AFun:=⟨(.seq (.reg ysU) (.seq (.reg ysT) (.seq (.oreg [[],[0],[1],[2,2],[],[4],[5],[6,6],[3,7],[],[9,8,0,1,2,3,4,5,6,7,8,9]] ysS) (.seq (.seq (.reg ysR) (.block 0 ysx (.loop ysw ysQ))) (.seq (.reg ysv) .ret))))),80,[.cell 2 true 2]⟩
abbrev ysV:List It:=[.inBlock 1 [],.code (.reg ysy),.inLoop ysw ysQ,.inBlock 0 ysx,.code (.seq (.reg ysv) .ret)]
abbrev ysW (x2 x3 x4 x5 x23 x24 x25 x36 x37 x38:AV) (h:List Ob) (e:Cx:=cx):Cfg:=atC n_order_wait (.code ysK::.inLoop ysz ysK::.inBlock 2 ysA::ysV) [U,U,x2,x3,x4,x5,U,U,U,U,U,U,U,U,U,U,U,U,U,U,U,U,U,x23,x24,x25,U,U,U,U,U,U,U,U,U,U,x36,x37,x38,U,U,U,U,U,U,U,U,U,U,U,U,U,U,U,U,U,U,U,U,U,U,U,U,U,U,U,U,U,U,U,U,U,U,U,U,U,U,U,U,U] h e
abbrev ysX (x2 x3 x4 x23 x24 x25:AV) (h:List Ob) (e:Cx:=cx):Cfg:=atC n_order_wait ysV [U,U,x2,x3,x4,U,U,U,U,U,U,U,U,U,U,U,U,U,U,U,U,U,U,x23,x24,x25,U,U,U,U,U,U,U,U,U,U,U,U,U,U,U,U,U,U,U,U,U,U,U,U,U,U,U,U,U,U,U,U,U,U,U,U,U,U,U,U,U,U,U,U,U,U,U,U,U,U,U,U,U,U] h e
abbrev ysY:List It:=[.code (.seq (.reg ysv) .ret)]
abbrev ysZ (x2 x3 x4 x23 x24 x25:AV) (h:List Ob) (e:Cx:=cx):Cfg:=atC n_order_wait (.code ysQ::.inLoop ysw ysQ::.inBlock 0 ysx::ysY) [U,U,x2,x3,x4,U,U,U,U,U,U,U,U,U,U,U,U,U,U,U,U,U,U,x23,x24,x25,U,U,U,U,U,U,U,U,U,U,U,U,U,U,U,U,U,U,U,U,U,U,U,U,U,U,U,U,U,U,U,U,U,U,U,U,U,U,U,U,U,U,U,U,U,U,U,U,U,U,U,U,U,U] h e
@[simp] theorem c_order_wait:cfun Tryz.prog n_order_wait=some order_wait:=by kernel_rfl
@[simp] theorem e_order_wait:hasBody Tryz.prog n_order_wait=true:=by kernel_rfl
abbrev yta:List AG:=[zz1 7 0,zz1 8 0,o 9 (.invoke (.t 8) "Len" []),o 10 (.ibin .sub (.t 9) (.c (.int .i64 1))),zzg 11 n_container_heap_up 7 10]
abbrev ytb:List AG:=[zz1 4 0,zz1 5 1,o 6 (.invoke (.t 4) "Push" [(.t 5)])]
abbrev container_heap_Push:AFun:=⟨(.seq (.reg ytb) (.reg yta)),12,[]⟩
@[simp] theorem c_container_heap_Push:cfun Tryz.prog n_container_heap_Push=some container_heap_Push:=by kernel_rfl
@[simp] theorem e_container_heap_Push:hasBody Tryz.prog n_container_heap_Push=true:=by kernel_rfl
abbrev ytc:List AG:=[zz1 3 0,zza 4 3,zz1 2 4]
abbrev ytd:List AG:=[zz9 2 0]
abbrev order_pile_Len:AFun:=⟨(.seq (.reg ytd) (.seq (.reg ytc) .ret)),5,[.tmp 2]⟩
@[simp] theorem c_order_pile_Len:cfun Tryz.prog n_order_pile_Len=some order_pile_Len:=by kernel_rfl
@[simp] theorem e_order_pile_Len:hasBody Tryz.prog n_order_pile_Len=true:=by kernel_rfl
abbrev yte:List AG:=[zz1 13 0,o 14 (.invoke (.t 13) "Pop" []),zz1 2 14]
abbrev ytf:List AG:=[zz1 10 0,zz1 11 3,o 12 (.call (.f n_container_heap_down) [(.t 10),(.c (.int .i64 0)),(.t 11)])]
abbrev ytg:List AG:=[zz1 7 0,zz1 8 3,o 9 (.invoke (.t 7) "Swap" [(.c (.int .i64 0)),(.t 8)])]
abbrev yth:List AG:=[zz1 4 0,o 5 (.invoke (.t 4) "Len" []),o 6 (.ibin .sub (.t 5) (.c (.int .i64 1))),zz1 3 6]
abbrev yti:List AG:=[o 2 (.mv (.c .nili))]
abbrev container_heap_Pop:AFun:=⟨(.seq (.reg yti) (.seq (.reg yth) (.seq (.reg ytg) (.seq (.reg ytf) (.seq (.reg yte) .ret))))),15,[.tmp 2]⟩
@[simp] theorem c_container_heap_Pop:cfun Tryz.prog n_container_heap_Pop=some container_heap_Pop:=by kernel_rfl
@[simp] theorem e_container_heap_Pop:hasBody Tryz.prog n_container_heap_Pop=true:=by kernel_rfl
abbrev ytj:List AG:=[o 4 (.mv (.c (.int .i64 (-1))))]
abbrev ytk:List Bool:=[I,I,O,O,O,O,O,I,I,O,O,O,O,O,O,O,O,O,O]
abbrev ytl:List Bool:=[O,O,O,O,O,O,O,O,O,O,O,O,O,O,O,O,O,O,O]
abbrev ytm:List AG:=[zz6 18 8 1,zz1 8 18]
abbrev ytn:List AG:=[zz1 17 5,zz1 4 17]
abbrev yto:ACode:=(.seq (.reg ytn) .ret)
abbrev ytp:List AG:=[zz1 11 1,zz1 12 0,zz1 13 5,zz5 14 5 12 13,zz3 15 5 14,o 16 (.call (.t 11) [(.t 15)])]
abbrev ytq:List AG:=[zz1 10 8,zz1 5 10]
abbrev ytr:ACode:=(.seq (.reg ytq) (.seq (.reg ytp) (.cond (.t 16) yto .skip)))
abbrev yts:List AG:=[zz7 9 8 7]
abbrev ytt:ACode:=(.seq (.reg yts) (.seq (.cond (.t 9) .skip (.exit 0)) (.seq (.block 1 [] ytr) (.reg ytm))))
abbrev ytu:List AG:=[zz1 6 0,zza 7 6,zz9 8 0]
abbrev ytv:List AG:=[zz9 4 0]
abbrev slices_IndexFunc_api_Gate_api_Gate:AFun:=⟨(.seq (.reg ytv) (.seq (.seq (.reg ytu) (.block 0 ytl (.loop ytk ytt))) (.seq (.reg ytj) .ret))),19,[.tmp 4]⟩
abbrev ytw:List It:=[.code (.seq (.reg ytj) .ret)]
abbrev ytx (x0 x1 x7 x8:AV) (h:List Ob) (e:Cx:=cx):Cfg:=atC n_slices_IndexFunc_api_Gate_api_Gate (.code ytt::.inLoop ytk ytt::.inBlock 0 ytl::ytw) [x0,x1,U,U,U,U,U,x7,x8,U,U,U,U,U,U,U,U,U,U] h e
@[simp] theorem c_slices_IndexFunc_api_Gate_api_Gate:cfun Tryz.prog n_slices_IndexFunc_api_Gate_api_Gate=some slices_IndexFunc_api_Gate_api_Gate:=by kernel_rfl
@[simp] theorem e_slices_IndexFunc_api_Gate_api_Gate:hasBody Tryz.prog n_slices_IndexFunc_api_Gate_api_Gate=true:=by kernel_rfl
abbrev yty:List AG:=[zz1 35 6,zz1 2 35]
abbrev ytz:List Bool:=[O,O,O,O,O,O,I,O,O,O,O,O,O,O,O,O,O,O,O,O,O,O,O,O,O,I,I,I,O,O,O,O,O,O,O,O]
abbrev ytA:List Bool:=[O,O,O,O,O,O,I,O,O,O,O,O,O,O,O,O,O,O,O,O,O,O,O,O,O,O,O,O,O,O,O,O,O,O,O,O]
abbrev ytB:List AG:=[zz6 34 27 1,zz1 27 34]
abbrev ytC:List AG:=[zz1 31 6,zz1 32 8,o 33 (.append 1 t_string 16 (.t 31) (.t 32)),zz1 6 33]
abbrev ytD:List AG:=[zz5 29 1 25 27,zz2 30 1 29,zz1 8 30]
abbrev ytE:ACode:=(.seq (.reg ytD) (.reg ytC))
abbrev ytF:List AG:=[zz7 28 27 26]
abbrev ytG:ACode:=(.seq (.reg ytF) (.seq (.cond (.t 28) .skip (.exit 2)) (.seq (.block 3 [] ytE) (.reg ytB))))
abbrev ytH:List AG:=[zz1 25 0,zza 26 25,zz9 27 0]
abbrev ytI:List AG:=[zz1 23 3,o 24 (.call (.f n_slices_Grow_string_string) [(.c (.list true 0 [])),(.t 23)]),zz1 6 24]
abbrev ytJ:List Bool:=[I,O,O,I,O,O,O,O,O,I,I,I,O,O,O,O,O,O,O,O,O,O,O,O,O,O,O,O,O,O,O,O,O,O,O,O]
abbrev ytK:List Bool:=[I,O,O,I,O,O,O,O,O,O,O,O,O,O,O,O,O,O,O,O,O,O,O,O,O,O,O,O,O,O,O,O,O,O,O,O]
abbrev ytL:List AG:=[zz6 22 11 1,zz1 11 22]
abbrev ytM:List AG:=[o 21 (.mkIface t_string (.c (.str [108,101,110,32,111,117,116,32,111,102,32,114,97,110,103,101]))),q (.panic (.t 21))]
abbrev ytN:List AG:=[zz1 19 3,o 20 (.cmp .lss (.sc .int) (.t 19) (.c (.int .i64 0)))]
abbrev ytO:List AG:=[zz1 15 3,zz1 16 5,zza 17 16,o 18 (.ibin .add (.t 15) (.t 17)),zz1 3 18]
abbrev ytP:List AG:=[zz5 13 1 9 11,zz2 14 1 13,zz1 5 14]
abbrev ytQ:ACode:=(.seq (.reg ytP) (.seq (.reg ytO) (.seq (.reg ytN) (.cond (.t 20) (.reg ytM) .skip))))
abbrev ytR:List AG:=[zz7 12 11 10]
abbrev ytS:ACode:=(.seq (.reg ytR) (.seq (.cond (.t 12) .skip (.exit 0)) (.seq (.block 1 [] ytQ) (.reg ytL))))
abbrev ytT:List AG:=[zz1 9 0,zza 10 9,zz9 11 0]
abbrev ytU:List AG:=[zz9 3 0]
abbrev ytV:List AG:=[o 2 (.nilrow 1 t_string)]
abbrev slices_Concat_string_string:AFun:=⟨(.seq (.reg ytV) (.seq (.reg ytU) (.seq (.seq (.reg ytT) (.block 0 ytK (.loop ytJ ytS))) (.seq (.reg ytI) (.seq (.seq (.reg ytH) (.block 2 ytA (.loop ytz ytG))) (.seq (.reg yty) .ret)))))),36,[.tmp 2]⟩
abbrev ytW:List It:=[.code (.seq (.reg yty) .ret)]
abbrev ytX (x6 x25 x26 x27:AV) (h:List Ob) (e:Cx:=cx):Cfg:=atC n_slices_Concat_string_string (.code ytG::.inLoop ytz ytG::.inBlock 2 ytA::ytW) [U,U,U,U,U,U,x6,U,U,U,U,U,U,U,U,U,U,U,U,U,U,U,U,U,U,x25,x26,x27,U,U,U,U,U,U,U,U] h e
abbrev ytY:List It:=[.code (.seq (.reg ytI) (.seq (.seq (.reg ytH) (.block 2 ytA (.loop ytz ytG))) (.seq (.reg yty) .ret)))]
abbrev ytZ (x0 x3 x9 x10 x11:AV) (h:List Ob) (e:Cx:=cx):Cfg:=atC n_slices_Concat_string_string (.code ytS::.inLoop ytJ ytS::.inBlock 0 ytK::ytY) [x0,U,U,x3,U,U,U,U,U,x9,x10,x11,U,U,U,U,U,U,U,U,U,U,U,U,U,U,U,U,U,U,U,U,U,U,U,U] h e
@[simp] theorem c_slices_Concat_string_string:cfun Tryz.prog n_slices_Concat_string_string=some slices_Concat_string_string:=by kernel_rfl
@[simp] theorem e_slices_Concat_string_string:hasBody Tryz.prog n_slices_Concat_string_string=true:=by kernel_rfl
abbrev yua:List AG:=[zz1 4 0,o 5 (.cmp .neq (.sc .str) (.t 4) (.c (.str []))),zz1 6 5,zze 7 6 0,oy 8 6 (.lenStr (.t 7)),oy 9 6 (.cmp .leq (.sc .int) (.t 8) (.c (.int .i64 40))),zz8 10 6 9,zz1 11 10,zze 12 11 0,zze 13 11 3,oy 14 11 (.call (.f n_strings_IndexFunc) [(.t 12),(.t 13)]),oy 15 11 (.cmp .lss (.sc .int) (.t 14) (.c (.int .i64 0))),zz8 16 11 15,zz1 2 16]
abbrev yub:List AG:=[o 3 (.mv (.f n_ident_name_plain_1))]
abbrev yuc:List AG:=[zzh 2]
abbrev ident_name_plain:AFun:=⟨(.seq (.reg yuc) (.seq (.reg yub) (.seq (.reg yua) .ret))),17,[.tmp 2]⟩
@[simp] theorem c_ident_name_plain:cfun Tryz.prog n_ident_name_plain=some ident_name_plain:=by kernel_rfl
@[simp] theorem e_ident_name_plain:hasBody Tryz.prog n_ident_name_plain=true:=by kernel_rfl
@[simp] theorem e_math_bits_OnesCount32:hasBody Tryz.prog n_math_bits_OnesCount32=true:=by kernel_rfl
abbrev yud:List AG:=[zz1 32 0,o 33 (.conv .i64 (.t 32)),o 34 (.ibin .and (.t 33) (.c (.int .i64 127))),zz1 2 34]
abbrev yue:List AG:=[zz1 28 0,zz1 29 0,o 30 (.ibin .shr (.t 29) (.c (.int .u64 32))),o 31 (.ibin .add (.t 28) (.t 30)),zz1 0 31]
abbrev yuf:List AG:=[zz1 24 0,zz1 25 0,o 26 (.ibin .shr (.t 25) (.c (.int .u64 16))),o 27 (.ibin .add (.t 24) (.t 26)),zz1 0 27]
abbrev yug:List AG:=[zz1 20 0,zz1 21 0,o 22 (.ibin .shr (.t 21) (.c (.int .u64 8))),o 23 (.ibin .add (.t 20) (.t 22)),zz1 0 23]
abbrev yuh:List AG:=[zz1 15 0,o 16 (.ibin .shr (.t 15) (.c (.int .u64 4))),zz1 17 0,o 18 (.ibin .add (.t 16) (.t 17)),o 19 (.ibin .and (.t 18) (.c (.int .u64 1085102592571150095))),zz1 0 19]
abbrev yui:List AG:=[zz1 9 0,o 10 (.ibin .shr (.t 9) (.c (.int .u64 2))),o 11 (.ibin .and (.t 10) (.c (.int .u64 3689348814741910323))),zz1 12 0,o 13 (.ibin .and (.t 12) (.c (.int .u64 3689348814741910323))),o 14 (.ibin .add (.t 11) (.t 13)),zz1 0 14]
abbrev yuj:List AG:=[zz1 3 0,o 4 (.ibin .shr (.t 3) (.c (.int .u64 1))),o 5 (.ibin .and (.t 4) (.c (.int .u64 6148914691236517205))),zz1 6 0,o 7 (.ibin .and (.t 6) (.c (.int .u64 6148914691236517205))),o 8 (.ibin .add (.t 5) (.t 7)),zz1 0 8]
abbrev yuk:List AG:=[zz9 2 0]
abbrev math_bits_OnesCount64:AFun:=⟨(.seq (.reg yuk) (.seq (.reg yuj) (.seq (.reg yui) (.seq (.reg yuh) (.seq (.reg yug) (.seq (.reg yuf) (.seq (.reg yue) (.seq (.reg yud) .ret)))))))),35,[.tmp 2]⟩
@[simp] theorem c_math_bits_OnesCount64:cfun Tryz.prog n_math_bits_OnesCount64=some math_bits_OnesCount64:=by kernel_rfl
@[simp] theorem e_math_bits_OnesCount64:hasBody Tryz.prog n_math_bits_OnesCount64=true:=by kernel_rfl
abbrev yul:List Bool:=[I,I,O,O,O,O,O,O,O,O,O,O,O,O,O,O,O,O,O,O,O,O,O]
abbrev yum:List Bool:=[O,O,O,O,O,O,O,O,O,O,O,O,O,O,O,O,O,O,O,O,O,O,O]
abbrev yun:List AG:=[zz1 22 4,zz1 1 22]
abbrev yuo:List AG:=[zz1 18 0,zz1 19 4,zz1 20 1,o 21 (.invoke (.t 18) "Swap" [(.t 19),(.t 20)])]
abbrev yup:List AG:=[zz1 8 4,zz1 9 1,o 10 (.cmp .eql (.sc .int) (.t 8) (.t 9)),zz1 11 10,on 12 11 (.mv (.t 0)),on 13 11 (.mv (.t 1)),on 14 11 (.mv (.t 4)),on 15 11 (.invoke (.t 12) "Less" [(.t 13),(.t 14)]),on 16 11 (.not (.t 15)),o 17 (.pick (.t 11) (.c (.bool true)) (.t 16))]
abbrev yuq:List AG:=[zz1 5 1,o 6 (.ibin .sub (.t 5) (.c (.int .i64 1))),o 7 (.ibin .quo (.t 6) (.c (.int .i64 2))),zz1 4 7]
abbrev yur:ACode:=(.seq (.reg yuq) (.seq (.seq (.reg yup) (.cond (.t 17) (.exit 0) .skip)) (.seq (.reg yuo) (.reg yun))))
abbrev yus:ACode:=(.block 1 [] yur)
abbrev container_heap_up:AFun:=⟨(.block 0 yum (.loop yul yus)),23,[]⟩
abbrev yut:List It:=[]
abbrev yuu (x0 x1:AV) (h:List Ob) (e:Cx:=cx):Cfg:=atC n_container_heap_up (.code yus::.inLoop yul yus::.inBlock 0 yum::yut) [x0,x1,U,U,U,U,U,U,U,U,U,U,U,U,U,U,U,U,U,U,U,U,U] h e
@[simp] theorem c_container_heap_up:cfun Tryz.prog n_container_heap_up=some container_heap_up:=by kernel_rfl
@[simp] theorem e_container_heap_up:hasBody Tryz.prog n_container_heap_up=true:=by kernel_rfl
abbrev yuv:List AG:=[zz1 45 7,zz1 46 1,o 47 (.cmp .gtr (.sc .int) (.t 45) (.t 46)),zz1 6 47]
abbrev yuw:List Bool:=[I,I,I,O,O,O,O,I,O,O,O,O,O,O,O,O,O,O,O,O,O,O,O,O,O,O,O,O,O,O,O,O,O,O,O,O,O,O,O,O,O,O,O,O,O,O,O,O]
abbrev yux:List Bool:=[O,I,O,O,O,O,O,I,O,O,O,O,O,O,O,O,O,O,O,O,O,O,O,O,O,O,O,O,O,O,O,O,O,O,O,O,O,O,O,O,O,O,O,O,O,O,O,O]
abbrev yuy:List AG:=[zz1 44 9,zz1 7 44]
abbrev yuz:List AG:=[zz1 40 0,zz1 41 7,zz1 42 9,o 43 (.invoke (.t 40) "Swap" [(.t 41),(.t 42)])]
abbrev yuA:List AG:=[zz1 35 0,zz1 36 9,zz1 37 7,o 38 (.invoke (.t 35) "Less" [(.t 36),(.t 37)]),o 39 (.not (.t 38))]
abbrev yuB:List AG:=[zz1 34 10,zz1 9 34]
abbrev yuC:List AG:=[zz1 25 10,zz1 26 2,zz7 27 25 26,zz1 28 27,zze 29 28 0,zze 30 28 10,zze 31 28 8,oy 32 28 (.invoke (.t 29) "Less" [(.t 30),(.t 31)]),zz8 33 28 32]
abbrev yuD:List AG:=[zz1 23 8,zz6 24 23 1,zz1 10 24]
abbrev yuE:List AG:=[zz1 22 8,zz1 9 22]
abbrev yuF:List AG:=[zz1 15 8,zz1 16 2,o 17 (.cmp .geq (.sc .int) (.t 15) (.t 16)),zz1 18 17,on 19 18 (.mv (.t 8)),on 20 18 (.cmp .lss (.sc .int) (.t 19) (.c (.int .i64 0))),o 21 (.pick (.t 18) (.c (.bool true)) (.t 20))]
abbrev yuG:List AG:=[zz1 12 7,o 13 (.ibin .mul (.c (.int .i64 2)) (.t 12)),zz6 14 13 1,zz1 8 14]
abbrev yuH:ACode:=(.seq (.reg yuG) (.seq (.seq (.reg yuF) (.cond (.t 21) (.exit 0) .skip)) (.seq (.reg yuE) (.seq (.seq (.reg yuD) (.seq (.reg yuC) (.cond (.t 33) (.reg yuB) .skip))) (.seq (.seq (.reg yuA) (.cond (.t 39) (.exit 0) .skip)) (.seq (.reg yuz) (.reg yuy)))))))
abbrev yuI:ACode:=(.block 1 [] yuH)
abbrev yuJ:List AG:=[zz1 11 1,zz1 7 11]
abbrev yuK:List AG:=[zzh 6]
abbrev container_heap_down:AFun:=⟨(.seq (.reg yuK) (.seq (.reg yuJ) (.seq (.block 0 yux (.loop yuw yuI)) (.seq (.reg yuv) .ret)))),48,[.tmp 6]⟩
abbrev yuL:List It:=[.code (.seq (.reg yuv) .ret)]
abbrev yuM (x0 x1 x2 x7:AV) (h:List Ob) (e:Cx:=cx):Cfg:=atC n_container_heap_down (.code yuI::.inLoop yuw yuI::.inBlock 0 yux::yuL) [x0,x1,x2,U,U,U,U,x7,U,U,U,U,U,U,U,U,U,U,U,U,U,U,U,U,U,U,U,U,U,U,U,U,U,U,U,U,U,U,U,U,U,U,U,U,U,U,U,U] h e
@[simp] theorem c_container_heap_down:cfun Tryz.prog n_container_heap_down=some container_heap_down:=by kernel_rfl
@[simp] theorem e_container_heap_down:hasBody Tryz.prog n_container_heap_down=true:=by kernel_rfl
abbrev yuN:List AG:=[zz1 26 0,zz1 4 26]
abbrev yuO:List AG:=[zz1 17 0,zz1 18 0,o 19 (.cap (.t 18)),o 20 (.slice 1 (.t 17) none (some (.t 19))),zz1 21 1,o 22 (.appendZ 1 t_string 16 (.str []) (.t 20) (.t 21)),zz1 23 0,zza 24 23,o 25 (.slice 1 (.t 22) none (some (.t 24))),zz1 0 25]
abbrev yuP:List AG:=[zz1 15 1,o 16 (.cmp .gtr (.sc .int) (.t 15) (.c (.int .i64 0)))]
abbrev yuQ:List AG:=[zz1 8 1,zz1 9 0,o 10 (.cap (.t 9)),zz1 11 0,zza 12 11,o 13 (.ibin .sub (.t 10) (.t 12)),o 14 (.ibin .sub (.t 8) (.t 13)),zz1 1 14]
abbrev yuR:List AG:=[o 7 (.mkIface t_string (.c (.str [99,97,110,110,111,116,32,98,101,32,110,101,103,97,116,105,118,101]))),q (.panic (.t 7))]
abbrev yuS:List AG:=[zz1 5 1,o 6 (.cmp .lss (.sc .int) (.t 5) (.c (.int .i64 0)))]
abbrev yuT:List AG:=[o 4 (.nilrow 1 t_string)]
abbrev slices_Grow_string_string:AFun:=⟨(.seq (.reg yuT) (.seq (.seq (.reg yuS) (.cond (.t 6) (.reg yuR) .skip)) (.seq (.seq (.reg yuQ) (.seq (.reg yuP) (.cond (.t 16) (.reg yuO) .skip))) (.seq (.reg yuN) .ret)))),27,[.tmp 4]⟩
@[simp] theorem c_slices_Grow_string_string:cfun Tryz.prog n_slices_Grow_string_string=some slices_Grow_string_string:=by kernel_rfl
@[simp] theorem e_slices_Grow_string_string:hasBody Tryz.prog n_slices_Grow_string_string=true:=by kernel_rfl
abbrev yuU:List AG:=[zz1 3 0,o 4 (.cmp .leq (.sc .int) (.t 3) (.c (.int .i32 32))),zz1 5 4,on 6 5 (.mv (.t 0)),on 7 5 (.cmp .gtr (.sc .int) (.t 6) (.c (.int .i32 126))),o 8 (.pick (.t 5) (.c (.bool true)) (.t 7)),zz1 2 8]
abbrev yuV:List AG:=[zzh 2]
abbrev ident_name_plain_1:AFun:=⟨(.seq (.reg yuV) (.seq (.reg yuU) .ret)),9,[.tmp 2]⟩
@[simp] theorem c_ident_name_plain_1:cfun Tryz.prog n_ident_name_plain_1=some ident_name_plain_1:=by kernel_rfl
@[simp] theorem e_ident_name_plain_1:hasBody Tryz.prog n_ident_name_plain_1=true:=by kernel_rfl
abbrev yuW:List AG:=[zz1 5 0,zz1 6 1,o 7 (.call (.f n_strings_indexFunc) [(.t 5),(.t 6),(.c (.bool true))]),zz1 4 7]
abbrev yuX:List AG:=[zz9 4 0]
abbrev strings_IndexFunc:AFun:=⟨(.seq (.reg yuX) (.seq (.reg yuW) .ret)),8,[.tmp 4]⟩
@[simp] theorem c_strings_IndexFunc:cfun Tryz.prog n_strings_IndexFunc=some strings_IndexFunc:=by kernel_rfl
@[simp] theorem e_strings_IndexFunc:hasBody Tryz.prog n_strings_IndexFunc=true:=by kernel_rfl
abbrev yuY:List AG:=[o 6 (.mv (.c (.int .i64 (-1))))]
abbrev yuZ:List Bool:=[O,I,I,O,O,O,O,O,O,O,I,O,O,O,O,O,O,O,O,O,O]
abbrev yva:List Bool:=[O,O,O,O,O,O,O,O,O,O,O,O,O,O,O,O,O,O,O,O,O]
abbrev yvb:List AG:=[zz1 20 7,zz1 6 20]
abbrev yvc:ACode:=(.seq (.reg yvb) .ret)
abbrev yvd:List AG:=[zz1 15 1,zz1 16 8,o 17 (.call (.t 15) [(.t 16)]),zz1 18 2,o 19 (.cmp .eql (.sc .bool) (.t 17) (.t 18))]
abbrev yve:List AG:=[zzc 13 11 1,zzc 14 11 2,zz1 7 13,zz1 8 14]
abbrev yvf:ACode:=(.seq (.reg yve) (.seq (.reg yvd) (.cond (.t 19) yvc .skip)))
abbrev yvg:List AG:=[o 11 (.next (.t 10)),zzc 12 11 0]
abbrev yvh:ACode:=(.seq (.reg yvg) (.seq (.cond (.t 12) .skip (.exit 0)) (.block 1 [] yvf)))
abbrev yvi:List AG:=[zz1 9 0,o 10 (.range (.t 9))]
abbrev yvj:List AG:=[zz9 6 0]
abbrev strings_indexFunc:AFun:=⟨(.seq (.reg yvj) (.seq (.seq (.reg yvi) (.block 0 yva (.loop yuZ yvh))) (.seq (.reg yuY) .ret))),21,[.tmp 6]⟩
abbrev yvk:List It:=[.code (.seq (.reg yuY) .ret)]
abbrev yvl (x1 x2 x10:AV) (h:List Ob) (e:Cx:=cx):Cfg:=atC n_strings_indexFunc (.code yvh::.inLoop yuZ yvh::.inBlock 0 yva::yvk) [U,x1,x2,U,U,U,U,U,U,U,x10,U,U,U,U,U,U,U,U,U,U] h e
@[simp] theorem c_strings_indexFunc:cfun Tryz.prog n_strings_indexFunc=some strings_indexFunc:=by kernel_rfl
@[simp] theorem e_strings_indexFunc:hasBody Tryz.prog n_strings_indexFunc=true:=by kernel_rfl
abbrev yvm:List AG:=[zz1 7 0,zz1 8 1,zz5 9 1 7 8,zz2 10 1 9,zz1 11 0,zz1 12 2,zz5 13 1 11 12,zz2 14 1 13,zz7 15 10 14,zz1 6 15]
abbrev yvn:List AG:=[zzh 6]
abbrev order_pile_Less:AFun:=⟨(.seq (.reg yvn) (.seq (.dreg [O,O,O,O,O,O,O,O,O,O] [11,11,11,11,11,11,11,11,11,11] yvm) .ret)),16,[.tmp 6]⟩
@[simp] theorem c_order_pile_Less:cfun Tryz.prog n_order_pile_Less=some order_pile_Less:=by kernel_rfl
@[simp] theorem e_order_pile_Less:hasBody Tryz.prog n_order_pile_Less=true:=by kernel_rfl
abbrev yvo:List AG:=[zz1 25 3,o 26 (.mkIface t_int (.t 25)),zz1 2 26]
abbrev yvp:List AG:=[zz1 14 0,zz1 15 0,o 16 (.nilck (.t 15)),zz2 17 1 16,zz1 18 0,o 19 (.nilck (.t 18)),zz2 20 1 19,zza 21 20,o 22 (.ibin .sub (.t 21) (.c (.int .i64 1))),o 23 (.slice 1 (.t 17) none (some (.t 22))),o 24 (.nilck (.t 14)),zzb 1 24 23]
abbrev yvq:List AG:=[zz1 4 0,o 5 (.nilck (.t 4)),zz2 6 1 5,zz1 7 0,o 8 (.nilck (.t 7)),zz2 9 1 8,zza 10 9,o 11 (.ibin .sub (.t 10) (.c (.int .i64 1))),zz5 12 1 6 11,zz2 13 1 12,zz1 3 13]
abbrev yvr:List AG:=[o 2 (.mv (.c .nili))]
abbrev order_pile_Pop:AFun:=⟨(.seq (.reg yvr) (.seq (.dreg [O,O,O,O,O,O,O,O,O,O,O] [12,12,12,12,12,12,12,12,12,12,12] yvq) (.seq (.dreg [O,O,O,O,O,O,O,O,O,O,O,O] [12,12,12,12,12,12,12,12,12,12,12,13] yvp) (.seq (.reg yvo) .ret)))),27,[.tmp 2]⟩
@[simp] theorem c_order_pile_Pop:cfun Tryz.prog n_order_pile_Pop=some order_pile_Pop:=by kernel_rfl
@[simp] theorem e_order_pile_Pop:hasBody Tryz.prog n_order_pile_Pop=true:=by kernel_rfl
abbrev yvs:List AG:=[zz1 4 0,zz1 5 0,o 6 (.nilck (.t 5)),zz2 7 1 6,zz1 8 1,o 9 (.tassert (.t 8) t_int (.int .i64 0) false),o 10 (.lit 1 [(.int .i64 0)] [(0,(.t 9))]),o 11 (.append 1 t_int 8 (.t 7) (.t 10)),o 12 (.nilck (.t 4)),zzb 1 12 11]
abbrev order_pile_Push:AFun:=⟨(.dreg [O,O,O,I,O,O,O,O,O,O] [10,8,8,8,7,7,8,10,10,11] yvs),13,[]⟩
@[simp] theorem c_order_pile_Push:cfun Tryz.prog n_order_pile_Push=some order_pile_Push:=by kernel_rfl
@[simp] theorem e_order_pile_Push:hasBody Tryz.prog n_order_pile_Push=true:=by kernel_rfl
abbrev yvt:List AG:=[zz1 6 0,zz1 7 1,zz1 8 0,zz1 9 2,zz1 10 0,zz1 11 2,zz5 12 1 10 11,zz2 13 1 12,zz1 14 0,zz1 15 1,zz5 16 1 14 15,zz2 17 1 16,zz5 18 1 6 7,zzb 1 18 13,zz5 19 1 8 9,zzb 1 19 17]
abbrev order_pile_Swap:AFun:=⟨(.dreg [O,O,O,O,O,O,O,O,O,O,O,O,O,O,O,O] [14,14,16,16,14,14,14,14,14,14,14,14,14,16,16,17] yvt),20,[]⟩
@[simp] theorem c_order_pile_Swap:cfun Tryz.prog n_order_pile_Swap=some order_pile_Swap:=by kernel_rfl
@[simp] theorem e_order_pile_Swap:hasBody Tryz.prog n_order_pile_Swap=true:=by kernel_rfl
end Go.Proofs.YtpinapmcemimcaaGreatDoor
