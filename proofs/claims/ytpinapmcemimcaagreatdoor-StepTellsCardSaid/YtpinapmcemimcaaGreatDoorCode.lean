/- The functions, as the abstract machine has them. Printed by a program. -/
import Derived.Test.YtpinapmcemimcaaGreatDoorAMd
import Derived.Test.YtpinapmcemimcaaGreatDoorChecked
import Derived.KernelRfl
set_option linter.unusedSimpArgs false
set_option linter.unusedVariables false
namespace Go.Proofs.YtpinapmcemimcaaGreatDoor
open Go.AM Go.Proofs
abbrev zz1 (d i:Nat):AG:=o d (.mv (.t i))
abbrev zz2 (d k i:Nat):AG:=o d (.load false k (.t i))
abbrev zz3 (d k i:Nat):AG:=o d (.load true k (.t i))
abbrev zz4 (d k i:Nat):AG:=o d (.off k (.t i))
abbrev zz5 (d k i j:Nat):AG:=o d (.ixAddr k (.t i) (.t j))
abbrev zz6 (d i:Nat) (n:Int):AG:=o d (.ibin .add (.t i) (.c (.int .i64 n)))
abbrev zz7 (d i j:Nat):AG:=o d (.cmp .lss (.sc .int) (.t i) (.t j))
abbrev zz8 (d i j:Nat):AG:=o d (.pick (.t i) (.t j) (.c (.bool false)))
abbrev zz9 (d:Nat) (n:Int):AG:=o d (.mv (.c (.int .i64 n)))
abbrev zza (d i:Nat):AG:=o d (.len (.t i))
abbrev zzb (k a x:Nat):AG:=q (.store k (.t a) (.t x))
abbrev zzc (d i k:Nat):AG:=o d (.extract (.t i) k)
abbrev zzd (d j k i:Nat):AG:=oy d j (.load false k (.t i))
abbrev zze (d j i:Nat):AG:=oy d j (.mv (.t i))
abbrev zzf (d:Nat) (f:FuncId) (i:Nat):AG:=o d (.call (.f f) [(.t i)])
abbrev zzg (d:Nat) (f:FuncId) (i j:Nat):AG:=o d (.call (.f f) [(.t i),(.t j)])
abbrev zzh (d:Nat):AG:=o d (.mv (.c (.bool false)))
abbrev n_w08_StepTells:FuncId:=4
abbrev n_w08_works:FuncId:=8
abbrev n_w06_FewGate:FuncId:=9
abbrev n_step_Gate:FuncId:=10
abbrev n_r08_Gate:FuncId:=11
abbrev n_w07_Little:FuncId:=12
abbrev n_step_Start:FuncId:=13
abbrev n_r08_Start:FuncId:=14
abbrev n_step_Values:FuncId:=15
abbrev n_r08_Values:FuncId:=16
abbrev n_step_Step:FuncId:=17
abbrev n_r08_Step:FuncId:=18
abbrev n_r08_Allowed:FuncId:=19
abbrev n_r08_Bools:FuncId:=20
abbrev n_step_Allowed:FuncId:=21
abbrev n_step_Run:FuncId:=23
abbrev n_r08_Rows:FuncId:=25
abbrev n_w06_Few:FuncId:=26
abbrev n_r06_Place:FuncId:=28
abbrev n_w05_Texts:FuncId:=30
abbrev n_net_Gate:FuncId:=31
abbrev n_step_of:FuncId:=32
abbrev n_step_Gate_1:FuncId:=33
abbrev n_slices_ContainsFunc_string_string:FuncId:=34
abbrev n_step_Gate_1_1:FuncId:=35
abbrev n_step_fits:FuncId:=36
abbrev n_r06_Gate:FuncId:=37
abbrev n_r06_Rows:FuncId:=38
abbrev n_r08_fits:FuncId:=39
abbrev n_step_right:FuncId:=40
abbrev n_r08_right:FuncId:=41
abbrev n_step_begin:FuncId:=42
abbrev n_step_machine_values:FuncId:=43
abbrev n_step_pick:FuncId:=44
abbrev n_r07_Sort:FuncId:=45
abbrev n_step_machine_step:FuncId:=46
abbrev n_step_machine_steps:FuncId:=47
abbrev n_slices_Clone_bool_bool:FuncId:=48
abbrev n_order_right:FuncId:=49
abbrev n_slices_Clone_string_string:FuncId:=51
abbrev n_r06_Nets:FuncId:=53
abbrev n_net_has:FuncId:=54
abbrev n_net_rows:FuncId:=55
abbrev n_net_Gate_1:FuncId:=57
abbrev n_net_row:FuncId:=58
abbrev n_step_of_1:FuncId:=59
abbrev n_step_of_2:FuncId:=60
abbrev n_step_count:FuncId:=61
abbrev n_step_of_3:FuncId:=62
abbrev n_step_of_4:FuncId:=63
abbrev n_slices_IndexFunc_string_string:FuncId:=64
abbrev n_r06_row:FuncId:=65
abbrev n_r06_all:FuncId:=66
abbrev n_r06_odd:FuncId:=67
abbrev n_order_Check:FuncId:=68
abbrev n_r07_Check:FuncId:=69
abbrev n_order_Sort:FuncId:=70
abbrev n_net_Nets:FuncId:=71
abbrev n_slices_Concat_bool_bool:FuncId:=72
abbrev n_r07_right:FuncId:=73
abbrev n_r07_waits:FuncId:=74
abbrev n_step_machine_steps_1:FuncId:=75
abbrev n_net_Check:FuncId:=76
abbrev n_strings_Trim:FuncId:=80
abbrev n_r06_Check:FuncId:=81
abbrev n_order_places:FuncId:=82
abbrev n_order_coming:FuncId:=83
abbrev n_slices_Grow_bool_bool:FuncId:=84
abbrev n_net_Check_1:FuncId:=85
abbrev n_net_Check_2:FuncId:=86
abbrev n_net_need:FuncId:=87
abbrev n_slices_ContainsFunc_api_Gate_api_Gate:FuncId:=88
abbrev n_net_told:FuncId:=89
abbrev n_ident_Name:FuncId:=90
abbrev n_net_once:FuncId:=91
abbrev n_net_used:FuncId:=92
abbrev n_r06_limit:FuncId:=108
abbrev n_r06_Told:FuncId:=109
abbrev n_r04_Name:FuncId:=110
abbrev n_r06_twice:FuncId:=111
abbrev n_r06_Used:FuncId:=112
abbrev n_r01_Has:FuncId:=113
abbrev n_order_coming_1:FuncId:=114
abbrev n_order_wait:FuncId:=115
abbrev n_container_heap_Push:FuncId:=116
abbrev n_order_pile_Len:FuncId:=117
abbrev n_container_heap_Pop:FuncId:=118
abbrev n_slices_IndexFunc_api_Gate_api_Gate:FuncId:=119
abbrev n_slices_Concat_string_string:FuncId:=120
abbrev n_ident_name_plain:FuncId:=121
abbrev n_container_heap_up:FuncId:=133
abbrev n_container_heap_down:FuncId:=134
abbrev n_slices_Grow_string_string:FuncId:=135
abbrev n_ident_name_plain_1:FuncId:=136
abbrev n_strings_IndexFunc:FuncId:=137
abbrev n_strings_indexFunc:FuncId:=143
abbrev n_order_pile_Less:FuncId:=168
abbrev n_order_pile_Pop:FuncId:=169
abbrev n_order_pile_Push:FuncId:=170
abbrev n_order_pile_Swap:FuncId:=171
abbrev t_int:TypeId:=3
abbrev t_bool:TypeId:=4
abbrev t_string:TypeId:=9
abbrev t_api_Gate:TypeId:=25
abbrev t_bool_2:TypeId:=26
abbrev t_api_Latch_2:TypeId:=55
abbrev t_int_2:TypeId:=75
abbrev t_net_wrong:TypeId:=118
abbrev t_order_pile:TypeId:=153
@[simp] theorem m_order_pile_Push:cmeth Tryz.prog t_order_pile "Push" = some (n_order_pile_Push,none):=by kernel_rfl
@[simp] theorem m_order_pile_Len:cmeth Tryz.prog t_order_pile "Len" = some (n_order_pile_Len,some (false,1)):=by kernel_rfl
@[simp] theorem m_order_pile_Swap:cmeth Tryz.prog t_order_pile "Swap" = some (n_order_pile_Swap,some (false,1)):=by kernel_rfl
@[simp] theorem m_order_pile_Pop:cmeth Tryz.prog t_order_pile "Pop" = some (n_order_pile_Pop,none):=by kernel_rfl
@[simp] theorem m_order_pile_Less:cmeth Tryz.prog t_order_pile "Less" = some (n_order_pile_Less,some (false,1)):=by kernel_rfl
abbrev t_order_pile_2:TypeId:=154
@[simp] theorem m_order_pile_2_Len:cmeth Tryz.prog t_order_pile_2 "Len" = some (n_order_pile_Len,none):=by kernel_rfl
@[simp] theorem m_order_pile_2_Swap:cmeth Tryz.prog t_order_pile_2 "Swap" = some (n_order_pile_Swap,none):=by kernel_rfl
@[simp] theorem m_order_pile_2_Less:cmeth Tryz.prog t_order_pile_2 "Less" = some (n_order_pile_Less,none):=by kernel_rfl
abbrev t_map_int_bool_2:TypeId:=155
abbrev ya:List AG:=[zz1 94 9,zz1 95 94,zze 96 95 11,zze 97 95 13,oy 98 95 (.call (.f n_r08_Bools) [(.t 96),(.t 97)]),zz8 99 95 98,zz1 100 99,zze 101 100 12,zze 102 100 14,oy 103 100 (.cmp .eql (.sc .int) (.t 101) (.t 102)),zz8 104 100 103,zz1 105 104,zze 106 105 15,zze 107 105 17,oy 108 105 (.call (.f n_r08_Bools) [(.t 106),(.t 107)]),zz8 109 105 108,zz1 110 109,zze 111 110 16,zze 112 110 18,oy 113 110 (.cmp .eql (.sc .int) (.t 111) (.t 112)),zz8 114 110 113,zz1 115 114,zze 116 115 19,zze 117 115 22,oy 118 115 (.call (.f n_r08_Bools) [(.t 116),(.t 117)]),zz8 119 115 118,zz1 120 119,zze 121 120 20,zze 122 120 23,oy 123 120 (.call (.f n_r08_Bools) [(.t 121),(.t 122)]),zz8 124 120 123,zz1 125 124,zze 126 125 21,zze 127 125 24,oy 128 125 (.cmp .eql (.sc .int) (.t 126) (.t 127)),zz8 129 125 128,zz1 130 129,oy 131 130 (.load true 4 (.t 4)),zze 132 130 1,oy 133 130 (.call (.f n_step_Allowed) [(.t 131),(.t 132)]),zze 134 130 25,oy 135 130 (.cmp .eql (.sc .bool) (.t 133) (.t 134)),zz8 136 130 135,zz1 8 136]
abbrev yd:List AG:=[zz3 91 4 4,zz1 92 1,zzg 93 n_r08_Allowed 91 92,zz1 25 93]
abbrev ye:List AG:=[zz3 84 4 4,zz1 85 1,zz1 86 2,o 87 (.call (.f n_r08_Step) [(.t 84),(.t 85),(.t 86)]),zz1 83 87,zzc 88 83 0,zzc 89 83 1,zzc 90 83 2,zz1 22 88,zz1 23 89,zz1 24 90]
abbrev yf:List AG:=[zz3 76 4 4,zz1 77 1,zz1 78 2,o 79 (.call (.f n_step_Step) [(.t 76),(.t 77),(.t 78)]),zz1 75 79,zzc 80 75 0,zzc 81 75 1,zzc 82 75 2,zz1 19 80,zz1 20 81,zz1 21 82]
abbrev yg:List AG:=[zz3 69 4 4,zz1 70 1,zz1 71 2,o 72 (.call (.f n_r08_Values) [(.t 69),(.t 70),(.t 71)]),zz1 68 72,zzc 73 68 0,zzc 74 68 1,zz1 17 73,zz1 18 74]
abbrev yh:List AG:=[zz3 62 4 4,zz1 63 1,zz1 64 2,o 65 (.call (.f n_step_Values) [(.t 62),(.t 63),(.t 64)]),zz1 61 65,zzc 66 61 0,zzc 67 61 1,zz1 15 66,zz1 16 67]
abbrev yi:List AG:=[zz3 56 4 4,zz1 57 3,zzg 58 n_r08_Start 56 57,zz1 55 58,zzc 59 55 0,zzc 60 55 1,zz1 13 59,zz1 14 60]
abbrev yj:List AG:=[zz3 50 4 4,zz1 51 3,zzg 52 n_step_Start 50 51,zz1 49 52,zzc 53 49 0,zzc 54 49 1,zz1 11 53,zz1 12 54]
abbrev yk:List AG:=[zz1 48 9,zz1 8 48]
abbrev ym:ACode:=(.seq (.reg yk) .ret)
abbrev yo:List AG:=[zz1 31 10,o 32 (.not (.t 31)),zz1 33 32,on 34 33 (.mv (.t 1)),on 35 33 (.len (.t 34)),on 36 33 (.cmp .gtr (.sc .int) (.t 35) (.c (.int .i64 60))),o 37 (.pick (.t 33) (.c (.bool true)) (.t 36)),zz1 38 37,on 39 38 (.mv (.t 2)),on 40 38 (.len (.t 39)),on 41 38 (.cmp .gtr (.sc .int) (.t 40) (.c (.int .i64 60))),o 42 (.pick (.t 38) (.c (.bool true)) (.t 41)),zz1 43 42,on 44 43 (.mv (.t 3)),on 45 43 (.len (.t 44)),on 46 43 (.cmp .gtr (.sc .int) (.t 45) (.c (.int .i64 60))),o 47 (.pick (.t 43) (.c (.bool true)) (.t 46))]
abbrev yp:List AG:=[zz3 29 4 4,zzf 30 n_w07_Little 29,zz1 10 30]
abbrev yq:List AG:=[zzh 8]
abbrev yr:ACode:=(.seq (.reg yq) .ret)
abbrev yu:List AG:=[zz1 27 9,o 28 (.not (.t 27))]
abbrev yv:List AG:=[o 26 (.call (.f n_w08_works) []),zz1 9 26]
abbrev yw:List AG:=[o 4 (.box 4 (.t 0)),zzh 8]
abbrev w08_StepTells:AFun:=⟨(.seq (.reg yw) (.seq (.reg yv) (.seq (.seq (.reg yu) (.cond (.t 28) yr .skip)) (.seq (.reg yp) (.seq (.seq (.reg yo) (.cond (.t 47) ym .skip)) (.seq (.reg yj) (.seq (.reg yi) (.seq (.reg yh) (.seq (.reg yg) (.seq (.reg yf) (.seq (.reg ye) (.seq (.reg yd) (.seq (.reg ya) .ret))))))))))))),137,[.tmp 8]⟩
@[simp] theorem c_w08_StepTells:cfun Tryz.prog n_w08_StepTells=some w08_StepTells:=by kernel_rfl
@[simp] theorem e_w08_StepTells:hasBody Tryz.prog n_w08_StepTells=true:=by kernel_rfl
abbrev yx:List AG:=[zz1 54 3,o 55 (.cmp .eql (.sc .int) (.t 54) (.c (.int .i64 0))),zz1 56 55,zze 57 56 4,oy 58 56 (.lit 1 [(.bool false)] [(0,(.c (.bool false)))]),oy 59 56 (.lit 1 [(.bool false)] [(0,(.c (.bool true)))]),oy 60 56 (.lit 1 [(.bool false)] [(0,(.c (.bool false)))]),oy 61 56 (.lit 1 [(.list true 0 []),(.list true 0 []),(.list true 0 [])] [(0,(.t 58)),(1,(.t 59)),(2,(.t 60))]),oy 62 56 (.call (.f n_r08_Rows) [(.t 57),(.t 61)]),zz8 63 56 62,zz1 64 63,zze 65 64 5,oy 66 64 (.len (.t 65)),oy 67 64 (.cmp .eql (.sc .int) (.t 66) (.c (.int .i64 1))),zz8 68 64 67,zz1 69 68,zze 70 69 5,oy 71 69 (.ixAddr 1 (.t 70) (.c (.int .i64 0))),zzd 72 69 1 71,zz8 73 69 72,zz1 74 73,zze 75 74 6,oy 76 74 (.cmp .eql (.sc .int) (.t 75) (.c (.int .i64 0))),zz8 77 74 76,zz1 78 77,zze 79 78 7,oy 80 78 (.not (.t 79)),zz8 81 78 80,zz1 82 81,zze 83 82 8,oy 84 82 (.cmp .eql (.sc .int) (.t 83) (.c (.int .i64 0))),zz8 85 82 84,zz1 86 85,zze 87 86 9,oy 88 86 (.lit 1 [(.bool false),(.bool false)] [(0,(.c (.bool false))),(1,(.c (.bool true)))]),oy 89 86 (.call (.f n_r08_Bools) [(.t 87),(.t 88)]),zz8 90 86 89,zz1 91 90,zze 92 91 10,oy 93 91 (.cmp .eql (.sc .int) (.t 92) (.c (.int .i64 0))),zz8 94 91 93,zz1 95 94,zze 96 95 13,oy 97 95 (.cmp .eql (.sc .int) (.t 96) (.c (.int .i64 11))),zz8 98 95 97,zz1 99 98,oy 100 99 (.load true 4 (.t 1)),zze 101 99 2,oy 102 99 (.call (.f n_step_Allowed) [(.t 100),(.t 101)]),zz8 103 99 102,zz1 104 103,oy 105 104 (.load true 4 (.t 1)),zze 106 104 5,oy 107 104 (.call (.f n_step_Allowed) [(.t 105),(.t 106)]),oy 108 104 (.not (.t 107)),zz8 109 104 108,zz1 0 109]
abbrev yy:List AG:=[zz3 49 4 1,o 50 (.call (.f n_step_Step) [(.t 49),(.c (.list true 0 [])),(.c (.list true 0 []))]),zz1 48 50,zzc 51 48 0,zzc 52 48 1,zzc 53 48 2,zz1 11 51,zz1 12 52,zz1 13 53]
abbrev yz:List AG:=[zz3 43 4 1,zz1 44 2,o 45 (.call (.f n_step_Values) [(.t 43),(.t 44),(.c (.list true 0 []))]),zz1 42 45,zzc 46 42 0,zzc 47 42 1,zz1 9 46,zz1 10 47]
abbrev yA:List AG:=[o 35 (.lit 1 [(.str []),(.str [])] [(0,(.c (.str [97]))),(1,(.c (.str [98])))]),o 36 (.lit 1 [(.str [])] [(0,(.c (.str [49,45])))]),o 37 (.build [(.str []),(.int .i64 0),(.list true 0 []),(.list true 0 []),(.bool false)] [(1,1,(.c (.int .i64 10))),(2,1,(.t 35)),(3,1,(.t 36)),(4,1,(.c (.bool true)))]),o 38 (.lit 1 [(.bool false),(.bool false)] [(0,(.c (.bool true))),(1,(.c (.bool false)))]),zzg 39 n_step_Gate 37 38,zz1 34 39,zzc 40 34 0,zzc 41 34 1,zz1 7 40,zz1 8 41]
abbrev yB:List AG:=[zz3 27 4 1,zz1 28 2,o 29 (.lit 1 [(.list true 0 []),(.list true 0 []),(.list true 0 [])] [(0,(.c (.list true 0 []))),(1,(.c (.list true 0 []))),(2,(.c (.list true 0 [])))]),o 30 (.call (.f n_step_Run) [(.t 27),(.t 28),(.t 29)]),zz1 26 30,zzc 31 26 0,zzc 32 26 1,zzc 33 26 2,zz1 4 31,zz1 5 32,zz1 6 33]
abbrev yC:List AG:=[zz3 22 4 1,o 23 (.call (.f n_step_Start) [(.t 22),(.c (.list true 0 []))]),zz1 21 23,zzc 24 21 0,zzc 25 21 1,zz1 2 24,zz1 3 25]
abbrev yD:List AG:=[o 14 (.lit 1 [(.str [])] [(0,(.c (.str [113])))]),o 15 (.build [(.str []),(.str []),(.int .i64 0)] [(0,1,(.c (.str [113]))),(1,1,(.c (.str [122])))]),o 16 (.lit 3 [(.agg [(.str []),(.str []),(.int .i64 0)])] [(0,(.t 15))]),o 17 (.lit 1 [(.str [])] [(0,(.c (.str [113])))]),o 18 (.build [(.str []),(.int .i64 0),(.list true 0 []),(.list true 0 []),(.bool false)] [(0,1,(.c (.str [122]))),(1,1,(.c (.int .i64 3))),(2,1,(.t 17))]),o 19 (.lit 5 [(.agg [(.str []),(.int .i64 0),(.list true 0 []),(.list true 0 []),(.bool false)])] [(0,(.t 18))]),o 20 (.build [(.list true 0 []),(.list true 0 []),(.list true 0 []),(.list true 0 [])] [(1,1,(.t 14)),(2,1,(.t 16)),(3,1,(.t 19))]),o 1 (.alloc [(.own 1 t_string []),(.own 1 t_string []),(.own 3 t_api_Latch_2 []),(.own 5 t_api_Gate [])]),zzb 4 1 20]
abbrev yE:List AG:=[zzh 0]
abbrev w08_works:AFun:=⟨(.seq (.reg yE) (.seq (.reg yD) (.seq (.reg yC) (.seq (.reg yB) (.seq (.reg yA) (.seq (.reg yz) (.seq (.reg yy) (.seq (.reg yx) .ret)))))))),110,[.tmp 0]⟩
@[simp] theorem c_w08_works:cfun Tryz.prog n_w08_works=some w08_works:=by kernel_rfl
@[simp] theorem e_w08_works:hasBody Tryz.prog n_w08_works=true:=by kernel_rfl
abbrev yF:List AG:=[zz1 11 3,zz1 12 11,zze 13 12 4,zz8 14 12 13,zz1 15 14,oy 16 15 (.off 0 (.t 1)),zzd 17 15 1 16,oy 18 15 (.lenStr (.t 17)),oy 19 15 (.cmp .leq (.sc .int) (.t 18) (.c (.int .i64 60))),zz8 20 15 19,zz1 2 20]
abbrev yG:List AG:=[zz4 8 3 1,zz2 9 1 8,o 10 (.call (.f n_w05_Texts) [(.t 9),(.c (.int .i64 140))]),zz1 4 10]
abbrev yH:List AG:=[zz4 5 2 1,zz2 6 1 5,o 7 (.call (.f n_w05_Texts) [(.t 6),(.c (.int .i64 12))]),zz1 3 7]
abbrev yI:List AG:=[o 1 (.box 5 (.t 0)),zzh 2]
abbrev w06_FewGate:AFun:=⟨(.seq (.reg yI) (.seq (.reg yH) (.seq (.reg yG) (.seq (.reg yF) .ret)))),21,[.tmp 2]⟩
@[simp] theorem c_w06_FewGate:cfun Tryz.prog n_w06_FewGate=some w06_FewGate:=by kernel_rfl
@[simp] theorem e_w06_FewGate:hasBody Tryz.prog n_w06_FewGate=true:=by kernel_rfl
abbrev yJ:List AG:=[zz4 29 0 6,zz2 30 1 29,zz1 31 1,o 32 (.call (.t 30) [(.t 31)]),zz4 33 1 6,zz2 34 1 33,o 35 (.cmp .neq (.sc .bool) (.t 32) (.t 34)),zz1 4 35,zz9 5 0]
abbrev yK:List AG:=[o 27 (.mkFunc (.func n_step_Gate_1) [] [(.t 2)]),zz4 28 0 6,zzb 1 28 27]
abbrev yL:List AG:=[zz4 24 4 2,zz2 25 1 24,zz4 26 1 6,zzb 1 26 25]
abbrev yM:ACode:=(.seq (.reg yL) (.reg yK))
abbrev yN:List AG:=[zz4 21 1 2,zz2 22 1 21,o 23 (.cmp .eql (.sc .int) (.t 22) (.c (.int .i64 10)))]
abbrev yO:List AG:=[zz4 18 1 2,zz2 19 1 18,zzf 20 n_step_of 19,o 6 (.alloc [.nilf,(.bool false)]),zzb 2 6 20]
abbrev yP:List AG:=[zzh 4,zz9 5 1]
abbrev yQ:ACode:=(.seq (.reg yP) .ret)
abbrev yR:List AG:=[zz3 7 5 2,zzf 8 n_net_Gate 7,o 9 (.not (.t 8)),zz1 10 9,on 11 10 (.mv (.t 1)),on 12 10 (.len (.t 11)),on 13 10 (.off 2 (.t 2)),on 14 10 (.load false 1 (.t 13)),on 15 10 (.len (.t 14)),on 16 10 (.cmp .neq (.sc .int) (.t 12) (.t 15)),o 17 (.pick (.t 10) (.c (.bool true)) (.t 16))]
abbrev yS:List AG:=[o 2 (.box 5 (.t 0)),zzh 4,zz9 5 0]
abbrev step_Gate:AFun:=⟨(.seq (.reg yS) (.seq (.seq (.reg yR) (.cond (.t 17) yQ .skip)) (.seq (.reg yO) (.seq (.seq (.reg yN) (.cond (.t 23) yM .skip)) (.seq (.dreg [O,O,O,O,O,I,O,O,O] [4,4,4,10,10,10,10,10,10] yJ) .ret))))),36,[.tmp 4,.tmp 5]⟩
@[simp] theorem c_step_Gate:cfun Tryz.prog n_step_Gate=some step_Gate:=by kernel_rfl
@[simp] theorem e_step_Gate:hasBody Tryz.prog n_step_Gate=true:=by kernel_rfl
abbrev yT:List AG:=[zz1 57 11,zz1 58 7,o 59 (.cmp .neq (.sc .bool) (.t 57) (.t 58)),zz1 4 59,zz9 5 0]
abbrev yU:List Bool:=[O,I,O,O,O,O,I,I,O,O,O,I,I,O,O,O,O,O,O,O,O,O,O,O,O,O,O,O,O,O,O,O,O,O,O,O,O,O,O,O,O,O,O,O,O,O,O,O,O,O,O,O,O,O,O,O,O,O,O,O]
abbrev yV:List Bool:=[O,O,O,O,O,O,O,I,O,O,O,I,O,O,O,O,O,O,O,O,O,O,O,O,O,O,O,O,O,O,O,O,O,O,O,O,O,O,O,O,O,O,O,O,O,O,O,O,O,O,O,O,O,O,O,O,O,O,O,O]
abbrev yW:List AG:=[zz1 46 12,zz6 47 46 1,zz1 12 47]
abbrev yX:List AG:=[zz1 48 11,zz1 49 48,on 50 49 (.mv (.t 6)),on 51 49 (.mv (.t 12)),on 52 49 (.ixAddr 1 (.t 50) (.t 51)),on 53 49 (.load false 1 (.t 52)),on 54 49 (.mv (.t 1)),on 55 49 (.call (.f n_r08_fits) [(.t 53),(.t 54)]),o 56 (.pick (.t 49) (.c (.bool true)) (.t 55)),zz1 11 56]
abbrev yY:List AG:=[zz1 42 12,zz1 43 6,zza 44 43,zz7 45 42 44]
abbrev yZ:ACode:=(.seq (.seq (.reg yY) (.cond (.t 45) .skip (.exit 0))) (.seq (.block 1 [] (.reg yX)) (.reg yW)))
abbrev yba:List AG:=[zz9 12 0]
abbrev ybb:List AG:=[zzh 11]
abbrev ybc:List AG:=[zz1 41 9,zz1 7 41]
abbrev ybd:List AG:=[zz1 40 8,zz1 6 40]
abbrev ybe:List AG:=[zz4 32 1 2,zz2 33 1 32,zz1 34 1,zza 35 34,zzg 36 n_r06_Rows 33 35,zz1 31 36,zzc 37 31 0,zzc 38 31 1,zzc 39 31 2,zz1 8 37,zz1 9 38,zz1 10 39]
abbrev ybf:ACode:=(.seq (.reg ybe) (.seq (.reg ybd) (.reg ybc)))
abbrev ybg:List AG:=[zz4 28 1 2,zz2 29 1 28,o 30 (.cmp .neq (.sc .int) (.t 29) (.c (.int .i64 10)))]
abbrev ybh:List AG:=[zz4 26 4 2,zz2 27 1 26,zz1 7 27]
abbrev ybi:List AG:=[zz4 24 3 2,zz2 25 1 24,zz1 6 25]
abbrev ybj:List AG:=[zzh 4,zz9 5 1]
abbrev ybk:ACode:=(.seq (.reg ybj) .ret)
abbrev ybl:List AG:=[zz3 13 5 2,zzf 14 n_r06_Gate 13,o 15 (.not (.t 14)),zz1 16 15,on 17 16 (.mv (.t 1)),on 18 16 (.len (.t 17)),on 19 16 (.off 2 (.t 2)),on 20 16 (.load false 1 (.t 19)),on 21 16 (.len (.t 20)),on 22 16 (.cmp .neq (.sc .int) (.t 18) (.t 21)),o 23 (.pick (.t 16) (.c (.bool true)) (.t 22))]
abbrev ybm:List AG:=[o 2 (.box 5 (.t 0)),zzh 4,zz9 5 0]
abbrev r08_Gate:AFun:=⟨(.seq (.reg ybm) (.seq (.seq (.reg ybl) (.cond (.t 23) ybk .skip)) (.seq (.reg ybi) (.seq (.reg ybh) (.seq (.seq (.reg ybg) (.cond (.t 30) ybf .skip)) (.seq (.reg ybb) (.seq (.seq (.reg yba) (.block 0 yV (.loop yU yZ))) (.seq (.reg yT) .ret)))))))),60,[.tmp 4,.tmp 5]⟩
abbrev ybn:List It:=[.code (.seq (.reg yT) .ret)]
abbrev ybo (x1 x6 x7 x11 x12:AV) (h:List Ob) (e:Cx:=cx):Cfg:=atC n_r08_Gate (.code yZ::.inLoop yU yZ::.inBlock 0 yV::ybn) [U,x1,U,U,U,U,x6,x7,U,U,U,x11,x12,U,U,U,U,U,U,U,U,U,U,U,U,U,U,U,U,U,U,U,U,U,U,U,U,U,U,U,U,U,U,U,U,U,U,U,U,U,U,U,U,U,U,U,U,U,U,U] h e
@[simp] theorem c_r08_Gate:cfun Tryz.prog n_r08_Gate=some r08_Gate:=by kernel_rfl
@[simp] theorem e_r08_Gate:hasBody Tryz.prog n_r08_Gate=true:=by kernel_rfl
abbrev ybp:List AG:=[zz1 6 3,zz1 7 6,oy 8 7 (.off 3 (.t 1)),zzd 9 7 1 8,oy 10 7 (.len (.t 9)),oy 11 7 (.cmp .leq (.sc .int) (.t 10) (.c (.int .i64 24))),zz8 12 7 11,zz1 13 12,oy 14 13 (.off 0 (.t 1)),zzd 15 13 1 14,oy 16 13 (.len (.t 15)),oy 17 13 (.cmp .leq (.sc .int) (.t 16) (.c (.int .i64 24))),zz8 18 13 17,zz1 19 18,oy 20 19 (.off 2 (.t 1)),zzd 21 19 1 20,oy 22 19 (.len (.t 21)),oy 23 19 (.cmp .leq (.sc .int) (.t 22) (.c (.int .i64 24))),zz8 24 19 23,zz1 2 24]
abbrev ybq:List AG:=[zz3 4 4 1,zzf 5 n_w06_Few 4,zz1 3 5]
abbrev ybr:List AG:=[o 1 (.box 4 (.t 0)),zzh 2]
abbrev w07_Little:AFun:=⟨(.seq (.reg ybr) (.seq (.reg ybq) (.seq (.reg ybp) .ret))),25,[.tmp 2]⟩
@[simp] theorem c_w07_Little:cfun Tryz.prog n_w07_Little=some w07_Little:=by kernel_rfl
@[simp] theorem e_w07_Little:hasBody Tryz.prog n_w07_Little=true:=by kernel_rfl
abbrev ybs:List AG:=[zz1 41 6,zz1 4 41,zz9 5 0]
abbrev ybt:List Bool:=[O,I,O,O,O,O,I,O,O,O,O,O,O,O,I,I,I,O,O,O,O,O,O,O,O,O,O,O,O,O,O,O,O,O,O,O,O,O,O,O,O,O]
abbrev ybu:List Bool:=[O,O,O,O,O,O,I,O,O,O,O,O,O,O,O,O,O,O,O,O,O,O,O,O,O,O,O,O,O,O,O,O,O,O,O,O,O,O,O,O,O,O]
abbrev ybv:List AG:=[zz6 40 16 1,zz1 16 40]
abbrev ybw:List AG:=[zz1 36 6,zz1 37 9,o 38 (.lit 1 [(.bool false)] [(0,(.t 37))]),o 39 (.append 1 t_bool 1 (.t 36) (.t 38)),zz1 6 39]
abbrev ybx:List AG:=[zz1 31 1,o 32 (.ixAddr 1 (.t 31) (.c (.int .i64 0))),zz2 33 1 32,zz1 34 1,o 35 (.slice 1 (.t 34) (some (.c (.int .i64 1))) none),zz1 9 33,zz1 1 35]
abbrev yby:List AG:=[zz4 23 2 8,zz2 24 1 23,o 25 (.cmp .eql (.sc .int) (.t 24) (.c (.int .i64 2))),zz1 26 25,zze 27 26 1,oy 28 26 (.len (.t 27)),oy 29 26 (.cmp .gtr (.sc .int) (.t 28) (.c (.int .i64 0))),zz8 30 26 29]
abbrev ybz:List AG:=[zz4 20 2 8,zz2 21 1 20,o 22 (.cmp .eql (.sc .int) (.t 21) (.c (.int .i64 1))),zz1 9 22]
abbrev ybA:List AG:=[zz5 18 3 14 16,zz3 19 3 18,o 8 (.alloc [(.str []),(.str []),(.int .i64 0)]),zzb 3 8 19]
abbrev ybB:ACode:=(.seq (.reg ybA) (.seq (.reg ybz) (.seq (.seq (.reg yby) (.cond (.t 30) (.dreg [O,O,O,O,O,O,O] [8,8,8,8,8,8,8] ybx) .skip)) (.reg ybw))))
abbrev ybC:List AG:=[zz7 17 16 15]
abbrev ybD:ACode:=(.seq (.reg ybC) (.seq (.cond (.t 17) .skip (.exit 0)) (.seq (.block 1 [] ybB) (.reg ybv))))
abbrev ybE:List AG:=[zz4 13 2 2,zz2 14 1 13,zza 15 14,zz9 16 0]
abbrev ybF:List AG:=[o 6 (.nilrow 1 t_bool)]
abbrev ybG:List AG:=[o 4 (.nilrow 1 t_bool),zz9 5 1]
abbrev ybH:ACode:=(.seq (.reg ybG) .ret)
abbrev ybI:List AG:=[zz3 10 4 2,zzf 11 n_step_right 10,o 12 (.not (.t 11))]
abbrev ybJ:List AG:=[o 2 (.box 4 (.t 0)),o 4 (.nilrow 1 t_bool),zz9 5 0]
abbrev step_Start:AFun:=⟨(.seq (.reg ybJ) (.seq (.seq (.reg ybI) (.cond (.t 12) ybH .skip)) (.seq (.reg ybF) (.seq (.seq (.reg ybE) (.block 0 ybu (.loop ybt ybD))) (.seq (.reg ybs) .ret))))),42,[.tmp 4,.tmp 5]⟩
abbrev ybK:List It:=[.code (.seq (.reg ybs) .ret)]
abbrev ybL (x1 x6 x14 x15 x16:AV) (h:List Ob) (e:Cx:=cx):Cfg:=atC n_step_Start (.code ybD::.inLoop ybt ybD::.inBlock 0 ybu::ybK) [U,x1,U,U,U,U,x6,U,U,U,U,U,U,U,x14,x15,x16,U,U,U,U,U,U,U,U,U,U,U,U,U,U,U,U,U,U,U,U,U,U,U,U,U] h e
@[simp] theorem c_step_Start:cfun Tryz.prog n_step_Start=some step_Start:=by kernel_rfl
@[simp] theorem e_step_Start:hasBody Tryz.prog n_step_Start=true:=by kernel_rfl
abbrev ybM:List AG:=[zz1 50 6,zz1 4 50,zz9 5 0]
abbrev ybN:List Bool:=[O,I,I,O,O,O,I,I,I,O,O,O,O,O,O,O,O,O,O,O,O,O,O,O,O,O,O,O,O,O,O,O,O,O,O,O,O,O,O,O,O,O,O,O,O,O,O,O,O,O,O]
abbrev ybO:List Bool:=[O,O,O,O,O,O,I,O,O,O,O,O,O,O,O,O,O,O,O,O,O,O,O,O,O,O,O,O,O,O,O,O,O,O,O,O,O,O,O,O,O,O,O,O,O,O,O,O,O,O,O]
abbrev ybP:List AG:=[zz1 18 8,zz6 19 18 1,zz1 8 19]
abbrev ybQ:List AG:=[zz1 46 6,zz1 47 9,o 48 (.lit 1 [(.bool false)] [(0,(.t 47))]),o 49 (.append 1 t_bool 1 (.t 46) (.t 48)),zz1 6 49]
abbrev ybR:List AG:=[zz1 44 7,zz6 45 44 1,zz1 7 45]
abbrev ybS:List AG:=[zz1 34 7,zz1 35 1,zza 36 35,zz7 37 34 36,zz1 38 37,zze 39 38 1,zze 40 38 7,oy 41 38 (.ixAddr 1 (.t 39) (.t 40)),zzd 42 38 1 41,zz8 43 38 42,zz1 9 43]
abbrev ybT:ACode:=(.seq (.reg ybS) (.reg ybR))
abbrev ybU:List AG:=[zz4 27 2 2,zz2 28 1 27,zz1 29 8,zz5 30 3 28 29,zz4 31 2 30,zz2 32 1 31,o 33 (.cmp .eql (.sc .int) (.t 32) (.c (.int .i64 2)))]
abbrev ybV:List AG:=[zz4 20 2 2,zz2 21 1 20,zz1 22 8,zz5 23 3 21 22,zz4 24 2 23,zz2 25 1 24,o 26 (.cmp .eql (.sc .int) (.t 25) (.c (.int .i64 1))),zz1 9 26]
abbrev ybW:ACode:=(.seq (.reg ybV) (.seq (.seq (.reg ybU) (.cond (.t 33) ybT .skip)) (.reg ybQ)))
abbrev ybX:List AG:=[zz1 13 8,zz4 14 2 2,zz2 15 1 14,zza 16 15,zz7 17 13 16]
abbrev ybY:ACode:=(.seq (.seq (.reg ybX) (.cond (.t 17) .skip (.exit 0))) (.seq (.block 1 [] ybW) (.reg ybP)))
abbrev ybZ:List AG:=[zz9 8 0]
abbrev yca:List AG:=[zz9 7 0]
abbrev ycb:List AG:=[o 6 (.nilrow 1 t_bool)]
abbrev ycc:List AG:=[o 4 (.nilrow 1 t_bool),zz9 5 1]
abbrev ycd:ACode:=(.seq (.reg ycc) .ret)
abbrev yce:List AG:=[zz3 10 4 2,zzf 11 n_r08_right 10,o 12 (.not (.t 11))]
abbrev ycf:List AG:=[o 2 (.box 4 (.t 0)),o 4 (.nilrow 1 t_bool),zz9 5 0]
abbrev r08_Start:AFun:=⟨(.seq (.reg ycf) (.seq (.seq (.reg yce) (.cond (.t 12) ycd .skip)) (.seq (.reg ycb) (.seq (.reg yca) (.seq (.seq (.reg ybZ) (.block 0 ybO (.loop ybN ybY))) (.seq (.reg ybM) .ret)))))),51,[.tmp 4,.tmp 5]⟩
abbrev ycg:List It:=[.code (.seq (.reg ybM) .ret)]
abbrev ych (x1 x2 x6 x7 x8:AV) (h:List Ob) (e:Cx:=cx):Cfg:=atC n_r08_Start (.code ybY::.inLoop ybN ybY::.inBlock 0 ybO::ycg) [U,x1,x2,U,U,U,x6,x7,x8,U,U,U,U,U,U,U,U,U,U,U,U,U,U,U,U,U,U,U,U,U,U,U,U,U,U,U,U,U,U,U,U,U,U,U,U,U,U,U,U,U,U] h e
@[simp] theorem c_r08_Start:cfun Tryz.prog n_r08_Start=some r08_Start:=by kernel_rfl
@[simp] theorem e_r08_Start:hasBody Tryz.prog n_r08_Start=true:=by kernel_rfl
abbrev yci:List AG:=[zz1 29 10,zz1 30 8,o 31 (.nilck (.t 30)),zz4 32 4 31,zz2 33 1 32,zzg 34 n_step_pick 29 33,zz1 6 34,zz9 7 0]
abbrev ycj:List AG:=[zz1 28 9,o 6 (.nilrow 1 t_bool),zz1 7 28]
abbrev yck:ACode:=(.seq (.reg ycj) .ret)
abbrev ycl:List AG:=[zz1 26 9,o 27 (.cmp .neq (.sc .int) (.t 26) (.c (.int .i64 0)))]
abbrev ycm:List AG:=[zz1 20 8,zz1 21 1,zz1 22 2,o 23 (.call (.f n_step_machine_values) [(.t 20),(.t 21),(.t 22)]),zz1 19 23,zzc 24 19 0,zzc 25 19 1,zz1 10 24,zz1 9 25]
abbrev ycn:List AG:=[zz1 18 9,o 6 (.nilrow 1 t_bool),zz1 7 18]
abbrev yco:ACode:=(.seq (.reg ycn) .ret)
abbrev ycp:List AG:=[zz1 16 9,o 17 (.cmp .neq (.sc .int) (.t 16) (.c (.int .i64 0)))]
abbrev ycq:List AG:=[zz3 12 4 3,zzf 13 n_step_begin 12,zz1 11 13,zzc 14 11 0,zzc 15 11 1,zz1 8 14,zz1 9 15]
abbrev ycr:List AG:=[o 3 (.box 4 (.t 0)),o 6 (.nilrow 1 t_bool),zz9 7 0]
abbrev step_Values:AFun:=⟨(.seq (.reg ycr) (.seq (.reg ycq) (.seq (.seq (.reg ycp) (.cond (.t 17) yco .skip)) (.seq (.reg ycm) (.seq (.seq (.reg ycl) (.cond (.t 27) yck .skip)) (.seq (.reg yci) .ret)))))),35,[.tmp 6,.tmp 7]⟩
@[simp] theorem c_step_Values:cfun Tryz.prog n_step_Values=some step_Values:=by kernel_rfl
@[simp] theorem e_step_Values:hasBody Tryz.prog n_step_Values=true:=by kernel_rfl
abbrev ycs:List AG:=[zz1 108 8,zz1 6 108,zz9 7 0]
abbrev yct:List Bool:=[O,O,O,I,O,O,O,O,I,I,O,I,O,I,O,O,O,O,O,O,O,O,O,O,O,O,O,O,O,O,O,O,O,O,O,O,O,O,O,O,O,O,O,O,O,O,O,O,O,O,O,O,O,O,O,O,O,O,O,O,O,O,O,O,O,O,O,O,O,O,O,O,O,O,O,O,O,O,O,O,O,O,O,O,O,O,O,O,O,O,O,O,O,O,O,O,O,O,O,O,O,O,O,O,O,O,O,O,O]
abbrev ycu:List Bool:=[O,O,O,O,O,O,O,O,I,O,O,O,O,O,O,O,O,O,O,O,O,O,O,O,O,O,O,O,O,O,O,O,O,O,O,O,O,O,O,O,O,O,O,O,O,O,O,O,O,O,O,O,O,O,O,O,O,O,O,O,O,O,O,O,O,O,O,O,O,O,O,O,O,O,O,O,O,O,O,O,O,O,O,O,O,O,O,O,O,O,O,O,O,O,O,O,O,O,O,O,O,O,O,O,O,O,O,O,O]
abbrev ycv:List AG:=[zz1 63 13,zz6 64 63 1,zz1 13 64]
abbrev ycw:List AG:=[zz1 99 8,zz1 100 9,zz1 101 11,zz1 102 13,zz5 103 1 101 102,zz2 104 1 103,o 105 (.ibin .add (.t 100) (.t 104)),zz1 106 17,zz5 107 1 99 105,zzb 1 107 106]
abbrev ycx:List AG:=[zz3 94 5 14,zz1 95 15,zzg 96 n_r08_Gate 94 95,zz1 93 96,zzc 97 93 0,zzc 98 93 1,zz1 17 97,zz1 18 98]
abbrev ycy:List Bool:=[O,O,O,I,O,O,O,O,I,I,O,I,O,I,I,I,I,O,O,O,O,O,O,O,O,O,O,O,O,O,O,O,O,O,O,O,O,O,O,O,O,O,O,O,O,O,O,O,O,O,O,O,O,O,O,O,O,O,O,O,O,O,O,O,O,O,O,O,O,O,O,O,O,O,O,O,O,O,O,O,O,O,O,O,O,O,O,O,O,O,O,O,O,O,O,O,O,O,O,O,O,O,O,O,O,O,O,O,O]
abbrev ycz:List Bool:=[O,O,O,I,O,O,O,O,I,I,O,I,O,I,I,I,O,O,O,O,O,O,O,O,O,O,O,O,O,O,O,O,O,O,O,O,O,O,O,O,O,O,O,O,O,O,O,O,O,O,O,O,O,O,O,O,O,O,O,O,O,O,O,O,O,O,O,O,O,O,O,O,O,O,O,O,O,O,O,O,O,O,O,O,O,O,O,O,O,O,O,O,O,O,O,O,O,O,O,O,O,O,O,O,O,O,O,O,O]
abbrev ycA:List AG:=[zz1 78 16,zz6 79 78 1,zz1 16 79]
abbrev ycB:List AG:=[zz1 80 15,zz1 81 8,zz3 82 4 3,zz4 83 2 14,zz2 84 1 83,zz1 85 16,zz5 86 1 84 85,zz2 87 1 86,zzg 88 n_r06_Place 82 87,zz5 89 1 81 88,zz2 90 1 89,o 91 (.lit 1 [(.bool false)] [(0,(.t 90))]),o 92 (.append 1 t_bool 1 (.t 80) (.t 91)),zz1 15 92]
abbrev ycC:List AG:=[zz1 73 16,zz4 74 2 14,zz2 75 1 74,zza 76 75,zz7 77 73 76]
abbrev ycD:ACode:=(.seq (.seq (.reg ycC) (.cond (.t 77) .skip (.exit 4))) (.seq (.block 5 [] (.dreg [O,O,O,O,O,O,O,O,O,O,O,O,O,O] [13,12,9,9,9,9,9,9,12,12,12,13,15,15] ycB)) (.reg ycA)))
abbrev ycE:List AG:=[zz9 16 0]
abbrev ycF:List AG:=[o 15 (.nilrow 1 t_bool)]
abbrev ycG:List AG:=[zz4 65 3 3,zz2 66 1 65,zz1 67 11,zz1 68 13,zz5 69 1 67 68,zz2 70 1 69,zz5 71 5 66 70,zz3 72 5 71,o 14 (.alloc [(.str []),(.int .i64 0),(.own 1 t_string []),(.own 1 t_string []),(.bool false)]),zzb 5 14 72]
abbrev ycH:ACode:=(.seq (.dreg [O,I,O,O,O,I,O,I,O,O] [10,10,10,10,10,10,10,10,10,11] ycG) (.seq (.reg ycF) (.seq (.seq (.reg ycE) (.block 4 ycz (.loop ycy ycD))) (.seq (.reg ycx) (.reg ycw)))))
abbrev ycI:List AG:=[zz1 59 13,zz1 60 11,zza 61 60,zz7 62 59 61]
abbrev ycJ:ACode:=(.seq (.seq (.reg ycI) (.cond (.t 62) .skip (.exit 2))) (.seq (.block 3 [] ycH) (.reg ycv)))
abbrev ycK:List AG:=[zz9 13 0]
abbrev ycL:List AG:=[zz3 55 4 3,zzf 56 n_r07_Sort 55,zz1 54 56,zzc 57 54 0,zzc 58 54 1,zz1 11 57,zz1 12 58]
abbrev ycM:List Bool:=[O,O,O,I,O,O,O,O,I,I,I,O,O,O,O,O,O,O,O,O,O,O,O,O,O,O,O,O,O,O,O,O,O,O,O,O,O,O,O,O,O,O,O,O,O,O,O,O,O,O,O,O,O,O,O,O,O,O,O,O,O,O,O,O,O,O,O,O,O,O,O,O,O,O,O,O,O,O,O,O,O,O,O,O,O,O,O,O,O,O,O,O,O,O,O,O,O,O,O,O,O,O,O,O,O,O,O,O,O]
abbrev ycN:List Bool:=[O,O,O,I,O,O,O,O,I,I,O,O,O,O,O,O,O,O,O,O,O,O,O,O,O,O,O,O,O,O,O,O,O,O,O,O,O,O,O,O,O,O,O,O,O,O,O,O,O,O,O,O,O,O,O,O,O,O,O,O,O,O,O,O,O,O,O,O,O,O,O,O,O,O,O,O,O,O,O,O,O,O,O,O,O,O,O,O,O,O,O,O,O,O,O,O,O,O,O,O,O,O,O,O,O,O,O,O,O]
abbrev ycO:List AG:=[zz1 49 10,zz6 50 49 1,zz1 10 50]
abbrev ycP:List AG:=[zz1 51 8,o 52 (.lit 1 [(.bool false)] [(0,(.c (.bool false)))]),o 53 (.append 1 t_bool 1 (.t 51) (.t 52)),zz1 8 53]
abbrev ycQ:List AG:=[zz1 44 10,zz4 45 3 3,zz2 46 1 45,zza 47 46,zz7 48 44 47]
abbrev ycR:ACode:=(.seq (.seq (.reg ycQ) (.cond (.t 48) .skip (.exit 0))) (.seq (.block 1 [] (.reg ycP)) (.reg ycO)))
abbrev ycS:List AG:=[zz9 10 0]
abbrev ycT:List AG:=[zz1 42 8,zza 43 42,zz1 9 43]
abbrev ycU:List AG:=[zz1 39 8,zz1 40 1,o 41 (.append 1 t_bool 1 (.t 39) (.t 40)),zz1 8 41]
abbrev ycV:List AG:=[zz1 36 8,zz1 37 2,o 38 (.append 1 t_bool 1 (.t 36) (.t 37)),zz1 8 38]
abbrev ycW:List AG:=[o 8 (.nilrow 1 t_bool)]
abbrev ycX:List AG:=[o 6 (.nilrow 1 t_bool),zz9 7 11]
abbrev ycY:ACode:=(.seq (.reg ycX) .ret)
abbrev ycZ:List AG:=[zz1 22 1,zza 23 22,zz4 24 2 3,zz2 25 1 24,zza 26 25,o 27 (.cmp .neq (.sc .int) (.t 23) (.t 26)),zz1 28 27,on 29 28 (.mv (.t 2)),on 30 28 (.len (.t 29)),on 31 28 (.off 0 (.t 3)),on 32 28 (.load false 1 (.t 31)),on 33 28 (.len (.t 32)),on 34 28 (.cmp .neq (.sc .int) (.t 30) (.t 33)),o 35 (.pick (.t 28) (.c (.bool true)) (.t 34))]
abbrev yda:List AG:=[o 6 (.nilrow 1 t_bool),zz9 7 1]
abbrev ydb:ACode:=(.seq (.reg yda) .ret)
abbrev ydc:List AG:=[zz3 19 4 3,zzf 20 n_r08_right 19,o 21 (.not (.t 20))]
abbrev ydd:List AG:=[o 3 (.box 4 (.t 0)),o 6 (.nilrow 1 t_bool),zz9 7 0]
abbrev r08_Values:AFun:=⟨(.seq (.reg ydd) (.seq (.seq (.reg ydc) (.cond (.t 21) ydb .skip)) (.seq (.seq (.reg ycZ) (.cond (.t 35) ycY .skip)) (.seq (.reg ycW) (.seq (.reg ycV) (.seq (.reg ycU) (.seq (.reg ycT) (.seq (.seq (.reg ycS) (.block 0 ycN (.loop ycM ycR))) (.seq (.reg ycL) (.seq (.seq (.reg ycK) (.block 2 ycu (.loop yct ycJ))) (.seq (.reg ycs) .ret))))))))))),109,[.tmp 6,.tmp 7]⟩
abbrev yde:List It:=[.code (.seq (.reg ycx) (.reg ycw)),.inBlock 3 [],.code (.reg ycv),.inLoop yct ycJ,.inBlock 2 ycu,.code (.seq (.reg ycs) .ret)]
abbrev ydf (x3 x8 x9 x11 x13 x14 x15 x16:AV) (h:List Ob) (e:Cx:=cx):Cfg:=atC n_r08_Values (.code ycD::.inLoop ycy ycD::.inBlock 4 ycz::yde) [U,U,U,x3,U,U,U,U,x8,x9,U,x11,U,x13,x14,x15,x16,U,U,U,U,U,U,U,U,U,U,U,U,U,U,U,U,U,U,U,U,U,U,U,U,U,U,U,U,U,U,U,U,U,U,U,U,U,U,U,U,U,U,U,U,U,U,U,U,U,U,U,U,U,U,U,U,U,U,U,U,U,U,U,U,U,U,U,U,U,U,U,U,U,U,U,U,U,U,U,U,U,U,U,U,U,U,U,U,U,U,U,U] h e
abbrev ydg (x3 x8 x9 x11 x13 x14 x15:AV) (h:List Ob) (e:Cx:=cx):Cfg:=atC n_r08_Values yde [U,U,U,x3,U,U,U,U,x8,x9,U,x11,U,x13,x14,x15,U,U,U,U,U,U,U,U,U,U,U,U,U,U,U,U,U,U,U,U,U,U,U,U,U,U,U,U,U,U,U,U,U,U,U,U,U,U,U,U,U,U,U,U,U,U,U,U,U,U,U,U,U,U,U,U,U,U,U,U,U,U,U,U,U,U,U,U,U,U,U,U,U,U,U,U,U,U,U,U,U,U,U,U,U,U,U,U,U,U,U,U,U] h e
abbrev ydh:List It:=[.code (.seq (.reg ycs) .ret)]
abbrev ydi (x3 x8 x9 x11 x13:AV) (h:List Ob) (e:Cx:=cx):Cfg:=atC n_r08_Values (.code ycJ::.inLoop yct ycJ::.inBlock 2 ycu::ydh) [U,U,U,x3,U,U,U,U,x8,x9,U,x11,U,x13,U,U,U,U,U,U,U,U,U,U,U,U,U,U,U,U,U,U,U,U,U,U,U,U,U,U,U,U,U,U,U,U,U,U,U,U,U,U,U,U,U,U,U,U,U,U,U,U,U,U,U,U,U,U,U,U,U,U,U,U,U,U,U,U,U,U,U,U,U,U,U,U,U,U,U,U,U,U,U,U,U,U,U,U,U,U,U,U,U,U,U,U,U,U,U] h e
abbrev ydj:List It:=[.code (.seq (.reg ycL) (.seq (.seq (.reg ycK) (.block 2 ycu (.loop yct ycJ))) (.seq (.reg ycs) .ret)))]
abbrev ydk (x3 x8 x9 x10:AV) (h:List Ob) (e:Cx:=cx):Cfg:=atC n_r08_Values (.code ycR::.inLoop ycM ycR::.inBlock 0 ycN::ydj) [U,U,U,x3,U,U,U,U,x8,x9,x10,U,U,U,U,U,U,U,U,U,U,U,U,U,U,U,U,U,U,U,U,U,U,U,U,U,U,U,U,U,U,U,U,U,U,U,U,U,U,U,U,U,U,U,U,U,U,U,U,U,U,U,U,U,U,U,U,U,U,U,U,U,U,U,U,U,U,U,U,U,U,U,U,U,U,U,U,U,U,U,U,U,U,U,U,U,U,U,U,U,U,U,U,U,U,U,U,U,U] h e
abbrev ydl (x3 x8 x9:AV) (h:List Ob) (e:Cx:=cx):Cfg:=atC n_r08_Values ydj [U,U,U,x3,U,U,U,U,x8,x9,U,U,U,U,U,U,U,U,U,U,U,U,U,U,U,U,U,U,U,U,U,U,U,U,U,U,U,U,U,U,U,U,U,U,U,U,U,U,U,U,U,U,U,U,U,U,U,U,U,U,U,U,U,U,U,U,U,U,U,U,U,U,U,U,U,U,U,U,U,U,U,U,U,U,U,U,U,U,U,U,U,U,U,U,U,U,U,U,U,U,U,U,U,U,U,U,U,U,U] h e
@[simp] theorem c_r08_Values:cfun Tryz.prog n_r08_Values=some r08_Values:=by kernel_rfl
@[simp] theorem e_r08_Values:hasBody Tryz.prog n_r08_Values=true:=by kernel_rfl
abbrev ydm:List AG:=[zz1 19 9,zz1 20 1,zz1 21 2,o 22 (.call (.f n_step_machine_step) [(.t 19),(.t 20),(.t 21)]),zzc 23 22 0,zzc 24 22 1,zzc 25 22 2,zz1 6 23,zz1 7 24,zz1 8 25]
abbrev ydn:List AG:=[zz1 18 10,o 6 (.nilrow 1 t_bool),o 7 (.nilrow 1 t_bool),zz1 8 18]
abbrev ydo:ACode:=(.seq (.reg ydn) .ret)
abbrev ydp:List AG:=[zz1 16 10,o 17 (.cmp .neq (.sc .int) (.t 16) (.c (.int .i64 0)))]
abbrev ydq:List AG:=[zz3 12 4 3,zzf 13 n_step_begin 12,zz1 11 13,zzc 14 11 0,zzc 15 11 1,zz1 9 14,zz1 10 15]
abbrev ydr:List AG:=[o 3 (.box 4 (.t 0)),o 6 (.nilrow 1 t_bool),o 7 (.nilrow 1 t_bool),zz9 8 0]
abbrev step_Step:AFun:=⟨(.seq (.reg ydr) (.seq (.reg ydq) (.seq (.seq (.reg ydp) (.cond (.t 17) ydo .skip)) (.seq (.reg ydm) .ret)))),26,[.tmp 6,.tmp 7,.tmp 8]⟩
@[simp] theorem c_step_Step:cfun Tryz.prog n_step_Step=some step_Step:=by kernel_rfl
@[simp] theorem e_step_Step:hasBody Tryz.prog n_step_Step=true:=by kernel_rfl
abbrev yds:List AG:=[zz1 66 11,zz1 67 12,zz1 6 66,zz1 7 67,zz9 8 0]
abbrev ydt:List Bool:=[O,O,O,I,O,O,O,O,O,I,O,I,I,O,I,O,O,O,O,O,O,O,O,O,O,O,O,O,O,O,O,O,O,O,O,O,O,O,O,O,O,O,O,O,O,O,O,O,O,O,O,O,O,O,O,O,O,O,O,O,O,O,O,O,O,O,O,O]
abbrev ydu:List Bool:=[O,O,O,O,O,O,O,O,O,O,O,I,I,O,O,O,O,O,O,O,O,O,O,O,O,O,O,O,O,O,O,O,O,O,O,O,O,O,O,O,O,O,O,O,O,O,O,O,O,O,O,O,O,O,O,O,O,O,O,O,O,O,O,O,O,O,O,O]
abbrev ydv:List AG:=[zz1 50 14,zz6 51 50 1,zz1 14 51]
abbrev ydw:List AG:=[zz1 52 12,zz1 53 9,zz3 54 4 3,zz4 55 2 3,zz2 56 1 55,zz1 57 14,zz5 58 3 56 57,zz4 59 1 58,zz2 60 1 59,zzg 61 n_r06_Place 54 60,zz5 62 1 53 61,zz2 63 1 62,o 64 (.lit 1 [(.bool false)] [(0,(.t 63))]),o 65 (.append 1 t_bool 1 (.t 52) (.t 64)),zz1 12 65]
abbrev ydx:List AG:=[zz1 45 14,zz4 46 2 3,zz2 47 1 46,zza 48 47,zz7 49 45 48]
abbrev ydy:ACode:=(.seq (.seq (.reg ydx) (.cond (.t 49) .skip (.exit 2))) (.seq (.block 3 [] (.dreg [O,O,O,O,O,O,O,O,O,O,O,O,O,O,O] [14,13,10,10,10,10,10,10,10,13,13,13,14,16,16] ydw)) (.reg ydv)))
abbrev ydz:List AG:=[zz9 14 0]
abbrev ydA:List Bool:=[O,O,O,I,O,O,O,O,O,I,O,I,I,I,O,O,O,O,O,O,O,O,O,O,O,O,O,O,O,O,O,O,O,O,O,O,O,O,O,O,O,O,O,O,O,O,O,O,O,O,O,O,O,O,O,O,O,O,O,O,O,O,O,O,O,O,O,O]
abbrev ydB:List Bool:=[O,O,O,I,O,O,O,O,O,I,O,I,I,O,O,O,O,O,O,O,O,O,O,O,O,O,O,O,O,O,O,O,O,O,O,O,O,O,O,O,O,O,O,O,O,O,O,O,O,O,O,O,O,O,O,O,O,O,O,O,O,O,O,O,O,O,O,O]
abbrev ydC:List AG:=[zz1 30 13,zz6 31 30 1,zz1 13 31]
abbrev ydD:List AG:=[zz1 32 11,zz1 33 9,zz3 34 4 3,zz4 35 1 3,zz2 36 1 35,zz1 37 13,zz5 38 1 36 37,zz2 39 1 38,zzg 40 n_r06_Place 34 39,zz5 41 1 33 40,zz2 42 1 41,o 43 (.lit 1 [(.bool false)] [(0,(.t 42))]),o 44 (.append 1 t_bool 1 (.t 32) (.t 43)),zz1 11 44]
abbrev ydE:List AG:=[zz1 25 13,zz4 26 1 3,zz2 27 1 26,zza 28 27,zz7 29 25 28]
abbrev ydF:ACode:=(.seq (.seq (.reg ydE) (.cond (.t 29) .skip (.exit 0))) (.seq (.block 1 [] (.dreg [O,O,O,O,O,O,O,O,O,O,O,O,O,O] [13,12,9,9,9,9,9,9,12,12,12,13,15,15] ydD)) (.reg ydC)))
abbrev ydG:List AG:=[zz9 13 0]
abbrev ydH:List AG:=[o 12 (.nilrow 1 t_bool)]
abbrev ydI:List AG:=[o 11 (.nilrow 1 t_bool)]
abbrev ydJ:List AG:=[zz1 24 10,o 6 (.nilrow 1 t_bool),o 7 (.nilrow 1 t_bool),zz1 8 24]
abbrev ydK:ACode:=(.seq (.reg ydJ) .ret)
abbrev ydL:List AG:=[zz1 22 10,o 23 (.cmp .neq (.sc .int) (.t 22) (.c (.int .i64 0)))]
abbrev ydM:List AG:=[zz3 16 4 3,zz1 17 1,zz1 18 2,o 19 (.call (.f n_r08_Values) [(.t 16),(.t 17),(.t 18)]),zz1 15 19,zzc 20 15 0,zzc 21 15 1,zz1 9 20,zz1 10 21]
abbrev ydN:List AG:=[o 3 (.box 4 (.t 0)),o 6 (.nilrow 1 t_bool),o 7 (.nilrow 1 t_bool),zz9 8 0]
abbrev r08_Step:AFun:=⟨(.seq (.reg ydN) (.seq (.reg ydM) (.seq (.seq (.reg ydL) (.cond (.t 23) ydK .skip)) (.seq (.reg ydI) (.seq (.reg ydH) (.seq (.seq (.reg ydG) (.block 0 ydB (.loop ydA ydF))) (.seq (.seq (.reg ydz) (.block 2 ydu (.loop ydt ydy))) (.seq (.reg yds) .ret)))))))),68,[.tmp 6,.tmp 7,.tmp 8]⟩
abbrev ydO:List It:=[.code (.seq (.reg yds) .ret)]
abbrev ydP (x3 x9 x11 x12 x14:AV) (h:List Ob) (e:Cx:=cx):Cfg:=atC n_r08_Step (.code ydy::.inLoop ydt ydy::.inBlock 2 ydu::ydO) [U,U,U,x3,U,U,U,U,U,x9,U,x11,x12,U,x14,U,U,U,U,U,U,U,U,U,U,U,U,U,U,U,U,U,U,U,U,U,U,U,U,U,U,U,U,U,U,U,U,U,U,U,U,U,U,U,U,U,U,U,U,U,U,U,U,U,U,U,U,U] h e
abbrev ydQ:List It:=[.code (.seq (.seq (.reg ydz) (.block 2 ydu (.loop ydt ydy))) (.seq (.reg yds) .ret))]
abbrev ydR (x3 x9 x11 x12 x13:AV) (h:List Ob) (e:Cx:=cx):Cfg:=atC n_r08_Step (.code ydF::.inLoop ydA ydF::.inBlock 0 ydB::ydQ) [U,U,U,x3,U,U,U,U,U,x9,U,x11,x12,x13,U,U,U,U,U,U,U,U,U,U,U,U,U,U,U,U,U,U,U,U,U,U,U,U,U,U,U,U,U,U,U,U,U,U,U,U,U,U,U,U,U,U,U,U,U,U,U,U,U,U,U,U,U,U] h e
abbrev ydS (x3 x9 x11 x12:AV) (h:List Ob) (e:Cx:=cx):Cfg:=atC n_r08_Step ydQ [U,U,U,x3,U,U,U,U,U,x9,U,x11,x12,U,U,U,U,U,U,U,U,U,U,U,U,U,U,U,U,U,U,U,U,U,U,U,U,U,U,U,U,U,U,U,U,U,U,U,U,U,U,U,U,U,U,U,U,U,U,U,U,U,U,U,U,U,U,U] h e
@[simp] theorem c_r08_Step:cfun Tryz.prog n_r08_Step=some r08_Step:=by kernel_rfl
@[simp] theorem e_r08_Step:hasBody Tryz.prog n_r08_Step=true:=by kernel_rfl
abbrev ydT:List AG:=[o 4 (.mv (.c (.bool true)))]
abbrev ydU:List Bool:=[O,I,I,O,O,I,O,O,O,O,O,O,O,O,O,O,O,O,O,O,O,O,O,O,O,O,O,O,O,O,O,O,O,O,O,O,O,O,O,O,O,O,O,O,O,O,O,O,O,O,O,O]
abbrev ydV:List Bool:=[O,O,O,O,O,O,O,O,O,O,O,O,O,O,O,O,O,O,O,O,O,O,O,O,O,O,O,O,O,O,O,O,O,O,O,O,O,O,O,O,O,O,O,O,O,O,O,O,O,O,O,O]
abbrev ydW:List AG:=[zz1 21 5,zz6 22 21 1,zz1 5 22]
abbrev ydX:List AG:=[zzh 4]
abbrev ydY:ACode:=(.seq (.reg ydX) .ret)
abbrev ydZ:List AG:=[zz4 23 2 2,zz2 24 1 23,zz1 25 5,zz5 26 3 24 25,zz4 27 2 26,zz2 28 1 27,o 29 (.cmp .eql (.sc .int) (.t 28) (.c (.int .i64 0))),zz1 30 29,zze 31 30 1,zze 32 30 5,oy 33 30 (.ixAddr 1 (.t 31) (.t 32)),zzd 34 30 1 33,zz8 35 30 34,zz1 36 35,on 37 36 (.off 2 (.t 2)),on 38 36 (.load false 1 (.t 37)),on 39 36 (.mv (.t 5)),on 40 36 (.ixAddr 3 (.t 38) (.t 39)),on 41 36 (.off 2 (.t 40)),on 42 36 (.load false 1 (.t 41)),on 43 36 (.cmp .eql (.sc .int) (.t 42) (.c (.int .i64 1))),on 44 36 (.mv (.t 43)),zze 45 44 1,zze 46 44 5,oy 47 44 (.ixAddr 1 (.t 45) (.t 46)),zzd 48 44 1 47,oy 49 44 (.not (.t 48)),on 50 36 (.pick (.t 44) (.t 49) (.c (.bool false))),o 51 (.pick (.t 36) (.c (.bool true)) (.t 50))]
abbrev yea:ACode:=(.seq (.reg ydZ) (.cond (.t 51) ydY .skip))
abbrev yeb:List AG:=[zz1 17 5,zz1 18 1,zza 19 18,zz7 20 17 19]
abbrev yec:ACode:=(.seq (.seq (.reg yeb) (.cond (.t 20) .skip (.exit 0))) (.seq (.block 1 [] yea) (.reg ydW)))
abbrev yed:List AG:=[zz9 5 0]
abbrev yee:List AG:=[zzh 4]
abbrev yef:ACode:=(.seq (.reg yee) .ret)
abbrev yeg:List AG:=[zz3 6 4 2,zzf 7 n_r08_right 6,o 8 (.not (.t 7)),zz1 9 8,on 10 9 (.mv (.t 1)),on 11 9 (.len (.t 10)),on 12 9 (.off 2 (.t 2)),on 13 9 (.load false 1 (.t 12)),on 14 9 (.len (.t 13)),on 15 9 (.cmp .neq (.sc .int) (.t 11) (.t 14)),o 16 (.pick (.t 9) (.c (.bool true)) (.t 15))]
abbrev yeh:List AG:=[o 2 (.box 4 (.t 0)),zzh 4]
abbrev r08_Allowed:AFun:=⟨(.seq (.reg yeh) (.seq (.seq (.reg yeg) (.cond (.t 16) yef .skip)) (.seq (.seq (.reg yed) (.block 0 ydV (.loop ydU yec))) (.seq (.reg ydT) .ret)))),52,[.tmp 4]⟩
abbrev yei:List It:=[.code (.seq (.reg ydT) .ret)]
abbrev yej (x1 x2 x5:AV) (h:List Ob) (e:Cx:=cx):Cfg:=atC n_r08_Allowed (.code yec::.inLoop ydU yec::.inBlock 0 ydV::yei) [U,x1,x2,U,U,x5,U,U,U,U,U,U,U,U,U,U,U,U,U,U,U,U,U,U,U,U,U,U,U,U,U,U,U,U,U,U,U,U,U,U,U,U,U,U,U,U,U,U,U,U,U,U] h e
@[simp] theorem c_r08_Allowed:cfun Tryz.prog n_r08_Allowed=some r08_Allowed:=by kernel_rfl
@[simp] theorem e_r08_Allowed:hasBody Tryz.prog n_r08_Allowed=true:=by kernel_rfl
abbrev yek:List AG:=[o 4 (.mv (.c (.bool true)))]
abbrev yel:List Bool:=[I,I,O,O,O,I,O,O,O,O,O,O,O,O,O,O,O,O,O,O,O,O,O,O,O,O]
abbrev yem:List Bool:=[O,O,O,O,O,O,O,O,O,O,O,O,O,O,O,O,O,O,O,O,O,O,O,O,O,O]
abbrev yen:List AG:=[zz1 15 5,zz6 16 15 1,zz1 5 16]
abbrev yeo:List AG:=[zzh 4]
abbrev yep:ACode:=(.seq (.reg yeo) .ret)
abbrev yeq:List AG:=[zz1 17 0,zz1 18 5,zz5 19 1 17 18,zz2 20 1 19,zz1 21 1,zz1 22 5,zz5 23 1 21 22,zz2 24 1 23,o 25 (.cmp .neq (.sc .bool) (.t 20) (.t 24))]
abbrev yer:ACode:=(.seq (.dreg [O,O,O,O,O,O,O,O,O] [10,10,10,10,10,10,10,10,10] yeq) (.cond (.t 25) yep .skip))
abbrev yes:List AG:=[zz1 11 5,zz1 12 0,zza 13 12,zz7 14 11 13]
abbrev yeu:ACode:=(.seq (.seq (.reg yes) (.cond (.t 14) .skip (.exit 0))) (.seq (.block 1 [] yer) (.reg yen)))
abbrev yev:List AG:=[zz9 5 0]
abbrev yew:List AG:=[zzh 4]
abbrev yex:ACode:=(.seq (.reg yew) .ret)
abbrev yey:List AG:=[zz1 6 0,zza 7 6,zz1 8 1,zza 9 8,o 10 (.cmp .neq (.sc .int) (.t 7) (.t 9))]
abbrev yez:List AG:=[zzh 4]
abbrev r08_Bools:AFun:=⟨(.seq (.reg yez) (.seq (.seq (.reg yey) (.cond (.t 10) yex .skip)) (.seq (.seq (.reg yev) (.block 0 yem (.loop yel yeu))) (.seq (.reg yek) .ret)))),26,[.tmp 4]⟩
abbrev yeA:List It:=[.code (.seq (.reg yek) .ret)]
abbrev yeB (x0 x1 x5:AV) (h:List Ob) (e:Cx:=cx):Cfg:=atC n_r08_Bools (.code yeu::.inLoop yel yeu::.inBlock 0 yem::yeA) [x0,x1,U,U,U,x5,U,U,U,U,U,U,U,U,U,U,U,U,U,U,U,U,U,U,U,U] h e
@[simp] theorem c_r08_Bools:cfun Tryz.prog n_r08_Bools=some r08_Bools:=by kernel_rfl
@[simp] theorem e_r08_Bools:hasBody Tryz.prog n_r08_Bools=true:=by kernel_rfl
abbrev yeC:List AG:=[o 4 (.mv (.c (.bool true)))]
abbrev yeD:List Bool:=[O,I,O,O,O,O,O,O,O,O,O,O,O,O,O,O,O,O,O,I,I,I,O,O,O,O,O,O,O,O,O,O,O,O,O,O,O,O,O,O]
abbrev yeE:List Bool:=[O,O,O,O,O,O,O,O,O,O,O,O,O,O,O,O,O,O,O,O,O,O,O,O,O,O,O,O,O,O,O,O,O,O,O,O,O,O,O,O]
abbrev yeF:List AG:=[zz6 39 21 1,zz1 21 39]
abbrev yeG:List AG:=[zzh 4]
abbrev yeH:ACode:=(.seq (.reg yeG) .ret)
abbrev yeI:List AG:=[zz4 26 2 6,zz2 27 1 26,o 28 (.cmp .lss (.sc .int) (.t 27) (.c (.int .i64 2))),zz1 29 28,oy 30 29 (.off 2 (.t 6)),zzd 31 29 1 30,oy 32 29 (.cmp .eql (.sc .int) (.t 31) (.c (.int .i64 1))),zze 33 29 1,zze 34 29 5,oy 35 29 (.ixAddr 1 (.t 33) (.t 34)),zzd 36 29 1 35,oy 37 29 (.cmp .neq (.sc .bool) (.t 32) (.t 36)),zz8 38 29 37]
abbrev yeJ:List AG:=[zz1 23 21,zz5 24 3 19 21,zz3 25 3 24,o 6 (.alloc [(.str []),(.str []),(.int .i64 0)]),zz1 5 23,zzb 3 6 25]
abbrev yeK:ACode:=(.seq (.reg yeJ) (.seq (.dreg [O,O,O,O,O,O,O,O,O,O,O,O,O] [14,14,14,14,14,14,14,14,14,14,14,14,14] yeI) (.cond (.t 38) yeH .skip)))
abbrev yeL:List AG:=[zz7 22 21 20]
abbrev yeM:ACode:=(.seq (.reg yeL) (.seq (.cond (.t 22) .skip (.exit 0)) (.seq (.block 1 [] yeK) (.reg yeF))))
abbrev yeN:List AG:=[zz4 18 2 2,zz2 19 1 18,zza 20 19,zz9 21 0]
abbrev yeO:List AG:=[zzh 4]
abbrev yeP:ACode:=(.seq (.reg yeO) .ret)
abbrev yeQ:List AG:=[zz3 7 4 2,zzf 8 n_step_right 7,o 9 (.not (.t 8)),zz1 10 9,on 11 10 (.mv (.t 1)),on 12 10 (.len (.t 11)),on 13 10 (.off 2 (.t 2)),on 14 10 (.load false 1 (.t 13)),on 15 10 (.len (.t 14)),on 16 10 (.cmp .neq (.sc .int) (.t 12) (.t 15)),o 17 (.pick (.t 10) (.c (.bool true)) (.t 16))]
abbrev yeR:List AG:=[o 2 (.box 4 (.t 0)),zzh 4]
abbrev step_Allowed:AFun:=⟨(.seq (.reg yeR) (.seq (.seq (.reg yeQ) (.cond (.t 17) yeP .skip)) (.seq (.seq (.reg yeN) (.block 0 yeE (.loop yeD yeM))) (.seq (.reg yeC) .ret)))),40,[.tmp 4]⟩
abbrev yeS:List It:=[.code (.seq (.reg yeC) .ret)]
abbrev yeT (x1 x19 x20 x21:AV) (h:List Ob) (e:Cx:=cx):Cfg:=atC n_step_Allowed (.code yeM::.inLoop yeD yeM::.inBlock 0 yeE::yeS) [U,x1,U,U,U,U,U,U,U,U,U,U,U,U,U,U,U,U,U,x19,x20,x21,U,U,U,U,U,U,U,U,U,U,U,U,U,U,U,U,U,U] h e
@[simp] theorem c_step_Allowed:cfun Tryz.prog n_step_Allowed=some step_Allowed:=by kernel_rfl
@[simp] theorem e_step_Allowed:hasBody Tryz.prog n_step_Allowed=true:=by kernel_rfl
abbrev yeU:List AG:=[zz2 48 1 11,zz2 49 1 4,zzf 50 n_slices_Clone_bool_bool 49,zz1 6 48,zz1 7 50,zz9 8 0]
abbrev yeV:List AG:=[zz2 47 1 10,o 6 (.nilrow 1 t_bool_2),o 7 (.nilrow 1 t_bool),zz1 8 47]
abbrev yeW:ACode:=(.seq (.dreg [I,O,O,O] [5,3,5,5] yeV) .ret)
abbrev yeX:List AG:=[zz2 45 1 10,o 46 (.cmp .neq (.sc .int) (.t 45) (.c (.int .i64 0)))]
abbrev yeY:List AG:=[zz1 13 39]
abbrev yeZ:List AG:=[zz1 12 38]
abbrev yfa:List AG:=[zz2 40 1 11,zz1 41 12,o 42 (.lit 1 [(.list true 0 [])] [(0,(.t 41))]),o 43 (.append 1 t_bool_2 24 (.t 40) (.t 42)),zz1 44 13,zzb 1 11 43,zzb 1 4 44]
abbrev yfb:ACode:=(.seq (.reg yeZ) (.reg yeY))
abbrev yfc:ACode:=(.block 2 [] (.reg yfa))
abbrev yfd:ACode:=(.rangeFunc (.t 37) [38,39] [O,O,O,O,I,O,I,I,I,O,O,I,O,O,O,O,O,O,O,O,O,O,O,O,O,O,O,O,O,O,O,O,O,O,O,O,O,O,O,O,O,O,O,O,O,O,O,O,O,O,O] yfb yfc)
abbrev yfe:List AG:=[zz1 34 9,zz2 35 1 4,zz1 36 2,o 37 (.call (.f n_step_machine_steps) [(.t 34),(.t 35),(.t 36),(.t 10)])]
abbrev yff:List AG:=[o 11 (.alloc [(.own 1 t_bool_2 [])])]
abbrev yfg:List AG:=[zz2 22 1 10,o 6 (.nilrow 1 t_bool_2),o 7 (.nilrow 1 t_bool),zz1 8 22]
abbrev yfh:List AG:=[o 6 (.nilrow 1 t_bool_2),o 7 (.nilrow 1 t_bool),zz9 8 8]
abbrev yfi:List AG:=[o 6 (.nilrow 1 t_bool_2),o 7 (.nilrow 1 t_bool),zz9 8 11]
abbrev yfj:ACode:=(.seq (.reg yfi) .ret)
abbrev yfk:List AG:=[zz2 28 1 4,zza 29 28,zz4 30 2 3,zz2 31 1 30,zza 32 31,o 33 (.cmp .neq (.sc .int) (.t 29) (.t 32)),zz1 27 33]
abbrev yfl:ACode:=(.seq (.reg yfh) .ret)
abbrev yfm:ACode:=(.seq (.reg yfk) (.cond (.t 27) yfj .skip))
abbrev yfn:List AG:=[zz1 24 2,zza 25 24,o 26 (.cmp .gtr (.sc .int) (.t 25) (.c (.int .i64 40))),zz1 23 26]
abbrev yfo:ACode:=(.seq (.dreg [I,O,O,O] [5,3,5,5] yfg) .ret)
abbrev yfp:ACode:=(.seq (.reg yfn) (.cond (.t 23) yfl yfm))
abbrev yfq:List AG:=[zz2 20 1 10,o 21 (.cmp .neq (.sc .int) (.t 20) (.c (.int .i64 0))),zz1 19 21]
abbrev yfr:ACode:=(.seq (.reg yfq) (.cond (.t 19) yfo yfp))
abbrev yfs:List AG:=[zz3 15 4 3,zzf 16 n_step_begin 15,zz1 14 16,zzc 17 14 0,zzc 18 14 1,o 10 (.alloc [(.int .i64 0)]),zz1 9 17,zzb 1 10 18]
abbrev yft:List AG:=[o 3 (.box 4 (.t 0)),o 4 (.box 1 (.t 1)),o 6 (.nilrow 1 t_bool_2),o 7 (.nilrow 1 t_bool),zz9 8 0]
abbrev step_Run:AFun:=⟨(.seq (.reg yft) (.seq (.reg yfs) (.seq (.block 0 [] yfr) (.seq (.reg yff) (.seq (.seq (.reg yfe) (.block 1 [] yfd)) (.seq (.seq (.reg yeX) (.cond (.t 46) yeW .skip)) (.seq (.dreg [I,O,O,O,O,O] [7,3,7,7,7,7] yeU) .ret))))))),51,[.tmp 6,.tmp 7,.tmp 8]⟩
@[simp] theorem c_step_Run:cfun Tryz.prog n_step_Run=some step_Run:=by kernel_rfl
@[simp] theorem e_step_Run:hasBody Tryz.prog n_step_Run=true:=by kernel_rfl
abbrev yfu:List AG:=[o 4 (.mv (.c (.bool true)))]
abbrev yfv:List Bool:=[I,I,O,O,O,I,O,O,O,O,O,O,O,O,O,O,O,O,O,O,O,O,O,O,O,O,O]
abbrev yfw:List Bool:=[O,O,O,O,O,O,O,O,O,O,O,O,O,O,O,O,O,O,O,O,O,O,O,O,O,O,O]
abbrev yfx:List AG:=[zz1 15 5,zz6 16 15 1,zz1 5 16]
abbrev yfy:List AG:=[zzh 4]
abbrev yfz:ACode:=(.seq (.reg yfy) .ret)
abbrev yfA:List AG:=[zz1 17 0,zz1 18 5,zz5 19 1 17 18,zz2 20 1 19,zz1 21 1,zz1 22 5,zz5 23 1 21 22,zz2 24 1 23,zzg 25 n_r08_Bools 20 24,o 26 (.not (.t 25))]
abbrev yfB:ACode:=(.seq (.dreg [O,O,O,O,O,O,O,O,O,O] [9,9,9,9,9,9,9,9,11,11] yfA) (.cond (.t 26) yfz .skip))
abbrev yfC:List AG:=[zz1 11 5,zz1 12 0,zza 13 12,zz7 14 11 13]
abbrev yfD:ACode:=(.seq (.seq (.reg yfC) (.cond (.t 14) .skip (.exit 0))) (.seq (.block 1 [] yfB) (.reg yfx)))
abbrev yfE:List AG:=[zz9 5 0]
abbrev yfF:List AG:=[zzh 4]
abbrev yfG:ACode:=(.seq (.reg yfF) .ret)
abbrev yfH:List AG:=[zz1 6 0,zza 7 6,zz1 8 1,zza 9 8,o 10 (.cmp .neq (.sc .int) (.t 7) (.t 9))]
abbrev yfI:List AG:=[zzh 4]
abbrev r08_Rows:AFun:=⟨(.seq (.reg yfI) (.seq (.seq (.reg yfH) (.cond (.t 10) yfG .skip)) (.seq (.seq (.reg yfE) (.block 0 yfw (.loop yfv yfD))) (.seq (.reg yfu) .ret)))),27,[.tmp 4]⟩
abbrev yfJ:List It:=[.code (.seq (.reg yfu) .ret)]
abbrev yfK (x0 x1 x5:AV) (h:List Ob) (e:Cx:=cx):Cfg:=atC n_r08_Rows (.code yfD::.inLoop yfv yfD::.inBlock 0 yfw::yfJ) [x0,x1,U,U,U,x5,U,U,U,U,U,U,U,U,U,U,U,U,U,U,U,U,U,U,U,U,U] h e
@[simp] theorem c_r08_Rows:cfun Tryz.prog n_r08_Rows=some r08_Rows:=by kernel_rfl
@[simp] theorem e_r08_Rows:hasBody Tryz.prog n_r08_Rows=true:=by kernel_rfl
abbrev yfL:List AG:=[zz1 62 6,zz1 63 62,zze 64 63 7,zz8 65 63 64,zz1 66 65,oy 67 66 (.off 3 (.t 1)),zzd 68 66 1 67,oy 69 66 (.len (.t 68)),oy 70 66 (.cmp .leq (.sc .int) (.t 69) (.c (.int .i64 210))),zz8 71 66 70,zz1 72 71,oy 73 72 (.off 2 (.t 1)),zzd 74 72 1 73,oy 75 72 (.len (.t 74)),oy 76 72 (.cmp .leq (.sc .int) (.t 75) (.c (.int .i64 210))),zz8 77 72 76,zz1 2 77]
abbrev yfM:List AG:=[zz4 59 1 1,zz2 60 1 59,o 61 (.call (.f n_w05_Texts) [(.t 60),(.c (.int .i64 210))]),zz1 7 61]
abbrev yfN:List AG:=[zz4 56 0 1,zz2 57 1 56,o 58 (.call (.f n_w05_Texts) [(.t 57),(.c (.int .i64 210))]),zz1 6 58]
abbrev yfO:List Bool:=[O,I,O,O,O,I,O,O,O,O,O,O,O,O,O,O,O,O,O,O,O,O,O,O,O,O,O,O,O,O,O,O,O,O,O,O,O,O,O,O,O,O,O,O,O,O,O,O,O,O,O,O,O,O,O,O,O,O,O,O,O,O,O,O,O,O,O,O,O,O,O,O,O,O,O,O,O,O]
abbrev yfP:List Bool:=[O,I,O,O,O,O,O,O,O,O,O,O,O,O,O,O,O,O,O,O,O,O,O,O,O,O,O,O,O,O,O,O,O,O,O,O,O,O,O,O,O,O,O,O,O,O,O,O,O,O,O,O,O,O,O,O,O,O,O,O,O,O,O,O,O,O,O,O,O,O,O,O,O,O,O,O,O,O]
abbrev yfQ:List AG:=[zz1 36 5,zz6 37 36 1,zz1 5 37]
abbrev yfR:List AG:=[zzh 2]
abbrev yfS:ACode:=(.seq (.reg yfR) .ret)
abbrev yfT:List AG:=[zz4 38 2 1,zz2 39 1 38,zz1 40 5,zz5 41 3 39 40,zz4 42 0 41,zz2 43 1 42,o 44 (.lenStr (.t 43)),o 45 (.cmp .gtr (.sc .int) (.t 44) (.c (.int .i64 60))),zz1 46 45,on 47 46 (.off 2 (.t 1)),on 48 46 (.load false 1 (.t 47)),on 49 46 (.mv (.t 5)),on 50 46 (.ixAddr 3 (.t 48) (.t 49)),on 51 46 (.off 1 (.t 50)),on 52 46 (.load false 1 (.t 51)),on 53 46 (.lenStr (.t 52)),on 54 46 (.cmp .gtr (.sc .int) (.t 53) (.c (.int .i64 60))),o 55 (.pick (.t 46) (.c (.bool true)) (.t 54))]
abbrev yfU:ACode:=(.seq (.reg yfT) (.cond (.t 55) yfS .skip))
abbrev yfV:List AG:=[zz1 27 5,zz4 28 2 1,zz2 29 1 28,zza 30 29,zz7 31 27 30,zz1 32 31,zze 33 32 5,oy 34 32 (.cmp .leq (.sc .int) (.t 33) (.c (.int .i64 210))),zz8 35 32 34]
abbrev yfW:ACode:=(.seq (.seq (.reg yfV) (.cond (.t 35) .skip (.exit 2))) (.seq (.block 3 [] yfU) (.reg yfQ)))
abbrev yfX:List AG:=[zz9 5 0]
abbrev yfY:List Bool:=[O,I,O,I,O,O,O,O,O,O,O,O,O,O,O,O,O,O,O,O,O,O,O,O,O,O,O,O,O,O,O,O,O,O,O,O,O,O,O,O,O,O,O,O,O,O,O,O,O,O,O,O,O,O,O,O,O,O,O,O,O,O,O,O,O,O,O,O,O,O,O,O,O,O,O,O,O,O]
abbrev yfZ:List Bool:=[O,I,O,O,O,O,O,O,O,O,O,O,O,O,O,O,O,O,O,O,O,O,O,O,O,O,O,O,O,O,O,O,O,O,O,O,O,O,O,O,O,O,O,O,O,O,O,O,O,O,O,O,O,O,O,O,O,O,O,O,O,O,O,O,O,O,O,O,O,O,O,O,O,O,O,O,O,O]
abbrev yga:List AG:=[zz1 17 3,zz6 18 17 1,zz1 3 18]
abbrev ygb:List AG:=[zzh 2]
abbrev ygc:ACode:=(.seq (.reg ygb) .ret)
abbrev ygd:List AG:=[zz1 25 4,o 26 (.not (.t 25))]
abbrev yge:List AG:=[zz4 19 3 1,zz2 20 1 19,zz1 21 3,zz5 22 5 20 21,zz3 23 5 22,zzf 24 n_w06_FewGate 23,zz1 4 24]
abbrev ygf:ACode:=(.seq (.reg yge) (.seq (.reg ygd) (.cond (.t 26) ygc .skip)))
abbrev ygg:List AG:=[zz1 8 3,zz4 9 3 1,zz2 10 1 9,zza 11 10,zz7 12 8 11,zz1 13 12,zze 14 13 3,oy 15 13 (.cmp .leq (.sc .int) (.t 14) (.c (.int .i64 210))),zz8 16 13 15]
abbrev ygh:ACode:=(.seq (.seq (.reg ygg) (.cond (.t 16) .skip (.exit 0))) (.seq (.block 1 [] ygf) (.reg yga)))
abbrev ygi:List AG:=[zz9 3 0]
abbrev ygj:List AG:=[o 1 (.box 4 (.t 0)),zzh 2]
abbrev w06_Few:AFun:=⟨(.seq (.reg ygj) (.seq (.seq (.reg ygi) (.block 0 yfZ (.loop yfY ygh))) (.seq (.seq (.reg yfX) (.block 2 yfP (.loop yfO yfW))) (.seq (.reg yfN) (.seq (.reg yfM) (.seq (.reg yfL) .ret)))))),78,[.tmp 2]⟩
abbrev ygk:List It:=[.code (.seq (.reg yfN) (.seq (.reg yfM) (.seq (.reg yfL) .ret)))]
abbrev ygl (x1 x5:AV) (h:List Ob) (e:Cx:=cx):Cfg:=atC n_w06_Few (.code yfW::.inLoop yfO yfW::.inBlock 2 yfP::ygk) [U,x1,U,U,U,x5,U,U,U,U,U,U,U,U,U,U,U,U,U,U,U,U,U,U,U,U,U,U,U,U,U,U,U,U,U,U,U,U,U,U,U,U,U,U,U,U,U,U,U,U,U,U,U,U,U,U,U,U,U,U,U,U,U,U,U,U,U,U,U,U,U,U,U,U,U,U,U,U] h e
abbrev ygm (x1:AV) (h:List Ob) (e:Cx:=cx):Cfg:=atC n_w06_Few ygk [U,x1,U,U,U,U,U,U,U,U,U,U,U,U,U,U,U,U,U,U,U,U,U,U,U,U,U,U,U,U,U,U,U,U,U,U,U,U,U,U,U,U,U,U,U,U,U,U,U,U,U,U,U,U,U,U,U,U,U,U,U,U,U,U,U,U,U,U,U,U,U,U,U,U,U,U,U,U] h e
abbrev ygn:List It:=[.code (.seq (.seq (.reg yfX) (.block 2 yfP (.loop yfO yfW))) (.seq (.reg yfN) (.seq (.reg yfM) (.seq (.reg yfL) .ret))))]
abbrev ygo (x1 x3:AV) (h:List Ob) (e:Cx:=cx):Cfg:=atC n_w06_Few (.code ygh::.inLoop yfY ygh::.inBlock 0 yfZ::ygn) [U,x1,U,x3,U,U,U,U,U,U,U,U,U,U,U,U,U,U,U,U,U,U,U,U,U,U,U,U,U,U,U,U,U,U,U,U,U,U,U,U,U,U,U,U,U,U,U,U,U,U,U,U,U,U,U,U,U,U,U,U,U,U,U,U,U,U,U,U,U,U,U,U,U,U,U,U,U,U] h e
@[simp] theorem c_w06_Few:cfun Tryz.prog n_w06_Few=some w06_Few:=by kernel_rfl
@[simp] theorem e_w06_Few:hasBody Tryz.prog n_w06_Few=true:=by kernel_rfl
abbrev ygp:List AG:=[o 4 (.mv (.c (.int .i64 (-1))))]
abbrev ygq:List Bool:=[O,I,O,O,O,I,I,O,O,O,O,O,O,O,O,O,O,O,O,O,O,O]
abbrev ygr:List Bool:=[O,O,O,O,O,O,O,O,O,O,O,O,O,O,O,O,O,O,O,O,O,O]
abbrev ygs:List AG:=[zz1 13 6,zz6 14 13 1,zz1 6 14]
abbrev ygt:List AG:=[zz1 21 6,zz1 4 21]
abbrev ygu:ACode:=(.seq (.reg ygt) .ret)
abbrev ygv:List AG:=[zz1 15 5,zz1 16 6,zz5 17 1 15 16,zz2 18 1 17,zz1 19 1,o 20 (.cmp .eql (.sc .str) (.t 18) (.t 19))]
abbrev ygw:ACode:=(.seq (.reg ygv) (.cond (.t 20) ygu .skip))
abbrev ygx:List AG:=[zz1 9 6,zz1 10 5,zza 11 10,zz7 12 9 11]
abbrev ygy:ACode:=(.seq (.seq (.reg ygx) (.cond (.t 12) .skip (.exit 0))) (.seq (.block 1 [] ygw) (.reg ygs)))
abbrev ygz:List AG:=[zz9 6 0]
abbrev ygA:List AG:=[zz3 7 4 2,zzf 8 n_r06_Nets 7,zz1 5 8]
abbrev ygB:List AG:=[o 2 (.box 4 (.t 0)),zz9 4 0]
abbrev r06_Place:AFun:=⟨(.seq (.reg ygB) (.seq (.reg ygA) (.seq (.seq (.reg ygz) (.block 0 ygr (.loop ygq ygy))) (.seq (.reg ygp) .ret)))),22,[.tmp 4]⟩
abbrev ygC:List It:=[.code (.seq (.reg ygp) .ret)]
abbrev ygD (x1 x5 x6:AV) (h:List Ob) (e:Cx:=cx):Cfg:=atC n_r06_Place (.code ygy::.inLoop ygq ygy::.inBlock 0 ygr::ygC) [U,x1,U,U,U,x5,x6,U,U,U,U,U,U,U,U,U,U,U,U,U,U,U] h e
@[simp] theorem c_r06_Place:cfun Tryz.prog n_r06_Place=some r06_Place:=by kernel_rfl
@[simp] theorem e_r06_Place:hasBody Tryz.prog n_r06_Place=true:=by kernel_rfl
abbrev ygE:List AG:=[zz1 23 0,zza 24 23,zz1 25 1,o 26 (.cmp .leq (.sc .int) (.t 24) (.t 25)),zz1 4 26]
abbrev ygF:List Bool:=[I,I,O,O,O,I,O,O,O,O,O,O,O,O,O,O,O,O,O,O,O,O,O,O,O,O,O]
abbrev ygG:List Bool:=[I,I,O,O,O,O,O,O,O,O,O,O,O,O,O,O,O,O,O,O,O,O,O,O,O,O,O]
abbrev ygH:List AG:=[zz1 15 5,zz6 16 15 1,zz1 5 16]
abbrev ygI:List AG:=[zzh 4]
abbrev ygJ:ACode:=(.seq (.reg ygI) .ret)
abbrev ygK:List AG:=[zz1 17 0,zz1 18 5,zz5 19 1 17 18,zz2 20 1 19,o 21 (.lenStr (.t 20)),o 22 (.cmp .gtr (.sc .int) (.t 21) (.c (.int .i64 60)))]
abbrev ygL:ACode:=(.seq (.reg ygK) (.cond (.t 22) ygJ .skip))
abbrev ygM:List AG:=[zz1 6 5,zz1 7 0,zza 8 7,zz7 9 6 8,zz1 10 9,zze 11 10 5,zze 12 10 1,oy 13 10 (.cmp .leq (.sc .int) (.t 11) (.t 12)),zz8 14 10 13]
abbrev ygN:ACode:=(.seq (.seq (.reg ygM) (.cond (.t 14) .skip (.exit 0))) (.seq (.block 1 [] ygL) (.reg ygH)))
abbrev ygO:List AG:=[zz9 5 0]
abbrev ygP:List AG:=[zzh 4]
abbrev w05_Texts:AFun:=⟨(.seq (.reg ygP) (.seq (.seq (.reg ygO) (.block 0 ygG (.loop ygF ygN))) (.seq (.reg ygE) .ret))),27,[.tmp 4]⟩
abbrev ygQ:List It:=[.code (.seq (.reg ygE) .ret)]
abbrev ygR (x0 x1 x5:AV) (h:List Ob) (e:Cx:=cx):Cfg:=atC n_w05_Texts (.code ygN::.inLoop ygF ygN::.inBlock 0 ygG::ygQ) [x0,x1,U,U,U,x5,U,U,U,U,U,U,U,U,U,U,U,U,U,U,U,U,U,U,U,U,U] h e
@[simp] theorem c_w05_Texts:cfun Tryz.prog n_w05_Texts=some w05_Texts:=by kernel_rfl
@[simp] theorem e_w05_Texts:hasBody Tryz.prog n_w05_Texts=true:=by kernel_rfl
abbrev ygS:List AG:=[zz4 18 1 1,zz2 19 1 18,zz4 20 2 1,zz2 21 1 20,zza 22 21,zzg 23 n_net_has 19 22,zz1 24 23,oy 25 24 (.off 3 (.t 1)),zzd 26 24 1 25,oy 27 24 (.len (.t 26)),oy 28 24 (.cmp .leq (.sc .int) (.t 27) (.c (.int .i64 128))),zz8 29 24 28,zz1 30 29,oy 31 30 (.off 3 (.t 1)),zzd 32 30 1 31,zze 33 30 3,oy 34 30 (.call (.f n_slices_ContainsFunc_string_string) [(.t 32),(.t 33)]),oy 35 30 (.not (.t 34)),zz8 36 30 35,zz1 2 36]
abbrev ygT:List AG:=[zzh 2]
abbrev ygU:ACode:=(.seq (.reg ygT) .ret)
abbrev ygV:List AG:=[zz4 5 1 1,zz2 6 1 5,o 7 (.cmp .neq (.sc .int) (.t 6) (.c (.int .i64 10))),zz1 8 7,oy 9 8 (.off 3 (.t 1)),zzd 10 8 1 9,oy 11 8 (.len (.t 10)),oy 12 8 (.cmp .gtr (.sc .int) (.t 11) (.c (.int .i64 0))),zze 13 8 12,on 14 13 (.off 4 (.t 1)),on 15 13 (.load false 1 (.t 14)),oy 16 8 (.pick (.t 13) (.c (.bool true)) (.t 15)),zz8 17 8 16]
abbrev ygW:List AG:=[o 4 (.mkFunc (.func n_net_Gate_1) [] [(.t 1)]),zz1 3 4]
abbrev ygX:List AG:=[o 1 (.box 5 (.t 0)),zzh 2]
abbrev net_Gate:AFun:=⟨(.seq (.reg ygX) (.seq (.reg ygW) (.seq (.seq (.reg ygV) (.cond (.t 17) ygU .skip)) (.seq (.reg ygS) .ret)))),37,[.tmp 2]⟩
@[simp] theorem c_net_Gate:cfun Tryz.prog n_net_Gate=some net_Gate:=by kernel_rfl
@[simp] theorem e_net_Gate:hasBody Tryz.prog n_net_Gate=true:=by kernel_rfl
abbrev ygY:List AG:=[zz3 35 2 3,zzb 2 2 35]
abbrev ygZ:List AG:=[zz4 34 0 3,q (.store 1 (.t 34) (.f n_step_of_4))]
abbrev yha:List AG:=[zz4 33 0 3,q (.store 1 (.t 33) (.f n_step_of_3))]
abbrev yhb:List AG:=[zz4 32 0 3,q (.store 1 (.t 32) (.f n_step_of_2))]
abbrev yhc:List AG:=[zz4 31 0 3,q (.store 1 (.t 31) (.f n_step_of_1))]
abbrev yhd:List AG:=[o 30 (.cmp .eql (.sc .int) (.t 13) (.c (.int .i64 9))),zz1 28 30]
abbrev yhe:List AG:=[o 29 (.cmp .eql (.sc .int) (.t 13) (.c (.int .i64 8))),zz1 28 29]
abbrev yhf:List AG:=[o 27 (.cmp .eql (.sc .int) (.t 13) (.c (.int .i64 7))),zz1 25 27]
abbrev yhg:List AG:=[o 26 (.cmp .eql (.sc .int) (.t 13) (.c (.int .i64 6))),zz1 25 26]
abbrev yhh:List AG:=[o 24 (.cmp .eql (.sc .int) (.t 13) (.c (.int .i64 5))),zz1 22 24]
abbrev yhi:List AG:=[o 23 (.cmp .eql (.sc .int) (.t 13) (.c (.int .i64 4))),zz1 22 23]
abbrev yhj:List AG:=[o 21 (.cmp .eql (.sc .int) (.t 13) (.c (.int .i64 3))),zz1 20 21]
abbrev yhk:List AG:=[o 19 (.cmp .eql (.sc .int) (.t 13) (.c (.int .i64 2))),zz1 18 19]
abbrev yhl:List AG:=[o 17 (.cmp .eql (.sc .int) (.t 13) (.c (.int .i64 1))),zz1 16 17]
abbrev yhm:List AG:=[o 15 (.cmp .eql (.sc .int) (.t 13) (.c (.int .i64 0))),zz1 14 15]
abbrev yhn:ACode:=(.seq (.seq (.seq (.reg yhm) (.cond (.t 14) (.exit 2) .skip)) (.seq (.seq (.reg yhl) (.cond (.t 16) (.exit 3) .skip)) (.seq (.seq (.reg yhk) (.cond (.t 18) (.exit 4) .skip)) (.seq (.seq (.reg yhj) (.cond (.t 20) (.exit 5) .skip)) (.seq (.seq (.seq (.reg yhi) (.cond (.t 22) .skip (.reg yhh))) (.cond (.t 22) (.exit 6) .skip)) (.seq (.seq (.seq (.reg yhg) (.cond (.t 25) .skip (.reg yhf))) (.cond (.t 25) (.exit 7) .skip)) (.seq (.seq (.reg yhe) (.cond (.t 28) .skip (.reg yhd))) (.cond (.t 28) (.exit 8) .skip)))))))) (.exit 1))
abbrev yho:ACode:=(.block 2 [] yhn)
abbrev yhp:ACode:=(.seq (.block 3 [] yho) (.seq (.reg yhc) (.exit 1)))
abbrev yhq:ACode:=(.block 4 [] yhp)
abbrev yhr:ACode:=(.block 5 [] yhq)
abbrev yhs:ACode:=(.seq (.block 6 [] yhr) (.seq (.reg yhb) (.exit 1)))
abbrev yht:ACode:=(.seq (.block 7 [] yhs) (.seq (.reg yha) (.exit 1)))
abbrev yhu:ACode:=(.seq (.block 8 [] yht) (.seq (.reg ygZ) (.exit 1)))
abbrev yhv:List AG:=[zz1 13 0]
abbrev yhw:List AG:=[zz4 12 1 3,q (.store 1 (.t 12) (.c (.bool true)))]
abbrev yhx:List AG:=[o 11 (.cmp .eql (.sc .int) (.t 5) (.c (.int .i64 9))),zz1 6 11]
abbrev yhy:List AG:=[o 10 (.cmp .eql (.sc .int) (.t 5) (.c (.int .i64 7))),zz1 6 10]
abbrev yhz:ACode:=(.seq (.reg yhy) (.cond (.t 6) .skip (.reg yhx)))
abbrev yhA:List AG:=[o 9 (.cmp .eql (.sc .int) (.t 5) (.c (.int .i64 5))),zz1 6 9]
abbrev yhB:ACode:=(.seq (.reg yhA) (.cond (.t 6) .skip yhz))
abbrev yhC:List AG:=[o 8 (.cmp .eql (.sc .int) (.t 5) (.c (.int .i64 3))),zz1 6 8]
abbrev yhD:ACode:=(.seq (.reg yhC) (.cond (.t 6) .skip yhB))
abbrev yhE:List AG:=[o 7 (.cmp .eql (.sc .int) (.t 5) (.c (.int .i64 1))),zz1 6 7]
abbrev yhF:ACode:=(.seq (.seq (.reg yhE) (.cond (.t 6) .skip yhD)) (.cond (.t 6) (.reg yhw) .skip))
abbrev yhG:List AG:=[zz1 5 0]
abbrev yhH:List AG:=[o 4 (.build [.nilf,(.bool false)] []),o 3 (.alloc [.nilf,(.bool false)]),zzb 2 3 4]
abbrev yhI:List AG:=[o 2 (.alloc [.nilf,(.bool false)])]
abbrev step_of:AFun:=⟨(.seq (.reg yhI) (.seq (.reg yhH) (.seq (.seq (.reg yhG) (.block 0 [] yhF)) (.seq (.seq (.reg yhv) (.block 1 [] yhu)) (.seq (.reg ygY) .ret))))),36,[.cell 2 true 2]⟩
@[simp] theorem c_step_of:cfun Tryz.prog n_step_of=some step_of:=by kernel_rfl
@[simp] theorem e_step_of:hasBody Tryz.prog n_step_of=true:=by kernel_rfl
abbrev yhJ:List AG:=[zz4 4 3 1,zz2 5 1 4,o 6 (.mkFunc (.func n_step_Gate_1_1) [] [(.t 2)]),zzg 7 n_slices_ContainsFunc_string_string 5 6,zz1 3 7]
abbrev yhK:List AG:=[o 2 (.box 1 (.t 0)),zzh 3]
abbrev step_Gate_1:AFun:=⟨(.seq (.reg yhK) (.seq (.reg yhJ) .ret)),8,[.tmp 3]⟩
@[simp] theorem c_step_Gate_1:cfun Tryz.prog n_step_Gate_1=some step_Gate_1:=by kernel_rfl
@[simp] theorem e_step_Gate_1:hasBody Tryz.prog n_step_Gate_1=true:=by kernel_rfl
abbrev yhL:List AG:=[zz1 5 0,zz1 6 1,zzg 7 n_slices_IndexFunc_string_string 5 6,o 8 (.cmp .geq (.sc .int) (.t 7) (.c (.int .i64 0))),zz1 4 8]
abbrev yhM:List AG:=[zzh 4]
abbrev slices_ContainsFunc_string_string:AFun:=⟨(.seq (.reg yhM) (.seq (.reg yhL) .ret)),9,[.tmp 4]⟩
@[simp] theorem c_slices_ContainsFunc_string_string:cfun Tryz.prog n_slices_ContainsFunc_string_string=some slices_ContainsFunc_string_string:=by kernel_rfl
@[simp] theorem e_slices_ContainsFunc_string_string:hasBody Tryz.prog n_slices_ContainsFunc_string_string=true:=by kernel_rfl
abbrev yhN:List AG:=[zz1 4 0,zz2 5 1 1,zzg 6 n_step_fits 4 5,zz1 3 6]
abbrev yhO:List AG:=[zzh 3]
abbrev step_Gate_1_1:AFun:=⟨(.seq (.reg yhO) (.seq (.reg yhN) .ret)),7,[.tmp 3]⟩
@[simp] theorem c_step_Gate_1_1:cfun Tryz.prog n_step_Gate_1_1=some step_Gate_1_1:=by kernel_rfl
@[simp] theorem e_step_Gate_1_1:hasBody Tryz.prog n_step_Gate_1_1=true:=by kernel_rfl
abbrev yhP:List AG:=[o 4 (.mv (.c (.bool true)))]
abbrev yhQ:List Bool:=[I,O,O,O,O,O,O,I,I,I,O,O,O,O,O,O,O,O,O,O,O,O,O,O,O,O,O]
abbrev yhR:List Bool:=[O,O,O,O,O,O,O,O,O,O,O,O,O,O,O,O,O,O,O,O,O,O,O,O,O,O,O]
abbrev yhS:List AG:=[zz6 26 9 1,zz1 9 26]
abbrev yhT:List AG:=[zzh 4]
abbrev yhU:ACode:=(.seq (.reg yhT) .ret)
abbrev yhV:List AG:=[zz1 14 0,zz1 15 5,o 16 (.ixStr (.t 14) (.t 15)),o 17 (.cmp .neq (.sc .int) (.t 16) (.c (.int .u8 45))),zz1 18 17,zze 19 18 0,zze 20 18 5,oy 21 18 (.ixStr (.t 19) (.t 20)),oy 22 18 (.cmp .eql (.sc .int) (.t 21) (.c (.int .u8 49))),zze 23 18 6,oy 24 18 (.cmp .neq (.sc .bool) (.t 22) (.t 23)),zz8 25 18 24]
abbrev yhW:List AG:=[zz1 11 9,zz5 12 1 7 9,zz2 13 1 12,zz1 5 11,zz1 6 13]
abbrev yhX:ACode:=(.seq (.reg yhW) (.seq (.reg yhV) (.cond (.t 25) yhU .skip)))
abbrev yhY:List AG:=[zz7 10 9 8]
abbrev yhZ:ACode:=(.seq (.reg yhY) (.seq (.cond (.t 10) .skip (.exit 0)) (.seq (.block 1 [] yhX) (.reg yhS))))
abbrev yia:List AG:=[zz1 7 1,zza 8 7,zz9 9 0]
abbrev yib:List AG:=[zzh 4]
abbrev step_fits:AFun:=⟨(.seq (.reg yib) (.seq (.seq (.reg yia) (.block 0 yhR (.loop yhQ yhZ))) (.seq (.reg yhP) .ret))),27,[.tmp 4]⟩
abbrev yic:List It:=[.code (.seq (.reg yhP) .ret)]
abbrev yid (x0 x7 x8 x9:AV) (h:List Ob) (e:Cx:=cx):Cfg:=atC n_step_fits (.code yhZ::.inLoop yhQ yhZ::.inBlock 0 yhR::yic) [x0,U,U,U,U,U,U,x7,x8,x9,U,U,U,U,U,U,U,U,U,U,U,U,U,U,U,U,U] h e
@[simp] theorem c_step_fits:cfun Tryz.prog n_step_fits=some step_fits:=by kernel_rfl
@[simp] theorem e_step_fits:hasBody Tryz.prog n_step_fits=true:=by kernel_rfl
abbrev yie:List AG:=[zz4 66 1 1,zz2 67 1 66,o 68 (.cmp .geq (.sc .int) (.t 67) (.c (.int .i64 4))),zz1 69 68,oy 70 69 (.off 1 (.t 1)),zzd 71 69 1 70,oy 72 69 (.cmp .leq (.sc .int) (.t 71) (.c (.int .i64 9))),zz8 73 69 72,zz1 74 73,zze 75 74 3,oy 76 74 (.cmp .geq (.sc .int) (.t 75) (.c (.int .i64 2))),zz8 77 74 76,zz1 78 77,zze 79 78 3,oy 80 78 (.cmp .leq (.sc .int) (.t 79) (.c (.int .i64 8))),zz8 81 78 80,zz1 2 81]
abbrev yif:List AG:=[zz1 64 3,o 65 (.cmp .eql (.sc .int) (.t 64) (.c (.int .i64 1))),zz1 2 65]
abbrev yig:ACode:=(.seq (.reg yif) .ret)
abbrev yih:List AG:=[zz4 56 1 1,zz2 57 1 56,o 58 (.cmp .eql (.sc .int) (.t 57) (.c (.int .i64 2))),zz1 59 58,on 60 59 (.off 1 (.t 1)),on 61 59 (.load false 1 (.t 60)),on 62 59 (.cmp .eql (.sc .int) (.t 61) (.c (.int .i64 3))),o 63 (.pick (.t 59) (.c (.bool true)) (.t 62))]
abbrev yii:List AG:=[zz1 54 3,o 55 (.cmp .eql (.sc .int) (.t 54) (.c (.int .i64 0))),zz1 2 55]
abbrev yij:ACode:=(.seq (.reg yii) .ret)
abbrev yik:List AG:=[zz4 46 1 1,zz2 47 1 46,o 48 (.cmp .eql (.sc .int) (.t 47) (.c (.int .i64 0))),zz1 49 48,on 50 49 (.off 1 (.t 1)),on 51 49 (.load false 1 (.t 50)),on 52 49 (.cmp .eql (.sc .int) (.t 51) (.c (.int .i64 1))),o 53 (.pick (.t 49) (.c (.bool true)) (.t 52))]
abbrev yil:List AG:=[zzh 2]
abbrev yim:ACode:=(.seq (.reg yil) .ret)
abbrev yin:List AG:=[zz4 38 3 1,zz2 39 1 38,zza 40 39,o 41 (.cmp .gtr (.sc .int) (.t 40) (.c (.int .i64 0))),zz1 42 41,on 43 42 (.off 4 (.t 1)),on 44 42 (.load false 1 (.t 43)),o 45 (.pick (.t 42) (.c (.bool true)) (.t 44))]
abbrev yio:List AG:=[zz1 30 3,o 31 (.cmp .leq (.sc .int) (.t 30) (.c (.int .i64 8))),zz1 32 31,oy 33 32 (.off 3 (.t 1)),zzd 34 32 1 33,oy 35 32 (.len (.t 34)),oy 36 32 (.cmp .leq (.sc .int) (.t 35) (.c (.int .i64 128))),zz8 37 32 36,zz1 2 37]
abbrev yip:List Bool:=[O,I,O,I,I,O,O,O,O,O,O,O,O,O,O,O,O,O,O,O,O,O,O,O,O,O,O,O,O,O,O,O,O,O,O,O,O,O,O,O,O,O,O,O,O,O,O,O,O,O,O,O,O,O,O,O,O,O,O,O,O,O,O,O,O,O,O,O,O,O,O,O,O,O,O,O,O,O,O,O,O,O]
abbrev yiq:List Bool:=[O,I,O,I,O,O,O,O,O,O,O,O,O,O,O,O,O,O,O,O,O,O,O,O,O,O,O,O,O,O,O,O,O,O,O,O,O,O,O,O,O,O,O,O,O,O,O,O,O,O,O,O,O,O,O,O,O,O,O,O,O,O,O,O,O,O,O,O,O,O,O,O,O,O,O,O,O,O,O,O,O,O]
abbrev yir:List AG:=[zz1 20 4,zz6 21 20 1,zz1 4 21]
abbrev yis:List AG:=[zzh 2]
abbrev yit:ACode:=(.seq (.reg yis) .ret)
abbrev yiu:List AG:=[zz4 22 3 1,zz2 23 1 22,zz1 24 4,zz5 25 1 23 24,zz2 26 1 25,zz1 27 3,zzg 28 n_r06_row 26 27,o 29 (.not (.t 28))]
abbrev yiv:ACode:=(.seq (.reg yiu) (.cond (.t 29) yit .skip))
abbrev yiw:List AG:=[zz1 11 4,zz4 12 3 1,zz2 13 1 12,zza 14 13,zz7 15 11 14,zz1 16 15,zze 17 16 4,oy 18 16 (.cmp .leq (.sc .int) (.t 17) (.c (.int .i64 128))),zz8 19 16 18]
abbrev yix:ACode:=(.seq (.seq (.reg yiw) (.cond (.t 19) .skip (.exit 0))) (.seq (.block 1 [] yiv) (.reg yir)))
abbrev yiy:List AG:=[zz9 4 0]
abbrev yiz:ACode:=(.seq (.seq (.reg yiy) (.block 0 yiq (.loop yip yix))) (.seq (.reg yio) .ret))
abbrev yiA:List AG:=[zz4 8 1 1,zz2 9 1 8,o 10 (.cmp .eql (.sc .int) (.t 9) (.c (.int .i64 10)))]
abbrev yiB:List AG:=[zz4 5 2 1,zz2 6 1 5,zza 7 6,zz1 3 7]
abbrev yiC:List AG:=[o 1 (.box 5 (.t 0)),zzh 2]
abbrev r06_Gate:AFun:=⟨(.seq (.reg yiC) (.seq (.reg yiB) (.seq (.seq (.reg yiA) (.cond (.t 10) yiz .skip)) (.seq (.seq (.reg yin) (.cond (.t 45) yim .skip)) (.seq (.seq (.reg yik) (.cond (.t 53) yij .skip)) (.seq (.seq (.reg yih) (.cond (.t 63) yig .skip)) (.seq (.reg yie) .ret))))))),82,[.tmp 2]⟩
abbrev yiD:List It:=[.code (.seq (.reg yio) .ret),.code (.seq (.seq (.reg yin) (.cond (.t 45) yim .skip)) (.seq (.seq (.reg yik) (.cond (.t 53) yij .skip)) (.seq (.seq (.reg yih) (.cond (.t 63) yig .skip)) (.seq (.reg yie) .ret))))]
abbrev yiE (x1 x3 x4:AV) (h:List Ob) (e:Cx:=cx):Cfg:=atC n_r06_Gate (.code yix::.inLoop yip yix::.inBlock 0 yiq::yiD) [U,x1,U,x3,x4,U,U,U,U,U,U,U,U,U,U,U,U,U,U,U,U,U,U,U,U,U,U,U,U,U,U,U,U,U,U,U,U,U,U,U,U,U,U,U,U,U,U,U,U,U,U,U,U,U,U,U,U,U,U,U,U,U,U,U,U,U,U,U,U,U,U,U,U,U,U,U,U,U,U,U,U,U] h e
@[simp] theorem c_r06_Gate:cfun Tryz.prog n_r06_Gate=some r06_Gate:=by kernel_rfl
@[simp] theorem e_r06_Gate:hasBody Tryz.prog n_r06_Gate=true:=by kernel_rfl
abbrev yiF:List AG:=[zz1 81 1,o 82 (.call (.f n_r06_odd) [(.t 81),(.c (.int .i64 0))]),zz1 83 0,o 84 (.cmp .eql (.sc .int) (.t 83) (.c (.int .i64 9))),zz1 4 82,zzh 5,zz1 6 84]
abbrev yiG:List AG:=[zz1 79 1,o 80 (.call (.f n_r06_odd) [(.t 79),(.c (.int .i64 1))]),zz1 4 80,zzh 5,o 6 (.mv (.c (.bool true)))]
abbrev yiH:ACode:=(.seq (.reg yiG) .ret)
abbrev yiI:List AG:=[zz1 77 0,o 78 (.cmp .eql (.sc .int) (.t 77) (.c (.int .i64 8)))]
abbrev yiJ:List AG:=[o 4 (.nilrow 1 t_string),zzh 5,zzh 6]
abbrev yiK:ACode:=(.seq (.reg yiJ) .ret)
abbrev yiL:List AG:=[zz1 71 1,o 72 (.cmp .lss (.sc .int) (.t 71) (.c (.int .i64 2))),zz1 73 72,on 74 73 (.mv (.t 1)),on 75 73 (.cmp .gtr (.sc .int) (.t 74) (.c (.int .i64 8))),o 76 (.pick (.t 73) (.c (.bool true)) (.t 75))]
abbrev yiM:List AG:=[zz1 10 1,o 11 (.cmp .eql (.sc .int) (.t 10) (.c (.int .i64 0))),o 4 (.nilrow 1 t_string),zzh 5,zz1 6 11]
abbrev yiN:List AG:=[o 14 (.lit 1 [(.str [])] [(0,(.c (.str [])))]),zz1 15 1,o 16 (.cmp .eql (.sc .int) (.t 15) (.c (.int .i64 0))),zz1 4 14,zzh 5,zz1 6 16]
abbrev yiO:List AG:=[o 19 (.lit 1 [(.str [])] [(0,(.c (.str [49])))]),zz1 20 1,o 21 (.cmp .eql (.sc .int) (.t 20) (.c (.int .i64 1))),zz1 4 19,zzh 5,zz1 6 21]
abbrev yiP:List AG:=[o 24 (.lit 1 [(.str [])] [(0,(.c (.str [48])))]),zz1 25 1,o 26 (.cmp .eql (.sc .int) (.t 25) (.c (.int .i64 1))),zz1 4 24,zzh 5,zz1 6 26]
abbrev yiQ:List AG:=[zz1 29 1,o 30 (.call (.f n_r06_all) [(.c (.str [49])),(.t 29)]),o 31 (.lit 1 [(.str [])] [(0,(.t 30))]),zz1 32 1,o 33 (.cmp .geq (.sc .int) (.t 32) (.c (.int .i64 2))),zz1 34 33,zze 35 34 1,oy 36 34 (.cmp .leq (.sc .int) (.t 35) (.c (.int .i64 8))),zz8 37 34 36,zz1 4 31,zzh 5,zz1 6 37]
abbrev yiR:List AG:=[zz1 40 1,o 41 (.call (.f n_r06_all) [(.c (.str [49])),(.t 40)]),o 42 (.lit 1 [(.str [])] [(0,(.t 41))]),zz1 43 1,o 44 (.cmp .geq (.sc .int) (.t 43) (.c (.int .i64 2))),zz1 45 44,zze 46 45 1,oy 47 45 (.cmp .leq (.sc .int) (.t 46) (.c (.int .i64 8))),zz8 48 45 47,zz1 4 42,o 5 (.mv (.c (.bool true))),zz1 6 48]
abbrev yiS:List AG:=[zz1 51 1,o 52 (.call (.f n_r06_all) [(.c (.str [48])),(.t 51)]),o 53 (.lit 1 [(.str [])] [(0,(.t 52))]),zz1 54 1,o 55 (.cmp .geq (.sc .int) (.t 54) (.c (.int .i64 2))),zz1 56 55,zze 57 56 1,oy 58 56 (.cmp .leq (.sc .int) (.t 57) (.c (.int .i64 8))),zz8 59 56 58,zz1 4 53,o 5 (.mv (.c (.bool true))),zz1 6 59]
abbrev yiT:List AG:=[zz1 62 1,o 63 (.call (.f n_r06_all) [(.c (.str [48])),(.t 62)]),o 64 (.lit 1 [(.str [])] [(0,(.t 63))]),zz1 65 1,o 66 (.cmp .geq (.sc .int) (.t 65) (.c (.int .i64 2))),zz1 67 66,zze 68 67 1,oy 69 67 (.cmp .leq (.sc .int) (.t 68) (.c (.int .i64 8))),zz8 70 67 69,zz1 4 64,zzh 5,zz1 6 70]
abbrev yiU:ACode:=(.seq (.reg yiT) .ret)
abbrev yiV:List AG:=[o 61 (.cmp .eql (.sc .int) (.t 7) (.c (.int .i64 7))),zz1 60 61]
abbrev yiW:ACode:=(.seq (.reg yiS) .ret)
abbrev yiX:ACode:=(.seq (.reg yiV) (.cond (.t 60) yiU .skip))
abbrev yiY:List AG:=[o 50 (.cmp .eql (.sc .int) (.t 7) (.c (.int .i64 6))),zz1 49 50]
abbrev yiZ:ACode:=(.seq (.reg yiR) .ret)
abbrev yja:ACode:=(.seq (.reg yiY) (.cond (.t 49) yiW yiX))
abbrev yjb:List AG:=[o 39 (.cmp .eql (.sc .int) (.t 7) (.c (.int .i64 5))),zz1 38 39]
abbrev yjc:ACode:=(.seq (.reg yiQ) .ret)
abbrev yjd:ACode:=(.seq (.reg yjb) (.cond (.t 38) yiZ yja))
abbrev yje:List AG:=[o 28 (.cmp .eql (.sc .int) (.t 7) (.c (.int .i64 4))),zz1 27 28]
abbrev yjf:ACode:=(.seq (.reg yiP) .ret)
abbrev yjg:ACode:=(.seq (.reg yje) (.cond (.t 27) yjc yjd))
abbrev yjh:List AG:=[o 23 (.cmp .eql (.sc .int) (.t 7) (.c (.int .i64 3))),zz1 22 23]
abbrev yji:ACode:=(.seq (.reg yiO) .ret)
abbrev yjj:ACode:=(.seq (.reg yjh) (.cond (.t 22) yjf yjg))
abbrev yjk:List AG:=[o 18 (.cmp .eql (.sc .int) (.t 7) (.c (.int .i64 2))),zz1 17 18]
abbrev yjl:ACode:=(.seq (.reg yiN) .ret)
abbrev yjm:ACode:=(.seq (.reg yjk) (.cond (.t 17) yji yjj))
abbrev yjn:List AG:=[o 13 (.cmp .eql (.sc .int) (.t 7) (.c (.int .i64 1))),zz1 12 13]
abbrev yjo:ACode:=(.seq (.reg yiM) .ret)
abbrev yjp:ACode:=(.seq (.reg yjn) (.cond (.t 12) yjl yjm))
abbrev yjq:List AG:=[o 9 (.cmp .eql (.sc .int) (.t 7) (.c (.int .i64 0))),zz1 8 9]
abbrev yjr:ACode:=(.seq (.reg yjq) (.cond (.t 8) yjo yjp))
abbrev yjs:List AG:=[zz1 7 0]
abbrev yjt:List AG:=[o 4 (.nilrow 1 t_string),zzh 5,zzh 6]
abbrev r06_Rows:AFun:=⟨(.seq (.reg yjt) (.seq (.seq (.reg yjs) (.block 0 [] yjr)) (.seq (.seq (.reg yiL) (.cond (.t 76) yiK .skip)) (.seq (.seq (.reg yiI) (.cond (.t 78) yiH .skip)) (.seq (.reg yiF) .ret))))),85,[.tmp 4,.tmp 5,.tmp 6]⟩
@[simp] theorem c_r06_Rows:cfun Tryz.prog n_r06_Rows=some r06_Rows:=by kernel_rfl
@[simp] theorem e_r06_Rows:hasBody Tryz.prog n_r06_Rows=true:=by kernel_rfl
abbrev yju:List AG:=[o 4 (.mv (.c (.bool true)))]
abbrev yjv:List Bool:=[I,I,O,O,O,I,O,O,O,O,O,O,O,O,O,O,O,O,O,O,O,O,O,O,O,O,O,O,O,O,O,O,O,O,O]
abbrev yjw:List Bool:=[O,O,O,O,O,O,O,O,O,O,O,O,O,O,O,O,O,O,O,O,O,O,O,O,O,O,O,O,O,O,O,O,O,O,O]
abbrev yjx:List AG:=[zz1 10 5,zz6 11 10 1,zz1 5 11]
abbrev yjy:List AG:=[zzh 4]
abbrev yjz:ACode:=(.seq (.reg yjy) .ret)
abbrev yjA:List AG:=[zz1 12 0,zz1 13 5,o 14 (.ixStr (.t 12) (.t 13)),o 15 (.cmp .eql (.sc .int) (.t 14) (.c (.int .u8 49))),zz1 16 15,zze 17 16 1,zze 18 16 5,oy 19 16 (.ixAddr 1 (.t 17) (.t 18)),zzd 20 16 1 19,oy 21 16 (.not (.t 20)),zz8 22 16 21,zz1 23 22,on 24 23 (.mv (.t 0)),on 25 23 (.mv (.t 5)),on 26 23 (.ixStr (.t 24) (.t 25)),on 27 23 (.cmp .eql (.sc .int) (.t 26) (.c (.int .u8 48))),on 28 23 (.mv (.t 27)),zze 29 28 1,zze 30 28 5,oy 31 28 (.ixAddr 1 (.t 29) (.t 30)),zzd 32 28 1 31,on 33 23 (.pick (.t 28) (.t 32) (.c (.bool false))),o 34 (.pick (.t 23) (.c (.bool true)) (.t 33))]
abbrev yjB:ACode:=(.seq (.reg yjA) (.cond (.t 34) yjz .skip))
abbrev yjC:List AG:=[zz1 6 5,zz1 7 1,zza 8 7,zz7 9 6 8]
abbrev yjD:ACode:=(.seq (.seq (.reg yjC) (.cond (.t 9) .skip (.exit 0))) (.seq (.block 1 [] yjB) (.reg yjx)))
abbrev yjE:List AG:=[zz9 5 0]
abbrev yjF:List AG:=[zzh 4]
abbrev r08_fits:AFun:=⟨(.seq (.reg yjF) (.seq (.seq (.reg yjE) (.block 0 yjw (.loop yjv yjD))) (.seq (.reg yju) .ret))),35,[.tmp 4]⟩
abbrev yjG:List It:=[.code (.seq (.reg yju) .ret)]
abbrev yjH (x0 x1 x5:AV) (h:List Ob) (e:Cx:=cx):Cfg:=atC n_r08_fits (.code yjD::.inLoop yjv yjD::.inBlock 0 yjw::yjG) [x0,x1,U,U,U,x5,U,U,U,U,U,U,U,U,U,U,U,U,U,U,U,U,U,U,U,U,U,U,U,U,U,U,U,U,U] h e
@[simp] theorem c_r08_fits:cfun Tryz.prog n_r08_fits=some r08_fits:=by kernel_rfl
@[simp] theorem e_r08_fits:hasBody Tryz.prog n_r08_fits=true:=by kernel_rfl
abbrev yjI:List AG:=[zz1 10 3,o 11 (.cmp .eql (.sc .int) (.t 10) (.c (.int .i64 0))),zz1 2 11]
abbrev yjJ:List AG:=[zz3 6 4 1,zzf 7 n_order_Check 6,zz1 5 7,zzc 8 5 0,zzc 9 5 1,zz1 3 8,zz1 4 9]
abbrev yjK:List AG:=[o 1 (.box 4 (.t 0)),zzh 2]
abbrev step_right:AFun:=⟨(.seq (.reg yjK) (.seq (.reg yjJ) (.seq (.reg yjI) .ret))),12,[.tmp 2]⟩
@[simp] theorem c_step_right:cfun Tryz.prog n_step_right=some step_right:=by kernel_rfl
@[simp] theorem e_step_right:hasBody Tryz.prog n_step_right=true:=by kernel_rfl
abbrev yjL:List AG:=[zz1 10 3,o 11 (.cmp .eql (.sc .int) (.t 10) (.c (.int .i64 0))),zz1 2 11]
abbrev yjM:List AG:=[zz3 6 4 1,zzf 7 n_r07_Check 6,zz1 5 7,zzc 8 5 0,zzc 9 5 1,zz1 3 8,zz1 4 9]
abbrev yjN:List AG:=[o 1 (.box 4 (.t 0)),zzh 2]
abbrev r08_right:AFun:=⟨(.seq (.reg yjN) (.seq (.reg yjM) (.seq (.reg yjL) .ret))),12,[.tmp 2]⟩
@[simp] theorem c_r08_right:cfun Tryz.prog n_r08_right=some r08_right:=by kernel_rfl
@[simp] theorem e_r08_right:hasBody Tryz.prog n_r08_right=true:=by kernel_rfl
abbrev yjO:List AG:=[zz3 14 4 1,zz3 15 4 1,zzf 16 n_net_Nets 15,zz1 17 4,o 18 (.build [(.list true 0 []),(.list true 0 []),(.list true 0 []),(.list true 0 []),(.list true 0 []),(.list true 0 [])] [(0,4,(.t 14)),(4,1,(.t 16)),(5,1,(.t 17))]),o 19 (.box 6 (.t 18)),zz1 2 19,zz9 3 0]
abbrev yjP:List AG:=[zz3 10 4 1,zzf 11 n_order_Sort 10,zz1 9 11,zzc 12 9 0,zzc 13 9 1,zz1 4 12,zz1 5 13]
abbrev yjQ:List AG:=[o 2 (.mv (.c .nilp)),zz9 3 1]
abbrev yjR:ACode:=(.seq (.reg yjQ) .ret)
abbrev yjS:List AG:=[zz3 6 4 1,zzf 7 n_step_right 6,o 8 (.not (.t 7))]
abbrev yjT:List AG:=[o 1 (.box 4 (.t 0)),o 2 (.mv (.c .nilp)),zz9 3 0]
abbrev step_begin:AFun:=⟨(.seq (.reg yjT) (.seq (.seq (.reg yjS) (.cond (.t 8) yjR .skip)) (.seq (.reg yjP) (.seq (.dreg [I,O,O,O,O,O,O,O] [6,3,6,6,6,9,9,9] yjO) .ret)))),20,[.tmp 2,.tmp 3]⟩
@[simp] theorem c_step_begin:cfun Tryz.prog n_step_begin=some step_begin:=by kernel_rfl
@[simp] theorem e_step_begin:hasBody Tryz.prog n_step_begin=true:=by kernel_rfl
abbrev yjU:List AG:=[zz1 85 8,zz1 6 85,zz9 7 0]
abbrev yjV:List Bool:=[I,O,O,O,O,O,O,O,I,O,O,O,O,O,O,O,O,O,O,O,O,O,O,O,O,O,O,O,O,O,O,O,O,O,O,O,O,O,O,O,O,O,O,O,O,O,O,O,O,O,O,O,O,O,O,O,O,O,I,I,I,O,O,O,O,O,O,O,O,O,O,O,O,O,O,O,O,O,O,O,O,O,O,O,O,O]
abbrev yjW:List Bool:=[O,O,O,O,O,O,O,O,I,O,O,O,O,O,O,O,O,O,O,O,O,O,O,O,O,O,O,O,O,O,O,O,O,O,O,O,O,O,O,O,O,O,O,O,O,O,O,O,O,O,O,O,O,O,O,O,O,O,O,O,O,O,O,O,O,O,O,O,O,O,O,O,O,O,O,O,O,O,O,O,O,O,O,O,O,O]
abbrev yjX:List AG:=[zz6 84 60 1,zz1 60 84]
abbrev yjY:List AG:=[zz1 73 8,zz4 74 0 13,zz2 75 1 74,zz3 76 5 13,zz1 77 8,zz4 78 2 13,zz2 79 1 78,zzg 80 n_step_pick 77 79,zzg 81 n_step_Gate 76 80,zz1 72 81,zzc 82 72 0,zzc 83 72 1,q (.upd (.sc .str) (.t 73) (.t 75) (.t 82))]
abbrev yjZ:List AG:=[zz1 64 0,o 65 (.nilck (.t 64)),zz4 66 0 65,zz4 67 3 66,zz2 68 1 67,zz1 69 12,zz5 70 5 68 69,zz3 71 5 70,o 13 (.alloc [(.str []),(.int .i64 0),(.own 1 t_string []),(.own 1 t_string []),(.bool false)]),zzb 5 13 71]
abbrev yka:List AG:=[zz5 62 1 58 60,zz2 63 1 62,zz1 12 63]
abbrev ykb:ACode:=(.seq (.reg yka) (.seq (.reg yjZ) (.dreg [O,O,I,I,O,O,O,O,O,O,O,O,O] [13,13,13,9,8,8,8,9,13,13,13,14,14] yjY)))
abbrev ykc:List AG:=[zz7 61 60 59]
abbrev ykd:ACode:=(.seq (.reg ykc) (.seq (.cond (.t 61) .skip (.exit 2)) (.seq (.block 3 [] ykb) (.reg yjX))))
abbrev yke:List AG:=[zz1 55 0,o 56 (.nilck (.t 55)),zz4 57 5 56,zz2 58 1 57,zza 59 58,zz9 60 0]
abbrev ykf:List Bool:=[I,O,O,O,O,O,O,O,I,O,O,O,O,O,O,O,O,O,O,O,O,O,O,O,O,O,O,O,O,O,O,O,O,O,O,O,O,O,I,I,I,O,O,O,O,O,O,O,O,O,O,O,O,O,O,O,O,O,O,O,O,O,O,O,O,O,O,O,O,O,O,O,O,O,O,O,O,O,O,O,O,O,O,O,O,O]
abbrev ykg:List Bool:=[I,O,O,O,O,O,O,O,I,O,O,O,O,O,O,O,O,O,O,O,O,O,O,O,O,O,O,O,O,O,O,O,O,O,O,O,O,O,O,O,O,O,O,O,O,O,O,O,O,O,O,O,O,O,O,O,O,O,O,O,O,O,O,O,O,O,O,O,O,O,O,O,O,O,O,O,O,O,O,O,O,O,O,O,O,O]
abbrev ykh:List AG:=[zz6 54 40 1,zz1 40 54]
abbrev yki:List AG:=[zz1 45 8,zz1 46 0,o 47 (.nilck (.t 46)),zz4 48 4 47,zz2 49 1 48,zz1 50 9,zz5 51 1 49 50,zz2 52 1 51,zz1 53 10,q (.upd (.sc .str) (.t 45) (.t 52) (.t 53))]
abbrev ykj:List AG:=[zz1 42 40,zz5 43 1 38 40,zz2 44 1 43,zz1 9 42,zz1 10 44]
abbrev ykk:ACode:=(.seq (.reg ykj) (.reg yki))
abbrev ykl:List AG:=[zz7 41 40 39]
abbrev ykm:ACode:=(.seq (.reg ykl) (.seq (.cond (.t 41) .skip (.exit 0)) (.seq (.block 1 [] ykk) (.reg ykh))))
abbrev ykn:List AG:=[zz1 35 2,zz1 36 1,o 37 (.lit 1 [(.list true 0 []),(.list true 0 [])] [(0,(.t 35)),(1,(.t 36))]),zzf 38 n_slices_Concat_bool_bool 37,zza 39 38,zz9 40 0]
abbrev yko:List AG:=[o 34 (.mkMap),zz1 8 34]
abbrev ykp:List AG:=[o 6 (.mv (.c .nilm)),zz9 7 11]
abbrev ykq:ACode:=(.seq (.reg ykp) .ret)
abbrev ykr:List AG:=[zz1 14 1,zza 15 14,zz1 16 0,o 17 (.nilck (.t 16)),zz4 18 0 17,zz4 19 2 18,zz2 20 1 19,zza 21 20,o 22 (.cmp .neq (.sc .int) (.t 15) (.t 21)),zz1 23 22,on 24 23 (.mv (.t 2)),on 25 23 (.len (.t 24)),on 26 23 (.mv (.t 0)),on 27 23 (.nilck (.t 26)),on 28 23 (.off 0 (.t 27)),on 29 23 (.off 0 (.t 28)),on 30 23 (.load false 1 (.t 29)),on 31 23 (.len (.t 30)),on 32 23 (.cmp .neq (.sc .int) (.t 25) (.t 31)),o 33 (.pick (.t 23) (.c (.bool true)) (.t 32))]
abbrev yks:List AG:=[o 6 (.mv (.c .nilm)),zz9 7 0]
abbrev step_machine_values:AFun:=⟨(.seq (.reg yks) (.seq (.seq (.reg ykr) (.cond (.t 33) ykq .skip)) (.seq (.reg yko) (.seq (.seq (.reg ykn) (.block 0 ykg (.loop ykf ykm))) (.seq (.seq (.reg yke) (.block 2 yjW (.loop yjV ykd))) (.seq (.reg yjU) .ret)))))),86,[.tmp 6,.tmp 7]⟩
abbrev ykt:List It:=[.code (.seq (.reg yjU) .ret)]
abbrev yku (x0 x8 x58 x59 x60:AV) (h:List Ob) (e:Cx:=cx):Cfg:=atC n_step_machine_values (.code ykd::.inLoop yjV ykd::.inBlock 2 yjW::ykt) [x0,U,U,U,U,U,U,U,x8,U,U,U,U,U,U,U,U,U,U,U,U,U,U,U,U,U,U,U,U,U,U,U,U,U,U,U,U,U,U,U,U,U,U,U,U,U,U,U,U,U,U,U,U,U,U,U,U,U,x58,x59,x60,U,U,U,U,U,U,U,U,U,U,U,U,U,U,U,U,U,U,U,U,U,U,U,U,U] h e
abbrev ykv (x8:AV) (h:List Ob) (e:Cx:=cx):Cfg:=atC n_step_machine_values ykt [U,U,U,U,U,U,U,U,x8,U,U,U,U,U,U,U,U,U,U,U,U,U,U,U,U,U,U,U,U,U,U,U,U,U,U,U,U,U,U,U,U,U,U,U,U,U,U,U,U,U,U,U,U,U,U,U,U,U,U,U,U,U,U,U,U,U,U,U,U,U,U,U,U,U,U,U,U,U,U,U,U,U,U,U,U,U] h e
abbrev ykw:List It:=[.code (.seq (.seq (.reg yke) (.block 2 yjW (.loop yjV ykd))) (.seq (.reg yjU) .ret))]
abbrev ykx (x0 x8 x38 x39 x40:AV) (h:List Ob) (e:Cx:=cx):Cfg:=atC n_step_machine_values (.code ykm::.inLoop ykf ykm::.inBlock 0 ykg::ykw) [x0,U,U,U,U,U,U,U,x8,U,U,U,U,U,U,U,U,U,U,U,U,U,U,U,U,U,U,U,U,U,U,U,U,U,U,U,U,U,x38,x39,x40,U,U,U,U,U,U,U,U,U,U,U,U,U,U,U,U,U,U,U,U,U,U,U,U,U,U,U,U,U,U,U,U,U,U,U,U,U,U,U,U,U,U,U,U,U] h e
abbrev yky (x0 x8:AV) (h:List Ob) (e:Cx:=cx):Cfg:=atC n_step_machine_values ykw [x0,U,U,U,U,U,U,U,x8,U,U,U,U,U,U,U,U,U,U,U,U,U,U,U,U,U,U,U,U,U,U,U,U,U,U,U,U,U,U,U,U,U,U,U,U,U,U,U,U,U,U,U,U,U,U,U,U,U,U,U,U,U,U,U,U,U,U,U,U,U,U,U,U,U,U,U,U,U,U,U,U,U,U,U,U,U] h e
@[simp] theorem c_step_machine_values:cfun Tryz.prog n_step_machine_values=some step_machine_values:=by kernel_rfl
@[simp] theorem e_step_machine_values:hasBody Tryz.prog n_step_machine_values=true:=by kernel_rfl
abbrev ykz:List AG:=[zz1 21 5,zz1 4 21]
abbrev ykA:List Bool:=[I,O,O,O,O,I,O,O,I,I,I,O,O,O,O,O,O,O,O,O,O,O]
abbrev ykB:List Bool:=[O,O,O,O,O,I,O,O,O,O,O,O,O,O,O,O,O,O,O,O,O,O]
abbrev ykC:List AG:=[zz6 20 10 1,zz1 10 20]
abbrev ykD:List AG:=[zz1 14 5,zz1 15 0,zz1 16 7,o 17 (.lookup (.sc .str) (.bool false) (.t 15) (.t 16) false),o 18 (.lit 1 [(.bool false)] [(0,(.t 17))]),o 19 (.append 1 t_bool 1 (.t 14) (.t 18)),zz1 5 19]
abbrev ykE:List AG:=[zz5 12 1 8 10,zz2 13 1 12,zz1 7 13]
abbrev ykF:ACode:=(.seq (.reg ykE) (.reg ykD))
abbrev ykG:List AG:=[zz7 11 10 9]
abbrev ykH:ACode:=(.seq (.reg ykG) (.seq (.cond (.t 11) .skip (.exit 0)) (.seq (.block 1 [] ykF) (.reg ykC))))
abbrev ykI:List AG:=[zz1 8 1,zza 9 8,zz9 10 0]
abbrev ykJ:List AG:=[o 5 (.nilrow 1 t_bool)]
abbrev ykK:List AG:=[o 4 (.nilrow 1 t_bool)]
abbrev step_pick:AFun:=⟨(.seq (.reg ykK) (.seq (.reg ykJ) (.seq (.seq (.reg ykI) (.block 0 ykB (.loop ykA ykH))) (.seq (.reg ykz) .ret)))),22,[.tmp 4]⟩
abbrev ykL:List It:=[.code (.seq (.reg ykz) .ret)]
abbrev ykM (x0 x5 x8 x9 x10:AV) (h:List Ob) (e:Cx:=cx):Cfg:=atC n_step_pick (.code ykH::.inLoop ykA ykH::.inBlock 0 ykB::ykL) [x0,U,U,U,U,x5,U,U,x8,x9,x10,U,U,U,U,U,U,U,U,U,U,U] h e
@[simp] theorem c_step_pick:cfun Tryz.prog n_step_pick=some step_pick:=by kernel_rfl
@[simp] theorem e_step_pick:hasBody Tryz.prog n_step_pick=true:=by kernel_rfl
abbrev ykN:List AG:=[zz1 75 4,zz1 76 5,zz1 2 75,zz1 3 76]
abbrev ykO:List Bool:=[O,I,O,O,I,I,I,O,O,I,O,O,O,O,O,O,O,O,O,O,O,O,O,O,O,O,O,O,O,O,O,O,O,O,O,O,O,O,O,O,O,O,O,O,O,O,O,O,O,O,O,O,O,O,O,O,O,O,O,O,O,O,O,O,O,O,O,O,O,O,O,O,O,O,O,O,O]
abbrev ykP:List Bool:=[O,O,O,O,I,I,O,O,O,O,O,O,O,O,O,O,O,O,O,O,O,O,O,O,O,O,O,O,O,O,O,O,O,O,O,O,O,O,O,O,O,O,O,O,O,O,O,O,O,O,O,O,O,O,O,O,O,O,O,O,O,O,O,O,O,O,O,O,O,O,O,O,O,O,O,O,O]
abbrev ykQ:List AG:=[zz1 59 9,zz6 60 59 1,zz1 9 60]
abbrev ykR:List AG:=[zz1 66 5,zz4 67 3 1,zz2 68 1 67,zz1 69 9,zz5 70 5 68 69,zz4 71 0 70,zz2 72 1 71,o 73 (.lit 1 [(.str [])] [(0,(.t 72))]),o 74 (.append 1 t_string 16 (.t 66) (.t 73)),zz1 5 74]
abbrev ykS:List AG:=[zz1 61 6,zz1 62 9,zz5 63 1 61 62,zz2 64 1 63,o 65 (.not (.t 64))]
abbrev ykT:ACode:=(.seq (.reg ykS) (.cond (.t 65) (.reg ykR) .skip))
abbrev ykU:List AG:=[zz1 54 9,zz4 55 3 1,zz2 56 1 55,zza 57 56,zz7 58 54 57]
abbrev ykV:ACode:=(.seq (.seq (.reg ykU) (.cond (.t 58) .skip (.exit 4))) (.seq (.block 5 [] ykT) (.reg ykQ)))
abbrev ykW:List AG:=[zz9 9 0]
abbrev ykX:List Bool:=[O,I,O,O,I,I,I,I,O,O,O,O,O,O,O,O,O,O,O,O,O,O,O,O,O,O,O,O,O,O,O,O,O,O,O,O,O,O,O,O,O,O,O,O,O,O,O,O,O,O,O,O,O,O,O,O,O,O,O,O,O,O,O,O,O,O,O,O,O,O,O,O,O,O,O,O,O]
abbrev ykY:List Bool:=[O,I,O,O,I,I,I,O,O,O,O,O,O,O,O,O,O,O,O,O,O,O,O,O,O,O,O,O,O,O,O,O,O,O,O,O,O,O,O,O,O,O,O,O,O,O,O,O,O,O,O,O,O,O,O,O,O,O,O,O,O,O,O,O,O,O,O,O,O,O,O,O,O,O,O,O,O]
abbrev ykZ:List AG:=[zz1 22 7,zz6 23 22 1,zz1 7 23]
abbrev yla:List Bool:=[O,I,O,O,I,I,I,I,I,O,O,O,O,O,O,O,O,O,O,O,O,O,O,O,O,O,O,O,O,O,O,O,O,O,O,O,O,O,O,O,O,O,O,O,O,O,O,O,O,O,O,O,O,O,O,O,O,O,O,O,O,O,O,O,O,O,O,O,O,O,O,O,O,O,O,O,O]
abbrev ylb:List Bool:=[O,I,O,O,I,I,I,I,O,O,O,O,O,O,O,O,O,O,O,O,O,O,O,O,O,O,O,O,O,O,O,O,O,O,O,O,O,O,O,O,O,O,O,O,O,O,O,O,O,O,O,O,O,O,O,O,O,O,O,O,O,O,O,O,O,O,O,O,O,O,O,O,O,O,O,O,O]
abbrev ylc:List AG:=[zz1 29 8,zz6 30 29 1,zz1 8 30]
abbrev yle:List AG:=[zz1 50 4,zz1 51 8,o 52 (.lit 1 [(.int .i64 0)] [(0,(.t 51))]),o 53 (.append 1 t_int 8 (.t 50) (.t 52)),zz1 4 53]
abbrev ylf:List AG:=[zz1 47 6,zz1 48 8,zz5 49 1 47 48,q (.store 1 (.t 49) (.c (.bool true)))]
abbrev ylg:ACode:=(.seq (.reg ylf) (.seq (.reg yle) (.exit 2)))
abbrev ylh:List AG:=[zz1 31 6,zz1 32 8,zz5 33 1 31 32,zz2 34 1 33,o 35 (.not (.t 34)),zz1 36 35,oy 37 36 (.load true 4 (.t 1)),oy 38 36 (.off 3 (.t 1)),zzd 39 36 1 38,zze 40 36 8,oy 41 36 (.ixAddr 5 (.t 39) (.t 40)),oy 42 36 (.load true 5 (.t 41)),zze 43 36 6,oy 44 36 (.call (.f n_r07_waits) [(.t 37),(.t 42),(.t 43)]),oy 45 36 (.not (.t 44)),zz8 46 36 45]
abbrev yli:ACode:=(.seq (.dreg [O,O,O,O,O,O,O,O,O,O,O,O,O,O,O,O] [14,14,14,14,14,14,14,14,14,14,14,14,14,17,17,17] ylh) (.cond (.t 46) ylg .skip))
abbrev ylj:List AG:=[zz1 24 8,zz4 25 3 1,zz2 26 1 25,zza 27 26,zz7 28 24 27]
abbrev ylk:ACode:=(.seq (.seq (.reg ylj) (.cond (.t 28) .skip (.exit 2))) (.seq (.block 3 [] yli) (.reg ylc)))
abbrev yll:List AG:=[zz9 8 0]
abbrev ylm:ACode:=(.seq (.reg yll) (.block 2 ylb (.loop yla ylk)))
abbrev yln:List AG:=[zz1 17 7,zz4 18 3 1,zz2 19 1 18,zza 20 19,zz7 21 17 20]
abbrev ylo:ACode:=(.seq (.seq (.reg yln) (.cond (.t 21) .skip (.exit 0))) (.seq (.block 1 [] ylm) (.reg ykZ)))
abbrev ylp:List AG:=[zz9 7 0]
abbrev ylq:List AG:=[zz4 13 3 1,zz2 14 1 13,zza 15 14,o 16 (.mkSlice 1 t_bool 1 (.bool false) (.t 15) (.t 15)),zz1 6 16]
abbrev ylr:List AG:=[o 2 (.nilrow 1 t_int),o 3 (.nilrow 1 t_string)]
abbrev yls:ACode:=(.seq (.reg ylr) .ret)
abbrev ylt:List AG:=[zz3 10 4 1,zzf 11 n_r07_right 10,o 12 (.not (.t 11))]
abbrev ylu:List AG:=[o 5 (.nilrow 1 t_string)]
abbrev ylv:List AG:=[o 4 (.nilrow 1 t_int)]
abbrev ylw:List AG:=[o 1 (.box 4 (.t 0)),o 2 (.nilrow 1 t_int),o 3 (.nilrow 1 t_string)]
abbrev r07_Sort:AFun:=⟨(.seq (.reg ylw) (.seq (.reg ylv) (.seq (.reg ylu) (.seq (.seq (.reg ylt) (.cond (.t 12) yls .skip)) (.seq (.reg ylq) (.seq (.seq (.reg ylp) (.block 0 ykY (.loop ykX ylo))) (.seq (.seq (.reg ykW) (.block 4 ykP (.loop ykO ykV))) (.seq (.reg ykN) .ret)))))))),77,[.tmp 2,.tmp 3]⟩
abbrev ylx:List It:=[.code (.seq (.reg ykN) .ret)]
abbrev yly (x1 x4 x5 x6 x9:AV) (h:List Ob) (e:Cx:=cx):Cfg:=atC n_r07_Sort (.code ykV::.inLoop ykO ykV::.inBlock 4 ykP::ylx) [U,x1,U,U,x4,x5,x6,U,U,x9,U,U,U,U,U,U,U,U,U,U,U,U,U,U,U,U,U,U,U,U,U,U,U,U,U,U,U,U,U,U,U,U,U,U,U,U,U,U,U,U,U,U,U,U,U,U,U,U,U,U,U,U,U,U,U,U,U,U,U,U,U,U,U,U,U,U,U] h e
abbrev ylz:List It:=[.inBlock 1 [],.code (.reg ykZ),.inLoop ykX ylo,.inBlock 0 ykY,.code (.seq (.seq (.reg ykW) (.block 4 ykP (.loop ykO ykV))) (.seq (.reg ykN) .ret))]
abbrev ylA (x1 x4 x5 x6 x7 x8:AV) (h:List Ob) (e:Cx:=cx):Cfg:=atC n_r07_Sort (.code ylk::.inLoop yla ylk::.inBlock 2 ylb::ylz) [U,x1,U,U,x4,x5,x6,x7,x8,U,U,U,U,U,U,U,U,U,U,U,U,U,U,U,U,U,U,U,U,U,U,U,U,U,U,U,U,U,U,U,U,U,U,U,U,U,U,U,U,U,U,U,U,U,U,U,U,U,U,U,U,U,U,U,U,U,U,U,U,U,U,U,U,U,U,U,U] h e
abbrev ylB (x1 x4 x5 x6 x7:AV) (h:List Ob) (e:Cx:=cx):Cfg:=atC n_r07_Sort ylz [U,x1,U,U,x4,x5,x6,x7,U,U,U,U,U,U,U,U,U,U,U,U,U,U,U,U,U,U,U,U,U,U,U,U,U,U,U,U,U,U,U,U,U,U,U,U,U,U,U,U,U,U,U,U,U,U,U,U,U,U,U,U,U,U,U,U,U,U,U,U,U,U,U,U,U,U,U,U,U] h e
abbrev ylC:List It:=[.code (.seq (.seq (.reg ykW) (.block 4 ykP (.loop ykO ykV))) (.seq (.reg ykN) .ret))]
abbrev ylD (x1 x4 x5 x6 x7:AV) (h:List Ob) (e:Cx:=cx):Cfg:=atC n_r07_Sort (.code ylo::.inLoop ykX ylo::.inBlock 0 ykY::ylC) [U,x1,U,U,x4,x5,x6,x7,U,U,U,U,U,U,U,U,U,U,U,U,U,U,U,U,U,U,U,U,U,U,U,U,U,U,U,U,U,U,U,U,U,U,U,U,U,U,U,U,U,U,U,U,U,U,U,U,U,U,U,U,U,U,U,U,U,U,U,U,U,U,U,U,U,U,U,U,U] h e
@[simp] theorem c_r07_Sort:cfun Tryz.prog n_r07_Sort=some r07_Sort:=by kernel_rfl
@[simp] theorem e_r07_Sort:hasBody Tryz.prog n_r07_Sort=true:=by kernel_rfl
abbrev ylE:List AG:=[zz1 42 9,zz1 43 0,o 44 (.nilck (.t 43)),zz4 45 0 44,zz4 46 1 45,zz2 47 1 46,zzg 48 n_step_pick 42 47,zz1 49 11,zz1 6 48,zz1 7 49,zz9 8 0]
abbrev ylF:List Bool:=[I,O,O,O,O,O,O,O,O,I,O,I,O,O,O,O,O,O,O,O,O,O,O,O,O,O,O,O,I,I,I,O,O,O,O,O,O,O,O,O,O,O,O,O,O,O,O,O,O,O]
abbrev ylG:List Bool:=[I,O,O,O,O,O,O,O,O,I,O,I,O,O,O,O,O,O,O,O,O,O,O,O,O,O,O,O,O,O,O,O,O,O,O,O,O,O,O,O,O,O,O,O,O,O,O,O,O,O]
abbrev ylH:List AG:=[zz6 41 30 1,zz1 30 41]
abbrev ylI:List AG:=[zz1 34 11,zz1 35 9,zz4 36 1 13,zz2 37 1 36,o 38 (.lookup (.sc .str) (.bool false) (.t 35) (.t 37) false),o 39 (.lit 1 [(.bool false)] [(0,(.t 38))]),o 40 (.append 1 t_bool 1 (.t 34) (.t 39)),zz1 11 40]
abbrev ylJ:List AG:=[zz5 32 3 28 30,zz3 33 3 32,o 13 (.alloc [(.str []),(.str []),(.int .i64 0)]),zzb 3 13 33]
abbrev ylK:ACode:=(.seq (.reg ylJ) (.reg ylI))
abbrev ylL:List AG:=[zz7 31 30 29]
abbrev ylM:ACode:=(.seq (.reg ylL) (.seq (.cond (.t 31) .skip (.exit 0)) (.seq (.block 1 [] ylK) (.reg ylH))))
abbrev ylN:List AG:=[zz1 24 0,o 25 (.nilck (.t 24)),zz4 26 0 25,zz4 27 2 26,zz2 28 1 27,zza 29 28,zz9 30 0]
abbrev ylO:List AG:=[o 11 (.nilrow 1 t_bool)]
abbrev ylP:List AG:=[zz1 23 10,o 6 (.nilrow 1 t_bool),o 7 (.nilrow 1 t_bool),zz1 8 23]
abbrev ylQ:ACode:=(.seq (.reg ylP) .ret)
abbrev ylR:List AG:=[zz1 21 10,o 22 (.cmp .neq (.sc .int) (.t 21) (.c (.int .i64 0)))]
abbrev ylS:List AG:=[zz1 15 0,zz1 16 1,zz1 17 2,o 18 (.call (.f n_step_machine_values) [(.t 15),(.t 16),(.t 17)]),zz1 14 18,zzc 19 14 0,zzc 20 14 1,zz1 9 19,zz1 10 20]
abbrev ylT:List AG:=[o 6 (.nilrow 1 t_bool),o 7 (.nilrow 1 t_bool),zz9 8 0]
abbrev step_machine_step:AFun:=⟨(.seq (.reg ylT) (.seq (.reg ylS) (.seq (.seq (.reg ylR) (.cond (.t 22) ylQ .skip)) (.seq (.reg ylO) (.seq (.seq (.reg ylN) (.block 0 ylG (.loop ylF ylM))) (.seq (.reg ylE) .ret)))))),50,[.tmp 6,.tmp 7,.tmp 8]⟩
abbrev ylU:List It:=[.code (.seq (.reg ylE) .ret)]
abbrev ylV (x0 x9 x11 x28 x29 x30:AV) (h:List Ob) (e:Cx:=cx):Cfg:=atC n_step_machine_step (.code ylM::.inLoop ylF ylM::.inBlock 0 ylG::ylU) [x0,U,U,U,U,U,U,U,U,x9,U,x11,U,U,U,U,U,U,U,U,U,U,U,U,U,U,U,U,x28,x29,x30,U,U,U,U,U,U,U,U,U,U,U,U,U,U,U,U,U,U,U] h e
abbrev ylW (x0 x9 x11:AV) (h:List Ob) (e:Cx:=cx):Cfg:=atC n_step_machine_step ylU [x0,U,U,U,U,U,U,U,U,x9,U,x11,U,U,U,U,U,U,U,U,U,U,U,U,U,U,U,U,U,U,U,U,U,U,U,U,U,U,U,U,U,U,U,U,U,U,U,U,U,U] h e
@[simp] theorem c_step_machine_step:cfun Tryz.prog n_step_machine_step=some step_machine_step:=by kernel_rfl
@[simp] theorem e_step_machine_step:hasBody Tryz.prog n_step_machine_step=true:=by kernel_rfl
abbrev ylX:List AG:=[o 9 (.mkFunc (.func n_step_machine_steps_1) [] [(.t 6),(.t 4),(.t 5),(.t 7)]),zz1 8 9]
abbrev ylY:List AG:=[o 4 (.box 1 (.t 0)),o 5 (.box 1 (.t 1)),o 6 (.box 1 (.t 2)),o 7 (.box 1 (.t 3)),o 8 (.mv (.c .nilf))]
abbrev step_machine_steps:AFun:=⟨(.seq (.reg ylY) (.seq (.reg ylX) .ret)),10,[.tmp 8]⟩
@[simp] theorem c_step_machine_steps:cfun Tryz.prog n_step_machine_steps=some step_machine_steps:=by kernel_rfl
@[simp] theorem e_step_machine_steps:hasBody Tryz.prog n_step_machine_steps=true:=by kernel_rfl
abbrev ylZ:List AG:=[o 5 (.lit 1 [] []),zz1 6 0,o 7 (.append 1 t_bool 1 (.t 5) (.t 6)),zz1 2 7]
abbrev yma:List AG:=[o 2 (.nilrow 1 t_bool)]
abbrev ymb:ACode:=(.seq (.reg yma) .ret)
abbrev ymc:List AG:=[zz1 3 0,o 4 (.isnil false (.t 3))]
abbrev ymd:List AG:=[o 2 (.nilrow 1 t_bool)]
abbrev slices_Clone_bool_bool:AFun:=⟨(.seq (.reg ymd) (.seq (.seq (.reg ymc) (.cond (.t 4) ymb .skip)) (.seq (.reg ylZ) .ret))),8,[.tmp 2]⟩
@[simp] theorem c_slices_Clone_bool_bool:cfun Tryz.prog n_slices_Clone_bool_bool=some slices_Clone_bool_bool:=by kernel_rfl
@[simp] theorem e_slices_Clone_bool_bool:hasBody Tryz.prog n_slices_Clone_bool_bool=true:=by kernel_rfl
abbrev yme:List AG:=[zz1 10 3,o 11 (.cmp .eql (.sc .int) (.t 10) (.c (.int .i64 0))),zz1 2 11]
abbrev ymf:List AG:=[zz3 6 4 1,zzf 7 n_net_Check 6,zz1 5 7,zzc 8 5 0,zzc 9 5 1,zz1 3 8,zz1 4 9]
abbrev ymg:List AG:=[o 1 (.box 4 (.t 0)),zzh 2]
abbrev order_right:AFun:=⟨(.seq (.reg ymg) (.seq (.reg ymf) (.seq (.reg yme) .ret))),12,[.tmp 2]⟩
@[simp] theorem c_order_right:cfun Tryz.prog n_order_right=some order_right:=by kernel_rfl
@[simp] theorem e_order_right:hasBody Tryz.prog n_order_right=true:=by kernel_rfl
abbrev ymh:List AG:=[o 5 (.lit 1 [] []),zz1 6 0,o 7 (.append 1 t_string 16 (.t 5) (.t 6)),zz1 2 7]
abbrev ymi:List AG:=[o 2 (.nilrow 1 t_string)]
abbrev ymj:ACode:=(.seq (.reg ymi) .ret)
abbrev ymk:List AG:=[zz1 3 0,o 4 (.isnil false (.t 3))]
abbrev yml:List AG:=[o 2 (.nilrow 1 t_string)]
abbrev slices_Clone_string_string:AFun:=⟨(.seq (.reg yml) (.seq (.seq (.reg ymk) (.cond (.t 4) ymj .skip)) (.seq (.reg ymh) .ret))),8,[.tmp 2]⟩
@[simp] theorem c_slices_Clone_string_string:cfun Tryz.prog n_slices_Clone_string_string=some slices_Clone_string_string:=by kernel_rfl
@[simp] theorem e_slices_Clone_string_string:hasBody Tryz.prog n_slices_Clone_string_string=true:=by kernel_rfl
abbrev ymm:List AG:=[zz1 42 3,zz1 2 42]
abbrev ymn:List Bool:=[O,I,O,I,O,I,O,O,O,O,O,O,O,O,O,O,O,O,O,O,O,O,O,O,O,O,O,O,O,O,O,O,O,O,O,O,O,O,O,O,O,O,O]
abbrev ymo:List Bool:=[O,O,O,I,O,O,O,O,O,O,O,O,O,O,O,O,O,O,O,O,O,O,O,O,O,O,O,O,O,O,O,O,O,O,O,O,O,O,O,O,O,O,O]
abbrev ymp:List AG:=[zz1 31 5,zz6 32 31 1,zz1 5 32]
abbrev ymq:List AG:=[zz1 33 3,zz4 34 3 1,zz2 35 1 34,zz1 36 5,zz5 37 5 35 36,zz4 38 0 37,zz2 39 1 38,o 40 (.lit 1 [(.str [])] [(0,(.t 39))]),o 41 (.append 1 t_string 16 (.t 33) (.t 40)),zz1 3 41]
abbrev ymr:List AG:=[zz1 26 5,zz4 27 3 1,zz2 28 1 27,zza 29 28,zz7 30 26 29]
abbrev yms:ACode:=(.seq (.seq (.reg ymr) (.cond (.t 30) .skip (.exit 2))) (.seq (.block 3 [] (.reg ymq)) (.reg ymp)))
abbrev ymt:List AG:=[zz9 5 0]
abbrev ymu:List Bool:=[O,I,O,I,I,O,O,O,O,O,O,O,O,O,O,O,O,O,O,O,O,O,O,O,O,O,O,O,O,O,O,O,O,O,O,O,O,O,O,O,O,O,O]
abbrev ymv:List Bool:=[O,I,O,I,O,O,O,O,O,O,O,O,O,O,O,O,O,O,O,O,O,O,O,O,O,O,O,O,O,O,O,O,O,O,O,O,O,O,O,O,O,O,O]
abbrev ymw:List AG:=[zz1 15 4,zz6 16 15 1,zz1 4 16]
abbrev ymx:List AG:=[zz1 17 3,zz4 18 2 1,zz2 19 1 18,zz1 20 4,zz5 21 3 19 20,zz4 22 0 21,zz2 23 1 22,o 24 (.lit 1 [(.str [])] [(0,(.t 23))]),o 25 (.append 1 t_string 16 (.t 17) (.t 24)),zz1 3 25]
abbrev ymy:List AG:=[zz1 10 4,zz4 11 2 1,zz2 12 1 11,zza 13 12,zz7 14 10 13]
abbrev ymz:ACode:=(.seq (.seq (.reg ymy) (.cond (.t 14) .skip (.exit 0))) (.seq (.block 1 [] (.reg ymx)) (.reg ymw)))
abbrev ymA:List AG:=[zz9 4 0]
abbrev ymB:List AG:=[zz1 6 3,zz4 7 0 1,zz2 8 1 7,o 9 (.append 1 t_string 16 (.t 6) (.t 8)),zz1 3 9]
abbrev ymC:List AG:=[o 3 (.nilrow 1 t_string)]
abbrev ymD:List AG:=[o 1 (.box 4 (.t 0)),o 2 (.nilrow 1 t_string)]
abbrev r06_Nets:AFun:=⟨(.seq (.reg ymD) (.seq (.reg ymC) (.seq (.reg ymB) (.seq (.seq (.reg ymA) (.block 0 ymv (.loop ymu ymz))) (.seq (.seq (.reg ymt) (.block 2 ymo (.loop ymn yms))) (.seq (.reg ymm) .ret)))))),43,[.tmp 2]⟩
abbrev ymE:List It:=[.code (.seq (.reg ymm) .ret)]
abbrev ymF (x1 x3 x5:AV) (h:List Ob) (e:Cx:=cx):Cfg:=atC n_r06_Nets (.code yms::.inLoop ymn yms::.inBlock 2 ymo::ymE) [U,x1,U,x3,U,x5,U,U,U,U,U,U,U,U,U,U,U,U,U,U,U,U,U,U,U,U,U,U,U,U,U,U,U,U,U,U,U,U,U,U,U,U,U] h e
abbrev ymG:List It:=[.code (.seq (.seq (.reg ymt) (.block 2 ymo (.loop ymn yms))) (.seq (.reg ymm) .ret))]
abbrev ymH (x1 x3 x4:AV) (h:List Ob) (e:Cx:=cx):Cfg:=atC n_r06_Nets (.code ymz::.inLoop ymu ymz::.inBlock 0 ymv::ymG) [U,x1,U,x3,x4,U,U,U,U,U,U,U,U,U,U,U,U,U,U,U,U,U,U,U,U,U,U,U,U,U,U,U,U,U,U,U,U,U,U,U,U,U,U] h e
@[simp] theorem c_r06_Nets:cfun Tryz.prog n_r06_Nets=some r06_Nets:=by kernel_rfl
@[simp] theorem e_r06_Nets:hasBody Tryz.prog n_r06_Nets=true:=by kernel_rfl
abbrev ymI:List AG:=[zz1 13 6,zz1 14 13,zze 15 14 1,oy 16 14 (.arrAddr 2 1 (.t 5) (.c (.int .i64 0))),zzd 17 14 1 16,oy 18 14 (.cmp .geq (.sc .int) (.t 15) (.t 17)),zz8 19 14 18,zz1 20 19,zze 21 20 1,oy 22 20 (.arrAddr 2 1 (.t 5) (.c (.int .i64 1))),zzd 23 20 1 22,oy 24 20 (.cmp .leq (.sc .int) (.t 21) (.t 23)),zz8 25 20 24,zz1 4 25]
abbrev ymJ:List AG:=[o 8 (.load false 1 (.g 0)),zz1 9 0,o 10 (.lookup (.sc .int) (.agg [(.int .i64 0),(.int .i64 0)]) (.t 8) (.t 9) true),zz1 7 10,zzc 11 7 0,zzc 12 7 1,o 5 (.alloc [(.int .i64 0),(.int .i64 0)]),zzb 2 5 11,zz1 6 12]
abbrev ymK:List AG:=[zzh 4]
abbrev net_has:AFun:=⟨(.seq (.reg ymK) (.seq (.reg ymJ) (.seq (.reg ymI) .ret))),26,[.tmp 4]⟩
@[simp] theorem c_net_has:cfun Tryz.prog n_net_has=some net_has:=by kernel_rfl
@[simp] theorem e_net_has:hasBody Tryz.prog n_net_has=true:=by kernel_rfl
abbrev ymL:List AG:=[zz1 9 40]
abbrev ymM:List AG:=[zz2 41 1 8,zz1 42 9,o 43 (.lit 1 [(.str [])] [(0,(.t 42))]),o 44 (.append 1 t_string 16 (.t 41) (.t 43)),zzb 1 8 44]
abbrev ymN:ACode:=(.block 2 [] (.reg ymM))
@[simp] theorem e_net_rows:hasBody Tryz.prog n_net_rows=true:=by kernel_rfl
abbrev ymO:List AG:=[zz1 4 0,zz4 5 2 1,zz2 6 1 5,zza 7 6,zzg 8 n_net_row 4 7,o 9 (.not (.t 8)),zz1 3 9]
abbrev ymP:List AG:=[zzh 3]
abbrev net_Gate_1:AFun:=⟨(.seq (.reg ymP) (.seq (.reg ymO) .ret)),10,[.tmp 3]⟩
@[simp] theorem c_net_Gate_1:cfun Tryz.prog n_net_Gate_1=some net_Gate_1:=by kernel_rfl
@[simp] theorem e_net_Gate_1:hasBody Tryz.prog n_net_Gate_1=true:=by kernel_rfl
abbrev ymQ:List AG:=[zz1 5 0,o 6 (.lenStr (.t 5)),zz1 7 1,o 8 (.cmp .eql (.sc .int) (.t 6) (.t 7)),zz1 9 8,zze 10 9 0,oy 11 9 (.call (.f n_strings_Trim) [(.t 10),(.c (.str [48,49,45]))]),oy 12 9 (.cmp .eql (.sc .str) (.t 11) (.c (.str []))),zz8 13 9 12,zz1 4 13]
abbrev ymR:List AG:=[zzh 4]
abbrev net_row:AFun:=⟨(.seq (.reg ymR) (.seq (.reg ymQ) .ret)),14,[.tmp 4]⟩
@[simp] theorem c_net_row:cfun Tryz.prog n_net_row=some net_row:=by kernel_rfl
@[simp] theorem e_net_row:hasBody Tryz.prog n_net_row=true:=by kernel_rfl
abbrev ymS:List AG:=[zzh 2]
abbrev ymT:List AG:=[zzh 2]
abbrev step_of_1:AFun:=⟨(.seq (.reg ymT) (.seq (.reg ymS) .ret)),3,[.tmp 2]⟩
@[simp] theorem c_step_of_1:cfun Tryz.prog n_step_of_1=some step_of_1:=by kernel_rfl
@[simp] theorem e_step_of_1:hasBody Tryz.prog n_step_of_1=true:=by kernel_rfl
abbrev ymU:List AG:=[zz1 3 0,zzf 4 n_step_count 3,zz1 5 0,zza 6 5,o 7 (.cmp .eql (.sc .int) (.t 4) (.t 6)),zz1 2 7]
abbrev ymV:List AG:=[zzh 2]
abbrev step_of_2:AFun:=⟨(.seq (.reg ymV) (.seq (.reg ymU) .ret)),8,[.tmp 2]⟩
@[simp] theorem c_step_of_2:cfun Tryz.prog n_step_of_2=some step_of_2:=by kernel_rfl
@[simp] theorem e_step_of_2:hasBody Tryz.prog n_step_of_2=true:=by kernel_rfl
abbrev ymW:List AG:=[zz1 16 3,zz1 2 16]
abbrev ymX:List Bool:=[O,O,O,I,O,O,I,I,I,O,O,O,O,O,O,O,O]
abbrev ymY:List Bool:=[O,O,O,I,O,O,O,O,O,O,O,O,O,O,O,O,O]
abbrev ymZ:List AG:=[zz6 15 8 1,zz1 8 15]
abbrev yna:List AG:=[zz1 13 3,zz6 14 13 1,zz1 3 14]
abbrev ynb:List AG:=[zz1 12 5]
abbrev ync:List AG:=[zz5 10 1 6 8,zz2 11 1 10,zz1 5 11]
abbrev ynd:ACode:=(.seq (.reg ync) (.seq (.reg ynb) (.cond (.t 12) (.reg yna) .skip)))
abbrev yne:List AG:=[zz7 9 8 7]
abbrev ynf:ACode:=(.seq (.reg yne) (.seq (.cond (.t 9) .skip (.exit 0)) (.seq (.block 1 [] ynd) (.reg ymZ))))
abbrev yng:List AG:=[zz1 6 0,zza 7 6,zz9 8 0]
abbrev ynh:List AG:=[zz9 3 0]
abbrev yni:List AG:=[zz9 2 0]
abbrev step_count:AFun:=⟨(.seq (.reg yni) (.seq (.reg ynh) (.seq (.seq (.reg yng) (.block 0 ymY (.loop ymX ynf))) (.seq (.reg ymW) .ret)))),17,[.tmp 2]⟩
abbrev ynj:List It:=[.code (.seq (.reg ymW) .ret)]
abbrev ynk (x3 x6 x7 x8:AV) (h:List Ob) (e:Cx:=cx):Cfg:=atC n_step_count (.code ynf::.inLoop ymX ynf::.inBlock 0 ymY::ynj) [U,U,U,x3,U,U,x6,x7,x8,U,U,U,U,U,U,U,U] h e
@[simp] theorem c_step_count:cfun Tryz.prog n_step_count=some step_count:=by kernel_rfl
@[simp] theorem e_step_count:hasBody Tryz.prog n_step_count=true:=by kernel_rfl
abbrev ynl:List AG:=[zz1 3 0,zzf 4 n_step_count 3,o 5 (.cmp .gtr (.sc .int) (.t 4) (.c (.int .i64 0))),zz1 2 5]
abbrev ynm:List AG:=[zzh 2]
abbrev step_of_3:AFun:=⟨(.seq (.reg ynm) (.seq (.reg ynl) .ret)),6,[.tmp 2]⟩
@[simp] theorem c_step_of_3:cfun Tryz.prog n_step_of_3=some step_of_3:=by kernel_rfl
@[simp] theorem e_step_of_3:hasBody Tryz.prog n_step_of_3=true:=by kernel_rfl
abbrev ynn:List AG:=[zz1 3 0,zzf 4 n_step_count 3,o 5 (.ibin .rem (.t 4) (.c (.int .i64 2))),o 6 (.cmp .eql (.sc .int) (.t 5) (.c (.int .i64 1))),zz1 2 6]
abbrev yno:List AG:=[zzh 2]
abbrev step_of_4:AFun:=⟨(.seq (.reg yno) (.seq (.reg ynn) .ret)),7,[.tmp 2]⟩
@[simp] theorem c_step_of_4:cfun Tryz.prog n_step_of_4=some step_of_4:=by kernel_rfl
@[simp] theorem e_step_of_4:hasBody Tryz.prog n_step_of_4=true:=by kernel_rfl
abbrev ynp:List AG:=[o 4 (.mv (.c (.int .i64 (-1))))]
abbrev ynq:List Bool:=[I,I,O,O,O,O,O,I,I,O,O,O,O,O,O,O,O,O,O]
abbrev ynr:List Bool:=[O,O,O,O,O,O,O,O,O,O,O,O,O,O,O,O,O,O,O]
abbrev yns:List AG:=[zz6 18 8 1,zz1 8 18]
abbrev ynt:List AG:=[zz1 17 5,zz1 4 17]
abbrev ynu:ACode:=(.seq (.reg ynt) .ret)
abbrev ynv:List AG:=[zz1 11 1,zz1 12 0,zz1 13 5,zz5 14 1 12 13,zz2 15 1 14,o 16 (.call (.t 11) [(.t 15)])]
abbrev ynw:List AG:=[zz1 10 8,zz1 5 10]
abbrev ynx:ACode:=(.seq (.reg ynw) (.seq (.reg ynv) (.cond (.t 16) ynu .skip)))
abbrev yny:List AG:=[zz7 9 8 7]
abbrev ynz:ACode:=(.seq (.reg yny) (.seq (.cond (.t 9) .skip (.exit 0)) (.seq (.block 1 [] ynx) (.reg yns))))
abbrev ynA:List AG:=[zz1 6 0,zza 7 6,zz9 8 0]
abbrev ynB:List AG:=[zz9 4 0]
abbrev slices_IndexFunc_string_string:AFun:=⟨(.seq (.reg ynB) (.seq (.seq (.reg ynA) (.block 0 ynr (.loop ynq ynz))) (.seq (.reg ynp) .ret))),19,[.tmp 4]⟩
abbrev ynC:List It:=[.code (.seq (.reg ynp) .ret)]
abbrev ynD (x0 x1 x7 x8:AV) (h:List Ob) (e:Cx:=cx):Cfg:=atC n_slices_IndexFunc_string_string (.code ynz::.inLoop ynq ynz::.inBlock 0 ynr::ynC) [x0,x1,U,U,U,U,U,x7,x8,U,U,U,U,U,U,U,U,U,U] h e
@[simp] theorem c_slices_IndexFunc_string_string:cfun Tryz.prog n_slices_IndexFunc_string_string=some slices_IndexFunc_string_string:=by kernel_rfl
@[simp] theorem e_slices_IndexFunc_string_string:hasBody Tryz.prog n_slices_IndexFunc_string_string=true:=by kernel_rfl
abbrev ynE:List AG:=[zz1 28 0,o 29 (.lenStr (.t 28)),zz1 30 1,o 31 (.cmp .eql (.sc .int) (.t 29) (.t 30)),zz1 4 31]
abbrev ynF:List Bool:=[I,I,O,O,O,I,O,O,O,O,O,O,O,O,O,O,O,O,O,O,O,O,O,O,O,O,O,O,O,O,O,O]
abbrev ynG:List Bool:=[I,I,O,O,O,O,O,O,O,O,O,O,O,O,O,O,O,O,O,O,O,O,O,O,O,O,O,O,O,O,O,O]
abbrev ynH:List AG:=[zz1 10 5,zz6 11 10 1,zz1 5 11]
abbrev ynI:List AG:=[zzh 4]
abbrev ynJ:ACode:=(.seq (.reg ynI) .ret)
abbrev ynK:List AG:=[zz1 12 0,zz1 13 5,o 14 (.ixStr (.t 12) (.t 13)),o 15 (.cmp .neq (.sc .int) (.t 14) (.c (.int .u8 48))),zz1 16 15,zze 17 16 0,zze 18 16 5,oy 19 16 (.ixStr (.t 17) (.t 18)),oy 20 16 (.cmp .neq (.sc .int) (.t 19) (.c (.int .u8 49))),zz8 21 16 20,zz1 22 21,zze 23 22 0,zze 24 22 5,oy 25 22 (.ixStr (.t 23) (.t 24)),oy 26 22 (.cmp .neq (.sc .int) (.t 25) (.c (.int .u8 45))),zz8 27 22 26]
abbrev ynL:ACode:=(.seq (.reg ynK) (.cond (.t 27) ynJ .skip))
abbrev ynM:List AG:=[zz1 6 5,zz1 7 0,o 8 (.lenStr (.t 7)),zz7 9 6 8]
abbrev ynN:ACode:=(.seq (.seq (.reg ynM) (.cond (.t 9) .skip (.exit 0))) (.seq (.block 1 [] ynL) (.reg ynH)))
abbrev ynO:List AG:=[zz9 5 0]
abbrev ynP:List AG:=[zzh 4]
abbrev r06_row:AFun:=⟨(.seq (.reg ynP) (.seq (.seq (.reg ynO) (.block 0 ynG (.loop ynF ynN))) (.seq (.reg ynE) .ret))),32,[.tmp 4]⟩
abbrev ynQ:List It:=[.code (.seq (.reg ynE) .ret)]
abbrev ynR (x0 x1 x5:AV) (h:List Ob) (e:Cx:=cx):Cfg:=atC n_r06_row (.code ynN::.inLoop ynF ynN::.inBlock 0 ynG::ynQ) [x0,x1,U,U,U,x5,U,U,U,U,U,U,U,U,U,U,U,U,U,U,U,U,U,U,U,U,U,U,U,U,U,U] h e
@[simp] theorem c_r06_row:cfun Tryz.prog n_r06_row=some r06_row:=by kernel_rfl
@[simp] theorem e_r06_row:hasBody Tryz.prog n_r06_row=true:=by kernel_rfl
abbrev ynS:List AG:=[zz1 15 5,zz1 4 15]
abbrev ynT:List Bool:=[I,I,O,O,O,I,I,O,O,O,O,O,O,O,O,O]
abbrev ynU:List Bool:=[O,O,O,O,O,I,O,O,O,O,O,O,O,O,O,O]
abbrev ynV:List AG:=[zz1 10 6,zz6 11 10 1,zz1 6 11]
abbrev ynW:List AG:=[zz1 12 5,zz1 13 0,o 14 (.concat (.t 12) (.t 13)),zz1 5 14]
abbrev ynX:List AG:=[zz1 7 6,zz1 8 1,zz7 9 7 8]
abbrev ynY:ACode:=(.seq (.seq (.reg ynX) (.cond (.t 9) .skip (.exit 0))) (.seq (.block 1 [] (.reg ynW)) (.reg ynV)))
abbrev ynZ:List AG:=[zz9 6 0]
abbrev yoa:List AG:=[o 5 (.mv (.c (.str [])))]
abbrev yob:List AG:=[o 4 (.mv (.c (.str [])))]
abbrev r06_all:AFun:=⟨(.seq (.reg yob) (.seq (.reg yoa) (.seq (.seq (.reg ynZ) (.block 0 ynU (.loop ynT ynY))) (.seq (.reg ynS) .ret)))),16,[.tmp 4]⟩
abbrev yoc:List It:=[.code (.seq (.reg ynS) .ret)]
abbrev yod (x0 x1 x5 x6:AV) (h:List Ob) (e:Cx:=cx):Cfg:=atC n_r06_all (.code ynY::.inLoop ynT ynY::.inBlock 0 ynU::yoc) [x0,x1,U,U,U,x5,x6,U,U,U,U,U,U,U,U,U] h e
@[simp] theorem c_r06_all:cfun Tryz.prog n_r06_all=some r06_all:=by kernel_rfl
@[simp] theorem e_r06_all:hasBody Tryz.prog n_r06_all=true:=by kernel_rfl
abbrev yoe:List AG:=[zz1 43 5,zz1 4 43]
abbrev yof:List Bool:=[I,I,O,O,O,I,I,O,O,O,O,O,O,O,O,O,O,O,O,O,O,O,O,O,O,O,O,O,O,O,O,O,O,O,O,O,O,O,O,O,O,O,O,O]
abbrev yog:List Bool:=[O,O,O,O,O,I,O,O,O,O,O,O,O,O,O,O,O,O,O,O,O,O,O,O,O,O,O,O,O,O,O,O,O,O,O,O,O,O,O,O,O,O,O,O]
abbrev yoh:List AG:=[zz1 15 6,zz6 16 15 1,zz1 6 16]
abbrev yoi:List AG:=[zz1 39 5,zz1 40 7,o 41 (.lit 1 [(.str [])] [(0,(.t 40))]),o 42 (.append 1 t_string 16 (.t 39) (.t 41)),zz1 5 42]
abbrev yoj:List AG:=[zz1 35 8,o 36 (.ibin .rem (.t 35) (.c (.int .i64 2))),zz1 37 1,o 38 (.cmp .eql (.sc .int) (.t 36) (.t 37))]
abbrev yok:List Bool:=[I,I,O,O,O,I,I,I,I,I,O,O,O,O,O,O,O,O,O,O,O,O,O,O,O,O,O,O,O,O,O,O,O,O,O,O,O,O,O,O,O,O,O,O]
abbrev yol:List Bool:=[I,I,O,O,O,I,I,I,I,O,O,O,O,O,O,O,O,O,O,O,O,O,O,O,O,O,O,O,O,O,O,O,O,O,O,O,O,O,O,O,O,O,O,O]
abbrev yom:List AG:=[zz1 21 9,o 22 (.ibin .sub (.t 21) (.c (.int .i64 1))),zz1 9 22]
abbrev yon:List AG:=[zz1 31 8,zz6 32 31 1,zz1 8 32]
abbrev yoo:List AG:=[zz1 29 7,o 30 (.concat (.t 29) (.c (.str [49]))),zz1 7 30]
abbrev yop:List AG:=[zz1 33 7,o 34 (.concat (.t 33) (.c (.str [48]))),zz1 7 34]
abbrev yoq:ACode:=(.seq (.reg yoo) (.reg yon))
abbrev yor:List AG:=[zz1 23 6,zz1 24 9,o 25 (.conv .u64 (.t 24)),o 26 (.ibin .shr (.t 23) (.t 25)),o 27 (.ibin .rem (.t 26) (.c (.int .i64 2))),o 28 (.cmp .eql (.sc .int) (.t 27) (.c (.int .i64 1)))]
abbrev yos:ACode:=(.seq (.reg yor) (.cond (.t 28) yoq (.reg yop)))
abbrev yot:List AG:=[zz1 19 9,o 20 (.cmp .geq (.sc .int) (.t 19) (.c (.int .i64 0)))]
abbrev you:ACode:=(.seq (.seq (.reg yot) (.cond (.t 20) .skip (.exit 2))) (.seq (.block 3 [] yos) (.reg yom)))
abbrev yov:List AG:=[zz1 17 0,o 18 (.ibin .sub (.t 17) (.c (.int .i64 1))),zz1 9 18]
abbrev yow:List AG:=[zz9 8 0]
abbrev yox:List AG:=[o 7 (.mv (.c (.str [])))]
abbrev yoy:ACode:=(.seq (.reg yox) (.seq (.reg yow) (.seq (.seq (.reg yov) (.block 2 yol (.loop yok you))) (.seq (.reg yoj) (.cond (.t 38) (.reg yoi) .skip)))))
abbrev yoz:List AG:=[zz1 10 6,zz1 11 0,o 12 (.conv .u64 (.t 11)),o 13 (.ibin .shl (.c (.int .i64 1)) (.t 12)),zz7 14 10 13]
abbrev yoA:ACode:=(.seq (.seq (.reg yoz) (.cond (.t 14) .skip (.exit 0))) (.seq (.block 1 [] yoy) (.reg yoh)))
abbrev yoB:List AG:=[zz9 6 0]
abbrev yoC:List AG:=[o 5 (.nilrow 1 t_string)]
abbrev yoD:List AG:=[o 4 (.nilrow 1 t_string)]
abbrev r06_odd:AFun:=⟨(.seq (.reg yoD) (.seq (.reg yoC) (.seq (.seq (.reg yoB) (.block 0 yog (.loop yof yoA))) (.seq (.reg yoe) .ret)))),44,[.tmp 4]⟩
abbrev yoE:List It:=[.code (.seq (.reg yoj) (.cond (.t 38) (.reg yoi) .skip)),.inBlock 1 [],.code (.reg yoh),.inLoop yof yoA,.inBlock 0 yog,.code (.seq (.reg yoe) .ret)]
abbrev yoF (x0 x1 x5 x6 x7 x8 x9:AV) (h:List Ob) (e:Cx:=cx):Cfg:=atC n_r06_odd (.code you::.inLoop yok you::.inBlock 2 yol::yoE) [x0,x1,U,U,U,x5,x6,x7,x8,x9,U,U,U,U,U,U,U,U,U,U,U,U,U,U,U,U,U,U,U,U,U,U,U,U,U,U,U,U,U,U,U,U,U,U] h e
abbrev yoG (x0 x1 x5 x6 x7 x8:AV) (h:List Ob) (e:Cx:=cx):Cfg:=atC n_r06_odd yoE [x0,x1,U,U,U,x5,x6,x7,x8,U,U,U,U,U,U,U,U,U,U,U,U,U,U,U,U,U,U,U,U,U,U,U,U,U,U,U,U,U,U,U,U,U,U,U] h e
abbrev yoH:List It:=[.code (.seq (.reg yoe) .ret)]
abbrev yoI (x0 x1 x5 x6:AV) (h:List Ob) (e:Cx:=cx):Cfg:=atC n_r06_odd (.code yoA::.inLoop yof yoA::.inBlock 0 yog::yoH) [x0,x1,U,U,U,x5,x6,U,U,U,U,U,U,U,U,U,U,U,U,U,U,U,U,U,U,U,U,U,U,U,U,U,U,U,U,U,U,U,U,U,U,U,U,U] h e
@[simp] theorem c_r06_odd:cfun Tryz.prog n_r06_odd=some r06_odd:=by kernel_rfl
@[simp] theorem e_r06_odd:hasBody Tryz.prog n_r06_odd=true:=by kernel_rfl
abbrev yoJ:List AG:=[zz9 2 0,o 3 (.mv (.c (.str [])))]
abbrev yoK:List AG:=[zz1 25 7,o 26 (.ixAddr 1 (.t 25) (.c (.int .i64 0))),zz2 27 1 26,zz9 2 7,zz1 3 27]
abbrev yoL:ACode:=(.seq (.dreg [O,O,O,O,O] [6,6,6,6,6] yoK) .ret)
abbrev yoM:List AG:=[zz1 22 7,zza 23 22,o 24 (.cmp .gtr (.sc .int) (.t 23) (.c (.int .i64 0)))]
abbrev yoN:List AG:=[zz3 18 4 1,zzf 19 n_order_Sort 18,zz1 17 19,zzc 20 17 0,zzc 21 17 1,zz1 6 20,zz1 7 21]
abbrev yoO:List AG:=[zz1 15 4,zz1 16 5,zz1 2 15,zz1 3 16]
abbrev yoP:ACode:=(.seq (.reg yoO) .ret)
abbrev yoQ:List AG:=[zz1 13 4,o 14 (.cmp .neq (.sc .int) (.t 13) (.c (.int .i64 0)))]
abbrev yoR:List AG:=[zz3 9 4 1,zzf 10 n_net_Check 9,zz1 8 10,zzc 11 8 0,zzc 12 8 1,zz1 4 11,zz1 5 12]
abbrev yoS:List AG:=[o 1 (.box 4 (.t 0)),zz9 2 0,o 3 (.mv (.c (.str [])))]
abbrev order_Check:AFun:=⟨(.seq (.reg yoS) (.seq (.seq (.reg yoR) (.seq (.reg yoQ) (.cond (.t 14) yoP .skip))) (.seq (.seq (.reg yoN) (.seq (.reg yoM) (.cond (.t 24) yoL .skip))) (.seq (.reg yoJ) .ret)))),28,[.tmp 2,.tmp 3]⟩
@[simp] theorem c_order_Check:cfun Tryz.prog n_order_Check=some order_Check:=by kernel_rfl
@[simp] theorem e_order_Check:hasBody Tryz.prog n_order_Check=true:=by kernel_rfl
abbrev yoT:List AG:=[zz9 2 0,o 3 (.mv (.c (.str [])))]
abbrev yoU:List AG:=[zz1 25 7,o 26 (.ixAddr 1 (.t 25) (.c (.int .i64 0))),zz2 27 1 26,zz9 2 7,zz1 3 27]
abbrev yoV:ACode:=(.seq (.dreg [O,O,O,O,O] [6,6,6,6,6] yoU) .ret)
abbrev yoW:List AG:=[zz1 22 7,zza 23 22,o 24 (.cmp .gtr (.sc .int) (.t 23) (.c (.int .i64 0)))]
abbrev yoX:List AG:=[zz3 18 4 1,zzf 19 n_r07_Sort 18,zz1 17 19,zzc 20 17 0,zzc 21 17 1,zz1 6 20,zz1 7 21]
abbrev yoY:List AG:=[zz1 15 4,zz1 16 5,zz1 2 15,zz1 3 16]
abbrev yoZ:ACode:=(.seq (.reg yoY) .ret)
abbrev ypa:List AG:=[zz1 13 4,o 14 (.cmp .neq (.sc .int) (.t 13) (.c (.int .i64 0)))]
abbrev ypb:List AG:=[zz3 9 4 1,zzf 10 n_r06_Check 9,zz1 8 10,zzc 11 8 0,zzc 12 8 1,zz1 4 11,zz1 5 12]
abbrev ypc:List AG:=[o 1 (.box 4 (.t 0)),zz9 2 0,o 3 (.mv (.c (.str [])))]
abbrev r07_Check:AFun:=⟨(.seq (.reg ypc) (.seq (.reg ypb) (.seq (.seq (.reg ypa) (.cond (.t 14) yoZ .skip)) (.seq (.reg yoX) (.seq (.seq (.reg yoW) (.cond (.t 24) yoV .skip)) (.seq (.reg yoT) .ret)))))),28,[.tmp 2,.tmp 3]⟩
@[simp] theorem c_r07_Check:cfun Tryz.prog n_r07_Check=some r07_Check:=by kernel_rfl
@[simp] theorem e_r07_Check:hasBody Tryz.prog n_r07_Check=true:=by kernel_rfl
abbrev ypd:List AG:=[zz2 52 1 4,zz1 53 7,zz1 2 52,zz1 3 53]
abbrev ype:List Bool:=[O,O,O,O,I,I,O,I,O,O,O,O,O,O,O,O,O,O,O,O,O,O,O,O,O,O,O,O,O,O,O,O,I,I,I,O,O,O,O,O,O,O,O,O,O,O,O,O,O,O,O,O,O,O]
abbrev ypf:List Bool:=[O,O,O,O,I,O,O,I,O,O,O,O,O,O,O,O,O,O,O,O,O,O,O,O,O,O,O,O,O,O,O,O,O,O,O,O,O,O,O,O,O,O,O,O,O,O,O,O,O,O,O,O,O,O]
abbrev ypg:List AG:=[zz6 51 34 1,zz1 34 51]
abbrev yph:List AG:=[zz1 46 7,zz4 47 0 9,zz2 48 1 47,o 49 (.lit 1 [(.str [])] [(0,(.t 48))]),o 50 (.append 1 t_string 16 (.t 46) (.t 49)),zz1 7 50]
abbrev ypi:List AG:=[zz1 45 11]
abbrev ypj:List AG:=[zz2 39 1 5,zz4 40 0 9,zz2 41 1 40,o 42 (.lookup (.sc .str) (.int .i64 0) (.t 39) (.t 41) true),zz1 38 42,zzc 43 38 0,zzc 44 38 1,zz1 10 43,zz1 11 44]
abbrev ypk:List AG:=[zz5 36 5 32 34,zz3 37 5 36,o 9 (.alloc [(.str []),(.int .i64 0),(.own 1 t_string []),(.own 1 t_string []),(.bool false)]),zzb 5 9 37]
abbrev ypl:ACode:=(.seq (.reg ypk) (.seq (.reg ypj) (.seq (.reg ypi) (.cond (.t 45) (.reg yph) .skip))))
abbrev ypm:List AG:=[zz7 35 34 33]
abbrev ypn:ACode:=(.seq (.reg ypm) (.seq (.cond (.t 35) .skip (.exit 2)) (.seq (.block 3 [] ypl) (.reg ypg))))
abbrev ypo:List AG:=[zz4 31 3 1,zz2 32 1 31,zza 33 32,zz9 34 0]
abbrev ypp:List AG:=[o 7 (.nilrow 1 t_string)]
abbrev ypq:List AG:=[zz1 6 19]
abbrev ypr:List AG:=[zz2 24 1 5,zz4 25 3 1,zz2 26 1 25,zz1 27 6,zz5 28 5 26 27,zz4 29 0 28,zz2 30 1 29,q (.delete (.sc .str) (.t 24) (.t 30))]
abbrev yps:List AG:=[zz2 20 1 4,zz1 21 6,o 22 (.lit 1 [(.int .i64 0)] [(0,(.t 21))]),o 23 (.append 1 t_int 8 (.t 20) (.t 22)),zzb 1 4 23]
abbrev ypt:ACode:=(.seq (.reg yps) (.dreg [O,O,O,O,O,O,O,O] [8,8,8,8,8,8,8,9] ypr))
abbrev ypu:ACode:=(.block 1 [] ypt)
abbrev ypv:ACode:=(.rangeFunc (.t 18) [19] [O,I,I,I,I,I,O,O,O,O,O,O,O,O,O,O,O,O,O,O,O,O,O,O,O,O,O,O,O,O,O,O,O,O,O,O,O,O,O,O,O,O,O,O,O,O,O,O,O,O,O,O,O,O] (.reg ypq) ypu)
abbrev ypw:List AG:=[zz3 17 4 1,zzf 18 n_order_coming 17]
abbrev ypx:List AG:=[zz3 15 4 1,zzf 16 n_order_places 15,o 5 (.alloc [.nilm]),zzb 1 5 16]
abbrev ypy:List AG:=[o 4 (.alloc [(.own 1 t_int [])])]
abbrev ypz:List AG:=[o 2 (.nilrow 1 t_int),o 3 (.nilrow 1 t_string)]
abbrev ypA:ACode:=(.seq (.reg ypz) .ret)
abbrev ypB:List AG:=[zz3 12 4 1,zzf 13 n_order_right 12,o 14 (.not (.t 13))]
abbrev ypC:List AG:=[o 1 (.box 4 (.t 0)),o 2 (.nilrow 1 t_int),o 3 (.nilrow 1 t_string)]
abbrev order_Sort:AFun:=⟨(.seq (.reg ypC) (.seq (.seq (.reg ypB) (.cond (.t 14) ypA .skip)) (.seq (.reg ypy) (.seq (.reg ypx) (.seq (.seq (.reg ypw) (.block 0 [] ypv)) (.seq (.reg ypp) (.seq (.seq (.reg ypo) (.block 2 ypf (.loop ype ypn))) (.seq (.reg ypd) .ret)))))))),54,[.tmp 2,.tmp 3]⟩
abbrev ypD:List It:=[.code (.seq (.reg ypd) .ret)]
abbrev ypE (x4 x5 x7 x32 x33 x34:AV) (h:List Ob) (e:Cx:=cx):Cfg:=atC n_order_Sort (.code ypn::.inLoop ype ypn::.inBlock 2 ypf::ypD) [U,U,U,U,x4,x5,U,x7,U,U,U,U,U,U,U,U,U,U,U,U,U,U,U,U,U,U,U,U,U,U,U,U,x32,x33,x34,U,U,U,U,U,U,U,U,U,U,U,U,U,U,U,U,U,U,U] h e
@[simp] theorem c_order_Sort:cfun Tryz.prog n_order_Sort=some order_Sort:=by kernel_rfl
@[simp] theorem e_order_Sort:hasBody Tryz.prog n_order_Sort=true:=by kernel_rfl
abbrev ypF:List AG:=[zz1 37 3,zz1 2 37]
abbrev ypG:List Bool:=[O,O,O,I,O,O,O,O,O,O,O,O,O,O,O,O,O,O,O,O,O,O,O,O,O,I,I,I,O,O,O,O,O,O,O,O,O,O]
abbrev ypH:List Bool:=[O,O,O,I,O,O,O,O,O,O,O,O,O,O,O,O,O,O,O,O,O,O,O,O,O,O,O,O,O,O,O,O,O,O,O,O,O,O]
abbrev ypI:List AG:=[zz6 36 27 1,zz1 27 36]
abbrev ypJ:List AG:=[zz1 31 3,zz4 32 0 7,zz2 33 1 32,o 34 (.lit 1 [(.str [])] [(0,(.t 33))]),o 35 (.append 1 t_string 16 (.t 31) (.t 34)),zz1 3 35]
abbrev ypK:List AG:=[zz5 29 5 25 27,zz3 30 5 29,o 7 (.alloc [(.str []),(.int .i64 0),(.own 1 t_string []),(.own 1 t_string []),(.bool false)]),zzb 5 7 30]
abbrev ypL:ACode:=(.seq (.reg ypK) (.reg ypJ))
abbrev ypM:List AG:=[zz7 28 27 26]
abbrev ypN:ACode:=(.seq (.reg ypM) (.seq (.cond (.t 28) .skip (.exit 2)) (.seq (.block 3 [] ypL) (.reg ypI))))
abbrev ypO:List AG:=[zz4 24 3 1,zz2 25 1 24,zza 26 25,zz9 27 0]
abbrev ypP:List Bool:=[O,I,O,I,O,O,O,O,O,O,O,O,I,I,I,O,O,O,O,O,O,O,O,O,O,O,O,O,O,O,O,O,O,O,O,O,O,O]
abbrev ypQ:List Bool:=[O,I,O,I,O,O,O,O,O,O,O,O,O,O,O,O,O,O,O,O,O,O,O,O,O,O,O,O,O,O,O,O,O,O,O,O,O,O]
abbrev ypR:List AG:=[zz6 23 14 1,zz1 14 23]
abbrev ypS:List AG:=[zz1 18 3,zz4 19 0 5,zz2 20 1 19,o 21 (.lit 1 [(.str [])] [(0,(.t 20))]),o 22 (.append 1 t_string 16 (.t 18) (.t 21)),zz1 3 22]
abbrev ypT:List AG:=[zz5 16 3 12 14,zz3 17 3 16,o 5 (.alloc [(.str []),(.str []),(.int .i64 0)]),zzb 3 5 17]
abbrev ypU:ACode:=(.seq (.reg ypT) (.reg ypS))
abbrev ypV:List AG:=[zz7 15 14 13]
abbrev ypW:ACode:=(.seq (.reg ypV) (.seq (.cond (.t 15) .skip (.exit 0)) (.seq (.block 1 [] ypU) (.reg ypR))))
abbrev ypX:List AG:=[zz4 11 2 1,zz2 12 1 11,zza 13 12,zz9 14 0]
abbrev ypY:List AG:=[zz4 8 0 1,zz2 9 1 8,zzf 10 n_slices_Clone_string_string 9,zz1 3 10]
abbrev ypZ:List AG:=[o 1 (.box 4 (.t 0)),o 2 (.nilrow 1 t_string)]
abbrev net_Nets:AFun:=⟨(.seq (.reg ypZ) (.seq (.reg ypY) (.seq (.seq (.reg ypX) (.block 0 ypQ (.loop ypP ypW))) (.seq (.seq (.reg ypO) (.block 2 ypH (.loop ypG ypN))) (.seq (.reg ypF) .ret))))),38,[.tmp 2]⟩
abbrev yqa:List It:=[.code (.seq (.reg ypF) .ret)]
abbrev yqb (x3 x25 x26 x27:AV) (h:List Ob) (e:Cx:=cx):Cfg:=atC n_net_Nets (.code ypN::.inLoop ypG ypN::.inBlock 2 ypH::yqa) [U,U,U,x3,U,U,U,U,U,U,U,U,U,U,U,U,U,U,U,U,U,U,U,U,U,x25,x26,x27,U,U,U,U,U,U,U,U,U,U] h e
abbrev yqc:List It:=[.code (.seq (.seq (.reg ypO) (.block 2 ypH (.loop ypG ypN))) (.seq (.reg ypF) .ret))]
abbrev yqd (x1 x3 x12 x13 x14:AV) (h:List Ob) (e:Cx:=cx):Cfg:=atC n_net_Nets (.code ypW::.inLoop ypP ypW::.inBlock 0 ypQ::yqc) [U,x1,U,x3,U,U,U,U,U,U,U,U,x12,x13,x14,U,U,U,U,U,U,U,U,U,U,U,U,U,U,U,U,U,U,U,U,U,U,U] h e
@[simp] theorem c_net_Nets:cfun Tryz.prog n_net_Nets=some net_Nets:=by kernel_rfl
@[simp] theorem e_net_Nets:hasBody Tryz.prog n_net_Nets=true:=by kernel_rfl
abbrev yqe:List AG:=[zz1 35 6,zz1 2 35]
abbrev yqf:List Bool:=[O,O,O,O,O,O,I,O,O,O,O,O,O,O,O,O,O,O,O,O,O,O,O,O,O,I,I,I,O,O,O,O,O,O,O,O]
abbrev yqg:List Bool:=[O,O,O,O,O,O,I,O,O,O,O,O,O,O,O,O,O,O,O,O,O,O,O,O,O,O,O,O,O,O,O,O,O,O,O,O]
abbrev yqh:List AG:=[zz6 34 27 1,zz1 27 34]
abbrev yqi:List AG:=[zz1 31 6,zz1 32 8,o 33 (.append 1 t_bool 1 (.t 31) (.t 32)),zz1 6 33]
abbrev yqj:List AG:=[zz5 29 1 25 27,zz2 30 1 29,zz1 8 30]
abbrev yqk:ACode:=(.seq (.reg yqj) (.reg yqi))
abbrev yql:List AG:=[zz7 28 27 26]
abbrev yqm:ACode:=(.seq (.reg yql) (.seq (.cond (.t 28) .skip (.exit 2)) (.seq (.block 3 [] yqk) (.reg yqh))))
abbrev yqn:List AG:=[zz1 25 0,zza 26 25,zz9 27 0]
abbrev yqo:List AG:=[zz1 23 3,o 24 (.call (.f n_slices_Grow_bool_bool) [(.c (.list true 0 [])),(.t 23)]),zz1 6 24]
abbrev yqp:List Bool:=[I,O,O,I,O,O,O,O,O,I,I,I,O,O,O,O,O,O,O,O,O,O,O,O,O,O,O,O,O,O,O,O,O,O,O,O]
abbrev yqq:List Bool:=[I,O,O,I,O,O,O,O,O,O,O,O,O,O,O,O,O,O,O,O,O,O,O,O,O,O,O,O,O,O,O,O,O,O,O,O]
abbrev yqr:List AG:=[zz6 22 11 1,zz1 11 22]
abbrev yqs:List AG:=[o 21 (.mkIface t_string (.c (.str [108,101,110,32,111,117,116,32,111,102,32,114,97,110,103,101]))),q (.panic (.t 21))]
abbrev yqt:List AG:=[zz1 19 3,o 20 (.cmp .lss (.sc .int) (.t 19) (.c (.int .i64 0)))]
abbrev yqu:List AG:=[zz1 15 3,zz1 16 5,zza 17 16,o 18 (.ibin .add (.t 15) (.t 17)),zz1 3 18]
abbrev yqv:List AG:=[zz5 13 1 9 11,zz2 14 1 13,zz1 5 14]
abbrev yqw:ACode:=(.seq (.reg yqv) (.seq (.reg yqu) (.seq (.reg yqt) (.cond (.t 20) (.reg yqs) .skip))))
abbrev yqx:List AG:=[zz7 12 11 10]
abbrev yqy:ACode:=(.seq (.reg yqx) (.seq (.cond (.t 12) .skip (.exit 0)) (.seq (.block 1 [] yqw) (.reg yqr))))
abbrev yqz:List AG:=[zz1 9 0,zza 10 9,zz9 11 0]
abbrev yqA:List AG:=[zz9 3 0]
abbrev yqB:List AG:=[o 2 (.nilrow 1 t_bool)]
abbrev slices_Concat_bool_bool:AFun:=⟨(.seq (.reg yqB) (.seq (.reg yqA) (.seq (.seq (.reg yqz) (.block 0 yqq (.loop yqp yqy))) (.seq (.reg yqo) (.seq (.seq (.reg yqn) (.block 2 yqg (.loop yqf yqm))) (.seq (.reg yqe) .ret)))))),36,[.tmp 2]⟩
abbrev yqC:List It:=[.code (.seq (.reg yqe) .ret)]
abbrev yqD (x6 x25 x26 x27:AV) (h:List Ob) (e:Cx:=cx):Cfg:=atC n_slices_Concat_bool_bool (.code yqm::.inLoop yqf yqm::.inBlock 2 yqg::yqC) [U,U,U,U,U,U,x6,U,U,U,U,U,U,U,U,U,U,U,U,U,U,U,U,U,U,x25,x26,x27,U,U,U,U,U,U,U,U] h e
abbrev yqE:List It:=[.code (.seq (.reg yqo) (.seq (.seq (.reg yqn) (.block 2 yqg (.loop yqf yqm))) (.seq (.reg yqe) .ret)))]
abbrev yqF (x0 x3 x9 x10 x11:AV) (h:List Ob) (e:Cx:=cx):Cfg:=atC n_slices_Concat_bool_bool (.code yqy::.inLoop yqp yqy::.inBlock 0 yqq::yqE) [x0,U,U,x3,U,U,U,U,U,x9,x10,x11,U,U,U,U,U,U,U,U,U,U,U,U,U,U,U,U,U,U,U,U,U,U,U,U] h e
@[simp] theorem c_slices_Concat_bool_bool:cfun Tryz.prog n_slices_Concat_bool_bool=some slices_Concat_bool_bool:=by kernel_rfl
@[simp] theorem e_slices_Concat_bool_bool:hasBody Tryz.prog n_slices_Concat_bool_bool=true:=by kernel_rfl
abbrev yqG:List AG:=[zz1 10 3,o 11 (.cmp .eql (.sc .int) (.t 10) (.c (.int .i64 0))),zz1 2 11]
abbrev yqH:List AG:=[zz3 6 4 1,zzf 7 n_r06_Check 6,zz1 5 7,zzc 8 5 0,zzc 9 5 1,zz1 3 8,zz1 4 9]
abbrev yqI:List AG:=[o 1 (.box 4 (.t 0)),zzh 2]
abbrev r07_right:AFun:=⟨(.seq (.reg yqI) (.seq (.reg yqH) (.seq (.reg yqG) .ret))),12,[.tmp 2]⟩
@[simp] theorem c_r07_right:cfun Tryz.prog n_r07_right=some r07_right:=by kernel_rfl
@[simp] theorem e_r07_right:hasBody Tryz.prog n_r07_right=true:=by kernel_rfl
abbrev yqJ:List AG:=[zzh 6]
abbrev yqK:List Bool:=[O,O,I,I,I,O,O,I,O,O,O,O,O,O,O,O,O,O,O,O,O,O,O,O,O,O,O,O,O,O,O,O,O,O,O,O,O,O,O,O,O,O]
abbrev yqL:List Bool:=[O,O,O,O,O,O,O,O,O,O,O,O,O,O,O,O,O,O,O,O,O,O,O,O,O,O,O,O,O,O,O,O,O,O,O,O,O,O,O,O,O,O]
abbrev yqM:List AG:=[zz1 14 7,zz6 15 14 1,zz1 7 15]
abbrev yqN:List Bool:=[O,O,I,I,I,O,O,I,I,O,O,O,O,O,O,O,O,O,O,O,O,O,O,O,O,O,O,O,O,O,O,O,O,O,O,O,O,O,O,O,O,O]
abbrev yqO:List Bool:=[O,O,I,I,I,O,O,I,O,O,O,O,O,O,O,O,O,O,O,O,O,O,O,O,O,O,O,O,O,O,O,O,O,O,O,O,O,O,O,O,O,O]
abbrev yqP:List AG:=[zz1 21 8,zz6 22 21 1,zz1 8 22]
abbrev yqQ:List AG:=[o 6 (.mv (.c (.bool true)))]
abbrev yqR:ACode:=(.seq (.reg yqQ) .ret)
abbrev yqS:List AG:=[zz4 23 3 3,zz2 24 1 23,zz1 25 8,zz5 26 5 24 25,zz4 27 0 26,zz2 28 1 27,zz4 29 2 4,zz2 30 1 29,zz1 31 7,zz5 32 1 30 31,zz2 33 1 32,o 34 (.cmp .eql (.sc .str) (.t 28) (.t 33)),zz1 35 34,zze 36 35 2,zze 37 35 8,oy 38 35 (.ixAddr 1 (.t 36) (.t 37)),zzd 39 35 1 38,oy 40 35 (.not (.t 39)),zz8 41 35 40]
abbrev yqT:ACode:=(.seq (.dreg [O,O,O,O,O,O,O,O,O,O,O,O,O,O,O,O,O,O,O] [20,20,20,20,20,20,20,20,20,20,20,20,20,20,20,20,20,20,20] yqS) (.cond (.t 41) yqR .skip))
abbrev yqU:List AG:=[zz1 16 8,zz4 17 3 3,zz2 18 1 17,zza 19 18,zz7 20 16 19]
abbrev yqV:ACode:=(.seq (.seq (.reg yqU) (.cond (.t 20) .skip (.exit 2))) (.seq (.block 3 [] yqT) (.reg yqP)))
abbrev yqW:List AG:=[zz9 8 0]
abbrev yqX:ACode:=(.seq (.reg yqW) (.block 2 yqO (.loop yqN yqV)))
abbrev yqY:List AG:=[zz1 9 7,zz4 10 2 4,zz2 11 1 10,zza 12 11,zz7 13 9 12]
abbrev yqZ:ACode:=(.seq (.seq (.reg yqY) (.cond (.t 13) .skip (.exit 0))) (.seq (.block 1 [] yqX) (.reg yqM)))
abbrev yra:List AG:=[zz9 7 0]
abbrev yrb:List AG:=[o 3 (.box 4 (.t 0)),o 4 (.box 5 (.t 1)),zzh 6]
abbrev r07_waits:AFun:=⟨(.seq (.reg yrb) (.seq (.seq (.reg yra) (.block 0 yqL (.loop yqK yqZ))) (.seq (.reg yqJ) .ret))),42,[.tmp 6]⟩
abbrev yrc:List It:=[.inBlock 1 [],.code (.reg yqM),.inLoop yqK yqZ,.inBlock 0 yqL,.code (.seq (.reg yqJ) .ret)]
abbrev yrd (x2 x3 x4 x7 x8:AV) (h:List Ob) (e:Cx:=cx):Cfg:=atC n_r07_waits (.code yqV::.inLoop yqN yqV::.inBlock 2 yqO::yrc) [U,U,x2,x3,x4,U,U,x7,x8,U,U,U,U,U,U,U,U,U,U,U,U,U,U,U,U,U,U,U,U,U,U,U,U,U,U,U,U,U,U,U,U,U] h e
abbrev yre (x2 x3 x4 x7:AV) (h:List Ob) (e:Cx:=cx):Cfg:=atC n_r07_waits yrc [U,U,x2,x3,x4,U,U,x7,U,U,U,U,U,U,U,U,U,U,U,U,U,U,U,U,U,U,U,U,U,U,U,U,U,U,U,U,U,U,U,U,U,U] h e
abbrev yrf:List It:=[.code (.seq (.reg yqJ) .ret)]
abbrev yrg (x2 x3 x4 x7:AV) (h:List Ob) (e:Cx:=cx):Cfg:=atC n_r07_waits (.code yqZ::.inLoop yqK yqZ::.inBlock 0 yqL::yrf) [U,U,x2,x3,x4,U,U,x7,U,U,U,U,U,U,U,U,U,U,U,U,U,U,U,U,U,U,U,U,U,U,U,U,U,U,U,U,U,U,U,U,U,U] h e
@[simp] theorem c_r07_waits:cfun Tryz.prog n_r07_waits=some r07_waits:=by kernel_rfl
@[simp] theorem e_r07_waits:hasBody Tryz.prog n_r07_waits=true:=by kernel_rfl
abbrev yrh:List Bool:=[I,O,I,I,I,O,O,O,O,O,O,I,I,I,O,O,O,O,O,O,O,O,O,O,O,O,O,O,O,O,O,O,O,O,O,O,O,O,O]
abbrev yri:List Bool:=[O,O,O,O,O,O,O,O,O,O,O,O,O,O,O,O,O,O,O,O,O,O,O,O,O,O,O,O,O,O,O,O,O,O,O,O,O,O,O]
abbrev yrj:List AG:=[zz6 38 13 1,zz1 13 38]
abbrev yrk:List AG:=[zz1 37 9,zzb 1 3 37]
abbrev yrl:List AG:=[zz1 28 10,o 29 (.cmp .neq (.sc .int) (.t 28) (.c (.int .i64 0))),zz1 30 29,on 31 30 (.mv (.t 0)),on 32 30 (.mv (.t 8)),on 33 30 (.mv (.t 9)),on 34 30 (.call (.t 31) [(.t 32),(.t 33)]),on 35 30 (.not (.t 34)),o 36 (.pick (.t 30) (.c (.bool true)) (.t 35))]
abbrev yrm:List AG:=[zz2 25 1 4,zz1 26 10,o 27 (.nilck (.t 25)),zzb 1 27 26]
abbrev yrn:List AG:=[zz2 18 1 2,zz2 19 1 3,zz1 20 7,o 21 (.call (.f n_step_machine_step) [(.t 18),(.t 19),(.t 20)]),zz1 17 21,zzc 22 17 0,zzc 23 17 1,zzc 24 17 2,zz1 8 22,zz1 9 23,zz1 10 24]
abbrev yro:List AG:=[zz5 15 1 11 13,zz2 16 1 15,zz1 7 16]
abbrev yrp:ACode:=(.seq (.reg yro) (.seq (.reg yrn) (.seq (.seq (.reg yrm) (.seq (.reg yrl) (.cond (.t 36) .ret .skip))) (.reg yrk))))
abbrev yrq:List AG:=[zz7 14 13 12]
abbrev yrr:ACode:=(.seq (.reg yrq) (.seq (.cond (.t 14) .skip (.exit 0)) (.seq (.block 1 [] yrp) (.reg yrj))))
abbrev yrs:List AG:=[zz2 11 1 1,zza 12 11,zz9 13 0]
abbrev step_machine_steps_1:AFun:=⟨(.seq (.reg yrs) (.block 0 yri (.loop yrh yrr))),39,[]⟩
abbrev yrt:List It:=[]
abbrev yru (x0 x2 x3 x4 x11 x12 x13:AV) (h:List Ob) (e:Cx:=cx):Cfg:=atC n_step_machine_steps_1 (.code yrr::.inLoop yrh yrr::.inBlock 0 yri::yrt) [x0,U,x2,x3,x4,U,U,U,U,U,U,x11,x12,x13,U,U,U,U,U,U,U,U,U,U,U,U,U,U,U,U,U,U,U,U,U,U,U,U,U] h e
@[simp] theorem c_step_machine_steps_1:cfun Tryz.prog n_step_machine_steps_1=some step_machine_steps_1:=by kernel_rfl
@[simp] theorem e_step_machine_steps_1:hasBody Tryz.prog n_step_machine_steps_1=true:=by kernel_rfl
abbrev yrv:List AG:=[q (.store 1 (.t 2) (.c (.int .i64 0))),q (.store 1 (.t 3) (.c (.str [])))]
abbrev yrw:List Bool:=[O,O,I,I,O,O,O,I,O,O,O,O,O,O,O,O,O,O,O,O,O,O,O,O,O,O,O,O,O,O,O,O,O,O,O,O,O,O,O,O,O,O,O,O,O,O,O,O,O,O,O,O,O,O,O,O,O,O,O,O,O,O,O,O,O,O,O,O,O,O,O,O,O,O,O,O,O,O,O,O,O,O,O,O,O,O,O,O,O,O,O,O,I,I,I,O,O,O,O,O,O,O,O,O]
abbrev yrx:List Bool:=[O,O,I,I,O,O,O,O,O,O,O,O,O,O,O,O,O,O,O,O,O,O,O,O,O,O,O,O,O,O,O,O,O,O,O,O,O,O,O,O,O,O,O,O,O,O,O,O,O,O,O,O,O,O,O,O,O,O,O,O,O,O,O,O,O,O,O,O,O,O,O,O,O,O,O,O,O,O,O,O,O,O,O,O,O,O,O,O,O,O,O,O,O,O,O,O,O,O,O,O,O,O,O,O]
abbrev yry:List AG:=[zz6 103 94 1,zz1 94 103]
abbrev yrz:List AG:=[zz1 98 7,zz1 99 13,o 100 (.lookup (.sc .str) (.bool false) (.t 98) (.t 99) false),zz1 101 13,o 102 (.call (.f n_net_need) [(.t 100),(.c (.int .i64 6)),(.t 101)])]
abbrev yrA:List AG:=[zz5 96 1 92 94,zz2 97 1 96,zz1 13 97]
abbrev yrB:ACode:=(.seq (.reg yrA) (.reg yrz))
abbrev yrC:List AG:=[zz7 95 94 93]
abbrev yrD:ACode:=(.seq (.reg yrC) (.seq (.cond (.t 95) .skip (.exit 6)) (.seq (.block 7 [] yrB) (.reg yry))))
abbrev yrE:List AG:=[zz3 91 4 1,zzf 92 n_net_used 91,zza 93 92,zz9 94 0]
abbrev yrF:List Bool:=[O,I,I,I,O,O,O,I,O,O,O,O,O,O,O,O,O,O,O,O,O,O,O,O,O,O,O,O,O,O,O,O,O,O,O,O,O,O,O,O,O,O,O,O,O,O,O,O,O,O,O,O,O,O,O,O,O,O,O,O,O,O,O,O,O,O,O,O,O,O,O,O,O,O,O,O,O,O,O,I,I,I,O,O,O,O,O,O,O,O,O,O,O,O,O,O,O,O,O,O,O,O,O,O]
abbrev yrG:List Bool:=[O,I,I,I,O,O,O,I,O,O,O,O,O,O,O,O,O,O,O,O,O,O,O,O,O,O,O,O,O,O,O,O,O,O,O,O,O,O,O,O,O,O,O,O,O,O,O,O,O,O,O,O,O,O,O,O,O,O,O,O,O,O,O,O,O,O,O,O,O,O,O,O,O,O,O,O,O,O,O,O,O,O,O,O,O,O,O,O,O,O,O,O,O,O,O,O,O,O,O,O,O,O,O,O]
abbrev yrH:List AG:=[zz6 90 81 1,zz1 81 90]
abbrev yrI:List AG:=[zz3 85 5 11,zzf 86 n_net_Gate 85,zz4 87 0 11,zz2 88 1 87,o 89 (.call (.f n_net_need) [(.t 86),(.c (.int .i64 1)),(.t 88)])]
abbrev yrJ:List AG:=[zz5 83 5 79 81,zz3 84 5 83,o 11 (.alloc [(.str []),(.int .i64 0),(.own 1 t_string []),(.own 1 t_string []),(.bool false)]),zzb 5 11 84]
abbrev yrK:ACode:=(.seq (.reg yrJ) (.dreg [O,O,O,I,O] [2,5,5,5,6] yrI))
abbrev yrL:List AG:=[zz7 82 81 80]
abbrev yrM:ACode:=(.seq (.reg yrL) (.seq (.cond (.t 82) .skip (.exit 4)) (.seq (.block 5 [] yrK) (.reg yrH))))
abbrev yrN:List AG:=[zz4 78 3 1,zz2 79 1 78,zza 80 79,zz9 81 0]
abbrev yrO:List Bool:=[O,I,I,I,O,O,O,I,O,O,O,O,O,O,O,O,O,O,O,O,O,O,O,O,O,O,O,O,O,O,O,O,O,O,O,O,O,O,O,O,O,O,O,O,O,O,O,O,O,O,O,O,O,O,O,O,O,O,O,O,I,I,I,O,O,O,O,O,O,O,O,O,O,O,O,O,O,O,O,O,O,O,O,O,O,O,O,O,O,O,O,O,O,O,O,O,O,O,O,O,O,O,O,O]
abbrev yrP:List Bool:=[O,I,I,I,O,O,O,I,O,O,O,O,O,O,O,O,O,O,O,O,O,O,O,O,O,O,O,O,O,O,O,O,O,O,O,O,O,O,O,O,O,O,O,O,O,O,O,O,O,O,O,O,O,O,O,O,O,O,O,O,O,O,O,O,O,O,O,O,O,O,O,O,O,O,O,O,O,O,O,O,O,O,O,O,O,O,O,O,O,O,O,O,O,O,O,O,O,O,O,O,O,O,O,O]
abbrev yrQ:List AG:=[zz6 77 62 1,zz1 62 77]
abbrev yrR:List AG:=[zz4 66 2 9,zz2 67 1 66,o 68 (.cmp .geq (.sc .int) (.t 67) (.c (.int .i64 0))),zz1 69 68,oy 70 69 (.off 2 (.t 9)),zzd 71 69 1 70,oy 72 69 (.cmp .leq (.sc .int) (.t 71) (.c (.int .i64 2))),zz8 73 69 72,zz4 74 0 9,zz2 75 1 74,o 76 (.call (.f n_net_need) [(.t 73),(.c (.int .i64 1)),(.t 75)])]
abbrev yrS:List AG:=[zz5 64 3 60 62,zz3 65 3 64,o 9 (.alloc [(.str []),(.str []),(.int .i64 0)]),zzb 3 9 65]
abbrev yrT:ACode:=(.seq (.reg yrS) (.reg yrR))
abbrev yrU:List AG:=[zz7 63 62 61]
abbrev yrV:ACode:=(.seq (.reg yrU) (.seq (.cond (.t 63) .skip (.exit 2)) (.seq (.block 3 [] yrT) (.reg yrQ))))
abbrev yrW:List AG:=[zz4 59 2 1,zz2 60 1 59,zza 61 60,zz9 62 0]
abbrev yrX:List AG:=[zz4 56 1 1,zz2 57 1 56,zzf 58 n_net_once 57]
abbrev yrY:List AG:=[zz3 53 4 1,zzf 54 n_net_Nets 53,zzf 55 n_net_once 54,zz1 7 55]
abbrev yrZ:List Bool:=[O,I,I,I,O,O,O,O,O,O,O,O,O,O,O,O,O,O,O,O,O,O,O,O,O,O,O,O,O,O,O,O,O,O,O,O,O,O,O,O,O,O,I,I,I,O,O,O,O,O,O,O,O,O,O,O,O,O,O,O,O,O,O,O,O,O,O,O,O,O,O,O,O,O,O,O,O,O,O,O,O,O,O,O,O,O,O,O,O,O,O,O,O,O,O,O,O,O,O,O,O,O,O,O]
abbrev ysa:List Bool:=[O,I,I,I,O,O,O,O,O,O,O,O,O,O,O,O,O,O,O,O,O,O,O,O,O,O,O,O,O,O,O,O,O,O,O,O,O,O,O,O,O,O,O,O,O,O,O,O,O,O,O,O,O,O,O,O,O,O,O,O,O,O,O,O,O,O,O,O,O,O,O,O,O,O,O,O,O,O,O,O,O,O,O,O,O,O,O,O,O,O,O,O,O,O,O,O,O,O,O,O,O,O,O,O]
abbrev ysb:List AG:=[zz6 52 44 1,zz1 44 52]
abbrev ysc:List AG:=[zz1 48 6,zzf 49 n_ident_Name 48,zz1 50 6,o 51 (.call (.f n_net_need) [(.t 49),(.c (.int .i64 4)),(.t 50)])]
abbrev ysd:List AG:=[zz5 46 1 42 44,zz2 47 1 46,zz1 6 47]
abbrev yse:ACode:=(.seq (.reg ysd) (.reg ysc))
abbrev ysf:List AG:=[zz7 45 44 43]
abbrev ysg:ACode:=(.seq (.reg ysf) (.seq (.cond (.t 45) .skip (.exit 0)) (.seq (.block 1 [] yse) (.reg ysb))))
abbrev ysh:List AG:=[zz3 41 4 1,zzf 42 n_net_told 41,zza 43 42,zz9 44 0]
abbrev ysi:List AG:=[zz4 15 0 1,zz2 16 1 15,zza 17 16,zz4 18 2 1,zz2 19 1 18,zza 20 19,o 21 (.ibin .add (.t 17) (.t 20)),zz4 22 3 1,zz2 23 1 22,zza 24 23,o 25 (.ibin .add (.t 21) (.t 24)),o 26 (.cmp .leq (.sc .int) (.t 25) (.c (.int .i64 200))),zz1 27 26,oy 28 27 (.off 1 (.t 1)),zzd 29 27 1 28,oy 30 27 (.len (.t 29)),oy 31 27 (.cmp .leq (.sc .int) (.t 30) (.c (.int .i64 200))),zz8 32 27 31,zz1 33 32,oy 34 33 (.off 3 (.t 1)),zzd 35 33 1 34,zze 36 33 4,oy 37 33 (.call (.f n_slices_ContainsFunc_api_Gate_api_Gate) [(.t 35),(.t 36)]),oy 38 33 (.not (.t 37)),zz8 39 33 38,o 40 (.call (.f n_net_need) [(.t 39),(.c (.int .i64 8)),(.c (.str []))])]
abbrev ysj:List AG:=[o 4 (.mv (.f n_net_Check_2))]
abbrev ysk:List AG:=[o 14 (.mkFunc (.func n_net_Check_1) [] [(.t 2),(.t 3)]),q (.defer (.t 14) [])]
abbrev ysl:List AG:=[o 1 (.box 4 (.t 0)),o 2 (.alloc [(.int .i64 0)]),o 3 (.alloc [(.str [])])]
abbrev net_Check:AFun:=⟨(.seq (.reg ysl) (.seq (.reg ysk) (.seq (.reg ysj) (.seq (.reg ysi) (.seq (.seq (.reg ysh) (.block 0 ysa (.loop yrZ ysg))) (.seq (.reg yrY) (.seq (.reg yrX) (.seq (.seq (.reg yrW) (.block 2 yrP (.loop yrO yrV))) (.seq (.seq (.reg yrN) (.block 4 yrG (.loop yrF yrM))) (.seq (.seq (.reg yrE) (.block 6 yrx (.loop yrw yrD))) (.seq (.reg yrv) .ret))))))))))),104,[.cell 2 false 1,.cell 3 false 1]⟩
abbrev ysm:List It:=[.code (.seq (.reg yrv) .ret)]
abbrev ysn (x2 x3 x7 x92 x93 x94:AV) (h:List Ob) (e:Cx:=cx):Cfg:=atC n_net_Check (.code yrD::.inLoop yrw yrD::.inBlock 6 yrx::ysm) [U,U,x2,x3,U,U,U,x7,U,U,U,U,U,U,U,U,U,U,U,U,U,U,U,U,U,U,U,U,U,U,U,U,U,U,U,U,U,U,U,U,U,U,U,U,U,U,U,U,U,U,U,U,U,U,U,U,U,U,U,U,U,U,U,U,U,U,U,U,U,U,U,U,U,U,U,U,U,U,U,U,U,U,U,U,U,U,U,U,U,U,U,U,x92,x93,x94,U,U,U,U,U,U,U,U,U] h e
abbrev yso:List It:=[.code (.seq (.seq (.reg yrE) (.block 6 yrx (.loop yrw yrD))) (.seq (.reg yrv) .ret))]
abbrev ysp (x1 x2 x3 x7 x79 x80 x81:AV) (h:List Ob) (e:Cx:=cx):Cfg:=atC n_net_Check (.code yrM::.inLoop yrF yrM::.inBlock 4 yrG::yso) [U,x1,x2,x3,U,U,U,x7,U,U,U,U,U,U,U,U,U,U,U,U,U,U,U,U,U,U,U,U,U,U,U,U,U,U,U,U,U,U,U,U,U,U,U,U,U,U,U,U,U,U,U,U,U,U,U,U,U,U,U,U,U,U,U,U,U,U,U,U,U,U,U,U,U,U,U,U,U,U,U,x79,x80,x81,U,U,U,U,U,U,U,U,U,U,U,U,U,U,U,U,U,U,U,U,U,U] h e
abbrev ysq:List It:=[.code (.seq (.seq (.reg yrN) (.block 4 yrG (.loop yrF yrM))) (.seq (.seq (.reg yrE) (.block 6 yrx (.loop yrw yrD))) (.seq (.reg yrv) .ret)))]
abbrev ysr (x1 x2 x3 x7 x60 x61 x62:AV) (h:List Ob) (e:Cx:=cx):Cfg:=atC n_net_Check (.code yrV::.inLoop yrO yrV::.inBlock 2 yrP::ysq) [U,x1,x2,x3,U,U,U,x7,U,U,U,U,U,U,U,U,U,U,U,U,U,U,U,U,U,U,U,U,U,U,U,U,U,U,U,U,U,U,U,U,U,U,U,U,U,U,U,U,U,U,U,U,U,U,U,U,U,U,U,U,x60,x61,x62,U,U,U,U,U,U,U,U,U,U,U,U,U,U,U,U,U,U,U,U,U,U,U,U,U,U,U,U,U,U,U,U,U,U,U,U,U,U,U,U,U] h e
abbrev yss:List It:=[.code (.seq (.reg yrY) (.seq (.reg yrX) (.seq (.seq (.reg yrW) (.block 2 yrP (.loop yrO yrV))) (.seq (.seq (.reg yrN) (.block 4 yrG (.loop yrF yrM))) (.seq (.seq (.reg yrE) (.block 6 yrx (.loop yrw yrD))) (.seq (.reg yrv) .ret))))))]
abbrev yst (x1 x2 x3 x42 x43 x44:AV) (h:List Ob) (e:Cx:=cx):Cfg:=atC n_net_Check (.code ysg::.inLoop yrZ ysg::.inBlock 0 ysa::yss) [U,x1,x2,x3,U,U,U,U,U,U,U,U,U,U,U,U,U,U,U,U,U,U,U,U,U,U,U,U,U,U,U,U,U,U,U,U,U,U,U,U,U,U,x42,x43,x44,U,U,U,U,U,U,U,U,U,U,U,U,U,U,U,U,U,U,U,U,U,U,U,U,U,U,U,U,U,U,U,U,U,U,U,U,U,U,U,U,U,U,U,U,U,U,U,U,U,U,U,U,U,U,U,U,U,U,U] h e
@[simp] theorem c_net_Check:cfun Tryz.prog n_net_Check=some net_Check:=by kernel_rfl
@[simp] theorem e_net_Check:hasBody Tryz.prog n_net_Check=true:=by kernel_rfl
@[simp] theorem e_strings_Trim:hasBody Tryz.prog n_strings_Trim=true:=by kernel_rfl
abbrev ysu:List AG:=[zz9 2 0,o 3 (.mv (.c (.str [])))]
abbrev ysv:List Bool:=[O,O,O,O,O,O,I,O,O,O,O,O,O,I,I,O,O,O,O,O,O,O,O,O,O,O,O,O,O,O,O,O,O,O,O,O,O,O,O,O,O,O,O,O,O,O,O,O,O,O,O,O,O,O,O,O,O,O,O,O,O,O,O,O,O,O,O,O,O,O,O,O,O,O,O,O,O,O,O,O,O,O,O,O,O,O,O,O,O,O,O,O,O,O,O,O,O,O,O,O,O,O,O,O,O,O,O,O,O,O,O,O,O,O,O,O,O,O,O,O]
abbrev ysw:List Bool:=[O,O,O,O,O,O,O,O,O,O,O,O,O,O,O,O,O,O,O,O,O,O,O,O,O,O,O,O,O,O,O,O,O,O,O,O,O,O,O,O,O,O,O,O,O,O,O,O,O,O,O,O,O,O,O,O,O,O,O,O,O,O,O,O,O,O,O,O,O,O,O,O,O,O,O,O,O,O,O,O,O,O,O,O,O,O,O,O,O,O,O,O,O,O,O,O,O,O,O,O,O,O,O,O,O,O,O,O,O,O,O,O,O,O,O,O,O,O,O,O]
abbrev ysx:List AG:=[zz1 107 14,zz6 108 107 1,zz1 14 108]
abbrev ysy:List AG:=[zz1 116 13,zz1 117 14,zz5 118 1 116 117,zz2 119 1 118,zz9 2 6,zz1 3 119]
abbrev ysz:ACode:=(.seq (.dreg [O,O,O,O,O,O] [7,7,7,7,7,7] ysy) .ret)
abbrev ysA:List AG:=[zz1 109 6,zz1 110 13,zz1 111 14,zz5 112 1 110 111,zz2 113 1 112,zzg 114 n_r01_Has 109 113,o 115 (.not (.t 114))]
abbrev ysB:ACode:=(.seq (.reg ysA) (.cond (.t 115) ysz .skip))
abbrev ysC:List AG:=[zz1 103 14,zz1 104 13,zza 105 104,zz7 106 103 105]
abbrev ysD:ACode:=(.seq (.seq (.reg ysC) (.cond (.t 106) .skip (.exit 6))) (.seq (.block 7 [] ysB) (.reg ysx)))
abbrev ysE:List AG:=[zz9 14 0]
abbrev ysF:List AG:=[zz3 101 4 1,zzf 102 n_r06_Used 101,zz1 13 102]
abbrev ysG:List Bool:=[O,I,O,O,O,O,I,O,O,O,O,O,I,O,O,O,O,O,O,O,O,O,O,O,O,O,O,O,O,O,O,O,O,O,O,O,O,O,O,O,O,O,O,O,O,O,O,O,O,O,O,O,O,O,O,O,O,O,O,O,O,O,O,O,O,O,O,O,O,O,O,O,O,O,O,O,O,O,O,O,O,O,O,O,O,O,O,O,O,O,O,O,O,O,O,O,O,O,O,O,O,O,O,O,O,O,O,O,O,O,O,O,O,O,O,O,O,O,O,O]
abbrev ysH:List Bool:=[O,I,O,O,O,O,I,O,O,O,O,O,O,O,O,O,O,O,O,O,O,O,O,O,O,O,O,O,O,O,O,O,O,O,O,O,O,O,O,O,O,O,O,O,O,O,O,O,O,O,O,O,O,O,O,O,O,O,O,O,O,O,O,O,O,O,O,O,O,O,O,O,O,O,O,O,O,O,O,O,O,O,O,O,O,O,O,O,O,O,O,O,O,O,O,O,O,O,O,O,O,O,O,O,O,O,O,O,O,O,O,O,O,O,O,O,O,O,O,O]
abbrev ysI:List AG:=[zz1 86 12,zz6 87 86 1,zz1 12 87]
abbrev ysJ:List AG:=[zz4 95 3 1,zz2 96 1 95,zz1 97 12,zz5 98 5 96 97,zz4 99 0 98,zz2 100 1 99,zz9 2 1,zz1 3 100]
abbrev ysK:ACode:=(.seq (.dreg [O,O,O,O,O,O,O,O] [9,9,9,9,9,9,9,9] ysJ) .ret)
abbrev ysL:List AG:=[zz4 88 3 1,zz2 89 1 88,zz1 90 12,zz5 91 5 89 90,zz3 92 5 91,zzf 93 n_r06_Gate 92,o 94 (.not (.t 93))]
abbrev ysM:ACode:=(.seq (.reg ysL) (.cond (.t 94) ysK .skip))
abbrev ysN:List AG:=[zz1 81 12,zz4 82 3 1,zz2 83 1 82,zza 84 83,zz7 85 81 84]
abbrev ysO:ACode:=(.seq (.seq (.reg ysN) (.cond (.t 85) .skip (.exit 4))) (.seq (.block 5 [] ysM) (.reg ysI)))
abbrev ysP:List AG:=[zz9 12 0]
abbrev ysQ:List Bool:=[O,I,O,O,O,O,I,O,O,O,O,I,O,O,O,O,O,O,O,O,O,O,O,O,O,O,O,O,O,O,O,O,O,O,O,O,O,O,O,O,O,O,O,O,O,O,O,O,O,O,O,O,O,O,O,O,O,O,O,O,O,O,O,O,O,O,O,O,O,O,O,O,O,O,O,O,O,O,O,O,O,O,O,O,O,O,O,O,O,O,O,O,O,O,O,O,O,O,O,O,O,O,O,O,O,O,O,O,O,O,O,O,O,O,O,O,O,O,O,O]
abbrev ysR:List Bool:=[O,I,O,O,O,O,I,O,O,O,O,O,O,O,O,O,O,O,O,O,O,O,O,O,O,O,O,O,O,O,O,O,O,O,O,O,O,O,O,O,O,O,O,O,O,O,O,O,O,O,O,O,O,O,O,O,O,O,O,O,O,O,O,O,O,O,O,O,O,O,O,O,O,O,O,O,O,O,O,O,O,O,O,O,O,O,O,O,O,O,O,O,O,O,O,O,O,O,O,O,O,O,O,O,O,O,O,O,O,O,O,O,O,O,O,O,O,O,O,O]
abbrev ysS:List AG:=[zz1 57 11,zz6 58 57 1,zz1 11 58]
abbrev ysT:List AG:=[zz4 75 2 1,zz2 76 1 75,zz1 77 11,zz5 78 3 76 77,zz4 79 0 78,zz2 80 1 79,zz9 2 1,zz1 3 80]
abbrev ysU:ACode:=(.seq (.dreg [O,O,O,O,O,O,O,O] [9,9,9,9,9,9,9,9] ysT) .ret)
abbrev ysV:List AG:=[zz4 59 2 1,zz2 60 1 59,zz1 61 11,zz5 62 3 60 61,zz4 63 2 62,zz2 64 1 63,o 65 (.cmp .lss (.sc .int) (.t 64) (.c (.int .i64 0))),zz1 66 65,on 67 66 (.off 2 (.t 1)),on 68 66 (.load false 1 (.t 67)),on 69 66 (.mv (.t 11)),on 70 66 (.ixAddr 3 (.t 68) (.t 69)),on 71 66 (.off 2 (.t 70)),on 72 66 (.load false 1 (.t 71)),on 73 66 (.cmp .gtr (.sc .int) (.t 72) (.c (.int .i64 2))),o 74 (.pick (.t 66) (.c (.bool true)) (.t 73))]
abbrev ysW:ACode:=(.seq (.reg ysV) (.cond (.t 74) ysU .skip))
abbrev ysX:List AG:=[zz1 52 11,zz4 53 2 1,zz2 54 1 53,zza 55 54,zz7 56 52 55]
abbrev ysY:ACode:=(.seq (.seq (.reg ysX) (.cond (.t 56) .skip (.exit 2))) (.seq (.block 3 [] ysW) (.reg ysS)))
abbrev ysZ:List AG:=[zz9 11 0]
abbrev yta:List AG:=[zz1 51 9,zz9 2 5,zz1 3 51]
abbrev ytb:ACode:=(.seq (.reg yta) .ret)
abbrev ytc:List AG:=[zz1 50 10]
abbrev ytd:List AG:=[zz4 45 1 1,zz2 46 1 45,zzf 47 n_r06_twice 46,zz1 44 47,zzc 48 44 0,zzc 49 44 1,zz1 9 48,zz1 10 49]
abbrev yte:List AG:=[zz1 43 7,zz9 2 5,zz1 3 43]
abbrev ytf:ACode:=(.seq (.reg yte) .ret)
abbrev ytg:List AG:=[zz1 42 8]
abbrev yth:List AG:=[zz1 38 6,zzf 39 n_r06_twice 38,zz1 37 39,zzc 40 37 0,zzc 41 37 1,zz1 7 40,zz1 8 41]
abbrev yti:List AG:=[zz3 35 4 1,zzf 36 n_r06_Nets 35,zz1 6 36]
abbrev ytj:List Bool:=[O,I,O,O,I,I,O,O,O,O,O,O,O,O,O,O,O,O,O,O,O,O,O,O,O,O,O,O,O,O,O,O,O,O,O,O,O,O,O,O,O,O,O,O,O,O,O,O,O,O,O,O,O,O,O,O,O,O,O,O,O,O,O,O,O,O,O,O,O,O,O,O,O,O,O,O,O,O,O,O,O,O,O,O,O,O,O,O,O,O,O,O,O,O,O,O,O,O,O,O,O,O,O,O,O,O,O,O,O,O,O,O,O,O,O,O,O,O,O,O]
abbrev ytk:List Bool:=[O,I,O,O,O,O,O,O,O,O,O,O,O,O,O,O,O,O,O,O,O,O,O,O,O,O,O,O,O,O,O,O,O,O,O,O,O,O,O,O,O,O,O,O,O,O,O,O,O,O,O,O,O,O,O,O,O,O,O,O,O,O,O,O,O,O,O,O,O,O,O,O,O,O,O,O,O,O,O,O,O,O,O,O,O,O,O,O,O,O,O,O,O,O,O,O,O,O,O,O,O,O,O,O,O,O,O,O,O,O,O,O,O,O,O,O,O,O,O,O]
abbrev ytl:List AG:=[zz1 23 5,zz6 24 23 1,zz1 5 24]
abbrev ytm:List AG:=[zz1 31 4,zz1 32 5,zz5 33 1 31 32,zz2 34 1 33,zz9 2 4,zz1 3 34]
abbrev ytn:ACode:=(.seq (.dreg [O,O,O,O,O,O] [7,7,7,7,7,7] ytm) .ret)
abbrev yto:List AG:=[zz1 25 4,zz1 26 5,zz5 27 1 25 26,zz2 28 1 27,zzf 29 n_r04_Name 28,o 30 (.not (.t 29))]
abbrev ytp:ACode:=(.seq (.reg yto) (.cond (.t 30) ytn .skip))
abbrev ytq:List AG:=[zz1 19 5,zz1 20 4,zza 21 20,zz7 22 19 21]
abbrev ytr:ACode:=(.seq (.seq (.reg ytq) (.cond (.t 22) .skip (.exit 0))) (.seq (.block 1 [] ytp) (.reg ytl)))
abbrev yts:List AG:=[zz9 5 0]
abbrev ytt:List AG:=[zz3 17 4 1,zzf 18 n_r06_Told 17,zz1 4 18]
abbrev ytu:List AG:=[zz9 2 8,o 3 (.mv (.c (.str [])))]
abbrev ytv:ACode:=(.seq (.reg ytu) .ret)
abbrev ytw:List AG:=[zz3 15 4 1,zzf 16 n_r06_limit 15]
abbrev ytx:List AG:=[o 1 (.box 4 (.t 0)),zz9 2 0,o 3 (.mv (.c (.str [])))]
abbrev r06_Check:AFun:=⟨(.seq (.reg ytx) (.seq (.seq (.reg ytw) (.cond (.t 16) ytv .skip)) (.seq (.reg ytt) (.seq (.seq (.reg yts) (.block 0 ytk (.loop ytj ytr))) (.seq (.reg yti) (.seq (.reg yth) (.seq (.seq (.reg ytg) (.cond (.t 42) ytf .skip)) (.seq (.reg ytd) (.seq (.seq (.reg ytc) (.cond (.t 50) ytb .skip)) (.seq (.seq (.reg ysZ) (.block 2 ysR (.loop ysQ ysY))) (.seq (.seq (.reg ysP) (.block 4 ysH (.loop ysG ysO))) (.seq (.reg ysF) (.seq (.seq (.reg ysE) (.block 6 ysw (.loop ysv ysD))) (.seq (.reg ysu) .ret)))))))))))))),120,[.tmp 2,.tmp 3]⟩
abbrev yty:List It:=[.code (.seq (.reg ysu) .ret)]
abbrev ytz (x6 x13 x14:AV) (h:List Ob) (e:Cx:=cx):Cfg:=atC n_r06_Check (.code ysD::.inLoop ysv ysD::.inBlock 6 ysw::yty) [U,U,U,U,U,U,x6,U,U,U,U,U,U,x13,x14,U,U,U,U,U,U,U,U,U,U,U,U,U,U,U,U,U,U,U,U,U,U,U,U,U,U,U,U,U,U,U,U,U,U,U,U,U,U,U,U,U,U,U,U,U,U,U,U,U,U,U,U,U,U,U,U,U,U,U,U,U,U,U,U,U,U,U,U,U,U,U,U,U,U,U,U,U,U,U,U,U,U,U,U,U,U,U,U,U,U,U,U,U,U,U,U,U,U,U,U,U,U,U,U,U] h e
abbrev ytA:List It:=[.code (.seq (.reg ysF) (.seq (.seq (.reg ysE) (.block 6 ysw (.loop ysv ysD))) (.seq (.reg ysu) .ret)))]
abbrev ytB (x1 x6 x12:AV) (h:List Ob) (e:Cx:=cx):Cfg:=atC n_r06_Check (.code ysO::.inLoop ysG ysO::.inBlock 4 ysH::ytA) [U,x1,U,U,U,U,x6,U,U,U,U,U,x12,U,U,U,U,U,U,U,U,U,U,U,U,U,U,U,U,U,U,U,U,U,U,U,U,U,U,U,U,U,U,U,U,U,U,U,U,U,U,U,U,U,U,U,U,U,U,U,U,U,U,U,U,U,U,U,U,U,U,U,U,U,U,U,U,U,U,U,U,U,U,U,U,U,U,U,U,U,U,U,U,U,U,U,U,U,U,U,U,U,U,U,U,U,U,U,U,U,U,U,U,U,U,U,U,U,U,U] h e
abbrev ytC:List It:=[.code (.seq (.seq (.reg ysP) (.block 4 ysH (.loop ysG ysO))) (.seq (.reg ysF) (.seq (.seq (.reg ysE) (.block 6 ysw (.loop ysv ysD))) (.seq (.reg ysu) .ret))))]
abbrev ytD (x1 x6 x11:AV) (h:List Ob) (e:Cx:=cx):Cfg:=atC n_r06_Check (.code ysY::.inLoop ysQ ysY::.inBlock 2 ysR::ytC) [U,x1,U,U,U,U,x6,U,U,U,U,x11,U,U,U,U,U,U,U,U,U,U,U,U,U,U,U,U,U,U,U,U,U,U,U,U,U,U,U,U,U,U,U,U,U,U,U,U,U,U,U,U,U,U,U,U,U,U,U,U,U,U,U,U,U,U,U,U,U,U,U,U,U,U,U,U,U,U,U,U,U,U,U,U,U,U,U,U,U,U,U,U,U,U,U,U,U,U,U,U,U,U,U,U,U,U,U,U,U,U,U,U,U,U,U,U,U,U,U,U] h e
abbrev ytE:List It:=[.code (.seq (.reg yti) (.seq (.reg yth) (.seq (.seq (.reg ytg) (.cond (.t 42) ytf .skip)) (.seq (.reg ytd) (.seq (.seq (.reg ytc) (.cond (.t 50) ytb .skip)) (.seq (.seq (.reg ysZ) (.block 2 ysR (.loop ysQ ysY))) (.seq (.seq (.reg ysP) (.block 4 ysH (.loop ysG ysO))) (.seq (.reg ysF) (.seq (.seq (.reg ysE) (.block 6 ysw (.loop ysv ysD))) (.seq (.reg ysu) .ret))))))))))]
abbrev ytF (x1 x4 x5:AV) (h:List Ob) (e:Cx:=cx):Cfg:=atC n_r06_Check (.code ytr::.inLoop ytj ytr::.inBlock 0 ytk::ytE) [U,x1,U,U,x4,x5,U,U,U,U,U,U,U,U,U,U,U,U,U,U,U,U,U,U,U,U,U,U,U,U,U,U,U,U,U,U,U,U,U,U,U,U,U,U,U,U,U,U,U,U,U,U,U,U,U,U,U,U,U,U,U,U,U,U,U,U,U,U,U,U,U,U,U,U,U,U,U,U,U,U,U,U,U,U,U,U,U,U,U,U,U,U,U,U,U,U,U,U,U,U,U,U,U,U,U,U,U,U,U,U,U,U,U,U,U,U,U,U,U,U] h e
@[simp] theorem c_r06_Check:cfun Tryz.prog n_r06_Check=some r06_Check:=by kernel_rfl
@[simp] theorem e_r06_Check:hasBody Tryz.prog n_r06_Check=true:=by kernel_rfl
abbrev ytG:List AG:=[zz1 20 3,zz1 2 20]
abbrev ytH:List Bool:=[O,O,O,I,O,O,O,O,I,I,I,O,O,O,O,O,O,O,O,O,O]
abbrev ytI:List Bool:=[O,O,O,I,O,O,O,O,O,O,O,O,O,O,O,O,O,O,O,O,O]
abbrev ytJ:List AG:=[zz6 19 10 1,zz1 10 19]
abbrev ytK:List AG:=[zz1 15 3,zz4 16 0 5,zz2 17 1 16,zz1 18 4,q (.upd (.sc .str) (.t 15) (.t 17) (.t 18))]
abbrev ytL:List AG:=[zz1 12 10,zz5 13 5 8 10,zz3 14 5 13,o 5 (.alloc [(.str []),(.int .i64 0),(.own 1 t_string []),(.own 1 t_string []),(.bool false)]),zz1 4 12,zzb 5 5 14]
abbrev ytM:ACode:=(.seq (.reg ytL) (.reg ytK))
abbrev ytN:List AG:=[zz7 11 10 9]
abbrev ytO:ACode:=(.seq (.reg ytN) (.seq (.cond (.t 11) .skip (.exit 0)) (.seq (.block 1 [] ytM) (.reg ytJ))))
abbrev ytP:List AG:=[zz4 7 3 1,zz2 8 1 7,zza 9 8,zz9 10 0]
abbrev ytQ:List AG:=[o 6 (.mkMap),zz1 3 6]
abbrev ytR:List AG:=[o 1 (.box 4 (.t 0)),o 2 (.mv (.c .nilm))]
abbrev order_places:AFun:=⟨(.seq (.reg ytR) (.seq (.reg ytQ) (.seq (.seq (.reg ytP) (.block 0 ytI (.loop ytH ytO))) (.seq (.reg ytG) .ret)))),21,[.tmp 2]⟩
abbrev ytS:List It:=[.code (.seq (.reg ytG) .ret)]
abbrev ytT (x3 x8 x9 x10:AV) (h:List Ob) (e:Cx:=cx):Cfg:=atC n_order_places (.code ytO::.inLoop ytH ytO::.inBlock 0 ytI::ytS) [U,U,U,x3,U,U,U,U,x8,x9,x10,U,U,U,U,U,U,U,U,U,U] h e
@[simp] theorem c_order_places:cfun Tryz.prog n_order_places=some order_places:=by kernel_rfl
@[simp] theorem e_order_places:hasBody Tryz.prog n_order_places=true:=by kernel_rfl
abbrev ytU:List AG:=[o 3 (.mkFunc (.func n_order_coming_1) [] [(.t 1)]),zz1 2 3]
abbrev ytV:List AG:=[o 1 (.box 4 (.t 0)),o 2 (.mv (.c .nilf))]
abbrev order_coming:AFun:=⟨(.seq (.reg ytV) (.seq (.reg ytU) .ret)),4,[.tmp 2]⟩
@[simp] theorem c_order_coming:cfun Tryz.prog n_order_coming=some order_coming:=by kernel_rfl
@[simp] theorem e_order_coming:hasBody Tryz.prog n_order_coming=true:=by kernel_rfl
abbrev ytW:List AG:=[zz1 26 0,zz1 4 26]
abbrev ytX:List AG:=[zz1 17 0,zz1 18 0,o 19 (.cap (.t 18)),o 20 (.slice 1 (.t 17) none (some (.t 19))),zz1 21 1,o 22 (.appendZ 1 t_bool 1 (.bool false) (.t 20) (.t 21)),zz1 23 0,zza 24 23,o 25 (.slice 1 (.t 22) none (some (.t 24))),zz1 0 25]
abbrev ytY:List AG:=[zz1 15 1,o 16 (.cmp .gtr (.sc .int) (.t 15) (.c (.int .i64 0)))]
abbrev ytZ:List AG:=[zz1 8 1,zz1 9 0,o 10 (.cap (.t 9)),zz1 11 0,zza 12 11,o 13 (.ibin .sub (.t 10) (.t 12)),o 14 (.ibin .sub (.t 8) (.t 13)),zz1 1 14]
abbrev yua:List AG:=[o 7 (.mkIface t_string (.c (.str [99,97,110,110,111,116,32,98,101,32,110,101,103,97,116,105,118,101]))),q (.panic (.t 7))]
abbrev yub:List AG:=[zz1 5 1,o 6 (.cmp .lss (.sc .int) (.t 5) (.c (.int .i64 0)))]
abbrev yuc:List AG:=[o 4 (.nilrow 1 t_bool)]
abbrev slices_Grow_bool_bool:AFun:=⟨(.seq (.reg yuc) (.seq (.seq (.reg yub) (.cond (.t 6) (.reg yua) .skip)) (.seq (.seq (.reg ytZ) (.seq (.reg ytY) (.cond (.t 16) (.reg ytX) .skip))) (.seq (.reg ytW) .ret)))),27,[.tmp 4]⟩
@[simp] theorem c_slices_Grow_bool_bool:cfun Tryz.prog n_slices_Grow_bool_bool=some slices_Grow_bool_bool:=by kernel_rfl
@[simp] theorem e_slices_Grow_bool_bool:hasBody Tryz.prog n_slices_Grow_bool_bool=true:=by kernel_rfl
abbrev yud:List AG:=[zz4 10 0 2,zz2 11 1 10,zz4 12 1 2,zz2 13 1 12,zzb 1 0 11,zzb 1 1 13]
abbrev yue:List AG:=[zz1 9 3]
abbrev yuf:List AG:=[o 5 (.recover),o 6 (.tassert (.t 5) t_net_wrong (.agg [(.int .i64 0),(.str [])]) true),zz1 4 6,zzc 7 4 0,zzc 8 4 1,o 2 (.alloc [(.int .i64 0),(.str [])]),zzb 2 2 7,zz1 3 8]
abbrev net_Check_1:AFun:=⟨(.seq (.reg yuf) (.seq (.reg yue) (.cond (.t 9) (.dreg [O,O,O,I,O,O] [5,5,6,6,6,7] yud) .skip))),14,[]⟩
@[simp] theorem c_net_Check_1:cfun Tryz.prog n_net_Check_1=some net_Check_1:=by kernel_rfl
@[simp] theorem e_net_Check_1:hasBody Tryz.prog n_net_Check_1=true:=by kernel_rfl
abbrev yug:List AG:=[zz4 3 2 1,zz2 4 1 3,zza 5 4,o 6 (.cmp .gtr (.sc .int) (.t 5) (.c (.int .i64 8))),zz1 7 6,on 8 7 (.off 3 (.t 1)),on 9 7 (.load false 1 (.t 8)),on 10 7 (.len (.t 9)),on 11 7 (.cmp .gtr (.sc .int) (.t 10) (.c (.int .i64 128))),o 12 (.pick (.t 7) (.c (.bool true)) (.t 11)),zz1 2 12]
abbrev yuh:List AG:=[o 1 (.box 5 (.t 0)),zzh 2]
abbrev net_Check_2:AFun:=⟨(.seq (.reg yuh) (.seq (.reg yug) .ret)),13,[.tmp 2]⟩
@[simp] theorem c_net_Check_2:cfun Tryz.prog n_net_Check_2=some net_Check_2:=by kernel_rfl
@[simp] theorem e_net_Check_2:hasBody Tryz.prog n_net_Check_2=true:=by kernel_rfl
abbrev yui:List AG:=[zz1 8 1,zz1 9 2,o 10 (.build [(.int .i64 0),(.str [])] [(0,1,(.t 8)),(1,1,(.t 9))]),o 11 (.mkIface t_net_wrong (.t 10)),q (.panic (.t 11))]
abbrev yuj:List AG:=[zz1 6 0,o 7 (.not (.t 6))]
abbrev net_need:AFun:=⟨(.seq (.reg yuj) (.cond (.t 7) (.reg yui) .skip)),12,[]⟩
@[simp] theorem c_net_need:cfun Tryz.prog n_net_need=some net_need:=by kernel_rfl
@[simp] theorem e_net_need:hasBody Tryz.prog n_net_need=true:=by kernel_rfl
abbrev yuk:List AG:=[zz1 5 0,zz1 6 1,zzg 7 n_slices_IndexFunc_api_Gate_api_Gate 5 6,o 8 (.cmp .geq (.sc .int) (.t 7) (.c (.int .i64 0))),zz1 4 8]
abbrev yul:List AG:=[zzh 4]
abbrev slices_ContainsFunc_api_Gate_api_Gate:AFun:=⟨(.seq (.reg yul) (.seq (.reg yuk) .ret)),9,[.tmp 4]⟩
@[simp] theorem c_slices_ContainsFunc_api_Gate_api_Gate:cfun Tryz.prog n_slices_ContainsFunc_api_Gate_api_Gate=some slices_ContainsFunc_api_Gate_api_Gate:=by kernel_rfl
@[simp] theorem e_slices_ContainsFunc_api_Gate_api_Gate:hasBody Tryz.prog n_slices_ContainsFunc_api_Gate_api_Gate=true:=by kernel_rfl
abbrev yum:List AG:=[zz1 45 3,zz1 2 45]
abbrev yun:List Bool:=[O,O,O,I,O,O,O,O,O,O,O,O,O,O,O,O,O,O,O,O,O,O,O,O,O,O,O,O,O,O,I,I,I,O,O,O,O,O,O,O,O,O,O,O,O,O]
abbrev yuo:List Bool:=[O,O,O,I,O,O,O,O,O,O,O,O,O,O,O,O,O,O,O,O,O,O,O,O,O,O,O,O,O,O,O,O,O,O,O,O,O,O,O,O,O,O,O,O,O,O]
abbrev yup:List AG:=[zz6 44 32 1,zz1 32 44]
abbrev yuq:List AG:=[zz1 36 3,zz4 37 0 7,zz2 38 1 37,o 39 (.lit 1 [(.str [])] [(0,(.t 38))]),o 40 (.append 1 t_string 16 (.t 36) (.t 39)),zz4 41 2 7,zz2 42 1 41,o 43 (.append 1 t_string 16 (.t 40) (.t 42)),zz1 3 43]
abbrev yur:List AG:=[zz5 34 5 30 32,zz3 35 5 34,o 7 (.alloc [(.str []),(.int .i64 0),(.own 1 t_string []),(.own 1 t_string []),(.bool false)]),zzb 5 7 35]
abbrev yus:ACode:=(.seq (.reg yur) (.dreg [O,O,O,O,O,O,I,O,O] [5,4,4,5,8,8,8,10,10] yuq))
abbrev yut:List AG:=[zz7 33 32 31]
abbrev yuu:ACode:=(.seq (.reg yut) (.seq (.cond (.t 33) .skip (.exit 2)) (.seq (.block 3 [] yus) (.reg yup))))
abbrev yuv:List AG:=[zz4 29 3 1,zz2 30 1 29,zza 31 30,zz9 32 0]
abbrev yuw:List Bool:=[O,I,O,I,O,O,O,O,O,O,O,O,O,O,O,I,I,I,O,O,O,O,O,O,O,O,O,O,O,O,O,O,O,O,O,O,O,O,O,O,O,O,O,O,O,O]
abbrev yux:List Bool:=[O,I,O,I,O,O,O,O,O,O,O,O,O,O,O,O,O,O,O,O,O,O,O,O,O,O,O,O,O,O,O,O,O,O,O,O,O,O,O,O,O,O,O,O,O,O]
abbrev yuy:List AG:=[zz6 28 17 1,zz1 17 28]
abbrev yuz:List AG:=[zz1 21 3,zz4 22 0 5,zz2 23 1 22,zz4 24 1 5,zz2 25 1 24,o 26 (.lit 1 [(.str []),(.str [])] [(0,(.t 23)),(1,(.t 25))]),o 27 (.append 1 t_string 16 (.t 21) (.t 26)),zz1 3 27]
abbrev yuA:List AG:=[zz5 19 3 15 17,zz3 20 3 19,o 5 (.alloc [(.str []),(.str []),(.int .i64 0)]),zzb 3 5 20]
abbrev yuB:ACode:=(.seq (.reg yuA) (.reg yuz))
abbrev yuC:List AG:=[zz7 18 17 16]
abbrev yuD:ACode:=(.seq (.reg yuC) (.seq (.cond (.t 18) .skip (.exit 0)) (.seq (.block 1 [] yuB) (.reg yuy))))
abbrev yuE:List AG:=[zz4 14 2 1,zz2 15 1 14,zza 16 15,zz9 17 0]
abbrev yuF:List AG:=[zz4 8 0 1,zz2 9 1 8,zz4 10 1 1,zz2 11 1 10,o 12 (.lit 1 [(.list true 0 []),(.list true 0 [])] [(0,(.t 9)),(1,(.t 11))]),zzf 13 n_slices_Concat_string_string 12,zz1 3 13]
abbrev yuG:List AG:=[o 1 (.box 4 (.t 0)),o 2 (.nilrow 1 t_string)]
abbrev net_told:AFun:=⟨(.seq (.reg yuG) (.seq (.reg yuF) (.seq (.seq (.reg yuE) (.block 0 yux (.loop yuw yuD))) (.seq (.seq (.reg yuv) (.block 2 yuo (.loop yun yuu))) (.seq (.reg yum) .ret))))),46,[.tmp 2]⟩
abbrev yuH:List It:=[.code (.seq (.reg yum) .ret)]
abbrev yuI (x3 x30 x31 x32:AV) (h:List Ob) (e:Cx:=cx):Cfg:=atC n_net_told (.code yuu::.inLoop yun yuu::.inBlock 2 yuo::yuH) [U,U,U,x3,U,U,U,U,U,U,U,U,U,U,U,U,U,U,U,U,U,U,U,U,U,U,U,U,U,U,x30,x31,x32,U,U,U,U,U,U,U,U,U,U,U,U,U] h e
abbrev yuJ:List It:=[.code (.seq (.seq (.reg yuv) (.block 2 yuo (.loop yun yuu))) (.seq (.reg yum) .ret))]
abbrev yuK (x1 x3 x15 x16 x17:AV) (h:List Ob) (e:Cx:=cx):Cfg:=atC n_net_told (.code yuD::.inLoop yuw yuD::.inBlock 0 yux::yuJ) [U,x1,U,x3,U,U,U,U,U,U,U,U,U,U,U,x15,x16,x17,U,U,U,U,U,U,U,U,U,U,U,U,U,U,U,U,U,U,U,U,U,U,U,U,U,U,U,U] h e
@[simp] theorem c_net_told:cfun Tryz.prog n_net_told=some net_told:=by kernel_rfl
@[simp] theorem e_net_told:hasBody Tryz.prog n_net_told=true:=by kernel_rfl
abbrev yuL:List AG:=[zz1 3 0,zzf 4 n_ident_name_plain 3,zz1 2 4]
abbrev yuM:List AG:=[zzh 2]
abbrev ident_Name:AFun:=⟨(.seq (.reg yuM) (.seq (.reg yuL) .ret)),5,[.tmp 2]⟩
@[simp] theorem c_ident_Name:cfun Tryz.prog n_ident_Name=some ident_Name:=by kernel_rfl
@[simp] theorem e_ident_Name:hasBody Tryz.prog n_ident_Name=true:=by kernel_rfl
abbrev yuN:List AG:=[zz1 22 3,zz1 2 22]
abbrev yuO:List Bool:=[O,O,O,I,O,O,O,I,I,I,O,O,O,O,O,O,O,O,O,O,O,O,O]
abbrev yuP:List Bool:=[O,O,O,I,O,O,O,O,O,O,O,O,O,O,O,O,O,O,O,O,O,O,O]
abbrev yuQ:List AG:=[zz6 21 9 1,zz1 9 21]
abbrev yuR:List AG:=[zz1 19 3,zz1 20 5,q (.upd (.sc .str) (.t 19) (.t 20) (.c (.bool true)))]
abbrev yuS:List AG:=[zz1 13 3,zz1 14 5,o 15 (.lookup (.sc .str) (.bool false) (.t 13) (.t 14) false),o 16 (.not (.t 15)),zz1 17 5,o 18 (.call (.f n_net_need) [(.t 16),(.c (.int .i64 5)),(.t 17)])]
abbrev yuT:List AG:=[zz5 11 1 7 9,zz2 12 1 11,zz1 5 12]
abbrev yuU:ACode:=(.seq (.reg yuT) (.seq (.reg yuS) (.reg yuR)))
abbrev yuV:List AG:=[zz7 10 9 8]
abbrev yuW:ACode:=(.seq (.reg yuV) (.seq (.cond (.t 10) .skip (.exit 0)) (.seq (.block 1 [] yuU) (.reg yuQ))))
abbrev yuX:List AG:=[zz1 7 0,zza 8 7,zz9 9 0]
abbrev yuY:List AG:=[o 6 (.mkMap),zz1 3 6]
abbrev yuZ:List AG:=[o 2 (.mv (.c .nilm))]
abbrev net_once:AFun:=⟨(.seq (.reg yuZ) (.seq (.reg yuY) (.seq (.seq (.reg yuX) (.block 0 yuP (.loop yuO yuW))) (.seq (.reg yuN) .ret)))),23,[.tmp 2]⟩
abbrev yva:List It:=[.code (.seq (.reg yuN) .ret)]
abbrev yvb (x3 x7 x8 x9:AV) (h:List Ob) (e:Cx:=cx):Cfg:=atC n_net_once (.code yuW::.inLoop yuO yuW::.inBlock 0 yuP::yva) [U,U,U,x3,U,U,U,x7,x8,x9,U,U,U,U,U,U,U,U,U,U,U,U,U] h e
@[simp] theorem c_net_once:cfun Tryz.prog n_net_once=some net_once:=by kernel_rfl
@[simp] theorem e_net_once:hasBody Tryz.prog n_net_once=true:=by kernel_rfl
abbrev yvc:List AG:=[zz1 36 3,zz1 2 36]
abbrev yvd:List Bool:=[O,O,O,I,O,O,O,O,O,O,O,O,O,O,O,O,O,O,O,O,O,O,O,O,O,I,I,I,O,O,O,O,O,O,O,O,O]
abbrev yve:List Bool:=[O,O,O,I,O,O,O,O,O,O,O,O,O,O,O,O,O,O,O,O,O,O,O,O,O,O,O,O,O,O,O,O,O,O,O,O,O]
abbrev yvf:List AG:=[zz6 35 27 1,zz1 27 35]
abbrev yvg:List AG:=[zz1 31 3,zz4 32 2 7,zz2 33 1 32,o 34 (.append 1 t_string 16 (.t 31) (.t 33)),zz1 3 34]
abbrev yvh:List AG:=[zz5 29 5 25 27,zz3 30 5 29,o 7 (.alloc [(.str []),(.int .i64 0),(.own 1 t_string []),(.own 1 t_string []),(.bool false)]),zzb 5 7 30]
abbrev yvi:ACode:=(.seq (.reg yvh) (.reg yvg))
abbrev yvj:List AG:=[zz7 28 27 26]
abbrev yvk:ACode:=(.seq (.reg yvj) (.seq (.cond (.t 28) .skip (.exit 2)) (.seq (.block 3 [] yvi) (.reg yvf))))
abbrev yvl:List AG:=[zz4 24 3 1,zz2 25 1 24,zza 26 25,zz9 27 0]
abbrev yvm:List Bool:=[O,I,O,I,O,O,O,O,O,O,O,O,I,I,I,O,O,O,O,O,O,O,O,O,O,O,O,O,O,O,O,O,O,O,O,O,O]
abbrev yvn:List Bool:=[O,I,O,I,O,O,O,O,O,O,O,O,O,O,O,O,O,O,O,O,O,O,O,O,O,O,O,O,O,O,O,O,O,O,O,O,O]
abbrev yvo:List AG:=[zz6 23 14 1,zz1 14 23]
abbrev yvp:List AG:=[zz1 18 3,zz4 19 1 5,zz2 20 1 19,o 21 (.lit 1 [(.str [])] [(0,(.t 20))]),o 22 (.append 1 t_string 16 (.t 18) (.t 21)),zz1 3 22]
abbrev yvq:List AG:=[zz5 16 3 12 14,zz3 17 3 16,o 5 (.alloc [(.str []),(.str []),(.int .i64 0)]),zzb 3 5 17]
abbrev yvr:ACode:=(.seq (.reg yvq) (.reg yvp))
abbrev yvs:List AG:=[zz7 15 14 13]
abbrev yvt:ACode:=(.seq (.reg yvs) (.seq (.cond (.t 15) .skip (.exit 0)) (.seq (.block 1 [] yvr) (.reg yvo))))
abbrev yvu:List AG:=[zz4 11 2 1,zz2 12 1 11,zza 13 12,zz9 14 0]
abbrev yvv:List AG:=[zz4 8 1 1,zz2 9 1 8,zzf 10 n_slices_Clone_string_string 9,zz1 3 10]
abbrev yvw:List AG:=[o 1 (.box 4 (.t 0)),o 2 (.nilrow 1 t_string)]
abbrev net_used:AFun:=⟨(.seq (.reg yvw) (.seq (.reg yvv) (.seq (.seq (.reg yvu) (.block 0 yvn (.loop yvm yvt))) (.seq (.seq (.reg yvl) (.block 2 yve (.loop yvd yvk))) (.seq (.reg yvc) .ret))))),37,[.tmp 2]⟩
abbrev yvx:List It:=[.code (.seq (.reg yvc) .ret)]
abbrev yvy (x3 x25 x26 x27:AV) (h:List Ob) (e:Cx:=cx):Cfg:=atC n_net_used (.code yvk::.inLoop yvd yvk::.inBlock 2 yve::yvx) [U,U,U,x3,U,U,U,U,U,U,U,U,U,U,U,U,U,U,U,U,U,U,U,U,U,x25,x26,x27,U,U,U,U,U,U,U,U,U] h e
abbrev yvz:List It:=[.code (.seq (.seq (.reg yvl) (.block 2 yve (.loop yvd yvk))) (.seq (.reg yvc) .ret))]
abbrev yvA (x1 x3 x12 x13 x14:AV) (h:List Ob) (e:Cx:=cx):Cfg:=atC n_net_used (.code yvt::.inLoop yvm yvt::.inBlock 0 yvn::yvz) [U,x1,U,x3,U,U,U,U,U,U,U,U,x12,x13,x14,U,U,U,U,U,U,U,U,U,U,U,U,U,U,U,U,U,U,U,U,U,U] h e
@[simp] theorem c_net_used:cfun Tryz.prog n_net_used=some net_used:=by kernel_rfl
@[simp] theorem e_net_used:hasBody Tryz.prog n_net_used=true:=by kernel_rfl
abbrev yvB:List AG:=[zz4 29 0 1,zz2 30 1 29,zza 31 30,zz4 32 2 1,zz2 33 1 32,zza 34 33,o 35 (.ibin .add (.t 31) (.t 34)),zz4 36 3 1,zz2 37 1 36,zza 38 37,o 39 (.ibin .add (.t 35) (.t 38)),o 40 (.cmp .gtr (.sc .int) (.t 39) (.c (.int .i64 200))),zz1 41 40,on 42 41 (.off 1 (.t 1)),on 43 41 (.load false 1 (.t 42)),on 44 41 (.len (.t 43)),on 45 41 (.cmp .gtr (.sc .int) (.t 44) (.c (.int .i64 200))),o 46 (.pick (.t 41) (.c (.bool true)) (.t 45)),zz1 2 46]
abbrev yvC:List Bool:=[O,I,O,I,O,O,O,O,O,O,O,O,O,O,O,O,O,O,O,O,O,O,O,O,O,O,O,O,O,O,O,O,O,O,O,O,O,O,O,O,O,O,O,O,O,O,O]
abbrev yvD:List Bool:=[O,I,O,O,O,O,O,O,O,O,O,O,O,O,O,O,O,O,O,O,O,O,O,O,O,O,O,O,O,O,O,O,O,O,O,O,O,O,O,O,O,O,O,O,O,O,O]
abbrev yvE:List AG:=[zz1 9 3,zz6 10 9 1,zz1 3 10]
abbrev yvF:List AG:=[o 2 (.mv (.c (.bool true)))]
abbrev yvG:ACode:=(.seq (.reg yvF) .ret)
abbrev yvH:List AG:=[zz4 11 3 1,zz2 12 1 11,zz1 13 3,zz5 14 5 12 13,zz4 15 2 14,zz2 16 1 15,zza 17 16,o 18 (.cmp .gtr (.sc .int) (.t 17) (.c (.int .i64 8))),zz1 19 18,on 20 19 (.off 3 (.t 1)),on 21 19 (.load false 1 (.t 20)),on 22 19 (.mv (.t 3)),on 23 19 (.ixAddr 5 (.t 21) (.t 22)),on 24 19 (.off 3 (.t 23)),on 25 19 (.load false 1 (.t 24)),on 26 19 (.len (.t 25)),on 27 19 (.cmp .gtr (.sc .int) (.t 26) (.c (.int .i64 128))),o 28 (.pick (.t 19) (.c (.bool true)) (.t 27))]
abbrev yvI:ACode:=(.seq (.reg yvH) (.cond (.t 28) yvG .skip))
abbrev yvJ:List AG:=[zz1 4 3,zz4 5 3 1,zz2 6 1 5,zza 7 6,zz7 8 4 7]
abbrev yvK:ACode:=(.seq (.seq (.reg yvJ) (.cond (.t 8) .skip (.exit 0))) (.seq (.block 1 [] yvI) (.reg yvE)))
abbrev yvL:List AG:=[zz9 3 0]
abbrev yvM:List AG:=[o 1 (.box 4 (.t 0)),zzh 2]
abbrev r06_limit:AFun:=⟨(.seq (.reg yvM) (.seq (.seq (.reg yvL) (.block 0 yvD (.loop yvC yvK))) (.seq (.reg yvB) .ret))),47,[.tmp 2]⟩
abbrev yvN:List It:=[.code (.seq (.reg yvB) .ret)]
abbrev yvO (x1 x3:AV) (h:List Ob) (e:Cx:=cx):Cfg:=atC n_r06_limit (.code yvK::.inLoop yvC yvK::.inBlock 0 yvD::yvN) [U,x1,U,x3,U,U,U,U,U,U,U,U,U,U,U,U,U,U,U,U,U,U,U,U,U,U,U,U,U,U,U,U,U,U,U,U,U,U,U,U,U,U,U,U,U,U,U] h e
@[simp] theorem c_r06_limit:cfun Tryz.prog n_r06_limit=some r06_limit:=by kernel_rfl
@[simp] theorem e_r06_limit:hasBody Tryz.prog n_r06_limit=true:=by kernel_rfl
abbrev yvP:List AG:=[zz1 60 3,zz1 2 60]
abbrev yvQ:List Bool:=[O,I,O,I,O,I,O,O,O,O,O,O,O,O,O,O,O,O,O,O,O,O,O,O,O,O,O,O,O,O,O,O,O,O,O,O,O,O,O,O,O,O,O,O,O,O,O,O,O,O,O,O,O,O,O,O,O,O,O,O,O]
abbrev yvR:List Bool:=[O,O,O,I,O,O,O,O,O,O,O,O,O,O,O,O,O,O,O,O,O,O,O,O,O,O,O,O,O,O,O,O,O,O,O,O,O,O,O,O,O,O,O,O,O,O,O,O,O,O,O,O,O,O,O,O,O,O,O,O,O]
abbrev yvS:List AG:=[zz1 41 5,zz6 42 41 1,zz1 5 42]
abbrev yvT:List AG:=[zz1 52 3,zz4 53 3 1,zz2 54 1 53,zz1 55 5,zz5 56 5 54 55,zz4 57 2 56,zz2 58 1 57,o 59 (.append 1 t_string 16 (.t 52) (.t 58)),zz1 3 59]
abbrev yvU:List AG:=[zz1 43 3,zz4 44 3 1,zz2 45 1 44,zz1 46 5,zz5 47 5 45 46,zz4 48 0 47,zz2 49 1 48,o 50 (.lit 1 [(.str [])] [(0,(.t 49))]),o 51 (.append 1 t_string 16 (.t 43) (.t 50)),zz1 3 51]
abbrev yvV:ACode:=(.seq (.reg yvU) (.reg yvT))
abbrev yvW:List AG:=[zz1 36 5,zz4 37 3 1,zz2 38 1 37,zza 39 38,zz7 40 36 39]
abbrev yvX:ACode:=(.seq (.seq (.reg yvW) (.cond (.t 40) .skip (.exit 2))) (.seq (.block 3 [] yvV) (.reg yvS)))
abbrev yvY:List AG:=[zz9 5 0]
abbrev yvZ:List Bool:=[O,I,O,I,I,O,O,O,O,O,O,O,O,O,O,O,O,O,O,O,O,O,O,O,O,O,O,O,O,O,O,O,O,O,O,O,O,O,O,O,O,O,O,O,O,O,O,O,O,O,O,O,O,O,O,O,O,O,O,O,O]
abbrev ywa:List Bool:=[O,I,O,I,O,O,O,O,O,O,O,O,O,O,O,O,O,O,O,O,O,O,O,O,O,O,O,O,O,O,O,O,O,O,O,O,O,O,O,O,O,O,O,O,O,O,O,O,O,O,O,O,O,O,O,O,O,O,O,O,O]
abbrev ywb:List AG:=[zz1 19 4,zz6 20 19 1,zz1 4 20]
abbrev ywc:List AG:=[zz1 21 3,zz4 22 2 1,zz2 23 1 22,zz1 24 4,zz5 25 3 23 24,zz4 26 0 25,zz2 27 1 26,zz4 28 2 1,zz2 29 1 28,zz1 30 4,zz5 31 3 29 30,zz4 32 1 31,zz2 33 1 32,o 34 (.lit 1 [(.str []),(.str [])] [(0,(.t 27)),(1,(.t 33))]),o 35 (.append 1 t_string 16 (.t 21) (.t 34)),zz1 3 35]
abbrev ywd:List AG:=[zz1 14 4,zz4 15 2 1,zz2 16 1 15,zza 17 16,zz7 18 14 17]
abbrev ywe:ACode:=(.seq (.seq (.reg ywd) (.cond (.t 18) .skip (.exit 0))) (.seq (.block 1 [] (.dreg [O,O,O,O,O,O,O,O,O,O,O,O,O,O,O,O] [15,14,14,14,14,14,14,14,14,14,14,14,14,15,17,17] ywc)) (.reg ywb)))
abbrev ywf:List AG:=[zz9 4 0]
abbrev ywg:List AG:=[zz1 10 3,zz4 11 1 1,zz2 12 1 11,o 13 (.append 1 t_string 16 (.t 10) (.t 12)),zz1 3 13]
abbrev ywh:List AG:=[zz1 6 3,zz4 7 0 1,zz2 8 1 7,o 9 (.append 1 t_string 16 (.t 6) (.t 8)),zz1 3 9]
abbrev ywi:List AG:=[o 3 (.nilrow 1 t_string)]
abbrev ywj:List AG:=[o 1 (.box 4 (.t 0)),o 2 (.nilrow 1 t_string)]
abbrev r06_Told:AFun:=⟨(.seq (.reg ywj) (.seq (.reg ywi) (.seq (.reg ywh) (.seq (.reg ywg) (.seq (.seq (.reg ywf) (.block 0 ywa (.loop yvZ ywe))) (.seq (.seq (.reg yvY) (.block 2 yvR (.loop yvQ yvX))) (.seq (.reg yvP) .ret))))))),61,[.tmp 2]⟩
abbrev ywk:List It:=[.code (.seq (.reg yvP) .ret)]
abbrev ywl (x1 x3 x5:AV) (h:List Ob) (e:Cx:=cx):Cfg:=atC n_r06_Told (.code yvX::.inLoop yvQ yvX::.inBlock 2 yvR::ywk) [U,x1,U,x3,U,x5,U,U,U,U,U,U,U,U,U,U,U,U,U,U,U,U,U,U,U,U,U,U,U,U,U,U,U,U,U,U,U,U,U,U,U,U,U,U,U,U,U,U,U,U,U,U,U,U,U,U,U,U,U,U,U] h e
abbrev ywm:List It:=[.code (.seq (.seq (.reg yvY) (.block 2 yvR (.loop yvQ yvX))) (.seq (.reg yvP) .ret))]
abbrev ywn (x1 x3 x4:AV) (h:List Ob) (e:Cx:=cx):Cfg:=atC n_r06_Told (.code ywe::.inLoop yvZ ywe::.inBlock 0 ywa::ywm) [U,x1,U,x3,x4,U,U,U,U,U,U,U,U,U,U,U,U,U,U,U,U,U,U,U,U,U,U,U,U,U,U,U,U,U,U,U,U,U,U,U,U,U,U,U,U,U,U,U,U,U,U,U,U,U,U,U,U,U,U,U,U] h e
@[simp] theorem c_r06_Told:cfun Tryz.prog n_r06_Told=some r06_Told:=by kernel_rfl
@[simp] theorem e_r06_Told:hasBody Tryz.prog n_r06_Told=true:=by kernel_rfl
abbrev ywo:List AG:=[zz1 20 0,o 21 (.lenStr (.t 20)),o 22 (.cmp .geq (.sc .int) (.t 21) (.c (.int .i64 1))),zz1 23 22,zze 24 23 0,oy 25 23 (.lenStr (.t 24)),oy 26 23 (.cmp .leq (.sc .int) (.t 25) (.c (.int .i64 40))),zz8 27 23 26,zz1 2 27]
abbrev ywp:List Bool:=[I,O,O,I,O,O,O,O,O,O,O,O,O,O,O,O,O,O,O,O,O,O,O,O,O,O,O,O]
abbrev ywq:List Bool:=[I,O,O,O,O,O,O,O,O,O,O,O,O,O,O,O,O,O,O,O,O,O,O,O,O,O,O,O]
abbrev ywr:List AG:=[zz1 8 3,zz6 9 8 1,zz1 3 9]
abbrev yws:List AG:=[zzh 2]
abbrev ywt:ACode:=(.seq (.reg yws) .ret)
abbrev ywu:List AG:=[zz1 10 0,zz1 11 3,o 12 (.ixStr (.t 10) (.t 11)),o 13 (.cmp .lss (.sc .int) (.t 12) (.c (.int .u8 33))),zz1 14 13,on 15 14 (.mv (.t 0)),on 16 14 (.mv (.t 3)),on 17 14 (.ixStr (.t 15) (.t 16)),on 18 14 (.cmp .gtr (.sc .int) (.t 17) (.c (.int .u8 126))),o 19 (.pick (.t 14) (.c (.bool true)) (.t 18))]
abbrev ywv:ACode:=(.seq (.reg ywu) (.cond (.t 19) ywt .skip))
abbrev yww:List AG:=[zz1 4 3,zz1 5 0,o 6 (.lenStr (.t 5)),zz7 7 4 6]
abbrev ywx:ACode:=(.seq (.seq (.reg yww) (.cond (.t 7) .skip (.exit 0))) (.seq (.block 1 [] ywv) (.reg ywr)))
abbrev ywy:List AG:=[zz9 3 0]
abbrev ywz:List AG:=[zzh 2]
abbrev r04_Name:AFun:=⟨(.seq (.reg ywz) (.seq (.seq (.reg ywy) (.block 0 ywq (.loop ywp ywx))) (.seq (.reg ywo) .ret))),28,[.tmp 2]⟩
abbrev ywA:List It:=[.code (.seq (.reg ywo) .ret)]
abbrev ywB (x0 x3:AV) (h:List Ob) (e:Cx:=cx):Cfg:=atC n_r04_Name (.code ywx::.inLoop ywp ywx::.inBlock 0 ywq::ywA) [x0,U,U,x3,U,U,U,U,U,U,U,U,U,U,U,U,U,U,U,U,U,U,U,U,U,U,U,U] h e
@[simp] theorem c_r04_Name:cfun Tryz.prog n_r04_Name=some r04_Name:=by kernel_rfl
@[simp] theorem e_r04_Name:hasBody Tryz.prog n_r04_Name=true:=by kernel_rfl
abbrev ywC:List AG:=[o 2 (.mv (.c (.str []))),zzh 3]
abbrev ywD:List Bool:=[I,O,O,O,I,O,O,O,O,O,O,O,O,O,O,O,O,O,O,O,O,O,O]
abbrev ywE:List Bool:=[O,O,O,O,O,O,O,O,O,O,O,O,O,O,O,O,O,O,O,O,O,O,O]
abbrev ywF:List AG:=[zz1 9 4,zz6 10 9 1,zz1 4 10]
abbrev ywG:List AG:=[zz1 19 0,zz1 20 4,zz5 21 1 19 20,zz2 22 1 21,zz1 2 22,o 3 (.mv (.c (.bool true)))]
abbrev ywH:ACode:=(.seq (.reg ywG) .ret)
abbrev ywI:List AG:=[zz1 11 0,zz1 12 4,o 13 (.slice 1 (.t 11) none (some (.t 12))),zz1 14 0,zz1 15 4,zz5 16 1 14 15,zz2 17 1 16,zzg 18 n_r01_Has 13 17]
abbrev ywJ:ACode:=(.seq (.dreg [O,O,O,O,O,O,O,O] [8,8,8,8,8,8,8,9] ywI) (.cond (.t 18) ywH .skip))
abbrev ywK:List AG:=[zz1 5 4,zz1 6 0,zza 7 6,zz7 8 5 7]
abbrev ywL:ACode:=(.seq (.seq (.reg ywK) (.cond (.t 8) .skip (.exit 0))) (.seq (.block 1 [] ywJ) (.reg ywF)))
abbrev ywM:List AG:=[zz9 4 0]
abbrev ywN:List AG:=[o 2 (.mv (.c (.str []))),zzh 3]
abbrev r06_twice:AFun:=⟨(.seq (.reg ywN) (.seq (.seq (.reg ywM) (.block 0 ywE (.loop ywD ywL))) (.seq (.reg ywC) .ret))),23,[.tmp 2,.tmp 3]⟩
abbrev ywO:List It:=[.code (.seq (.reg ywC) .ret)]
abbrev ywP (x0 x4:AV) (h:List Ob) (e:Cx:=cx):Cfg:=atC n_r06_twice (.code ywL::.inLoop ywD ywL::.inBlock 0 ywE::ywO) [x0,U,U,U,x4,U,U,U,U,U,U,U,U,U,U,U,U,U,U,U,U,U,U] h e
@[simp] theorem c_r06_twice:cfun Tryz.prog n_r06_twice=some r06_twice:=by kernel_rfl
@[simp] theorem e_r06_twice:hasBody Tryz.prog n_r06_twice=true:=by kernel_rfl
abbrev ywQ:List AG:=[zz1 41 3,zz1 2 41]
abbrev ywR:List Bool:=[O,I,O,I,O,I,O,O,O,O,O,O,O,O,O,O,O,O,O,O,O,O,O,O,O,O,O,O,O,O,O,O,O,O,O,O,O,O,O,O,O,O]
abbrev ywS:List Bool:=[O,O,O,I,O,O,O,O,O,O,O,O,O,O,O,O,O,O,O,O,O,O,O,O,O,O,O,O,O,O,O,O,O,O,O,O,O,O,O,O,O,O]
abbrev ywT:List AG:=[zz1 31 5,zz6 32 31 1,zz1 5 32]
abbrev ywU:List AG:=[zz1 33 3,zz4 34 3 1,zz2 35 1 34,zz1 36 5,zz5 37 5 35 36,zz4 38 2 37,zz2 39 1 38,o 40 (.append 1 t_string 16 (.t 33) (.t 39)),zz1 3 40]
abbrev ywV:List AG:=[zz1 26 5,zz4 27 3 1,zz2 28 1 27,zza 29 28,zz7 30 26 29]
abbrev ywW:ACode:=(.seq (.seq (.reg ywV) (.cond (.t 30) .skip (.exit 2))) (.seq (.block 3 [] (.reg ywU)) (.reg ywT)))
abbrev ywX:List AG:=[zz9 5 0]
abbrev ywY:List Bool:=[O,I,O,I,I,O,O,O,O,O,O,O,O,O,O,O,O,O,O,O,O,O,O,O,O,O,O,O,O,O,O,O,O,O,O,O,O,O,O,O,O,O]
abbrev ywZ:List Bool:=[O,I,O,I,O,O,O,O,O,O,O,O,O,O,O,O,O,O,O,O,O,O,O,O,O,O,O,O,O,O,O,O,O,O,O,O,O,O,O,O,O,O]
abbrev yxa:List AG:=[zz1 15 4,zz6 16 15 1,zz1 4 16]
abbrev yxb:List AG:=[zz1 17 3,zz4 18 2 1,zz2 19 1 18,zz1 20 4,zz5 21 3 19 20,zz4 22 1 21,zz2 23 1 22,o 24 (.lit 1 [(.str [])] [(0,(.t 23))]),o 25 (.append 1 t_string 16 (.t 17) (.t 24)),zz1 3 25]
abbrev yxc:List AG:=[zz1 10 4,zz4 11 2 1,zz2 12 1 11,zza 13 12,zz7 14 10 13]
abbrev yxd:ACode:=(.seq (.seq (.reg yxc) (.cond (.t 14) .skip (.exit 0))) (.seq (.block 1 [] (.reg yxb)) (.reg yxa)))
abbrev yxe:List AG:=[zz9 4 0]
abbrev yxf:List AG:=[zz1 6 3,zz4 7 1 1,zz2 8 1 7,o 9 (.append 1 t_string 16 (.t 6) (.t 8)),zz1 3 9]
abbrev yxg:List AG:=[o 3 (.nilrow 1 t_string)]
abbrev yxh:List AG:=[o 1 (.box 4 (.t 0)),o 2 (.nilrow 1 t_string)]
abbrev r06_Used:AFun:=⟨(.seq (.reg yxh) (.seq (.reg yxg) (.seq (.reg yxf) (.seq (.seq (.reg yxe) (.block 0 ywZ (.loop ywY yxd))) (.seq (.seq (.reg ywX) (.block 2 ywS (.loop ywR ywW))) (.seq (.reg ywQ) .ret)))))),42,[.tmp 2]⟩
abbrev yxi:List It:=[.code (.seq (.reg ywQ) .ret)]
abbrev yxj (x1 x3 x5:AV) (h:List Ob) (e:Cx:=cx):Cfg:=atC n_r06_Used (.code ywW::.inLoop ywR ywW::.inBlock 2 ywS::yxi) [U,x1,U,x3,U,x5,U,U,U,U,U,U,U,U,U,U,U,U,U,U,U,U,U,U,U,U,U,U,U,U,U,U,U,U,U,U,U,U,U,U,U,U] h e
abbrev yxk:List It:=[.code (.seq (.seq (.reg ywX) (.block 2 ywS (.loop ywR ywW))) (.seq (.reg ywQ) .ret))]
abbrev yxl (x1 x3 x4:AV) (h:List Ob) (e:Cx:=cx):Cfg:=atC n_r06_Used (.code yxd::.inLoop ywY yxd::.inBlock 0 ywZ::yxk) [U,x1,U,x3,x4,U,U,U,U,U,U,U,U,U,U,U,U,U,U,U,U,U,U,U,U,U,U,U,U,U,U,U,U,U,U,U,U,U,U,U,U,U] h e
@[simp] theorem c_r06_Used:cfun Tryz.prog n_r06_Used=some r06_Used:=by kernel_rfl
@[simp] theorem e_r06_Used:hasBody Tryz.prog n_r06_Used=true:=by kernel_rfl
abbrev yxm:List AG:=[zzh 4]
abbrev yxn:List Bool:=[I,I,O,O,O,I,O,O,O,O,O,O,O,O,O,O,O,O]
abbrev yxo:List Bool:=[O,O,O,O,O,O,O,O,O,O,O,O,O,O,O,O,O,O]
abbrev yxp:List AG:=[zz1 10 5,zz6 11 10 1,zz1 5 11]
abbrev yxq:List AG:=[o 4 (.mv (.c (.bool true)))]
abbrev yxr:ACode:=(.seq (.reg yxq) .ret)
abbrev yxs:List AG:=[zz1 12 0,zz1 13 5,zz5 14 1 12 13,zz2 15 1 14,zz1 16 1,o 17 (.cmp .eql (.sc .str) (.t 15) (.t 16))]
abbrev yxt:ACode:=(.seq (.reg yxs) (.cond (.t 17) yxr .skip))
abbrev yxu:List AG:=[zz1 6 5,zz1 7 0,zza 8 7,zz7 9 6 8]
abbrev yxv:ACode:=(.seq (.seq (.reg yxu) (.cond (.t 9) .skip (.exit 0))) (.seq (.block 1 [] yxt) (.reg yxp)))
abbrev yxw:List AG:=[zz9 5 0]
abbrev yxx:List AG:=[zzh 4]
abbrev r01_Has:AFun:=⟨(.seq (.reg yxx) (.seq (.seq (.reg yxw) (.block 0 yxo (.loop yxn yxv))) (.seq (.reg yxm) .ret))),18,[.tmp 4]⟩
abbrev yxy:List It:=[.code (.seq (.reg yxm) .ret)]
abbrev yxz (x0 x1 x5:AV) (h:List Ob) (e:Cx:=cx):Cfg:=atC n_r01_Has (.code yxv::.inLoop yxn yxv::.inBlock 0 yxo::yxy) [x0,x1,U,U,U,x5,U,U,U,U,U,U,U,U,U,U,U,U] h e
@[simp] theorem c_r01_Has:cfun Tryz.prog n_r01_Has=some r01_Has:=by kernel_rfl
@[simp] theorem e_r01_Has:hasBody Tryz.prog n_r01_Has=true:=by kernel_rfl
abbrev yxA:List Bool:=[I,O,O,I,I,O,O,O,O,O,O,O,O,O,O,O,O,O,O,O,O,O,O,O,O,O,O,O,O,O,O,O,O,O,O,O,O,O,O,O,O,O,O,O,O,O,O,O,O,O,O,O,O,O,O,O,O,O,O,O,O,O,O,O,O,O,O,O,O,O,O,O,O,O]
abbrev yxB:List Bool:=[O,O,O,O,O,O,O,O,O,O,O,O,O,O,O,O,O,O,O,O,O,O,O,O,O,O,O,O,O,O,O,O,O,O,O,O,O,O,O,O,O,O,O,O,O,O,O,O,O,O,O,O,O,O,O,O,O,O,O,O,O,O,O,O,O,O,O,O,O,O,O,O,O,O]
abbrev yxC:List Bool:=[I,O,O,I,I,O,I,O,O,O,O,O,O,O,O,O,O,O,O,O,O,O,O,O,O,O,O,O,O,O,O,O,O,O,O,O,O,O,O,O,O,O,O,O,O,O,O,O,O,I,I,I,O,O,O,O,O,O,O,O,O,O,O,O,O,O,O,O,O,O,O,O,O,O]
abbrev yxD:List Bool:=[I,O,O,I,I,O,O,O,O,O,O,O,O,O,O,O,O,O,O,O,O,O,O,O,O,O,O,O,O,O,O,O,O,O,O,O,O,O,O,O,O,O,O,O,O,O,O,O,O,O,O,O,O,O,O,O,O,O,O,O,O,O,O,O,O,O,O,O,O,O,O,O,O,O]
abbrev yxE:List AG:=[zz6 73 51 1,zz1 51 73]
abbrev yxF:List AG:=[zz1 68 4,o 69 (.mkIface t_order_pile (.t 68)),zz1 70 8,o 71 (.mkIface t_int (.t 70)),zzg 72 n_container_heap_Push 69 71]
abbrev yxG:List AG:=[zz4 61 0 3,zz2 62 1 61,zz1 63 8,zz5 64 1 62 63,zz2 65 1 64,o 66 (.lenMap (.t 65)),o 67 (.cmp .eql (.sc .int) (.t 66) (.c (.int .i64 0)))]
abbrev yxH:List AG:=[zz4 55 0 3,zz2 56 1 55,zz1 57 8,zz5 58 1 56 57,zz2 59 1 58,zz1 60 6,q (.delete (.sc .int) (.t 59) (.t 60))]
abbrev yxI:List AG:=[zz5 53 1 49 51,zz2 54 1 53,zz1 8 54]
abbrev yxJ:ACode:=(.seq (.reg yxI) (.seq (.reg yxH) (.seq (.reg yxG) (.cond (.t 67) (.reg yxF) .skip))))
abbrev yxK:List AG:=[zz7 52 51 50]
abbrev yxL:ACode:=(.seq (.reg yxK) (.seq (.cond (.t 52) .skip (.exit 4)) (.seq (.block 5 [] yxJ) (.reg yxE))))
abbrev yxM:List AG:=[zz4 45 1 3,zz2 46 1 45,zz1 47 6,zz5 48 1 46 47,zz2 49 1 48,zza 50 49,zz9 51 0]
abbrev yxN:List AG:=[zz1 41 0,zz1 42 6,o 43 (.call (.t 41) [(.t 42)]),o 44 (.not (.t 43))]
abbrev yxO:List AG:=[zz1 37 4,o 38 (.mkIface t_order_pile (.t 37)),zzf 39 n_container_heap_Pop 38,o 40 (.tassert (.t 39) t_int (.int .i64 0) false),zz1 6 40]
abbrev yxP:ACode:=(.seq (.reg yxO) (.seq (.seq (.reg yxN) (.cond (.t 44) .ret .skip)) (.seq (.reg yxM) (.block 4 yxD (.loop yxC yxL)))))
abbrev yxQ:List AG:=[zz1 32 4,o 33 (.nilck (.t 32)),zz2 34 1 33,zzf 35 n_order_pile_Len 34,o 36 (.cmp .gtr (.sc .int) (.t 35) (.c (.int .i64 0)))]
abbrev yxR:ACode:=(.seq (.seq (.reg yxQ) (.cond (.t 36) .skip (.exit 2))) (.block 3 [] yxP))
abbrev yxS:List Bool:=[I,O,O,I,I,O,O,O,O,O,O,O,O,O,O,I,I,O,O,O,O,O,O,O,O,O,O,O,O,O,O,O,O,O,O,O,O,O,O,O,O,O,O,O,O,O,O,O,O,O,O,O,O,O,O,O,O,O,O,O,O,O,O,O,O,O,O,O,O,O,O,O,O,O]
abbrev yxT:List Bool:=[I,O,O,I,I,O,O,O,O,O,O,O,O,O,O,O,O,O,O,O,O,O,O,O,O,O,O,O,O,O,O,O,O,O,O,O,O,O,O,O,O,O,O,O,O,O,O,O,O,O,O,O,O,O,O,O,O,O,O,O,O,O,O,O,O,O,O,O,O,O,O,O,O,O]
abbrev yxU:List AG:=[zz6 31 16 1,zz1 16 31]
abbrev yxV:List AG:=[zz1 26 4,o 27 (.mkIface t_order_pile (.t 26)),zz1 28 5,o 29 (.mkIface t_int (.t 28)),zzg 30 n_container_heap_Push 27 29]
abbrev yxW:List AG:=[zz4 19 0 3,zz2 20 1 19,zz1 21 5,zz5 22 1 20 21,zz2 23 1 22,o 24 (.lenMap (.t 23)),o 25 (.cmp .eql (.sc .int) (.t 24) (.c (.int .i64 0)))]
abbrev yxX:List AG:=[zz1 18 16,zz1 5 18]
abbrev yxY:ACode:=(.seq (.reg yxX) (.seq (.reg yxW) (.cond (.t 25) (.reg yxV) .skip)))
abbrev yxZ:List AG:=[zz7 17 16 15]
abbrev yya:ACode:=(.seq (.reg yxZ) (.seq (.cond (.t 17) .skip (.exit 0)) (.seq (.block 1 [] yxY) (.reg yxU))))
abbrev yyb:List AG:=[zz4 13 3 1,zz2 14 1 13,zza 15 14,zz9 16 0]
abbrev yyc:List AG:=[o 11 (.lit 1 [] []),o 12 (.box 1 (.t 11)),zz1 4 12]
abbrev yyd:List AG:=[zz3 9 4 1,zzf 10 n_order_wait 9,o 3 (.alloc [(.own 1 t_map_int_bool_2 []),(.own 1 t_int_2 [])]),zzb 2 3 10]
abbrev order_coming_1:AFun:=⟨(.seq (.reg yyd) (.seq (.reg yyc) (.seq (.seq (.reg yyb) (.block 0 yxT (.loop yxS yya))) (.block 2 yxB (.loop yxA yxR))))),74,[]⟩
abbrev yye:List It:=[.inBlock 3 [],.inLoop yxA yxR,.inBlock 2 yxB]
abbrev yyf (x0 x3 x4 x6 x49 x50 x51:AV) (h:List Ob) (e:Cx:=cx):Cfg:=atC n_order_coming_1 (.code yxL::.inLoop yxC yxL::.inBlock 4 yxD::yye) [x0,U,U,x3,x4,U,x6,U,U,U,U,U,U,U,U,U,U,U,U,U,U,U,U,U,U,U,U,U,U,U,U,U,U,U,U,U,U,U,U,U,U,U,U,U,U,U,U,U,U,x49,x50,x51,U,U,U,U,U,U,U,U,U,U,U,U,U,U,U,U,U,U,U,U,U,U] h e
abbrev yyg (x0 x3 x4:AV) (h:List Ob) (e:Cx:=cx):Cfg:=atC n_order_coming_1 yye [x0,U,U,x3,x4,U,U,U,U,U,U,U,U,U,U,U,U,U,U,U,U,U,U,U,U,U,U,U,U,U,U,U,U,U,U,U,U,U,U,U,U,U,U,U,U,U,U,U,U,U,U,U,U,U,U,U,U,U,U,U,U,U,U,U,U,U,U,U,U,U,U,U,U,U] h e
abbrev yyh:List It:=[]
abbrev yyi (x0 x3 x4:AV) (h:List Ob) (e:Cx:=cx):Cfg:=atC n_order_coming_1 (.code yxR::.inLoop yxA yxR::.inBlock 2 yxB::yyh) [x0,U,U,x3,x4,U,U,U,U,U,U,U,U,U,U,U,U,U,U,U,U,U,U,U,U,U,U,U,U,U,U,U,U,U,U,U,U,U,U,U,U,U,U,U,U,U,U,U,U,U,U,U,U,U,U,U,U,U,U,U,U,U,U,U,U,U,U,U,U,U,U,U,U,U] h e
abbrev yyj:List It:=[.code (.block 2 yxB (.loop yxA yxR))]
abbrev yyk (x0 x3 x4 x15 x16:AV) (h:List Ob) (e:Cx:=cx):Cfg:=atC n_order_coming_1 (.code yya::.inLoop yxS yya::.inBlock 0 yxT::yyj) [x0,U,U,x3,x4,U,U,U,U,U,U,U,U,U,U,x15,x16,U,U,U,U,U,U,U,U,U,U,U,U,U,U,U,U,U,U,U,U,U,U,U,U,U,U,U,U,U,U,U,U,U,U,U,U,U,U,U,U,U,U,U,U,U,U,U,U,U,U,U,U,U,U,U,U,U] h e
abbrev yyl (x0 x3 x4:AV) (h:List Ob) (e:Cx:=cx):Cfg:=atC n_order_coming_1 yyj [x0,U,U,x3,x4,U,U,U,U,U,U,U,U,U,U,U,U,U,U,U,U,U,U,U,U,U,U,U,U,U,U,U,U,U,U,U,U,U,U,U,U,U,U,U,U,U,U,U,U,U,U,U,U,U,U,U,U,U,U,U,U,U,U,U,U,U,U,U,U,U,U,U,U,U] h e
@[simp] theorem c_order_coming_1:cfun Tryz.prog n_order_coming_1=some order_coming_1:=by kernel_rfl
@[simp] theorem e_order_coming_1:hasBody Tryz.prog n_order_coming_1=true:=by kernel_rfl
abbrev yym:List AG:=[zz3 79 2 4,zzb 2 2 79]
abbrev yyn:List Bool:=[O,O,I,I,I,O,O,O,O,O,O,O,O,O,O,O,O,O,O,O,O,O,O,I,I,I,O,O,O,O,O,O,O,O,O,O,O,O,O,O,O,O,O,O,O,O,O,O,O,O,O,O,O,O,O,O,O,O,O,O,O,O,O,O,O,O,O,O,O,O,O,O,O,O,O,O,O,O,O,O]
abbrev yyo:List Bool:=[O,O,I,O,I,O,O,O,O,O,O,O,O,O,O,O,O,O,O,O,O,O,O,O,O,O,O,O,O,O,O,O,O,O,O,O,O,O,O,O,O,O,O,O,O,O,O,O,O,O,O,O,O,O,O,O,O,O,O,O,O,O,O,O,O,O,O,O,O,O,O,O,O,O,O,O,O,O,O,O]
abbrev yyp:List AG:=[zz6 78 25 1,zz1 25 78]
abbrev yyq:List Bool:=[O,O,I,I,I,I,O,O,O,O,O,O,O,O,O,O,O,O,O,O,O,O,O,I,I,I,O,O,O,O,O,O,O,O,O,O,I,I,I,O,O,O,O,O,O,O,O,O,O,O,O,O,O,O,O,O,O,O,O,O,O,O,O,O,O,O,O,O,O,O,O,O,O,O,O,O,O,O,O,O]
abbrev yyr:List Bool:=[O,O,I,I,I,O,O,O,O,O,O,O,O,O,O,O,O,O,O,O,O,O,O,I,I,I,O,O,O,O,O,O,O,O,O,O,O,O,O,O,O,O,O,O,O,O,O,O,O,O,O,O,O,O,O,O,O,O,O,O,O,O,O,O,O,O,O,O,O,O,O,O,O,O,O,O,O,O,O,O]
abbrev yys:List AG:=[zz6 77 38 1,zz1 38 77]
abbrev yyt:List AG:=[zz4 65 1 4,zz2 66 1 65,zz1 67 9,zz4 68 1 4,zz2 69 1 68,zz1 70 9,zz5 71 1 69 70,zz2 72 1 71,zz1 73 5,o 74 (.lit 1 [(.int .i64 0)] [(0,(.t 73))]),o 75 (.append 1 t_int 8 (.t 72) (.t 74)),zz5 76 1 66 67,zzb 1 76 75]
abbrev yyu:List AG:=[zz4 59 0 4,zz2 60 1 59,zz1 61 5,zz5 62 1 60 61,zz2 63 1 62,zz1 64 9,q (.upd (.sc .int) (.t 63) (.t 64) (.c (.bool true)))]
abbrev yyv:ACode:=(.seq (.reg yyu) (.dreg [O,I,O,O,I,O,O,I,O,O,O,O,O] [13,13,13,11,11,11,11,11,10,11,13,13,14] yyt))
abbrev yyw:List AG:=[zz1 48 10,zz1 49 48,oy 50 49 (.off 0 (.t 4)),zzd 51 49 1 50,zze 52 49 5,oy 53 49 (.ixAddr 1 (.t 51) (.t 52)),zzd 54 49 1 53,zze 55 49 9,oy 56 49 (.lookup (.sc .int) (.bool false) (.t 54) (.t 55) false),oy 57 49 (.not (.t 56)),zz8 58 49 57]
abbrev yyx:List AG:=[zz1 43 3,zz1 44 8,o 45 (.lookup (.sc .str) (.int .i64 0) (.t 43) (.t 44) true),zz1 42 45,zzc 46 42 0,zzc 47 42 1,zz1 9 46,zz1 10 47]
abbrev yyy:List AG:=[zz5 40 1 36 38,zz2 41 1 40,zz1 8 41]
abbrev yyz:ACode:=(.seq (.reg yyy) (.seq (.reg yyx) (.seq (.reg yyw) (.cond (.t 58) yyv .skip))))
abbrev yyA:List AG:=[zz7 39 38 37]
abbrev yyB:ACode:=(.seq (.reg yyA) (.seq (.cond (.t 39) .skip (.exit 2)) (.seq (.block 3 [] yyz) (.reg yys))))
abbrev yyC:List AG:=[zz4 35 2 6,zz2 36 1 35,zza 37 36,zz9 38 0]
abbrev yyD:List AG:=[zz4 30 0 4,zz2 31 1 30,zz1 32 5,o 33 (.mkMap),zz5 34 1 31 32,zzb 1 34 33]
abbrev yyE:List AG:=[zz1 27 25,zz5 28 5 23 25,zz3 29 5 28,o 6 (.alloc [(.str []),(.int .i64 0),(.own 1 t_string []),(.own 1 t_string []),(.bool false)]),zz1 5 27,zzb 5 6 29]
abbrev yyF:ACode:=(.seq (.reg yyE) (.seq (.reg yyD) (.seq (.reg yyC) (.block 2 yyr (.loop yyq yyB)))))
abbrev yyG:List AG:=[zz7 26 25 24]
abbrev yyH:ACode:=(.seq (.reg yyG) (.seq (.cond (.t 26) .skip (.exit 0)) (.seq (.block 1 [] yyF) (.reg yyp))))
abbrev yyI:List AG:=[zz4 22 3 1,zz2 23 1 22,zza 24 23,zz9 25 0]
abbrev yyJ:List AG:=[zz4 13 3 1,zz2 14 1 13,zza 15 14,o 16 (.mkSlice 1 t_map_int_bool_2 8 .nilm (.t 15) (.t 15)),zz4 17 3 1,zz2 18 1 17,zza 19 18,o 20 (.mkSlice 1 t_int_2 24 (.list true 0 []) (.t 19) (.t 19)),o 21 (.build [(.list true 0 []),(.list true 0 [])] [(0,1,(.t 16)),(1,1,(.t 20))]),o 4 (.alloc [(.own 1 t_map_int_bool_2 []),(.own 1 t_int_2 [])]),zzb 2 4 21]
abbrev yyK:List AG:=[zz3 11 4 1,zzf 12 n_order_places 11,zz1 3 12]
abbrev yyL:List AG:=[o 1 (.box 4 (.t 0)),o 2 (.alloc [(.own 1 t_map_int_bool_2 []),(.own 1 t_int_2 [])])]
abbrev order_wait:AFun:=⟨(.seq (.reg yyL) (.seq (.reg yyK) (.seq (.oreg [[],[0],[1],[2,2],[],[4],[5],[6,6],[3,7],[],[9,8,0,1,2,3,4,5,6,7,8,9]] yyJ) (.seq (.seq (.reg yyI) (.block 0 yyo (.loop yyn yyH))) (.seq (.reg yym) .ret))))),80,[.cell 2 true 2]⟩
abbrev yyM:List It:=[.inBlock 1 [],.code (.reg yyp),.inLoop yyn yyH,.inBlock 0 yyo,.code (.seq (.reg yym) .ret)]
abbrev yyN (x2 x3 x4 x5 x23 x24 x25 x36 x37 x38:AV) (h:List Ob) (e:Cx:=cx):Cfg:=atC n_order_wait (.code yyB::.inLoop yyq yyB::.inBlock 2 yyr::yyM) [U,U,x2,x3,x4,x5,U,U,U,U,U,U,U,U,U,U,U,U,U,U,U,U,U,x23,x24,x25,U,U,U,U,U,U,U,U,U,U,x36,x37,x38,U,U,U,U,U,U,U,U,U,U,U,U,U,U,U,U,U,U,U,U,U,U,U,U,U,U,U,U,U,U,U,U,U,U,U,U,U,U,U,U,U] h e
abbrev yyO (x2 x3 x4 x23 x24 x25:AV) (h:List Ob) (e:Cx:=cx):Cfg:=atC n_order_wait yyM [U,U,x2,x3,x4,U,U,U,U,U,U,U,U,U,U,U,U,U,U,U,U,U,U,x23,x24,x25,U,U,U,U,U,U,U,U,U,U,U,U,U,U,U,U,U,U,U,U,U,U,U,U,U,U,U,U,U,U,U,U,U,U,U,U,U,U,U,U,U,U,U,U,U,U,U,U,U,U,U,U,U,U] h e
abbrev yyP:List It:=[.code (.seq (.reg yym) .ret)]
abbrev yyQ (x2 x3 x4 x23 x24 x25:AV) (h:List Ob) (e:Cx:=cx):Cfg:=atC n_order_wait (.code yyH::.inLoop yyn yyH::.inBlock 0 yyo::yyP) [U,U,x2,x3,x4,U,U,U,U,U,U,U,U,U,U,U,U,U,U,U,U,U,U,x23,x24,x25,U,U,U,U,U,U,U,U,U,U,U,U,U,U,U,U,U,U,U,U,U,U,U,U,U,U,U,U,U,U,U,U,U,U,U,U,U,U,U,U,U,U,U,U,U,U,U,U,U,U,U,U,U,U] h e
@[simp] theorem c_order_wait:cfun Tryz.prog n_order_wait=some order_wait:=by kernel_rfl
@[simp] theorem e_order_wait:hasBody Tryz.prog n_order_wait=true:=by kernel_rfl
abbrev yyR:List AG:=[zz1 7 0,zz1 8 0,o 9 (.invoke (.t 8) "Len" []),o 10 (.ibin .sub (.t 9) (.c (.int .i64 1))),zzg 11 n_container_heap_up 7 10]
abbrev yyS:List AG:=[zz1 4 0,zz1 5 1,o 6 (.invoke (.t 4) "Push" [(.t 5)])]
abbrev container_heap_Push:AFun:=⟨(.seq (.reg yyS) (.reg yyR)),12,[]⟩
@[simp] theorem c_container_heap_Push:cfun Tryz.prog n_container_heap_Push=some container_heap_Push:=by kernel_rfl
@[simp] theorem e_container_heap_Push:hasBody Tryz.prog n_container_heap_Push=true:=by kernel_rfl
abbrev yyT:List AG:=[zz1 3 0,zza 4 3,zz1 2 4]
abbrev yyU:List AG:=[zz9 2 0]
abbrev order_pile_Len:AFun:=⟨(.seq (.reg yyU) (.seq (.reg yyT) .ret)),5,[.tmp 2]⟩
@[simp] theorem c_order_pile_Len:cfun Tryz.prog n_order_pile_Len=some order_pile_Len:=by kernel_rfl
@[simp] theorem e_order_pile_Len:hasBody Tryz.prog n_order_pile_Len=true:=by kernel_rfl
abbrev yyV:List AG:=[zz1 13 0,o 14 (.invoke (.t 13) "Pop" []),zz1 2 14]
abbrev yyW:List AG:=[zz1 10 0,zz1 11 3,o 12 (.call (.f n_container_heap_down) [(.t 10),(.c (.int .i64 0)),(.t 11)])]
abbrev yyX:List AG:=[zz1 7 0,zz1 8 3,o 9 (.invoke (.t 7) "Swap" [(.c (.int .i64 0)),(.t 8)])]
abbrev yyY:List AG:=[zz1 4 0,o 5 (.invoke (.t 4) "Len" []),o 6 (.ibin .sub (.t 5) (.c (.int .i64 1))),zz1 3 6]
abbrev yyZ:List AG:=[o 2 (.mv (.c .nili))]
abbrev container_heap_Pop:AFun:=⟨(.seq (.reg yyZ) (.seq (.reg yyY) (.seq (.reg yyX) (.seq (.reg yyW) (.seq (.reg yyV) .ret))))),15,[.tmp 2]⟩
@[simp] theorem c_container_heap_Pop:cfun Tryz.prog n_container_heap_Pop=some container_heap_Pop:=by kernel_rfl
@[simp] theorem e_container_heap_Pop:hasBody Tryz.prog n_container_heap_Pop=true:=by kernel_rfl
abbrev yza:List AG:=[o 4 (.mv (.c (.int .i64 (-1))))]
abbrev yzb:List Bool:=[I,I,O,O,O,O,O,I,I,O,O,O,O,O,O,O,O,O,O]
abbrev yzc:List Bool:=[O,O,O,O,O,O,O,O,O,O,O,O,O,O,O,O,O,O,O]
abbrev yzd:List AG:=[zz6 18 8 1,zz1 8 18]
abbrev yze:List AG:=[zz1 17 5,zz1 4 17]
abbrev yzf:ACode:=(.seq (.reg yze) .ret)
abbrev yzg:List AG:=[zz1 11 1,zz1 12 0,zz1 13 5,zz5 14 5 12 13,zz3 15 5 14,o 16 (.call (.t 11) [(.t 15)])]
abbrev yzh:List AG:=[zz1 10 8,zz1 5 10]
abbrev yzi:ACode:=(.seq (.reg yzh) (.seq (.reg yzg) (.cond (.t 16) yzf .skip)))
abbrev yzj:List AG:=[zz7 9 8 7]
abbrev yzk:ACode:=(.seq (.reg yzj) (.seq (.cond (.t 9) .skip (.exit 0)) (.seq (.block 1 [] yzi) (.reg yzd))))
abbrev yzl:List AG:=[zz1 6 0,zza 7 6,zz9 8 0]
abbrev yzm:List AG:=[zz9 4 0]
abbrev slices_IndexFunc_api_Gate_api_Gate:AFun:=⟨(.seq (.reg yzm) (.seq (.seq (.reg yzl) (.block 0 yzc (.loop yzb yzk))) (.seq (.reg yza) .ret))),19,[.tmp 4]⟩
abbrev yzn:List It:=[.code (.seq (.reg yza) .ret)]
abbrev yzo (x0 x1 x7 x8:AV) (h:List Ob) (e:Cx:=cx):Cfg:=atC n_slices_IndexFunc_api_Gate_api_Gate (.code yzk::.inLoop yzb yzk::.inBlock 0 yzc::yzn) [x0,x1,U,U,U,U,U,x7,x8,U,U,U,U,U,U,U,U,U,U] h e
@[simp] theorem c_slices_IndexFunc_api_Gate_api_Gate:cfun Tryz.prog n_slices_IndexFunc_api_Gate_api_Gate=some slices_IndexFunc_api_Gate_api_Gate:=by kernel_rfl
@[simp] theorem e_slices_IndexFunc_api_Gate_api_Gate:hasBody Tryz.prog n_slices_IndexFunc_api_Gate_api_Gate=true:=by kernel_rfl
abbrev yzp:List AG:=[zz1 35 6,zz1 2 35]
abbrev yzq:List Bool:=[O,O,O,O,O,O,I,O,O,O,O,O,O,O,O,O,O,O,O,O,O,O,O,O,O,I,I,I,O,O,O,O,O,O,O,O]
abbrev yzr:List Bool:=[O,O,O,O,O,O,I,O,O,O,O,O,O,O,O,O,O,O,O,O,O,O,O,O,O,O,O,O,O,O,O,O,O,O,O,O]
abbrev yzs:List AG:=[zz6 34 27 1,zz1 27 34]
abbrev yzt:List AG:=[zz1 31 6,zz1 32 8,o 33 (.append 1 t_string 16 (.t 31) (.t 32)),zz1 6 33]
abbrev yzu:List AG:=[zz5 29 1 25 27,zz2 30 1 29,zz1 8 30]
abbrev yzv:ACode:=(.seq (.reg yzu) (.reg yzt))
abbrev yzw:List AG:=[zz7 28 27 26]
abbrev yzx:ACode:=(.seq (.reg yzw) (.seq (.cond (.t 28) .skip (.exit 2)) (.seq (.block 3 [] yzv) (.reg yzs))))
abbrev yzy:List AG:=[zz1 25 0,zza 26 25,zz9 27 0]
abbrev yzz:List AG:=[zz1 23 3,o 24 (.call (.f n_slices_Grow_string_string) [(.c (.list true 0 [])),(.t 23)]),zz1 6 24]
abbrev yzA:List Bool:=[I,O,O,I,O,O,O,O,O,I,I,I,O,O,O,O,O,O,O,O,O,O,O,O,O,O,O,O,O,O,O,O,O,O,O,O]
abbrev yzB:List Bool:=[I,O,O,I,O,O,O,O,O,O,O,O,O,O,O,O,O,O,O,O,O,O,O,O,O,O,O,O,O,O,O,O,O,O,O,O]
abbrev yzC:List AG:=[zz6 22 11 1,zz1 11 22]
abbrev yzD:List AG:=[o 21 (.mkIface t_string (.c (.str [108,101,110,32,111,117,116,32,111,102,32,114,97,110,103,101]))),q (.panic (.t 21))]
abbrev yzE:List AG:=[zz1 19 3,o 20 (.cmp .lss (.sc .int) (.t 19) (.c (.int .i64 0)))]
abbrev yzF:List AG:=[zz1 15 3,zz1 16 5,zza 17 16,o 18 (.ibin .add (.t 15) (.t 17)),zz1 3 18]
abbrev yzG:List AG:=[zz5 13 1 9 11,zz2 14 1 13,zz1 5 14]
abbrev yzH:ACode:=(.seq (.reg yzG) (.seq (.reg yzF) (.seq (.reg yzE) (.cond (.t 20) (.reg yzD) .skip))))
abbrev yzI:List AG:=[zz7 12 11 10]
abbrev yzJ:ACode:=(.seq (.reg yzI) (.seq (.cond (.t 12) .skip (.exit 0)) (.seq (.block 1 [] yzH) (.reg yzC))))
abbrev yzK:List AG:=[zz1 9 0,zza 10 9,zz9 11 0]
abbrev yzL:List AG:=[zz9 3 0]
abbrev yzM:List AG:=[o 2 (.nilrow 1 t_string)]
abbrev slices_Concat_string_string:AFun:=⟨(.seq (.reg yzM) (.seq (.reg yzL) (.seq (.seq (.reg yzK) (.block 0 yzB (.loop yzA yzJ))) (.seq (.reg yzz) (.seq (.seq (.reg yzy) (.block 2 yzr (.loop yzq yzx))) (.seq (.reg yzp) .ret)))))),36,[.tmp 2]⟩
abbrev yzN:List It:=[.code (.seq (.reg yzp) .ret)]
abbrev yzO (x6 x25 x26 x27:AV) (h:List Ob) (e:Cx:=cx):Cfg:=atC n_slices_Concat_string_string (.code yzx::.inLoop yzq yzx::.inBlock 2 yzr::yzN) [U,U,U,U,U,U,x6,U,U,U,U,U,U,U,U,U,U,U,U,U,U,U,U,U,U,x25,x26,x27,U,U,U,U,U,U,U,U] h e
abbrev yzP:List It:=[.code (.seq (.reg yzz) (.seq (.seq (.reg yzy) (.block 2 yzr (.loop yzq yzx))) (.seq (.reg yzp) .ret)))]
abbrev yzQ (x0 x3 x9 x10 x11:AV) (h:List Ob) (e:Cx:=cx):Cfg:=atC n_slices_Concat_string_string (.code yzJ::.inLoop yzA yzJ::.inBlock 0 yzB::yzP) [x0,U,U,x3,U,U,U,U,U,x9,x10,x11,U,U,U,U,U,U,U,U,U,U,U,U,U,U,U,U,U,U,U,U,U,U,U,U] h e
@[simp] theorem c_slices_Concat_string_string:cfun Tryz.prog n_slices_Concat_string_string=some slices_Concat_string_string:=by kernel_rfl
@[simp] theorem e_slices_Concat_string_string:hasBody Tryz.prog n_slices_Concat_string_string=true:=by kernel_rfl
abbrev yzR:List AG:=[zz1 4 0,o 5 (.cmp .neq (.sc .str) (.t 4) (.c (.str []))),zz1 6 5,zze 7 6 0,oy 8 6 (.lenStr (.t 7)),oy 9 6 (.cmp .leq (.sc .int) (.t 8) (.c (.int .i64 40))),zz8 10 6 9,zz1 11 10,zze 12 11 0,zze 13 11 3,oy 14 11 (.call (.f n_strings_IndexFunc) [(.t 12),(.t 13)]),oy 15 11 (.cmp .lss (.sc .int) (.t 14) (.c (.int .i64 0))),zz8 16 11 15,zz1 2 16]
abbrev yzS:List AG:=[o 3 (.mv (.f n_ident_name_plain_1))]
abbrev yzT:List AG:=[zzh 2]
abbrev ident_name_plain:AFun:=⟨(.seq (.reg yzT) (.seq (.reg yzS) (.seq (.reg yzR) .ret))),17,[.tmp 2]⟩
@[simp] theorem c_ident_name_plain:cfun Tryz.prog n_ident_name_plain=some ident_name_plain:=by kernel_rfl
@[simp] theorem e_ident_name_plain:hasBody Tryz.prog n_ident_name_plain=true:=by kernel_rfl
abbrev yzU:List Bool:=[I,I,O,O,O,O,O,O,O,O,O,O,O,O,O,O,O,O,O,O,O,O,O]
abbrev yzV:List Bool:=[O,O,O,O,O,O,O,O,O,O,O,O,O,O,O,O,O,O,O,O,O,O,O]
abbrev yzW:List AG:=[zz1 22 4,zz1 1 22]
abbrev yzX:List AG:=[zz1 18 0,zz1 19 4,zz1 20 1,o 21 (.invoke (.t 18) "Swap" [(.t 19),(.t 20)])]
abbrev yzY:List AG:=[zz1 8 4,zz1 9 1,o 10 (.cmp .eql (.sc .int) (.t 8) (.t 9)),zz1 11 10,on 12 11 (.mv (.t 0)),on 13 11 (.mv (.t 1)),on 14 11 (.mv (.t 4)),on 15 11 (.invoke (.t 12) "Less" [(.t 13),(.t 14)]),on 16 11 (.not (.t 15)),o 17 (.pick (.t 11) (.c (.bool true)) (.t 16))]
abbrev yzZ:List AG:=[zz1 5 1,o 6 (.ibin .sub (.t 5) (.c (.int .i64 1))),o 7 (.ibin .quo (.t 6) (.c (.int .i64 2))),zz1 4 7]
abbrev yAa:ACode:=(.seq (.reg yzZ) (.seq (.seq (.reg yzY) (.cond (.t 17) (.exit 0) .skip)) (.seq (.reg yzX) (.reg yzW))))
abbrev yAb:ACode:=(.block 1 [] yAa)
abbrev container_heap_up:AFun:=⟨(.block 0 yzV (.loop yzU yAb)),23,[]⟩
abbrev yAc:List It:=[]
abbrev yAd (x0 x1:AV) (h:List Ob) (e:Cx:=cx):Cfg:=atC n_container_heap_up (.code yAb::.inLoop yzU yAb::.inBlock 0 yzV::yAc) [x0,x1,U,U,U,U,U,U,U,U,U,U,U,U,U,U,U,U,U,U,U,U,U] h e
@[simp] theorem c_container_heap_up:cfun Tryz.prog n_container_heap_up=some container_heap_up:=by kernel_rfl
@[simp] theorem e_container_heap_up:hasBody Tryz.prog n_container_heap_up=true:=by kernel_rfl
abbrev yAe:List AG:=[zz1 45 7,zz1 46 1,o 47 (.cmp .gtr (.sc .int) (.t 45) (.t 46)),zz1 6 47]
abbrev yAf:List Bool:=[I,I,I,O,O,O,O,I,O,O,O,O,O,O,O,O,O,O,O,O,O,O,O,O,O,O,O,O,O,O,O,O,O,O,O,O,O,O,O,O,O,O,O,O,O,O,O,O]
abbrev yAg:List Bool:=[O,I,O,O,O,O,O,I,O,O,O,O,O,O,O,O,O,O,O,O,O,O,O,O,O,O,O,O,O,O,O,O,O,O,O,O,O,O,O,O,O,O,O,O,O,O,O,O]
abbrev yAh:List AG:=[zz1 44 9,zz1 7 44]
abbrev yAi:List AG:=[zz1 40 0,zz1 41 7,zz1 42 9,o 43 (.invoke (.t 40) "Swap" [(.t 41),(.t 42)])]
abbrev yAj:List AG:=[zz1 35 0,zz1 36 9,zz1 37 7,o 38 (.invoke (.t 35) "Less" [(.t 36),(.t 37)]),o 39 (.not (.t 38))]
abbrev yAk:List AG:=[zz1 34 10,zz1 9 34]
abbrev yAl:List AG:=[zz1 25 10,zz1 26 2,zz7 27 25 26,zz1 28 27,zze 29 28 0,zze 30 28 10,zze 31 28 8,oy 32 28 (.invoke (.t 29) "Less" [(.t 30),(.t 31)]),zz8 33 28 32]
abbrev yAm:List AG:=[zz1 23 8,zz6 24 23 1,zz1 10 24]
abbrev yAn:List AG:=[zz1 22 8,zz1 9 22]
abbrev yAo:List AG:=[zz1 15 8,zz1 16 2,o 17 (.cmp .geq (.sc .int) (.t 15) (.t 16)),zz1 18 17,on 19 18 (.mv (.t 8)),on 20 18 (.cmp .lss (.sc .int) (.t 19) (.c (.int .i64 0))),o 21 (.pick (.t 18) (.c (.bool true)) (.t 20))]
abbrev yAp:List AG:=[zz1 12 7,o 13 (.ibin .mul (.c (.int .i64 2)) (.t 12)),zz6 14 13 1,zz1 8 14]
abbrev yAq:ACode:=(.seq (.reg yAp) (.seq (.seq (.reg yAo) (.cond (.t 21) (.exit 0) .skip)) (.seq (.reg yAn) (.seq (.seq (.reg yAm) (.seq (.reg yAl) (.cond (.t 33) (.reg yAk) .skip))) (.seq (.seq (.reg yAj) (.cond (.t 39) (.exit 0) .skip)) (.seq (.reg yAi) (.reg yAh)))))))
abbrev yAr:ACode:=(.block 1 [] yAq)
abbrev yAs:List AG:=[zz1 11 1,zz1 7 11]
abbrev yAt:List AG:=[zzh 6]
abbrev container_heap_down:AFun:=⟨(.seq (.reg yAt) (.seq (.reg yAs) (.seq (.block 0 yAg (.loop yAf yAr)) (.seq (.reg yAe) .ret)))),48,[.tmp 6]⟩
abbrev yAu:List It:=[.code (.seq (.reg yAe) .ret)]
abbrev yAv (x0 x1 x2 x7:AV) (h:List Ob) (e:Cx:=cx):Cfg:=atC n_container_heap_down (.code yAr::.inLoop yAf yAr::.inBlock 0 yAg::yAu) [x0,x1,x2,U,U,U,U,x7,U,U,U,U,U,U,U,U,U,U,U,U,U,U,U,U,U,U,U,U,U,U,U,U,U,U,U,U,U,U,U,U,U,U,U,U,U,U,U,U] h e
@[simp] theorem c_container_heap_down:cfun Tryz.prog n_container_heap_down=some container_heap_down:=by kernel_rfl
@[simp] theorem e_container_heap_down:hasBody Tryz.prog n_container_heap_down=true:=by kernel_rfl
abbrev yAw:List AG:=[zz1 26 0,zz1 4 26]
abbrev yAx:List AG:=[zz1 17 0,zz1 18 0,o 19 (.cap (.t 18)),o 20 (.slice 1 (.t 17) none (some (.t 19))),zz1 21 1,o 22 (.appendZ 1 t_string 16 (.str []) (.t 20) (.t 21)),zz1 23 0,zza 24 23,o 25 (.slice 1 (.t 22) none (some (.t 24))),zz1 0 25]
abbrev yAy:List AG:=[zz1 15 1,o 16 (.cmp .gtr (.sc .int) (.t 15) (.c (.int .i64 0)))]
abbrev yAz:List AG:=[zz1 8 1,zz1 9 0,o 10 (.cap (.t 9)),zz1 11 0,zza 12 11,o 13 (.ibin .sub (.t 10) (.t 12)),o 14 (.ibin .sub (.t 8) (.t 13)),zz1 1 14]
abbrev yAA:List AG:=[o 7 (.mkIface t_string (.c (.str [99,97,110,110,111,116,32,98,101,32,110,101,103,97,116,105,118,101]))),q (.panic (.t 7))]
abbrev yAB:List AG:=[zz1 5 1,o 6 (.cmp .lss (.sc .int) (.t 5) (.c (.int .i64 0)))]
abbrev yAC:List AG:=[o 4 (.nilrow 1 t_string)]
abbrev slices_Grow_string_string:AFun:=⟨(.seq (.reg yAC) (.seq (.seq (.reg yAB) (.cond (.t 6) (.reg yAA) .skip)) (.seq (.seq (.reg yAz) (.seq (.reg yAy) (.cond (.t 16) (.reg yAx) .skip))) (.seq (.reg yAw) .ret)))),27,[.tmp 4]⟩
@[simp] theorem c_slices_Grow_string_string:cfun Tryz.prog n_slices_Grow_string_string=some slices_Grow_string_string:=by kernel_rfl
@[simp] theorem e_slices_Grow_string_string:hasBody Tryz.prog n_slices_Grow_string_string=true:=by kernel_rfl
abbrev yAD:List AG:=[zz1 3 0,o 4 (.cmp .leq (.sc .int) (.t 3) (.c (.int .i32 32))),zz1 5 4,on 6 5 (.mv (.t 0)),on 7 5 (.cmp .gtr (.sc .int) (.t 6) (.c (.int .i32 126))),o 8 (.pick (.t 5) (.c (.bool true)) (.t 7)),zz1 2 8]
abbrev yAE:List AG:=[zzh 2]
abbrev ident_name_plain_1:AFun:=⟨(.seq (.reg yAE) (.seq (.reg yAD) .ret)),9,[.tmp 2]⟩
@[simp] theorem c_ident_name_plain_1:cfun Tryz.prog n_ident_name_plain_1=some ident_name_plain_1:=by kernel_rfl
@[simp] theorem e_ident_name_plain_1:hasBody Tryz.prog n_ident_name_plain_1=true:=by kernel_rfl
abbrev yAF:List AG:=[zz1 5 0,zz1 6 1,o 7 (.call (.f n_strings_indexFunc) [(.t 5),(.t 6),(.c (.bool true))]),zz1 4 7]
abbrev yAG:List AG:=[zz9 4 0]
abbrev strings_IndexFunc:AFun:=⟨(.seq (.reg yAG) (.seq (.reg yAF) .ret)),8,[.tmp 4]⟩
@[simp] theorem c_strings_IndexFunc:cfun Tryz.prog n_strings_IndexFunc=some strings_IndexFunc:=by kernel_rfl
@[simp] theorem e_strings_IndexFunc:hasBody Tryz.prog n_strings_IndexFunc=true:=by kernel_rfl
abbrev yAH:List AG:=[o 6 (.mv (.c (.int .i64 (-1))))]
abbrev yAI:List Bool:=[O,I,I,O,O,O,O,O,O,O,I,O,O,O,O,O,O,O,O,O,O]
abbrev yAJ:List Bool:=[O,O,O,O,O,O,O,O,O,O,O,O,O,O,O,O,O,O,O,O,O]
abbrev yAK:List AG:=[zz1 20 7,zz1 6 20]
abbrev yAL:ACode:=(.seq (.reg yAK) .ret)
abbrev yAM:List AG:=[zz1 15 1,zz1 16 8,o 17 (.call (.t 15) [(.t 16)]),zz1 18 2,o 19 (.cmp .eql (.sc .bool) (.t 17) (.t 18))]
abbrev yAN:List AG:=[zzc 13 11 1,zzc 14 11 2,zz1 7 13,zz1 8 14]
abbrev yAO:ACode:=(.seq (.reg yAN) (.seq (.reg yAM) (.cond (.t 19) yAL .skip)))
abbrev yAP:List AG:=[o 11 (.next (.t 10)),zzc 12 11 0]
abbrev yAQ:ACode:=(.seq (.reg yAP) (.seq (.cond (.t 12) .skip (.exit 0)) (.block 1 [] yAO)))
abbrev yAR:List AG:=[zz1 9 0,o 10 (.range (.t 9))]
abbrev yAS:List AG:=[zz9 6 0]
abbrev strings_indexFunc:AFun:=⟨(.seq (.reg yAS) (.seq (.seq (.reg yAR) (.block 0 yAJ (.loop yAI yAQ))) (.seq (.reg yAH) .ret))),21,[.tmp 6]⟩
abbrev yAT:List It:=[.code (.seq (.reg yAH) .ret)]
abbrev yAU (x1 x2 x10:AV) (h:List Ob) (e:Cx:=cx):Cfg:=atC n_strings_indexFunc (.code yAQ::.inLoop yAI yAQ::.inBlock 0 yAJ::yAT) [U,x1,x2,U,U,U,U,U,U,U,x10,U,U,U,U,U,U,U,U,U,U] h e
@[simp] theorem c_strings_indexFunc:cfun Tryz.prog n_strings_indexFunc=some strings_indexFunc:=by kernel_rfl
@[simp] theorem e_strings_indexFunc:hasBody Tryz.prog n_strings_indexFunc=true:=by kernel_rfl
abbrev yAV:List AG:=[zz1 7 0,zz1 8 1,zz5 9 1 7 8,zz2 10 1 9,zz1 11 0,zz1 12 2,zz5 13 1 11 12,zz2 14 1 13,zz7 15 10 14,zz1 6 15]
abbrev yAW:List AG:=[zzh 6]
abbrev order_pile_Less:AFun:=⟨(.seq (.reg yAW) (.seq (.dreg [O,O,O,O,O,O,O,O,O,O] [11,11,11,11,11,11,11,11,11,11] yAV) .ret)),16,[.tmp 6]⟩
@[simp] theorem c_order_pile_Less:cfun Tryz.prog n_order_pile_Less=some order_pile_Less:=by kernel_rfl
@[simp] theorem e_order_pile_Less:hasBody Tryz.prog n_order_pile_Less=true:=by kernel_rfl
abbrev yAX:List AG:=[zz1 25 3,o 26 (.mkIface t_int (.t 25)),zz1 2 26]
abbrev yAY:List AG:=[zz1 14 0,zz1 15 0,o 16 (.nilck (.t 15)),zz2 17 1 16,zz1 18 0,o 19 (.nilck (.t 18)),zz2 20 1 19,zza 21 20,o 22 (.ibin .sub (.t 21) (.c (.int .i64 1))),o 23 (.slice 1 (.t 17) none (some (.t 22))),o 24 (.nilck (.t 14)),zzb 1 24 23]
abbrev yAZ:List AG:=[zz1 4 0,o 5 (.nilck (.t 4)),zz2 6 1 5,zz1 7 0,o 8 (.nilck (.t 7)),zz2 9 1 8,zza 10 9,o 11 (.ibin .sub (.t 10) (.c (.int .i64 1))),zz5 12 1 6 11,zz2 13 1 12,zz1 3 13]
abbrev yBa:List AG:=[o 2 (.mv (.c .nili))]
abbrev order_pile_Pop:AFun:=⟨(.seq (.reg yBa) (.seq (.dreg [O,O,O,O,O,O,O,O,O,O,O] [12,12,12,12,12,12,12,12,12,12,12] yAZ) (.seq (.dreg [O,O,O,O,O,O,O,O,O,O,O,O] [12,12,12,12,12,12,12,12,12,12,12,13] yAY) (.seq (.reg yAX) .ret)))),27,[.tmp 2]⟩
@[simp] theorem c_order_pile_Pop:cfun Tryz.prog n_order_pile_Pop=some order_pile_Pop:=by kernel_rfl
@[simp] theorem e_order_pile_Pop:hasBody Tryz.prog n_order_pile_Pop=true:=by kernel_rfl
abbrev yBb:List AG:=[zz1 4 0,zz1 5 0,o 6 (.nilck (.t 5)),zz2 7 1 6,zz1 8 1,o 9 (.tassert (.t 8) t_int (.int .i64 0) false),o 10 (.lit 1 [(.int .i64 0)] [(0,(.t 9))]),o 11 (.append 1 t_int 8 (.t 7) (.t 10)),o 12 (.nilck (.t 4)),zzb 1 12 11]
abbrev order_pile_Push:AFun:=⟨(.dreg [O,O,O,I,O,O,O,O,O,O] [10,8,8,8,7,7,8,10,10,11] yBb),13,[]⟩
@[simp] theorem c_order_pile_Push:cfun Tryz.prog n_order_pile_Push=some order_pile_Push:=by kernel_rfl
@[simp] theorem e_order_pile_Push:hasBody Tryz.prog n_order_pile_Push=true:=by kernel_rfl
abbrev yBc:List AG:=[zz1 6 0,zz1 7 1,zz1 8 0,zz1 9 2,zz1 10 0,zz1 11 2,zz5 12 1 10 11,zz2 13 1 12,zz1 14 0,zz1 15 1,zz5 16 1 14 15,zz2 17 1 16,zz5 18 1 6 7,zzb 1 18 13,zz5 19 1 8 9,zzb 1 19 17]
abbrev order_pile_Swap:AFun:=⟨(.dreg [O,O,O,O,O,O,O,O,O,O,O,O,O,O,O,O] [14,14,16,16,14,14,14,14,14,14,14,14,14,16,16,17] yBc),20,[]⟩
@[simp] theorem c_order_pile_Swap:cfun Tryz.prog n_order_pile_Swap=some order_pile_Swap:=by kernel_rfl
@[simp] theorem e_order_pile_Swap:hasBody Tryz.prog n_order_pile_Swap=true:=by kernel_rfl
end Go.Proofs.YtpinapmcemimcaaGreatDoor
