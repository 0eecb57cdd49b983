/- The functions, as the abstract machine has them. Printed by a program. -/
import Derived.Test.YtpinapmcemimcaaGreatDoorAMd
import Derived.Test.YtpinapmcemimcaaGreatDoorChecked
import Derived.KernelRfl
set_option linter.unusedSimpArgs false
set_option linter.unusedVariables false
namespace Go.Proofs.YtpinapmcemimcaaGreatDoor
open Go.AM Go.Proofs
abbrev zz1 (d i:Nat):AG:=o d (.mv (.t i))
abbrev zz2 (d k i:Nat):AG:=o d (.load false k (.t i))
abbrev zz3 (d k i:Nat):AG:=o d (.load true k (.t i))
abbrev zz4 (d k i:Nat):AG:=o d (.off k (.t i))
abbrev zz5 (d k i j:Nat):AG:=o d (.ixAddr k (.t i) (.t j))
abbrev zz6 (d i:Nat) (n:Int):AG:=o d (.ibin .add (.t i) (.c (.int .i64 n)))
abbrev zz7 (d i j:Nat):AG:=o d (.cmp .lss (.sc .int) (.t i) (.t j))
abbrev zz8 (d i j:Nat):AG:=o d (.pick (.t i) (.t j) (.c (.bool false)))
abbrev zz9 (d:Nat) (n:Int):AG:=o d (.mv (.c (.int .i64 n)))
abbrev zza (d i:Nat):AG:=o d (.len (.t i))
abbrev zzb (k a x:Nat):AG:=q (.store k (.t a) (.t x))
abbrev zzc (d i k:Nat):AG:=o d (.extract (.t i) k)
abbrev zzd (d j k i:Nat):AG:=oy d j (.load false k (.t i))
abbrev zze (d j i:Nat):AG:=oy d j (.mv (.t i))
abbrev zzf (d:Nat) (f:FuncId) (i:Nat):AG:=o d (.call (.f f) [(.t i)])
abbrev zzg (d:Nat) (f:FuncId) (i j:Nat):AG:=o d (.call (.f f) [(.t i),(.t j)])
abbrev zzh (d:Nat):AG:=o d (.mv (.c (.bool false)))
abbrev n_w08_StepTells:FuncId:=4
abbrev n_w08_StepRuns:FuncId:=5
abbrev n_w08_works:FuncId:=8
abbrev n_w06_FewGate:FuncId:=9
abbrev n_step_Gate:FuncId:=10
abbrev n_r08_Gate:FuncId:=11
abbrev n_w07_Little:FuncId:=12
abbrev n_step_Start:FuncId:=13
abbrev n_r08_Start:FuncId:=14
abbrev n_step_Values:FuncId:=15
abbrev n_r08_Values:FuncId:=16
abbrev n_step_Step:FuncId:=17
abbrev n_r08_Step:FuncId:=18
abbrev n_r08_Allowed:FuncId:=19
abbrev n_r08_Bools:FuncId:=20
abbrev n_step_Allowed:FuncId:=21
abbrev n_w08_Rows:FuncId:=22
abbrev n_step_Run:FuncId:=23
abbrev n_r08_Run:FuncId:=24
abbrev n_r08_Rows:FuncId:=25
abbrev n_w06_Few:FuncId:=26
abbrev n_r06_Place:FuncId:=28
abbrev n_w05_Texts:FuncId:=30
abbrev n_net_Gate:FuncId:=31
abbrev n_step_of:FuncId:=32
abbrev n_step_Gate_1:FuncId:=33
abbrev n_slices_ContainsFunc_string_string:FuncId:=34
abbrev n_step_Gate_1_1:FuncId:=35
abbrev n_step_fits:FuncId:=36
abbrev n_r06_Gate:FuncId:=37
abbrev n_r06_Rows:FuncId:=38
abbrev n_r08_fits:FuncId:=39
abbrev n_step_right:FuncId:=40
abbrev n_r08_right:FuncId:=41
abbrev n_step_begin:FuncId:=42
abbrev n_step_machine_values:FuncId:=43
abbrev n_step_pick:FuncId:=44
abbrev n_r07_Sort:FuncId:=45
abbrev n_step_machine_step:FuncId:=46
abbrev n_step_machine_steps:FuncId:=47
abbrev n_slices_Clone_bool_bool:FuncId:=48
abbrev n_order_right:FuncId:=49
abbrev n_slices_Clone_string_string:FuncId:=51
abbrev n_r06_Nets:FuncId:=53
abbrev n_net_has:FuncId:=54
abbrev n_net_rows:FuncId:=55
abbrev n_net_Gate_1:FuncId:=57
abbrev n_net_row:FuncId:=58
abbrev n_step_of_1:FuncId:=59
abbrev n_step_of_2:FuncId:=60
abbrev n_step_count:FuncId:=61
abbrev n_step_of_3:FuncId:=62
abbrev n_step_of_4:FuncId:=63
abbrev n_slices_IndexFunc_string_string:FuncId:=64
abbrev n_r06_row:FuncId:=65
abbrev n_r06_all:FuncId:=66
abbrev n_r06_odd:FuncId:=67
abbrev n_order_Check:FuncId:=68
abbrev n_r07_Check:FuncId:=69
abbrev n_order_Sort:FuncId:=70
abbrev n_net_Nets:FuncId:=71
abbrev n_slices_Concat_bool_bool:FuncId:=72
abbrev n_r07_right:FuncId:=73
abbrev n_r07_waits:FuncId:=74
abbrev n_step_machine_steps_1:FuncId:=75
abbrev n_net_Check:FuncId:=76
abbrev n_strings_Trim:FuncId:=80
abbrev n_r06_Check:FuncId:=81
abbrev n_order_places:FuncId:=82
abbrev n_order_coming:FuncId:=83
abbrev n_slices_Grow_bool_bool:FuncId:=84
abbrev n_net_Check_1:FuncId:=85
abbrev n_net_Check_2:FuncId:=86
abbrev n_net_need:FuncId:=87
abbrev n_slices_ContainsFunc_api_Gate_api_Gate:FuncId:=88
abbrev n_net_told:FuncId:=89
abbrev n_ident_Name:FuncId:=90
abbrev n_net_once:FuncId:=91
abbrev n_net_used:FuncId:=92
abbrev n_r06_limit:FuncId:=108
abbrev n_r06_Told:FuncId:=109
abbrev n_r04_Name:FuncId:=110
abbrev n_r06_twice:FuncId:=111
abbrev n_r06_Used:FuncId:=112
abbrev n_r01_Has:FuncId:=113
abbrev n_order_coming_1:FuncId:=114
abbrev n_order_wait:FuncId:=115
abbrev n_container_heap_Push:FuncId:=116
abbrev n_order_pile_Len:FuncId:=117
abbrev n_container_heap_Pop:FuncId:=118
abbrev n_slices_IndexFunc_api_Gate_api_Gate:FuncId:=119
abbrev n_slices_Concat_string_string:FuncId:=120
abbrev n_ident_name_plain:FuncId:=121
abbrev n_container_heap_up:FuncId:=133
abbrev n_container_heap_down:FuncId:=134
abbrev n_slices_Grow_string_string:FuncId:=135
abbrev n_ident_name_plain_1:FuncId:=136
abbrev n_strings_IndexFunc:FuncId:=137
abbrev n_strings_indexFunc:FuncId:=143
abbrev n_order_pile_Less:FuncId:=168
abbrev n_order_pile_Pop:FuncId:=169
abbrev n_order_pile_Push:FuncId:=170
abbrev n_order_pile_Swap:FuncId:=171
abbrev t_int:TypeId:=3
abbrev t_bool:TypeId:=4
abbrev t_string:TypeId:=9
abbrev t_api_Gate:TypeId:=25
abbrev t_bool_2:TypeId:=26
abbrev t_api_Latch_2:TypeId:=55
abbrev t_int_2:TypeId:=75
abbrev t_net_wrong:TypeId:=118
abbrev t_order_pile:TypeId:=153
@[simp] theorem m_order_pile_Push:cmeth Tryz.prog t_order_pile "Push" = some (n_order_pile_Push,none):=by kernel_rfl
@[simp] theorem m_order_pile_Len:cmeth Tryz.prog t_order_pile "Len" = some (n_order_pile_Len,some (false,1)):=by kernel_rfl
@[simp] theorem m_order_pile_Swap:cmeth Tryz.prog t_order_pile "Swap" = some (n_order_pile_Swap,some (false,1)):=by kernel_rfl
@[simp] theorem m_order_pile_Pop:cmeth Tryz.prog t_order_pile "Pop" = some (n_order_pile_Pop,none):=by kernel_rfl
@[simp] theorem m_order_pile_Less:cmeth Tryz.prog t_order_pile "Less" = some (n_order_pile_Less,some (false,1)):=by kernel_rfl
abbrev t_order_pile_2:TypeId:=154
@[simp] theorem m_order_pile_2_Len:cmeth Tryz.prog t_order_pile_2 "Len" = some (n_order_pile_Len,none):=by kernel_rfl
@[simp] theorem m_order_pile_2_Swap:cmeth Tryz.prog t_order_pile_2 "Swap" = some (n_order_pile_Swap,none):=by kernel_rfl
@[simp] theorem m_order_pile_2_Less:cmeth Tryz.prog t_order_pile_2 "Less" = some (n_order_pile_Less,none):=by kernel_rfl
abbrev t_map_int_bool_2:TypeId:=155
abbrev ya:List AG:=[zz1 94 9,zz1 95 94,zze 96 95 11,zze 97 95 13,oy 98 95 (.call (.f n_r08_Bools) [(.t 96),(.t 97)]),zz8 99 95 98,zz1 100 99,zze 101 100 12,zze 102 100 14,oy 103 100 (.cmp .eql (.sc .int) (.t 101) (.t 102)),zz8 104 100 103,zz1 105 104,zze 106 105 15,zze 107 105 17,oy 108 105 (.call (.f n_r08_Bools) [(.t 106),(.t 107)]),zz8 109 105 108,zz1 110 109,zze 111 110 16,zze 112 110 18,oy 113 110 (.cmp .eql (.sc .int) (.t 111) (.t 112)),zz8 114 110 113,zz1 115 114,zze 116 115 19,zze 117 115 22,oy 118 115 (.call (.f n_r08_Bools) [(.t 116),(.t 117)]),zz8 119 115 118,zz1 120 119,zze 121 120 20,zze 122 120 23,oy 123 120 (.call (.f n_r08_Bools) [(.t 121),(.t 122)]),zz8 124 120 123,zz1 125 124,zze 126 125 21,zze 127 125 24,oy 128 125 (.cmp .eql (.sc .int) (.t 126) (.t 127)),zz8 129 125 128,zz1 130 129,oy 131 130 (.load true 4 (.t 4)),zze 132 130 1,oy 133 130 (.call (.f n_step_Allowed) [(.t 131),(.t 132)]),zze 134 130 25,oy 135 130 (.cmp .eql (.sc .bool) (.t 133) (.t 134)),zz8 136 130 135,zz1 8 136]
abbrev yd:List AG:=[zz3 91 4 4,zz1 92 1,zzg 93 n_r08_Allowed 91 92,zz1 25 93]
abbrev ye:List AG:=[zz3 84 4 4,zz1 85 1,zz1 86 2,o 87 (.call (.f n_r08_Step) [(.t 84),(.t 85),(.t 86)]),zz1 83 87,zzc 88 83 0,zzc 89 83 1,zzc 90 83 2,zz1 22 88,zz1 23 89,zz1 24 90]
abbrev yf:List AG:=[zz3 76 4 4,zz1 77 1,zz1 78 2,o 79 (.call (.f n_step_Step) [(.t 76),(.t 77),(.t 78)]),zz1 75 79,zzc 80 75 0,zzc 81 75 1,zzc 82 75 2,zz1 19 80,zz1 20 81,zz1 21 82]
abbrev yg:List AG:=[zz3 69 4 4,zz1 70 1,zz1 71 2,o 72 (.call (.f n_r08_Values) [(.t 69),(.t 70),(.t 71)]),zz1 68 72,zzc 73 68 0,zzc 74 68 1,zz1 17 73,zz1 18 74]
abbrev yh:List AG:=[zz3 62 4 4,zz1 63 1,zz1 64 2,o 65 (.call (.f n_step_Values) [(.t 62),(.t 63),(.t 64)]),zz1 61 65,zzc 66 61 0,zzc 67 61 1,zz1 15 66,zz1 16 67]
abbrev yi:List AG:=[zz3 56 4 4,zz1 57 3,zzg 58 n_r08_Start 56 57,zz1 55 58,zzc 59 55 0,zzc 60 55 1,zz1 13 59,zz1 14 60]
abbrev yj:List AG:=[zz3 50 4 4,zz1 51 3,zzg 52 n_step_Start 50 51,zz1 49 52,zzc 53 49 0,zzc 54 49 1,zz1 11 53,zz1 12 54]
abbrev yk:List AG:=[zz1 48 9,zz1 8 48]
abbrev ym:ACode:=(.seq (.reg yk) .ret)
abbrev yo:List AG:=[zz1 31 10,o 32 (.not (.t 31)),zz1 33 32,on 34 33 (.mv (.t 1)),on 35 33 (.len (.t 34)),on 36 33 (.cmp .gtr (.sc .int) (.t 35) (.c (.int .i64 60))),o 37 (.pick (.t 33) (.c (.bool true)) (.t 36)),zz1 38 37,on 39 38 (.mv (.t 2)),on 40 38 (.len (.t 39)),on 41 38 (.cmp .gtr (.sc .int) (.t 40) (.c (.int .i64 60))),o 42 (.pick (.t 38) (.c (.bool true)) (.t 41)),zz1 43 42,on 44 43 (.mv (.t 3)),on 45 43 (.len (.t 44)),on 46 43 (.cmp .gtr (.sc .int) (.t 45) (.c (.int .i64 60))),o 47 (.pick (.t 43) (.c (.bool true)) (.t 46))]
abbrev yp:List AG:=[zz3 29 4 4,zzf 30 n_w07_Little 29,zz1 10 30]
abbrev yq:List AG:=[zzh 8]
abbrev yr:ACode:=(.seq (.reg yq) .ret)
abbrev yu:List AG:=[zz1 27 9,o 28 (.not (.t 27))]
abbrev yv:List AG:=[o 26 (.call (.f n_w08_works) []),zz1 9 26]
abbrev yw:List AG:=[o 4 (.box 4 (.t 0)),zzh 8]
abbrev w08_StepTells:AFun:=⟨(.seq (.reg yw) (.seq (.reg yv) (.seq (.seq (.reg yu) (.cond (.t 28) yr .skip)) (.seq (.reg yp) (.seq (.seq (.reg yo) (.cond (.t 47) ym .skip)) (.seq (.reg yj) (.seq (.reg yi) (.seq (.reg yh) (.seq (.reg yg) (.seq (.reg yf) (.seq (.reg ye) (.seq (.reg yd) (.seq (.reg ya) .ret))))))))))))),137,[.tmp 8]⟩
@[simp] theorem c_w08_StepTells:cfun Tryz.prog n_w08_StepTells=some w08_StepTells:=by kernel_rfl
@[simp] theorem e_w08_StepTells:hasBody Tryz.prog n_w08_StepTells=true:=by kernel_rfl
abbrev yx:List AG:=[zz1 59 7,zz1 60 59,zze 61 60 9,zze 62 60 12,oy 63 60 (.call (.f n_r08_Rows) [(.t 61),(.t 62)]),zz8 64 60 63,zz1 65 64,zze 66 65 10,zze 67 65 13,oy 68 65 (.call (.f n_r08_Bools) [(.t 66),(.t 67)]),zz8 69 65 68,zz1 70 69,zze 71 70 11,zze 72 70 14,oy 73 70 (.cmp .eql (.sc .int) (.t 71) (.t 72)),zz8 74 70 73,zz1 6 74]
abbrev yy:List AG:=[zz3 52 4 3,zz1 53 1,zz1 54 2,o 55 (.call (.f n_r08_Run) [(.t 52),(.t 53),(.t 54)]),zz1 51 55,zzc 56 51 0,zzc 57 51 1,zzc 58 51 2,zz1 12 56,zz1 13 57,zz1 14 58]
abbrev yz:List AG:=[zz3 44 4 3,zz1 45 1,zz1 46 2,o 47 (.call (.f n_step_Run) [(.t 44),(.t 45),(.t 46)]),zz1 43 47,zzc 48 43 0,zzc 49 43 1,zzc 50 43 2,zz1 9 48,zz1 10 49,zz1 11 50]
abbrev yA:List AG:=[zz1 42 7,zz1 6 42]
abbrev yB:ACode:=(.seq (.reg yA) .ret)
abbrev yC:List AG:=[zz1 24 8,o 25 (.not (.t 24)),zz1 26 25,on 27 26 (.mv (.t 1)),on 28 26 (.len (.t 27)),on 29 26 (.cmp .gtr (.sc .int) (.t 28) (.c (.int .i64 60))),o 30 (.pick (.t 26) (.c (.bool true)) (.t 29)),zz1 31 30,on 32 31 (.mv (.t 2)),on 33 31 (.len (.t 32)),on 34 31 (.cmp .gtr (.sc .int) (.t 33) (.c (.int .i64 6))),on 35 31 (.mv (.t 34)),oy 36 35 (.off 3 (.t 3)),zzd 37 35 1 36,oy 38 35 (.len (.t 37)),oy 39 35 (.cmp .gtr (.sc .int) (.t 38) (.c (.int .i64 12))),on 40 31 (.pick (.t 35) (.t 39) (.c (.bool false))),o 41 (.pick (.t 31) (.c (.bool true)) (.t 40))]
abbrev yD:List AG:=[zz3 18 4 3,zzf 19 n_w07_Little 18,zz1 20 19,zze 21 20 2,oy 22 20 (.call (.f n_w08_Rows) [(.t 21),(.c (.int .i64 45))]),zz8 23 20 22,zz1 8 23]
abbrev yE:List AG:=[zzh 6]
abbrev yF:ACode:=(.seq (.reg yE) .ret)
abbrev yG:List AG:=[zz1 16 7,o 17 (.not (.t 16))]
abbrev yH:List AG:=[o 15 (.call (.f n_w08_works) []),zz1 7 15]
abbrev yI:List AG:=[o 3 (.box 4 (.t 0)),zzh 6]
abbrev w08_StepRuns:AFun:=⟨(.seq (.reg yI) (.seq (.reg yH) (.seq (.seq (.reg yG) (.cond (.t 17) yF .skip)) (.seq (.reg yD) (.seq (.seq (.reg yC) (.cond (.t 41) yB .skip)) (.seq (.reg yz) (.seq (.reg yy) (.seq (.reg yx) .ret)))))))),75,[.tmp 6]⟩
@[simp] theorem c_w08_StepRuns:cfun Tryz.prog n_w08_StepRuns=some w08_StepRuns:=by kernel_rfl
@[simp] theorem e_w08_StepRuns:hasBody Tryz.prog n_w08_StepRuns=true:=by kernel_rfl
abbrev yJ:List AG:=[zz1 54 3,o 55 (.cmp .eql (.sc .int) (.t 54) (.c (.int .i64 0))),zz1 56 55,zze 57 56 4,oy 58 56 (.lit 1 [(.bool false)] [(0,(.c (.bool false)))]),oy 59 56 (.lit 1 [(.bool false)] [(0,(.c (.bool true)))]),oy 60 56 (.lit 1 [(.bool false)] [(0,(.c (.bool false)))]),oy 61 56 (.lit 1 [(.list true 0 []),(.list true 0 []),(.list true 0 [])] [(0,(.t 58)),(1,(.t 59)),(2,(.t 60))]),oy 62 56 (.call (.f n_r08_Rows) [(.t 57),(.t 61)]),zz8 63 56 62,zz1 64 63,zze 65 64 5,oy 66 64 (.len (.t 65)),oy 67 64 (.cmp .eql (.sc .int) (.t 66) (.c (.int .i64 1))),zz8 68 64 67,zz1 69 68,zze 70 69 5,oy 71 69 (.ixAddr 1 (.t 70) (.c (.int .i64 0))),zzd 72 69 1 71,zz8 73 69 72,zz1 74 73,zze 75 74 6,oy 76 74 (.cmp .eql (.sc .int) (.t 75) (.c (.int .i64 0))),zz8 77 74 76,zz1 78 77,zze 79 78 7,oy 80 78 (.not (.t 79)),zz8 81 78 80,zz1 82 81,zze 83 82 8,oy 84 82 (.cmp .eql (.sc .int) (.t 83) (.c (.int .i64 0))),zz8 85 82 84,zz1 86 85,zze 87 86 9,oy 88 86 (.lit 1 [(.bool false),(.bool false)] [(0,(.c (.bool false))),(1,(.c (.bool true)))]),oy 89 86 (.call (.f n_r08_Bools) [(.t 87),(.t 88)]),zz8 90 86 89,zz1 91 90,zze 92 91 10,oy 93 91 (.cmp .eql (.sc .int) (.t 92) (.c (.int .i64 0))),zz8 94 91 93,zz1 95 94,zze 96 95 13,oy 97 95 (.cmp .eql (.sc .int) (.t 96) (.c (.int .i64 11))),zz8 98 95 97,zz1 99 98,oy 100 99 (.load true 4 (.t 1)),zze 101 99 2,oy 102 99 (.call (.f n_step_Allowed) [(.t 100),(.t 101)]),zz8 103 99 102,zz1 104 103,oy 105 104 (.load true 4 (.t 1)),zze 106 104 5,oy 107 104 (.call (.f n_step_Allowed) [(.t 105),(.t 106)]),oy 108 104 (.not (.t 107)),zz8 109 104 108,zz1 0 109]
abbrev yK:List AG:=[zz3 49 4 1,o 50 (.call (.f n_step_Step) [(.t 49),(.c (.list true 0 [])),(.c (.list true 0 []))]),zz1 48 50,zzc 51 48 0,zzc 52 48 1,zzc 53 48 2,zz1 11 51,zz1 12 52,zz1 13 53]
abbrev yL:List AG:=[zz3 43 4 1,zz1 44 2,o 45 (.call (.f n_step_Values) [(.t 43),(.t 44),(.c (.list true 0 []))]),zz1 42 45,zzc 46 42 0,zzc 47 42 1,zz1 9 46,zz1 10 47]
abbrev yM:List AG:=[o 35 (.lit 1 [(.str []),(.str [])] [(0,(.c (.str [97]))),(1,(.c (.str [98])))]),o 36 (.lit 1 [(.str [])] [(0,(.c (.str [49,45])))]),o 37 (.build [(.str []),(.int .i64 0),(.list true 0 []),(.list true 0 []),(.bool false)] [(1,1,(.c (.int .i64 10))),(2,1,(.t 35)),(3,1,(.t 36)),(4,1,(.c (.bool true)))]),o 38 (.lit 1 [(.bool false),(.bool false)] [(0,(.c (.bool true))),(1,(.c (.bool false)))]),zzg 39 n_step_Gate 37 38,zz1 34 39,zzc 40 34 0,zzc 41 34 1,zz1 7 40,zz1 8 41]
abbrev yN:List AG:=[zz3 27 4 1,zz1 28 2,o 29 (.lit 1 [(.list true 0 []),(.list true 0 []),(.list true 0 [])] [(0,(.c (.list true 0 []))),(1,(.c (.list true 0 []))),(2,(.c (.list true 0 [])))]),o 30 (.call (.f n_step_Run) [(.t 27),(.t 28),(.t 29)]),zz1 26 30,zzc 31 26 0,zzc 32 26 1,zzc 33 26 2,zz1 4 31,zz1 5 32,zz1 6 33]
abbrev yO:List AG:=[zz3 22 4 1,o 23 (.call (.f n_step_Start) [(.t 22),(.c (.list true 0 []))]),zz1 21 23,zzc 24 21 0,zzc 25 21 1,zz1 2 24,zz1 3 25]
abbrev yP:List AG:=[o 14 (.lit 1 [(.str [])] [(0,(.c (.str [113])))]),o 15 (.build [(.str []),(.str []),(.int .i64 0)] [(0,1,(.c (.str [113]))),(1,1,(.c (.str [122])))]),o 16 (.lit 3 [(.agg [(.str []),(.str []),(.int .i64 0)])] [(0,(.t 15))]),o 17 (.lit 1 [(.str [])] [(0,(.c (.str [113])))]),o 18 (.build [(.str []),(.int .i64 0),(.list true 0 []),(.list true 0 []),(.bool false)] [(0,1,(.c (.str [122]))),(1,1,(.c (.int .i64 3))),(2,1,(.t 17))]),o 19 (.lit 5 [(.agg [(.str []),(.int .i64 0),(.list true 0 []),(.list true 0 []),(.bool false)])] [(0,(.t 18))]),o 20 (.build [(.list true 0 []),(.list true 0 []),(.list true 0 []),(.list true 0 [])] [(1,1,(.t 14)),(2,1,(.t 16)),(3,1,(.t 19))]),o 1 (.alloc [(.own 1 t_string []),(.own 1 t_string []),(.own 3 t_api_Latch_2 []),(.own 5 t_api_Gate [])]),zzb 4 1 20]
abbrev yQ:List AG:=[zzh 0]
abbrev w08_works:AFun:=⟨(.seq (.reg yQ) (.seq (.reg yP) (.seq (.reg yO) (.seq (.reg yN) (.seq (.reg yM) (.seq (.reg yL) (.seq (.reg yK) (.seq (.reg yJ) .ret)))))))),110,[.tmp 0]⟩
@[simp] theorem c_w08_works:cfun Tryz.prog n_w08_works=some w08_works:=by kernel_rfl
@[simp] theorem e_w08_works:hasBody Tryz.prog n_w08_works=true:=by kernel_rfl
abbrev yR:List AG:=[zz1 11 3,zz1 12 11,zze 13 12 4,zz8 14 12 13,zz1 15 14,oy 16 15 (.off 0 (.t 1)),zzd 17 15 1 16,oy 18 15 (.lenStr (.t 17)),oy 19 15 (.cmp .leq (.sc .int) (.t 18) (.c (.int .i64 60))),zz8 20 15 19,zz1 2 20]
abbrev yS:List AG:=[zz4 8 3 1,zz2 9 1 8,o 10 (.call (.f n_w05_Texts) [(.t 9),(.c (.int .i64 140))]),zz1 4 10]
abbrev yT:List AG:=[zz4 5 2 1,zz2 6 1 5,o 7 (.call (.f n_w05_Texts) [(.t 6),(.c (.int .i64 12))]),zz1 3 7]
abbrev yU:List AG:=[o 1 (.box 5 (.t 0)),zzh 2]
abbrev w06_FewGate:AFun:=⟨(.seq (.reg yU) (.seq (.reg yT) (.seq (.reg yS) (.seq (.reg yR) .ret)))),21,[.tmp 2]⟩
@[simp] theorem c_w06_FewGate:cfun Tryz.prog n_w06_FewGate=some w06_FewGate:=by kernel_rfl
@[simp] theorem e_w06_FewGate:hasBody Tryz.prog n_w06_FewGate=true:=by kernel_rfl
abbrev yV:List AG:=[zz4 29 0 6,zz2 30 1 29,zz1 31 1,o 32 (.call (.t 30) [(.t 31)]),zz4 33 1 6,zz2 34 1 33,o 35 (.cmp .neq (.sc .bool) (.t 32) (.t 34)),zz1 4 35,zz9 5 0]
abbrev yW:List AG:=[o 27 (.mkFunc (.func n_step_Gate_1) [] [(.t 2)]),zz4 28 0 6,zzb 1 28 27]
abbrev yX:List AG:=[zz4 24 4 2,zz2 25 1 24,zz4 26 1 6,zzb 1 26 25]
abbrev yY:ACode:=(.seq (.reg yX) (.reg yW))
abbrev yZ:List AG:=[zz4 21 1 2,zz2 22 1 21,o 23 (.cmp .eql (.sc .int) (.t 22) (.c (.int .i64 10)))]
abbrev yba:List AG:=[zz4 18 1 2,zz2 19 1 18,zzf 20 n_step_of 19,o 6 (.alloc [.nilf,(.bool false)]),zzb 2 6 20]
abbrev ybb:List AG:=[zzh 4,zz9 5 1]
abbrev ybc:ACode:=(.seq (.reg ybb) .ret)
abbrev ybd:List AG:=[zz3 7 5 2,zzf 8 n_net_Gate 7,o 9 (.not (.t 8)),zz1 10 9,on 11 10 (.mv (.t 1)),on 12 10 (.len (.t 11)),on 13 10 (.off 2 (.t 2)),on 14 10 (.load false 1 (.t 13)),on 15 10 (.len (.t 14)),on 16 10 (.cmp .neq (.sc .int) (.t 12) (.t 15)),o 17 (.pick (.t 10) (.c (.bool true)) (.t 16))]
abbrev ybe:List AG:=[o 2 (.box 5 (.t 0)),zzh 4,zz9 5 0]
abbrev step_Gate:AFun:=⟨(.seq (.reg ybe) (.seq (.seq (.reg ybd) (.cond (.t 17) ybc .skip)) (.seq (.reg yba) (.seq (.seq (.reg yZ) (.cond (.t 23) yY .skip)) (.seq (.dreg [O,O,O,O,O,I,O,O,O] [4,4,4,10,10,10,10,10,10] yV) .ret))))),36,[.tmp 4,.tmp 5]⟩
@[simp] theorem c_step_Gate:cfun Tryz.prog n_step_Gate=some step_Gate:=by kernel_rfl
@[simp] theorem e_step_Gate:hasBody Tryz.prog n_step_Gate=true:=by kernel_rfl
abbrev ybf:List AG:=[zz1 57 11,zz1 58 7,o 59 (.cmp .neq (.sc .bool) (.t 57) (.t 58)),zz1 4 59,zz9 5 0]
abbrev ybg:List Bool:=[O,I,O,O,O,O,I,I,O,O,O,I,I,O,O,O,O,O,O,O,O,O,O,O,O,O,O,O,O,O,O,O,O,O,O,O,O,O,O,O,O,O,O,O,O,O,O,O,O,O,O,O,O,O,O,O,O,O,O,O]
abbrev ybh:List Bool:=[O,O,O,O,O,O,O,I,O,O,O,I,O,O,O,O,O,O,O,O,O,O,O,O,O,O,O,O,O,O,O,O,O,O,O,O,O,O,O,O,O,O,O,O,O,O,O,O,O,O,O,O,O,O,O,O,O,O,O,O]
abbrev ybi:List AG:=[zz1 46 12,zz6 47 46 1,zz1 12 47]
abbrev ybj:List AG:=[zz1 48 11,zz1 49 48,on 50 49 (.mv (.t 6)),on 51 49 (.mv (.t 12)),on 52 49 (.ixAddr 1 (.t 50) (.t 51)),on 53 49 (.load false 1 (.t 52)),on 54 49 (.mv (.t 1)),on 55 49 (.call (.f n_r08_fits) [(.t 53),(.t 54)]),o 56 (.pick (.t 49) (.c (.bool true)) (.t 55)),zz1 11 56]
abbrev ybk:List AG:=[zz1 42 12,zz1 43 6,zza 44 43,zz7 45 42 44]
abbrev ybl:ACode:=(.seq (.seq (.reg ybk) (.cond (.t 45) .skip (.exit 0))) (.seq (.block 1 [] (.reg ybj)) (.reg ybi)))
abbrev ybm:List AG:=[zz9 12 0]
abbrev ybn:List AG:=[zzh 11]
abbrev ybo:List AG:=[zz1 41 9,zz1 7 41]
abbrev ybp:List AG:=[zz1 40 8,zz1 6 40]
abbrev ybq:List AG:=[zz4 32 1 2,zz2 33 1 32,zz1 34 1,zza 35 34,zzg 36 n_r06_Rows 33 35,zz1 31 36,zzc 37 31 0,zzc 38 31 1,zzc 39 31 2,zz1 8 37,zz1 9 38,zz1 10 39]
abbrev ybr:ACode:=(.seq (.reg ybq) (.seq (.reg ybp) (.reg ybo)))
abbrev ybs:List AG:=[zz4 28 1 2,zz2 29 1 28,o 30 (.cmp .neq (.sc .int) (.t 29) (.c (.int .i64 10)))]
abbrev ybt:List AG:=[zz4 26 4 2,zz2 27 1 26,zz1 7 27]
abbrev ybu:List AG:=[zz4 24 3 2,zz2 25 1 24,zz1 6 25]
abbrev ybv:List AG:=[zzh 4,zz9 5 1]
abbrev ybw:ACode:=(.seq (.reg ybv) .ret)
abbrev ybx:List AG:=[zz3 13 5 2,zzf 14 n_r06_Gate 13,o 15 (.not (.t 14)),zz1 16 15,on 17 16 (.mv (.t 1)),on 18 16 (.len (.t 17)),on 19 16 (.off 2 (.t 2)),on 20 16 (.load false 1 (.t 19)),on 21 16 (.len (.t 20)),on 22 16 (.cmp .neq (.sc .int) (.t 18) (.t 21)),o 23 (.pick (.t 16) (.c (.bool true)) (.t 22))]
abbrev yby:List AG:=[o 2 (.box 5 (.t 0)),zzh 4,zz9 5 0]
abbrev r08_Gate:AFun:=⟨(.seq (.reg yby) (.seq (.seq (.reg ybx) (.cond (.t 23) ybw .skip)) (.seq (.reg ybu) (.seq (.reg ybt) (.seq (.seq (.reg ybs) (.cond (.t 30) ybr .skip)) (.seq (.reg ybn) (.seq (.seq (.reg ybm) (.block 0 ybh (.loop ybg ybl))) (.seq (.reg ybf) .ret)))))))),60,[.tmp 4,.tmp 5]⟩
abbrev ybz:List It:=[.code (.seq (.reg ybf) .ret)]
abbrev ybA (x1 x6 x7 x11 x12:AV) (h:List Ob) (e:Cx:=cx):Cfg:=atC n_r08_Gate (.code ybl::.inLoop ybg ybl::.inBlock 0 ybh::ybz) [U,x1,U,U,U,U,x6,x7,U,U,U,x11,x12,U,U,U,U,U,U,U,U,U,U,U,U,U,U,U,U,U,U,U,U,U,U,U,U,U,U,U,U,U,U,U,U,U,U,U,U,U,U,U,U,U,U,U,U,U,U,U] h e
@[simp] theorem c_r08_Gate:cfun Tryz.prog n_r08_Gate=some r08_Gate:=by kernel_rfl
@[simp] theorem e_r08_Gate:hasBody Tryz.prog n_r08_Gate=true:=by kernel_rfl
abbrev ybB:List AG:=[zz1 6 3,zz1 7 6,oy 8 7 (.off 3 (.t 1)),zzd 9 7 1 8,oy 10 7 (.len (.t 9)),oy 11 7 (.cmp .leq (.sc .int) (.t 10) (.c (.int .i64 24))),zz8 12 7 11,zz1 13 12,oy 14 13 (.off 0 (.t 1)),zzd 15 13 1 14,oy 16 13 (.len (.t 15)),oy 17 13 (.cmp .leq (.sc .int) (.t 16) (.c (.int .i64 24))),zz8 18 13 17,zz1 19 18,oy 20 19 (.off 2 (.t 1)),zzd 21 19 1 20,oy 22 19 (.len (.t 21)),oy 23 19 (.cmp .leq (.sc .int) (.t 22) (.c (.int .i64 24))),zz8 24 19 23,zz1 2 24]
abbrev ybC:List AG:=[zz3 4 4 1,zzf 5 n_w06_Few 4,zz1 3 5]
abbrev ybD:List AG:=[o 1 (.box 4 (.t 0)),zzh 2]
abbrev w07_Little:AFun:=⟨(.seq (.reg ybD) (.seq (.reg ybC) (.seq (.reg ybB) .ret))),25,[.tmp 2]⟩
@[simp] theorem c_w07_Little:cfun Tryz.prog n_w07_Little=some w07_Little:=by kernel_rfl
@[simp] theorem e_w07_Little:hasBody Tryz.prog n_w07_Little=true:=by kernel_rfl
abbrev ybE:List AG:=[zz1 41 6,zz1 4 41,zz9 5 0]
abbrev ybF:List Bool:=[O,I,O,O,O,O,I,O,O,O,O,O,O,O,I,I,I,O,O,O,O,O,O,O,O,O,O,O,O,O,O,O,O,O,O,O,O,O,O,O,O,O]
abbrev ybG:List Bool:=[O,O,O,O,O,O,I,O,O,O,O,O,O,O,O,O,O,O,O,O,O,O,O,O,O,O,O,O,O,O,O,O,O,O,O,O,O,O,O,O,O,O]
abbrev ybH:List AG:=[zz6 40 16 1,zz1 16 40]
abbrev ybI:List AG:=[zz1 36 6,zz1 37 9,o 38 (.lit 1 [(.bool false)] [(0,(.t 37))]),o 39 (.append 1 t_bool 1 (.t 36) (.t 38)),zz1 6 39]
abbrev ybJ:List AG:=[zz1 31 1,o 32 (.ixAddr 1 (.t 31) (.c (.int .i64 0))),zz2 33 1 32,zz1 34 1,o 35 (.slice 1 (.t 34) (some (.c (.int .i64 1))) none),zz1 9 33,zz1 1 35]
abbrev ybK:List AG:=[zz4 23 2 8,zz2 24 1 23,o 25 (.cmp .eql (.sc .int) (.t 24) (.c (.int .i64 2))),zz1 26 25,zze 27 26 1,oy 28 26 (.len (.t 27)),oy 29 26 (.cmp .gtr (.sc .int) (.t 28) (.c (.int .i64 0))),zz8 30 26 29]
abbrev ybL:List AG:=[zz4 20 2 8,zz2 21 1 20,o 22 (.cmp .eql (.sc .int) (.t 21) (.c (.int .i64 1))),zz1 9 22]
abbrev ybM:List AG:=[zz5 18 3 14 16,zz3 19 3 18,o 8 (.alloc [(.str []),(.str []),(.int .i64 0)]),zzb 3 8 19]
abbrev ybN:ACode:=(.seq (.reg ybM) (.seq (.reg ybL) (.seq (.seq (.reg ybK) (.cond (.t 30) (.dreg [O,O,O,O,O,O,O] [8,8,8,8,8,8,8] ybJ) .skip)) (.reg ybI))))
abbrev ybO:List AG:=[zz7 17 16 15]
abbrev ybP:ACode:=(.seq (.reg ybO) (.seq (.cond (.t 17) .skip (.exit 0)) (.seq (.block 1 [] ybN) (.reg ybH))))
abbrev ybQ:List AG:=[zz4 13 2 2,zz2 14 1 13,zza 15 14,zz9 16 0]
abbrev ybR:List AG:=[o 6 (.nilrow 1 t_bool)]
abbrev ybS:List AG:=[o 4 (.nilrow 1 t_bool),zz9 5 1]
abbrev ybT:ACode:=(.seq (.reg ybS) .ret)
abbrev ybU:List AG:=[zz3 10 4 2,zzf 11 n_step_right 10,o 12 (.not (.t 11))]
abbrev ybV:List AG:=[o 2 (.box 4 (.t 0)),o 4 (.nilrow 1 t_bool),zz9 5 0]
abbrev step_Start:AFun:=⟨(.seq (.reg ybV) (.seq (.seq (.reg ybU) (.cond (.t 12) ybT .skip)) (.seq (.reg ybR) (.seq (.seq (.reg ybQ) (.block 0 ybG (.loop ybF ybP))) (.seq (.reg ybE) .ret))))),42,[.tmp 4,.tmp 5]⟩
abbrev ybW:List It:=[.code (.seq (.reg ybE) .ret)]
abbrev ybX (x1 x6 x14 x15 x16:AV) (h:List Ob) (e:Cx:=cx):Cfg:=atC n_step_Start (.code ybP::.inLoop ybF ybP::.inBlock 0 ybG::ybW) [U,x1,U,U,U,U,x6,U,U,U,U,U,U,U,x14,x15,x16,U,U,U,U,U,U,U,U,U,U,U,U,U,U,U,U,U,U,U,U,U,U,U,U,U] h e
@[simp] theorem c_step_Start:cfun Tryz.prog n_step_Start=some step_Start:=by kernel_rfl
@[simp] theorem e_step_Start:hasBody Tryz.prog n_step_Start=true:=by kernel_rfl
abbrev ybY:List AG:=[zz1 50 6,zz1 4 50,zz9 5 0]
abbrev ybZ:List Bool:=[O,I,I,O,O,O,I,I,I,O,O,O,O,O,O,O,O,O,O,O,O,O,O,O,O,O,O,O,O,O,O,O,O,O,O,O,O,O,O,O,O,O,O,O,O,O,O,O,O,O,O]
abbrev yca:List Bool:=[O,O,O,O,O,O,I,O,O,O,O,O,O,O,O,O,O,O,O,O,O,O,O,O,O,O,O,O,O,O,O,O,O,O,O,O,O,O,O,O,O,O,O,O,O,O,O,O,O,O,O]
abbrev ycb:List AG:=[zz1 18 8,zz6 19 18 1,zz1 8 19]
abbrev ycc:List AG:=[zz1 46 6,zz1 47 9,o 48 (.lit 1 [(.bool false)] [(0,(.t 47))]),o 49 (.append 1 t_bool 1 (.t 46) (.t 48)),zz1 6 49]
abbrev ycd:List AG:=[zz1 44 7,zz6 45 44 1,zz1 7 45]
abbrev yce:List AG:=[zz1 34 7,zz1 35 1,zza 36 35,zz7 37 34 36,zz1 38 37,zze 39 38 1,zze 40 38 7,oy 41 38 (.ixAddr 1 (.t 39) (.t 40)),zzd 42 38 1 41,zz8 43 38 42,zz1 9 43]
abbrev ycf:ACode:=(.seq (.reg yce) (.reg ycd))
abbrev ycg:List AG:=[zz4 27 2 2,zz2 28 1 27,zz1 29 8,zz5 30 3 28 29,zz4 31 2 30,zz2 32 1 31,o 33 (.cmp .eql (.sc .int) (.t 32) (.c (.int .i64 2)))]
abbrev ych:List AG:=[zz4 20 2 2,zz2 21 1 20,zz1 22 8,zz5 23 3 21 22,zz4 24 2 23,zz2 25 1 24,o 26 (.cmp .eql (.sc .int) (.t 25) (.c (.int .i64 1))),zz1 9 26]
abbrev yci:ACode:=(.seq (.reg ych) (.seq (.seq (.reg ycg) (.cond (.t 33) ycf .skip)) (.reg ycc)))
abbrev ycj:List AG:=[zz1 13 8,zz4 14 2 2,zz2 15 1 14,zza 16 15,zz7 17 13 16]
abbrev yck:ACode:=(.seq (.seq (.reg ycj) (.cond (.t 17) .skip (.exit 0))) (.seq (.block 1 [] yci) (.reg ycb)))
abbrev ycl:List AG:=[zz9 8 0]
abbrev ycm:List AG:=[zz9 7 0]
abbrev ycn:List AG:=[o 6 (.nilrow 1 t_bool)]
abbrev yco:List AG:=[o 4 (.nilrow 1 t_bool),zz9 5 1]
abbrev ycp:ACode:=(.seq (.reg yco) .ret)
abbrev ycq:List AG:=[zz3 10 4 2,zzf 11 n_r08_right 10,o 12 (.not (.t 11))]
abbrev ycr:List AG:=[o 2 (.box 4 (.t 0)),o 4 (.nilrow 1 t_bool),zz9 5 0]
abbrev r08_Start:AFun:=⟨(.seq (.reg ycr) (.seq (.seq (.reg ycq) (.cond (.t 12) ycp .skip)) (.seq (.reg ycn) (.seq (.reg ycm) (.seq (.seq (.reg ycl) (.block 0 yca (.loop ybZ yck))) (.seq (.reg ybY) .ret)))))),51,[.tmp 4,.tmp 5]⟩
@[simp] theorem c_r08_Start:cfun Tryz.prog n_r08_Start=some r08_Start:=by kernel_rfl
@[simp] theorem e_r08_Start:hasBody Tryz.prog n_r08_Start=true:=by kernel_rfl
abbrev ycs:List AG:=[zz1 29 10,zz1 30 8,o 31 (.nilck (.t 30)),zz4 32 4 31,zz2 33 1 32,zzg 34 n_step_pick 29 33,zz1 6 34,zz9 7 0]
abbrev yct:List AG:=[zz1 28 9,o 6 (.nilrow 1 t_bool),zz1 7 28]
abbrev ycu:ACode:=(.seq (.reg yct) .ret)
abbrev ycv:List AG:=[zz1 26 9,o 27 (.cmp .neq (.sc .int) (.t 26) (.c (.int .i64 0)))]
abbrev ycw:List AG:=[zz1 20 8,zz1 21 1,zz1 22 2,o 23 (.call (.f n_step_machine_values) [(.t 20),(.t 21),(.t 22)]),zz1 19 23,zzc 24 19 0,zzc 25 19 1,zz1 10 24,zz1 9 25]
abbrev ycx:List AG:=[zz1 18 9,o 6 (.nilrow 1 t_bool),zz1 7 18]
abbrev ycy:ACode:=(.seq (.reg ycx) .ret)
abbrev ycz:List AG:=[zz1 16 9,o 17 (.cmp .neq (.sc .int) (.t 16) (.c (.int .i64 0)))]
abbrev ycA:List AG:=[zz3 12 4 3,zzf 13 n_step_begin 12,zz1 11 13,zzc 14 11 0,zzc 15 11 1,zz1 8 14,zz1 9 15]
abbrev ycB:List AG:=[o 3 (.box 4 (.t 0)),o 6 (.nilrow 1 t_bool),zz9 7 0]
abbrev step_Values:AFun:=⟨(.seq (.reg ycB) (.seq (.reg ycA) (.seq (.seq (.reg ycz) (.cond (.t 17) ycy .skip)) (.seq (.reg ycw) (.seq (.seq (.reg ycv) (.cond (.t 27) ycu .skip)) (.seq (.reg ycs) .ret)))))),35,[.tmp 6,.tmp 7]⟩
@[simp] theorem c_step_Values:cfun Tryz.prog n_step_Values=some step_Values:=by kernel_rfl
@[simp] theorem e_step_Values:hasBody Tryz.prog n_step_Values=true:=by kernel_rfl
abbrev ycC:List AG:=[zz1 108 8,zz1 6 108,zz9 7 0]
abbrev ycD:List Bool:=[O,O,O,I,O,O,O,O,I,I,O,I,O,I,O,O,O,O,O,O,O,O,O,O,O,O,O,O,O,O,O,O,O,O,O,O,O,O,O,O,O,O,O,O,O,O,O,O,O,O,O,O,O,O,O,O,O,O,O,O,O,O,O,O,O,O,O,O,O,O,O,O,O,O,O,O,O,O,O,O,O,O,O,O,O,O,O,O,O,O,O,O,O,O,O,O,O,O,O,O,O,O,O,O,O,O,O,O,O]
abbrev ycE:List Bool:=[O,O,O,O,O,O,O,O,I,O,O,O,O,O,O,O,O,O,O,O,O,O,O,O,O,O,O,O,O,O,O,O,O,O,O,O,O,O,O,O,O,O,O,O,O,O,O,O,O,O,O,O,O,O,O,O,O,O,O,O,O,O,O,O,O,O,O,O,O,O,O,O,O,O,O,O,O,O,O,O,O,O,O,O,O,O,O,O,O,O,O,O,O,O,O,O,O,O,O,O,O,O,O,O,O,O,O,O,O]
abbrev ycF:List AG:=[zz1 63 13,zz6 64 63 1,zz1 13 64]
abbrev ycG:List AG:=[zz1 99 8,zz1 100 9,zz1 101 11,zz1 102 13,zz5 103 1 101 102,zz2 104 1 103,o 105 (.ibin .add (.t 100) (.t 104)),zz1 106 17,zz5 107 1 99 105,zzb 1 107 106]
abbrev ycH:List AG:=[zz3 94 5 14,zz1 95 15,zzg 96 n_r08_Gate 94 95,zz1 93 96,zzc 97 93 0,zzc 98 93 1,zz1 17 97,zz1 18 98]
abbrev ycI:List Bool:=[O,O,O,I,O,O,O,O,I,I,O,I,O,I,I,I,I,O,O,O,O,O,O,O,O,O,O,O,O,O,O,O,O,O,O,O,O,O,O,O,O,O,O,O,O,O,O,O,O,O,O,O,O,O,O,O,O,O,O,O,O,O,O,O,O,O,O,O,O,O,O,O,O,O,O,O,O,O,O,O,O,O,O,O,O,O,O,O,O,O,O,O,O,O,O,O,O,O,O,O,O,O,O,O,O,O,O,O,O]
abbrev ycJ:List Bool:=[O,O,O,I,O,O,O,O,I,I,O,I,O,I,I,I,O,O,O,O,O,O,O,O,O,O,O,O,O,O,O,O,O,O,O,O,O,O,O,O,O,O,O,O,O,O,O,O,O,O,O,O,O,O,O,O,O,O,O,O,O,O,O,O,O,O,O,O,O,O,O,O,O,O,O,O,O,O,O,O,O,O,O,O,O,O,O,O,O,O,O,O,O,O,O,O,O,O,O,O,O,O,O,O,O,O,O,O,O]
abbrev ycK:List AG:=[zz1 78 16,zz6 79 78 1,zz1 16 79]
abbrev ycL:List AG:=[zz1 80 15,zz1 81 8,zz3 82 4 3,zz4 83 2 14,zz2 84 1 83,zz1 85 16,zz5 86 1 84 85,zz2 87 1 86,zzg 88 n_r06_Place 82 87,zz5 89 1 81 88,zz2 90 1 89,o 91 (.lit 1 [(.bool false)] [(0,(.t 90))]),o 92 (.append 1 t_bool 1 (.t 80) (.t 91)),zz1 15 92]
abbrev ycM:List AG:=[zz1 73 16,zz4 74 2 14,zz2 75 1 74,zza 76 75,zz7 77 73 76]
abbrev ycN:ACode:=(.seq (.seq (.reg ycM) (.cond (.t 77) .skip (.exit 4))) (.seq (.block 5 [] (.dreg [O,O,O,O,O,O,O,O,O,O,O,O,O,O] [13,12,9,9,9,9,9,9,12,12,12,13,15,15] ycL)) (.reg ycK)))
abbrev ycO:List AG:=[zz9 16 0]
abbrev ycP:List AG:=[o 15 (.nilrow 1 t_bool)]
abbrev ycQ:List AG:=[zz4 65 3 3,zz2 66 1 65,zz1 67 11,zz1 68 13,zz5 69 1 67 68,zz2 70 1 69,zz5 71 5 66 70,zz3 72 5 71,o 14 (.alloc [(.str []),(.int .i64 0),(.own 1 t_string []),(.own 1 t_string []),(.bool false)]),zzb 5 14 72]
abbrev ycR:ACode:=(.seq (.dreg [O,I,O,O,O,I,O,I,O,O] [10,10,10,10,10,10,10,10,10,11] ycQ) (.seq (.reg ycP) (.seq (.seq (.reg ycO) (.block 4 ycJ (.loop ycI ycN))) (.seq (.reg ycH) (.reg ycG)))))
abbrev ycS:List AG:=[zz1 59 13,zz1 60 11,zza 61 60,zz7 62 59 61]
abbrev ycT:ACode:=(.seq (.seq (.reg ycS) (.cond (.t 62) .skip (.exit 2))) (.seq (.block 3 [] ycR) (.reg ycF)))
abbrev ycU:List AG:=[zz9 13 0]
abbrev ycV:List AG:=[zz3 55 4 3,zzf 56 n_r07_Sort 55,zz1 54 56,zzc 57 54 0,zzc 58 54 1,zz1 11 57,zz1 12 58]
abbrev ycW:List Bool:=[O,O,O,I,O,O,O,O,I,I,I,O,O,O,O,O,O,O,O,O,O,O,O,O,O,O,O,O,O,O,O,O,O,O,O,O,O,O,O,O,O,O,O,O,O,O,O,O,O,O,O,O,O,O,O,O,O,O,O,O,O,O,O,O,O,O,O,O,O,O,O,O,O,O,O,O,O,O,O,O,O,O,O,O,O,O,O,O,O,O,O,O,O,O,O,O,O,O,O,O,O,O,O,O,O,O,O,O,O]
abbrev ycX:List Bool:=[O,O,O,I,O,O,O,O,I,I,O,O,O,O,O,O,O,O,O,O,O,O,O,O,O,O,O,O,O,O,O,O,O,O,O,O,O,O,O,O,O,O,O,O,O,O,O,O,O,O,O,O,O,O,O,O,O,O,O,O,O,O,O,O,O,O,O,O,O,O,O,O,O,O,O,O,O,O,O,O,O,O,O,O,O,O,O,O,O,O,O,O,O,O,O,O,O,O,O,O,O,O,O,O,O,O,O,O,O]
abbrev ycY:List AG:=[zz1 49 10,zz6 50 49 1,zz1 10 50]
abbrev ycZ:List AG:=[zz1 51 8,o 52 (.lit 1 [(.bool false)] [(0,(.c (.bool false)))]),o 53 (.append 1 t_bool 1 (.t 51) (.t 52)),zz1 8 53]
abbrev yda:List AG:=[zz1 44 10,zz4 45 3 3,zz2 46 1 45,zza 47 46,zz7 48 44 47]
abbrev ydb:ACode:=(.seq (.seq (.reg yda) (.cond (.t 48) .skip (.exit 0))) (.seq (.block 1 [] (.reg ycZ)) (.reg ycY)))
abbrev ydc:List AG:=[zz9 10 0]
abbrev ydd:List AG:=[zz1 42 8,zza 43 42,zz1 9 43]
abbrev yde:List AG:=[zz1 39 8,zz1 40 1,o 41 (.append 1 t_bool 1 (.t 39) (.t 40)),zz1 8 41]
abbrev ydf:List AG:=[zz1 36 8,zz1 37 2,o 38 (.append 1 t_bool 1 (.t 36) (.t 37)),zz1 8 38]
abbrev ydg:List AG:=[o 8 (.nilrow 1 t_bool)]
abbrev ydh:List AG:=[o 6 (.nilrow 1 t_bool),zz9 7 11]
abbrev ydi:ACode:=(.seq (.reg ydh) .ret)
abbrev ydj:List AG:=[zz1 22 1,zza 23 22,zz4 24 2 3,zz2 25 1 24,zza 26 25,o 27 (.cmp .neq (.sc .int) (.t 23) (.t 26)),zz1 28 27,on 29 28 (.mv (.t 2)),on 30 28 (.len (.t 29)),on 31 28 (.off 0 (.t 3)),on 32 28 (.load false 1 (.t 31)),on 33 28 (.len (.t 32)),on 34 28 (.cmp .neq (.sc .int) (.t 30) (.t 33)),o 35 (.pick (.t 28) (.c (.bool true)) (.t 34))]
abbrev ydk:List AG:=[o 6 (.nilrow 1 t_bool),zz9 7 1]
abbrev ydl:ACode:=(.seq (.reg ydk) .ret)
abbrev ydm:List AG:=[zz3 19 4 3,zzf 20 n_r08_right 19,o 21 (.not (.t 20))]
abbrev ydn:List AG:=[o 3 (.box 4 (.t 0)),o 6 (.nilrow 1 t_bool),zz9 7 0]
abbrev r08_Values:AFun:=⟨(.seq (.reg ydn) (.seq (.seq (.reg ydm) (.cond (.t 21) ydl .skip)) (.seq (.seq (.reg ydj) (.cond (.t 35) ydi .skip)) (.seq (.reg ydg) (.seq (.reg ydf) (.seq (.reg yde) (.seq (.reg ydd) (.seq (.seq (.reg ydc) (.block 0 ycX (.loop ycW ydb))) (.seq (.reg ycV) (.seq (.seq (.reg ycU) (.block 2 ycE (.loop ycD ycT))) (.seq (.reg ycC) .ret))))))))))),109,[.tmp 6,.tmp 7]⟩
abbrev ydo:List It:=[.code (.seq (.reg ycH) (.reg ycG)),.inBlock 3 [],.code (.reg ycF),.inLoop ycD ycT,.inBlock 2 ycE,.code (.seq (.reg ycC) .ret)]
abbrev ydp (x3 x8 x9 x11 x13 x14 x15 x16:AV) (h:List Ob) (e:Cx:=cx):Cfg:=atC n_r08_Values (.code ycN::.inLoop ycI ycN::.inBlock 4 ycJ::ydo) [U,U,U,x3,U,U,U,U,x8,x9,U,x11,U,x13,x14,x15,x16,U,U,U,U,U,U,U,U,U,U,U,U,U,U,U,U,U,U,U,U,U,U,U,U,U,U,U,U,U,U,U,U,U,U,U,U,U,U,U,U,U,U,U,U,U,U,U,U,U,U,U,U,U,U,U,U,U,U,U,U,U,U,U,U,U,U,U,U,U,U,U,U,U,U,U,U,U,U,U,U,U,U,U,U,U,U,U,U,U,U,U,U] h e
abbrev ydq (x3 x8 x9 x11 x13 x14 x15:AV) (h:List Ob) (e:Cx:=cx):Cfg:=atC n_r08_Values ydo [U,U,U,x3,U,U,U,U,x8,x9,U,x11,U,x13,x14,x15,U,U,U,U,U,U,U,U,U,U,U,U,U,U,U,U,U,U,U,U,U,U,U,U,U,U,U,U,U,U,U,U,U,U,U,U,U,U,U,U,U,U,U,U,U,U,U,U,U,U,U,U,U,U,U,U,U,U,U,U,U,U,U,U,U,U,U,U,U,U,U,U,U,U,U,U,U,U,U,U,U,U,U,U,U,U,U,U,U,U,U,U,U] h e
abbrev ydr:List It:=[.code (.seq (.reg ycC) .ret)]
abbrev yds (x3 x8 x9 x11 x13:AV) (h:List Ob) (e:Cx:=cx):Cfg:=atC n_r08_Values (.code ycT::.inLoop ycD ycT::.inBlock 2 ycE::ydr) [U,U,U,x3,U,U,U,U,x8,x9,U,x11,U,x13,U,U,U,U,U,U,U,U,U,U,U,U,U,U,U,U,U,U,U,U,U,U,U,U,U,U,U,U,U,U,U,U,U,U,U,U,U,U,U,U,U,U,U,U,U,U,U,U,U,U,U,U,U,U,U,U,U,U,U,U,U,U,U,U,U,U,U,U,U,U,U,U,U,U,U,U,U,U,U,U,U,U,U,U,U,U,U,U,U,U,U,U,U,U,U] h e
abbrev ydt:List It:=[.code (.seq (.reg ycV) (.seq (.seq (.reg ycU) (.block 2 ycE (.loop ycD ycT))) (.seq (.reg ycC) .ret)))]
abbrev ydu (x3 x8 x9 x10:AV) (h:List Ob) (e:Cx:=cx):Cfg:=atC n_r08_Values (.code ydb::.inLoop ycW ydb::.inBlock 0 ycX::ydt) [U,U,U,x3,U,U,U,U,x8,x9,x10,U,U,U,U,U,U,U,U,U,U,U,U,U,U,U,U,U,U,U,U,U,U,U,U,U,U,U,U,U,U,U,U,U,U,U,U,U,U,U,U,U,U,U,U,U,U,U,U,U,U,U,U,U,U,U,U,U,U,U,U,U,U,U,U,U,U,U,U,U,U,U,U,U,U,U,U,U,U,U,U,U,U,U,U,U,U,U,U,U,U,U,U,U,U,U,U,U,U] h e
abbrev ydv (x3 x8 x9:AV) (h:List Ob) (e:Cx:=cx):Cfg:=atC n_r08_Values ydt [U,U,U,x3,U,U,U,U,x8,x9,U,U,U,U,U,U,U,U,U,U,U,U,U,U,U,U,U,U,U,U,U,U,U,U,U,U,U,U,U,U,U,U,U,U,U,U,U,U,U,U,U,U,U,U,U,U,U,U,U,U,U,U,U,U,U,U,U,U,U,U,U,U,U,U,U,U,U,U,U,U,U,U,U,U,U,U,U,U,U,U,U,U,U,U,U,U,U,U,U,U,U,U,U,U,U,U,U,U,U] h e
@[simp] theorem c_r08_Values:cfun Tryz.prog n_r08_Values=some r08_Values:=by kernel_rfl
@[simp] theorem e_r08_Values:hasBody Tryz.prog n_r08_Values=true:=by kernel_rfl
abbrev ydw:List AG:=[zz1 19 9,zz1 20 1,zz1 21 2,o 22 (.call (.f n_step_machine_step) [(.t 19),(.t 20),(.t 21)]),zzc 23 22 0,zzc 24 22 1,zzc 25 22 2,zz1 6 23,zz1 7 24,zz1 8 25]
abbrev ydx:List AG:=[zz1 18 10,o 6 (.nilrow 1 t_bool),o 7 (.nilrow 1 t_bool),zz1 8 18]
abbrev ydy:ACode:=(.seq (.reg ydx) .ret)
abbrev ydz:List AG:=[zz1 16 10,o 17 (.cmp .neq (.sc .int) (.t 16) (.c (.int .i64 0)))]
abbrev ydA:List AG:=[zz3 12 4 3,zzf 13 n_step_begin 12,zz1 11 13,zzc 14 11 0,zzc 15 11 1,zz1 9 14,zz1 10 15]
abbrev ydB:List AG:=[o 3 (.box 4 (.t 0)),o 6 (.nilrow 1 t_bool),o 7 (.nilrow 1 t_bool),zz9 8 0]
abbrev step_Step:AFun:=⟨(.seq (.reg ydB) (.seq (.reg ydA) (.seq (.seq (.reg ydz) (.cond (.t 17) ydy .skip)) (.seq (.reg ydw) .ret)))),26,[.tmp 6,.tmp 7,.tmp 8]⟩
@[simp] theorem c_step_Step:cfun Tryz.prog n_step_Step=some step_Step:=by kernel_rfl
@[simp] theorem e_step_Step:hasBody Tryz.prog n_step_Step=true:=by kernel_rfl
abbrev ydC:List AG:=[zz1 66 11,zz1 67 12,zz1 6 66,zz1 7 67,zz9 8 0]
abbrev ydD:List Bool:=[O,O,O,I,O,O,O,O,O,I,O,I,I,O,I,O,O,O,O,O,O,O,O,O,O,O,O,O,O,O,O,O,O,O,O,O,O,O,O,O,O,O,O,O,O,O,O,O,O,O,O,O,O,O,O,O,O,O,O,O,O,O,O,O,O,O,O,O]
abbrev ydE:List Bool:=[O,O,O,O,O,O,O,O,O,O,O,I,I,O,O,O,O,O,O,O,O,O,O,O,O,O,O,O,O,O,O,O,O,O,O,O,O,O,O,O,O,O,O,O,O,O,O,O,O,O,O,O,O,O,O,O,O,O,O,O,O,O,O,O,O,O,O,O]
abbrev ydF:List AG:=[zz1 50 14,zz6 51 50 1,zz1 14 51]
abbrev ydG:List AG:=[zz1 52 12,zz1 53 9,zz3 54 4 3,zz4 55 2 3,zz2 56 1 55,zz1 57 14,zz5 58 3 56 57,zz4 59 1 58,zz2 60 1 59,zzg 61 n_r06_Place 54 60,zz5 62 1 53 61,zz2 63 1 62,o 64 (.lit 1 [(.bool false)] [(0,(.t 63))]),o 65 (.append 1 t_bool 1 (.t 52) (.t 64)),zz1 12 65]
abbrev ydH:List AG:=[zz1 45 14,zz4 46 2 3,zz2 47 1 46,zza 48 47,zz7 49 45 48]
abbrev ydI:ACode:=(.seq (.seq (.reg ydH) (.cond (.t 49) .skip (.exit 2))) (.seq (.block 3 [] (.dreg [O,O,O,O,O,O,O,O,O,O,O,O,O,O,O] [14,13,10,10,10,10,10,10,10,13,13,13,14,16,16] ydG)) (.reg ydF)))
abbrev ydJ:List AG:=[zz9 14 0]
abbrev ydK:List Bool:=[O,O,O,I,O,O,O,O,O,I,O,I,I,I,O,O,O,O,O,O,O,O,O,O,O,O,O,O,O,O,O,O,O,O,O,O,O,O,O,O,O,O,O,O,O,O,O,O,O,O,O,O,O,O,O,O,O,O,O,O,O,O,O,O,O,O,O,O]
abbrev ydL:List Bool:=[O,O,O,I,O,O,O,O,O,I,O,I,I,O,O,O,O,O,O,O,O,O,O,O,O,O,O,O,O,O,O,O,O,O,O,O,O,O,O,O,O,O,O,O,O,O,O,O,O,O,O,O,O,O,O,O,O,O,O,O,O,O,O,O,O,O,O,O]
abbrev ydM:List AG:=[zz1 30 13,zz6 31 30 1,zz1 13 31]
abbrev ydN:List AG:=[zz1 32 11,zz1 33 9,zz3 34 4 3,zz4 35 1 3,zz2 36 1 35,zz1 37 13,zz5 38 1 36 37,zz2 39 1 38,zzg 40 n_r06_Place 34 39,zz5 41 1 33 40,zz2 42 1 41,o 43 (.lit 1 [(.bool false)] [(0,(.t 42))]),o 44 (.append 1 t_bool 1 (.t 32) (.t 43)),zz1 11 44]
abbrev ydO:List AG:=[zz1 25 13,zz4 26 1 3,zz2 27 1 26,zza 28 27,zz7 29 25 28]
abbrev ydP:ACode:=(.seq (.seq (.reg ydO) (.cond (.t 29) .skip (.exit 0))) (.seq (.block 1 [] (.dreg [O,O,O,O,O,O,O,O,O,O,O,O,O,O] [13,12,9,9,9,9,9,9,12,12,12,13,15,15] ydN)) (.reg ydM)))
abbrev ydQ:List AG:=[zz9 13 0]
abbrev ydR:List AG:=[o 12 (.nilrow 1 t_bool)]
abbrev ydS:List AG:=[o 11 (.nilrow 1 t_bool)]
abbrev ydT:List AG:=[zz1 24 10,o 6 (.nilrow 1 t_bool),o 7 (.nilrow 1 t_bool),zz1 8 24]
abbrev ydU:ACode:=(.seq (.reg ydT) .ret)
abbrev ydV:List AG:=[zz1 22 10,o 23 (.cmp .neq (.sc .int) (.t 22) (.c (.int .i64 0)))]
abbrev ydW:List AG:=[zz3 16 4 3,zz1 17 1,zz1 18 2,o 19 (.call (.f n_r08_Values) [(.t 16),(.t 17),(.t 18)]),zz1 15 19,zzc 20 15 0,zzc 21 15 1,zz1 9 20,zz1 10 21]
abbrev ydX:List AG:=[o 3 (.box 4 (.t 0)),o 6 (.nilrow 1 t_bool),o 7 (.nilrow 1 t_bool),zz9 8 0]
abbrev r08_Step:AFun:=⟨(.seq (.reg ydX) (.seq (.reg ydW) (.seq (.seq (.reg ydV) (.cond (.t 23) ydU .skip)) (.seq (.reg ydS) (.seq (.reg ydR) (.seq (.seq (.reg ydQ) (.block 0 ydL (.loop ydK ydP))) (.seq (.seq (.reg ydJ) (.block 2 ydE (.loop ydD ydI))) (.seq (.reg ydC) .ret)))))))),68,[.tmp 6,.tmp 7,.tmp 8]⟩
abbrev ydY:List It:=[.code (.seq (.reg ydC) .ret)]
abbrev ydZ (x3 x9 x11 x12 x14:AV) (h:List Ob) (e:Cx:=cx):Cfg:=atC n_r08_Step (.code ydI::.inLoop ydD ydI::.inBlock 2 ydE::ydY) [U,U,U,x3,U,U,U,U,U,x9,U,x11,x12,U,x14,U,U,U,U,U,U,U,U,U,U,U,U,U,U,U,U,U,U,U,U,U,U,U,U,U,U,U,U,U,U,U,U,U,U,U,U,U,U,U,U,U,U,U,U,U,U,U,U,U,U,U,U,U] h e
abbrev yea:List It:=[.code (.seq (.seq (.reg ydJ) (.block 2 ydE (.loop ydD ydI))) (.seq (.reg ydC) .ret))]
abbrev yeb (x3 x9 x11 x12 x13:AV) (h:List Ob) (e:Cx:=cx):Cfg:=atC n_r08_Step (.code ydP::.inLoop ydK ydP::.inBlock 0 ydL::yea) [U,U,U,x3,U,U,U,U,U,x9,U,x11,x12,x13,U,U,U,U,U,U,U,U,U,U,U,U,U,U,U,U,U,U,U,U,U,U,U,U,U,U,U,U,U,U,U,U,U,U,U,U,U,U,U,U,U,U,U,U,U,U,U,U,U,U,U,U,U,U] h e
abbrev yec (x3 x9 x11 x12:AV) (h:List Ob) (e:Cx:=cx):Cfg:=atC n_r08_Step yea [U,U,U,x3,U,U,U,U,U,x9,U,x11,x12,U,U,U,U,U,U,U,U,U,U,U,U,U,U,U,U,U,U,U,U,U,U,U,U,U,U,U,U,U,U,U,U,U,U,U,U,U,U,U,U,U,U,U,U,U,U,U,U,U,U,U,U,U,U,U] h e
@[simp] theorem c_r08_Step:cfun Tryz.prog n_r08_Step=some r08_Step:=by kernel_rfl
@[simp] theorem e_r08_Step:hasBody Tryz.prog n_r08_Step=true:=by kernel_rfl
abbrev yed:List AG:=[o 4 (.mv (.c (.bool true)))]
abbrev yee:List Bool:=[O,I,I,O,O,I,O,O,O,O,O,O,O,O,O,O,O,O,O,O,O,O,O,O,O,O,O,O,O,O,O,O,O,O,O,O,O,O,O,O,O,O,O,O,O,O,O,O,O,O,O,O]
abbrev yef:List Bool:=[O,O,O,O,O,O,O,O,O,O,O,O,O,O,O,O,O,O,O,O,O,O,O,O,O,O,O,O,O,O,O,O,O,O,O,O,O,O,O,O,O,O,O,O,O,O,O,O,O,O,O,O]
abbrev yeg:List AG:=[zz1 21 5,zz6 22 21 1,zz1 5 22]
abbrev yeh:List AG:=[zzh 4]
abbrev yei:ACode:=(.seq (.reg yeh) .ret)
abbrev yej:List AG:=[zz4 23 2 2,zz2 24 1 23,zz1 25 5,zz5 26 3 24 25,zz4 27 2 26,zz2 28 1 27,o 29 (.cmp .eql (.sc .int) (.t 28) (.c (.int .i64 0))),zz1 30 29,zze 31 30 1,zze 32 30 5,oy 33 30 (.ixAddr 1 (.t 31) (.t 32)),zzd 34 30 1 33,zz8 35 30 34,zz1 36 35,on 37 36 (.off 2 (.t 2)),on 38 36 (.load false 1 (.t 37)),on 39 36 (.mv (.t 5)),on 40 36 (.ixAddr 3 (.t 38) (.t 39)),on 41 36 (.off 2 (.t 40)),on 42 36 (.load false 1 (.t 41)),on 43 36 (.cmp .eql (.sc .int) (.t 42) (.c (.int .i64 1))),on 44 36 (.mv (.t 43)),zze 45 44 1,zze 46 44 5,oy 47 44 (.ixAddr 1 (.t 45) (.t 46)),zzd 48 44 1 47,oy 49 44 (.not (.t 48)),on 50 36 (.pick (.t 44) (.t 49) (.c (.bool false))),o 51 (.pick (.t 36) (.c (.bool true)) (.t 50))]
abbrev yek:ACode:=(.seq (.reg yej) (.cond (.t 51) yei .skip))
abbrev yel:List AG:=[zz1 17 5,zz1 18 1,zza 19 18,zz7 20 17 19]
abbrev yem:ACode:=(.seq (.seq (.reg yel) (.cond (.t 20) .skip (.exit 0))) (.seq (.block 1 [] yek) (.reg yeg)))
abbrev yen:List AG:=[zz9 5 0]
abbrev yeo:List AG:=[zzh 4]
abbrev yep:ACode:=(.seq (.reg yeo) .ret)
abbrev yeq:List AG:=[zz3 6 4 2,zzf 7 n_r08_right 6,o 8 (.not (.t 7)),zz1 9 8,on 10 9 (.mv (.t 1)),on 11 9 (.len (.t 10)),on 12 9 (.off 2 (.t 2)),on 13 9 (.load false 1 (.t 12)),on 14 9 (.len (.t 13)),on 15 9 (.cmp .neq (.sc .int) (.t 11) (.t 14)),o 16 (.pick (.t 9) (.c (.bool true)) (.t 15))]
abbrev yer:List AG:=[o 2 (.box 4 (.t 0)),zzh 4]
abbrev r08_Allowed:AFun:=⟨(.seq (.reg yer) (.seq (.seq (.reg yeq) (.cond (.t 16) yep .skip)) (.seq (.seq (.reg yen) (.block 0 yef (.loop yee yem))) (.seq (.reg yed) .ret)))),52,[.tmp 4]⟩
@[simp] theorem c_r08_Allowed:cfun Tryz.prog n_r08_Allowed=some r08_Allowed:=by kernel_rfl
@[simp] theorem e_r08_Allowed:hasBody Tryz.prog n_r08_Allowed=true:=by kernel_rfl
abbrev yes:List AG:=[o 4 (.mv (.c (.bool true)))]
abbrev yeu:List Bool:=[I,I,O,O,O,I,O,O,O,O,O,O,O,O,O,O,O,O,O,O,O,O,O,O,O,O]
abbrev yev:List Bool:=[O,O,O,O,O,O,O,O,O,O,O,O,O,O,O,O,O,O,O,O,O,O,O,O,O,O]
abbrev yew:List AG:=[zz1 15 5,zz6 16 15 1,zz1 5 16]
abbrev yex:List AG:=[zzh 4]
abbrev yey:ACode:=(.seq (.reg yex) .ret)
abbrev yez:List AG:=[zz1 17 0,zz1 18 5,zz5 19 1 17 18,zz2 20 1 19,zz1 21 1,zz1 22 5,zz5 23 1 21 22,zz2 24 1 23,o 25 (.cmp .neq (.sc .bool) (.t 20) (.t 24))]
abbrev yeA:ACode:=(.seq (.dreg [O,O,O,O,O,O,O,O,O] [10,10,10,10,10,10,10,10,10] yez) (.cond (.t 25) yey .skip))
abbrev yeB:List AG:=[zz1 11 5,zz1 12 0,zza 13 12,zz7 14 11 13]
abbrev yeC:ACode:=(.seq (.seq (.reg yeB) (.cond (.t 14) .skip (.exit 0))) (.seq (.block 1 [] yeA) (.reg yew)))
abbrev yeD:List AG:=[zz9 5 0]
abbrev yeE:List AG:=[zzh 4]
abbrev yeF:ACode:=(.seq (.reg yeE) .ret)
abbrev yeG:List AG:=[zz1 6 0,zza 7 6,zz1 8 1,zza 9 8,o 10 (.cmp .neq (.sc .int) (.t 7) (.t 9))]
abbrev yeH:List AG:=[zzh 4]
abbrev r08_Bools:AFun:=⟨(.seq (.reg yeH) (.seq (.seq (.reg yeG) (.cond (.t 10) yeF .skip)) (.seq (.seq (.reg yeD) (.block 0 yev (.loop yeu yeC))) (.seq (.reg yes) .ret)))),26,[.tmp 4]⟩
abbrev yeI:List It:=[.code (.seq (.reg yes) .ret)]
abbrev yeJ (x0 x1 x5:AV) (h:List Ob) (e:Cx:=cx):Cfg:=atC n_r08_Bools (.code yeC::.inLoop yeu yeC::.inBlock 0 yev::yeI) [x0,x1,U,U,U,x5,U,U,U,U,U,U,U,U,U,U,U,U,U,U,U,U,U,U,U,U] h e
@[simp] theorem c_r08_Bools:cfun Tryz.prog n_r08_Bools=some r08_Bools:=by kernel_rfl
@[simp] theorem e_r08_Bools:hasBody Tryz.prog n_r08_Bools=true:=by kernel_rfl
abbrev yeK:List AG:=[o 4 (.mv (.c (.bool true)))]
abbrev yeL:List Bool:=[O,I,O,O,O,O,O,O,O,O,O,O,O,O,O,O,O,O,O,I,I,I,O,O,O,O,O,O,O,O,O,O,O,O,O,O,O,O,O,O]
abbrev yeM:List Bool:=[O,O,O,O,O,O,O,O,O,O,O,O,O,O,O,O,O,O,O,O,O,O,O,O,O,O,O,O,O,O,O,O,O,O,O,O,O,O,O,O]
abbrev yeN:List AG:=[zz6 39 21 1,zz1 21 39]
abbrev yeO:List AG:=[zzh 4]
abbrev yeP:ACode:=(.seq (.reg yeO) .ret)
abbrev yeQ:List AG:=[zz4 26 2 6,zz2 27 1 26,o 28 (.cmp .lss (.sc .int) (.t 27) (.c (.int .i64 2))),zz1 29 28,oy 30 29 (.off 2 (.t 6)),zzd 31 29 1 30,oy 32 29 (.cmp .eql (.sc .int) (.t 31) (.c (.int .i64 1))),zze 33 29 1,zze 34 29 5,oy 35 29 (.ixAddr 1 (.t 33) (.t 34)),zzd 36 29 1 35,oy 37 29 (.cmp .neq (.sc .bool) (.t 32) (.t 36)),zz8 38 29 37]
abbrev yeR:List AG:=[zz1 23 21,zz5 24 3 19 21,zz3 25 3 24,o 6 (.alloc [(.str []),(.str []),(.int .i64 0)]),zz1 5 23,zzb 3 6 25]
abbrev yeS:ACode:=(.seq (.reg yeR) (.seq (.dreg [O,O,O,O,O,O,O,O,O,O,O,O,O] [14,14,14,14,14,14,14,14,14,14,14,14,14] yeQ) (.cond (.t 38) yeP .skip)))
abbrev yeT:List AG:=[zz7 22 21 20]
abbrev yeU:ACode:=(.seq (.reg yeT) (.seq (.cond (.t 22) .skip (.exit 0)) (.seq (.block 1 [] yeS) (.reg yeN))))
abbrev yeV:List AG:=[zz4 18 2 2,zz2 19 1 18,zza 20 19,zz9 21 0]
abbrev yeW:List AG:=[zzh 4]
abbrev yeX:ACode:=(.seq (.reg yeW) .ret)
abbrev yeY:List AG:=[zz3 7 4 2,zzf 8 n_step_right 7,o 9 (.not (.t 8)),zz1 10 9,on 11 10 (.mv (.t 1)),on 12 10 (.len (.t 11)),on 13 10 (.off 2 (.t 2)),on 14 10 (.load false 1 (.t 13)),on 15 10 (.len (.t 14)),on 16 10 (.cmp .neq (.sc .int) (.t 12) (.t 15)),o 17 (.pick (.t 10) (.c (.bool true)) (.t 16))]
abbrev yeZ:List AG:=[o 2 (.box 4 (.t 0)),zzh 4]
abbrev step_Allowed:AFun:=⟨(.seq (.reg yeZ) (.seq (.seq (.reg yeY) (.cond (.t 17) yeX .skip)) (.seq (.seq (.reg yeV) (.block 0 yeM (.loop yeL yeU))) (.seq (.reg yeK) .ret)))),40,[.tmp 4]⟩
abbrev yfa:List It:=[.code (.seq (.reg yeK) .ret)]
abbrev yfb (x1 x19 x20 x21:AV) (h:List Ob) (e:Cx:=cx):Cfg:=atC n_step_Allowed (.code yeU::.inLoop yeL yeU::.inBlock 0 yeM::yfa) [U,x1,U,U,U,U,U,U,U,U,U,U,U,U,U,U,U,U,U,x19,x20,x21,U,U,U,U,U,U,U,U,U,U,U,U,U,U,U,U,U,U] h e
@[simp] theorem c_step_Allowed:cfun Tryz.prog n_step_Allowed=some step_Allowed:=by kernel_rfl
@[simp] theorem e_step_Allowed:hasBody Tryz.prog n_step_Allowed=true:=by kernel_rfl
abbrev yfc:List AG:=[zz1 23 0,zza 24 23,zz1 25 1,o 26 (.cmp .leq (.sc .int) (.t 24) (.t 25)),zz1 4 26]
abbrev yfd:List Bool:=[I,I,O,O,O,I,O,O,O,O,O,O,O,O,O,O,O,O,O,O,O,O,O,O,O,O,O]
abbrev yfe:List Bool:=[I,I,O,O,O,O,O,O,O,O,O,O,O,O,O,O,O,O,O,O,O,O,O,O,O,O,O]
abbrev yff:List AG:=[zz1 15 5,zz6 16 15 1,zz1 5 16]
abbrev yfg:List AG:=[zzh 4]
abbrev yfh:ACode:=(.seq (.reg yfg) .ret)
abbrev yfi:List AG:=[zz1 17 0,zz1 18 5,zz5 19 1 17 18,zz2 20 1 19,zza 21 20,o 22 (.cmp .gtr (.sc .int) (.t 21) (.c (.int .i64 60)))]
abbrev yfj:ACode:=(.seq (.reg yfi) (.cond (.t 22) yfh .skip))
abbrev yfk:List AG:=[zz1 6 5,zz1 7 0,zza 8 7,zz7 9 6 8,zz1 10 9,zze 11 10 5,zze 12 10 1,oy 13 10 (.cmp .leq (.sc .int) (.t 11) (.t 12)),zz8 14 10 13]
abbrev yfl:ACode:=(.seq (.seq (.reg yfk) (.cond (.t 14) .skip (.exit 0))) (.seq (.block 1 [] yfj) (.reg yff)))
abbrev yfm:List AG:=[zz9 5 0]
abbrev yfn:List AG:=[zzh 4]
abbrev w08_Rows:AFun:=⟨(.seq (.reg yfn) (.seq (.seq (.reg yfm) (.block 0 yfe (.loop yfd yfl))) (.seq (.reg yfc) .ret))),27,[.tmp 4]⟩
abbrev yfo:List It:=[.code (.seq (.reg yfc) .ret)]
abbrev yfp (x0 x1 x5:AV) (h:List Ob) (e:Cx:=cx):Cfg:=atC n_w08_Rows (.code yfl::.inLoop yfd yfl::.inBlock 0 yfe::yfo) [x0,x1,U,U,U,x5,U,U,U,U,U,U,U,U,U,U,U,U,U,U,U,U,U,U,U,U,U] h e
@[simp] theorem c_w08_Rows:cfun Tryz.prog n_w08_Rows=some w08_Rows:=by kernel_rfl
@[simp] theorem e_w08_Rows:hasBody Tryz.prog n_w08_Rows=true:=by kernel_rfl
abbrev yfq:List AG:=[zz2 48 1 11,zz2 49 1 4,zzf 50 n_slices_Clone_bool_bool 49,zz1 6 48,zz1 7 50,zz9 8 0]
abbrev yfr:List AG:=[zz2 47 1 10,o 6 (.nilrow 1 t_bool_2),o 7 (.nilrow 1 t_bool),zz1 8 47]
abbrev yfs:ACode:=(.seq (.dreg [I,O,O,O] [5,3,5,5] yfr) .ret)
abbrev yft:List AG:=[zz2 45 1 10,o 46 (.cmp .neq (.sc .int) (.t 45) (.c (.int .i64 0)))]
abbrev yfu:List AG:=[zz1 13 39]
abbrev yfv:List AG:=[zz1 12 38]
abbrev yfw:List AG:=[zz2 40 1 11,zz1 41 12,o 42 (.lit 1 [(.list true 0 [])] [(0,(.t 41))]),o 43 (.append 1 t_bool_2 24 (.t 40) (.t 42)),zz1 44 13,zzb 1 11 43,zzb 1 4 44]
abbrev yfx:ACode:=(.seq (.reg yfv) (.reg yfu))
abbrev yfy:ACode:=(.block 2 [] (.reg yfw))
abbrev yfz:ACode:=(.rangeFunc (.t 37) [38,39] [O,O,O,O,I,O,I,I,I,O,O,I,O,O,O,O,O,O,O,O,O,O,O,O,O,O,O,O,O,O,O,O,O,O,O,O,O,O,O,O,O,O,O,O,O,O,O,O,O,O,O] yfx yfy)
abbrev yfA:List AG:=[zz1 34 9,zz2 35 1 4,zz1 36 2,o 37 (.call (.f n_step_machine_steps) [(.t 34),(.t 35),(.t 36),(.t 10)])]
abbrev yfB:List AG:=[o 11 (.alloc [(.own 1 t_bool_2 [])])]
abbrev yfC:List AG:=[zz2 22 1 10,o 6 (.nilrow 1 t_bool_2),o 7 (.nilrow 1 t_bool),zz1 8 22]
abbrev yfD:List AG:=[o 6 (.nilrow 1 t_bool_2),o 7 (.nilrow 1 t_bool),zz9 8 8]
abbrev yfE:List AG:=[o 6 (.nilrow 1 t_bool_2),o 7 (.nilrow 1 t_bool),zz9 8 11]
abbrev yfF:ACode:=(.seq (.reg yfE) .ret)
abbrev yfG:List AG:=[zz2 28 1 4,zza 29 28,zz4 30 2 3,zz2 31 1 30,zza 32 31,o 33 (.cmp .neq (.sc .int) (.t 29) (.t 32)),zz1 27 33]
abbrev yfH:ACode:=(.seq (.reg yfD) .ret)
abbrev yfI:ACode:=(.seq (.reg yfG) (.cond (.t 27) yfF .skip))
abbrev yfJ:List AG:=[zz1 24 2,zza 25 24,o 26 (.cmp .gtr (.sc .int) (.t 25) (.c (.int .i64 40))),zz1 23 26]
abbrev yfK:ACode:=(.seq (.dreg [I,O,O,O] [5,3,5,5] yfC) .ret)
abbrev yfL:ACode:=(.seq (.reg yfJ) (.cond (.t 23) yfH yfI))
abbrev yfM:List AG:=[zz2 20 1 10,o 21 (.cmp .neq (.sc .int) (.t 20) (.c (.int .i64 0))),zz1 19 21]
abbrev yfN:ACode:=(.seq (.reg yfM) (.cond (.t 19) yfK yfL))
abbrev yfO:List AG:=[zz3 15 4 3,zzf 16 n_step_begin 15,zz1 14 16,zzc 17 14 0,zzc 18 14 1,o 10 (.alloc [(.int .i64 0)]),zz1 9 17,zzb 1 10 18]
abbrev yfP:List AG:=[o 3 (.box 4 (.t 0)),o 4 (.box 1 (.t 1)),o 6 (.nilrow 1 t_bool_2),o 7 (.nilrow 1 t_bool),zz9 8 0]
abbrev step_Run:AFun:=⟨(.seq (.reg yfP) (.seq (.reg yfO) (.seq (.block 0 [] yfN) (.seq (.reg yfB) (.seq (.seq (.reg yfA) (.block 1 [] yfz)) (.seq (.seq (.reg yft) (.cond (.t 46) yfs .skip)) (.seq (.dreg [I,O,O,O,O,O] [7,3,7,7,7,7] yfq) .ret))))))),51,[.tmp 6,.tmp 7,.tmp 8]⟩
@[simp] theorem c_step_Run:cfun Tryz.prog n_step_Run=some step_Run:=by kernel_rfl
@[simp] theorem e_step_Run:hasBody Tryz.prog n_step_Run=true:=by kernel_rfl
abbrev yfQ:List AG:=[zz1 51 9,zz1 52 1,zz1 6 51,zz1 7 52,zz9 8 0]
abbrev yfR:List Bool:=[O,I,I,I,O,O,O,O,O,I,I,O,O,O,O,O,O,O,O,O,O,O,O,O,O,O,O,O,O,O,O,O,O,O,O,O,O,O,O,O,O,O,O,O,O,O,O,O,O,O,O,O,O]
abbrev yfS:List Bool:=[O,I,O,O,O,O,O,O,O,I,O,O,O,O,O,O,O,O,O,O,O,O,O,O,O,O,O,O,O,O,O,O,O,O,O,O,O,O,O,O,O,O,O,O,O,O,O,O,O,O,O,O,O]
abbrev yfT:List AG:=[zz1 30 10,zz6 31 30 1,zz1 10 31]
abbrev yfU:List AG:=[zz1 50 12,zz1 1 50]
abbrev yfV:List AG:=[zz1 46 9,zz1 47 11,o 48 (.lit 1 [(.list true 0 [])] [(0,(.t 47))]),o 49 (.append 1 t_bool_2 24 (.t 46) (.t 48)),zz1 9 49]
abbrev yfW:List AG:=[zz1 45 13,o 6 (.nilrow 1 t_bool_2),o 7 (.nilrow 1 t_bool),zz1 8 45]
abbrev yfX:ACode:=(.seq (.reg yfW) .ret)
abbrev yfY:List AG:=[zz1 43 13,o 44 (.cmp .neq (.sc .int) (.t 43) (.c (.int .i64 0)))]
abbrev yfZ:List AG:=[zz3 33 4 3,zz1 34 1,zz1 35 2,zz1 36 10,zz5 37 1 35 36,zz2 38 1 37,o 39 (.call (.f n_r08_Step) [(.t 33),(.t 34),(.t 38)]),zz1 32 39,zzc 40 32 0,zzc 41 32 1,zzc 42 32 2,zz1 11 40,zz1 12 41,zz1 13 42]
abbrev yga:ACode:=(.seq (.dreg [O,O,O,O,O,O,O,O,O,O,O,O,O,O] [7,7,7,7,7,7,15,15,15,15,15,15,15,15] yfZ) (.seq (.seq (.reg yfY) (.cond (.t 44) yfX .skip)) (.seq (.reg yfV) (.reg yfU))))
abbrev ygb:List AG:=[zz1 26 10,zz1 27 2,zza 28 27,zz7 29 26 28]
abbrev ygc:ACode:=(.seq (.seq (.reg ygb) (.cond (.t 29) .skip (.exit 0))) (.seq (.block 1 [] yga) (.reg yfT)))
abbrev ygd:List AG:=[zz9 10 0]
abbrev yge:List AG:=[o 9 (.nilrow 1 t_bool_2)]
abbrev ygf:List AG:=[o 6 (.nilrow 1 t_bool_2),o 7 (.nilrow 1 t_bool),zz9 8 11]
abbrev ygg:ACode:=(.seq (.reg ygf) .ret)
abbrev ygh:List AG:=[zz1 20 1,zza 21 20,zz4 22 2 3,zz2 23 1 22,zza 24 23,o 25 (.cmp .neq (.sc .int) (.t 21) (.t 24))]
abbrev ygi:List AG:=[o 6 (.nilrow 1 t_bool_2),o 7 (.nilrow 1 t_bool),zz9 8 8]
abbrev ygj:ACode:=(.seq (.reg ygi) .ret)
abbrev ygk:List AG:=[zz1 17 2,zza 18 17,o 19 (.cmp .gtr (.sc .int) (.t 18) (.c (.int .i64 40)))]
abbrev ygl:List AG:=[o 6 (.nilrow 1 t_bool_2),o 7 (.nilrow 1 t_bool),zz9 8 1]
abbrev ygm:ACode:=(.seq (.reg ygl) .ret)
abbrev ygn:List AG:=[zz3 14 4 3,zzf 15 n_r08_right 14,o 16 (.not (.t 15))]
abbrev ygo:List AG:=[o 3 (.box 4 (.t 0)),o 6 (.nilrow 1 t_bool_2),o 7 (.nilrow 1 t_bool),zz9 8 0]
abbrev r08_Run:AFun:=⟨(.seq (.reg ygo) (.seq (.seq (.reg ygn) (.cond (.t 16) ygm .skip)) (.seq (.seq (.reg ygk) (.cond (.t 19) ygj .skip)) (.seq (.seq (.reg ygh) (.cond (.t 25) ygg .skip)) (.seq (.reg yge) (.seq (.seq (.reg ygd) (.block 0 yfS (.loop yfR ygc))) (.seq (.reg yfQ) .ret))))))),53,[.tmp 6,.tmp 7,.tmp 8]⟩
abbrev ygp:List It:=[.code (.seq (.reg yfQ) .ret)]
abbrev ygq (x1 x2 x3 x9 x10:AV) (h:List Ob) (e:Cx:=cx):Cfg:=atC n_r08_Run (.code ygc::.inLoop yfR ygc::.inBlock 0 yfS::ygp) [U,x1,x2,x3,U,U,U,U,U,x9,x10,U,U,U,U,U,U,U,U,U,U,U,U,U,U,U,U,U,U,U,U,U,U,U,U,U,U,U,U,U,U,U,U,U,U,U,U,U,U,U,U,U,U] h e
@[simp] theorem c_r08_Run:cfun Tryz.prog n_r08_Run=some r08_Run:=by kernel_rfl
@[simp] theorem e_r08_Run:hasBody Tryz.prog n_r08_Run=true:=by kernel_rfl
abbrev ygr:List AG:=[o 4 (.mv (.c (.bool true)))]
abbrev ygs:List Bool:=[I,I,O,O,O,I,O,O,O,O,O,O,O,O,O,O,O,O,O,O,O,O,O,O,O,O,O]
abbrev ygt:List Bool:=[O,O,O,O,O,O,O,O,O,O,O,O,O,O,O,O,O,O,O,O,O,O,O,O,O,O,O]
abbrev ygu:List AG:=[zz1 15 5,zz6 16 15 1,zz1 5 16]
abbrev ygv:List AG:=[zzh 4]
abbrev ygw:ACode:=(.seq (.reg ygv) .ret)
abbrev ygx:List AG:=[zz1 17 0,zz1 18 5,zz5 19 1 17 18,zz2 20 1 19,zz1 21 1,zz1 22 5,zz5 23 1 21 22,zz2 24 1 23,zzg 25 n_r08_Bools 20 24,o 26 (.not (.t 25))]
abbrev ygy:ACode:=(.seq (.dreg [O,O,O,O,O,O,O,O,O,O] [9,9,9,9,9,9,9,9,11,11] ygx) (.cond (.t 26) ygw .skip))
abbrev ygz:List AG:=[zz1 11 5,zz1 12 0,zza 13 12,zz7 14 11 13]
abbrev ygA:ACode:=(.seq (.seq (.reg ygz) (.cond (.t 14) .skip (.exit 0))) (.seq (.block 1 [] ygy) (.reg ygu)))
abbrev ygB:List AG:=[zz9 5 0]
abbrev ygC:List AG:=[zzh 4]
abbrev ygD:ACode:=(.seq (.reg ygC) .ret)
abbrev ygE:List AG:=[zz1 6 0,zza 7 6,zz1 8 1,zza 9 8,o 10 (.cmp .neq (.sc .int) (.t 7) (.t 9))]
abbrev ygF:List AG:=[zzh 4]
abbrev r08_Rows:AFun:=⟨(.seq (.reg ygF) (.seq (.seq (.reg ygE) (.cond (.t 10) ygD .skip)) (.seq (.seq (.reg ygB) (.block 0 ygt (.loop ygs ygA))) (.seq (.reg ygr) .ret)))),27,[.tmp 4]⟩
abbrev ygG:List It:=[.code (.seq (.reg ygr) .ret)]
abbrev ygH (x0 x1 x5:AV) (h:List Ob) (e:Cx:=cx):Cfg:=atC n_r08_Rows (.code ygA::.inLoop ygs ygA::.inBlock 0 ygt::ygG) [x0,x1,U,U,U,x5,U,U,U,U,U,U,U,U,U,U,U,U,U,U,U,U,U,U,U,U,U] h e
@[simp] theorem c_r08_Rows:cfun Tryz.prog n_r08_Rows=some r08_Rows:=by kernel_rfl
@[simp] theorem e_r08_Rows:hasBody Tryz.prog n_r08_Rows=true:=by kernel_rfl
abbrev ygI:List AG:=[zz1 62 6,zz1 63 62,zze 64 63 7,zz8 65 63 64,zz1 66 65,oy 67 66 (.off 3 (.t 1)),zzd 68 66 1 67,oy 69 66 (.len (.t 68)),oy 70 66 (.cmp .leq (.sc .int) (.t 69) (.c (.int .i64 210))),zz8 71 66 70,zz1 72 71,oy 73 72 (.off 2 (.t 1)),zzd 74 72 1 73,oy 75 72 (.len (.t 74)),oy 76 72 (.cmp .leq (.sc .int) (.t 75) (.c (.int .i64 210))),zz8 77 72 76,zz1 2 77]
abbrev ygJ:List AG:=[zz4 59 1 1,zz2 60 1 59,o 61 (.call (.f n_w05_Texts) [(.t 60),(.c (.int .i64 210))]),zz1 7 61]
abbrev ygK:List AG:=[zz4 56 0 1,zz2 57 1 56,o 58 (.call (.f n_w05_Texts) [(.t 57),(.c (.int .i64 210))]),zz1 6 58]
abbrev ygL:List Bool:=[O,I,O,O,O,I,O,O,O,O,O,O,O,O,O,O,O,O,O,O,O,O,O,O,O,O,O,O,O,O,O,O,O,O,O,O,O,O,O,O,O,O,O,O,O,O,O,O,O,O,O,O,O,O,O,O,O,O,O,O,O,O,O,O,O,O,O,O,O,O,O,O,O,O,O,O,O,O]
abbrev ygM:List Bool:=[O,I,O,O,O,O,O,O,O,O,O,O,O,O,O,O,O,O,O,O,O,O,O,O,O,O,O,O,O,O,O,O,O,O,O,O,O,O,O,O,O,O,O,O,O,O,O,O,O,O,O,O,O,O,O,O,O,O,O,O,O,O,O,O,O,O,O,O,O,O,O,O,O,O,O,O,O,O]
abbrev ygN:List AG:=[zz1 36 5,zz6 37 36 1,zz1 5 37]
abbrev ygO:List AG:=[zzh 2]
abbrev ygP:ACode:=(.seq (.reg ygO) .ret)
abbrev ygQ:List AG:=[zz4 38 2 1,zz2 39 1 38,zz1 40 5,zz5 41 3 39 40,zz4 42 0 41,zz2 43 1 42,o 44 (.lenStr (.t 43)),o 45 (.cmp .gtr (.sc .int) (.t 44) (.c (.int .i64 60))),zz1 46 45,on 47 46 (.off 2 (.t 1)),on 48 46 (.load false 1 (.t 47)),on 49 46 (.mv (.t 5)),on 50 46 (.ixAddr 3 (.t 48) (.t 49)),on 51 46 (.off 1 (.t 50)),on 52 46 (.load false 1 (.t 51)),on 53 46 (.lenStr (.t 52)),on 54 46 (.cmp .gtr (.sc .int) (.t 53) (.c (.int .i64 60))),o 55 (.pick (.t 46) (.c (.bool true)) (.t 54))]
abbrev ygR:ACode:=(.seq (.reg ygQ) (.cond (.t 55) ygP .skip))
abbrev ygS:List AG:=[zz1 27 5,zz4 28 2 1,zz2 29 1 28,zza 30 29,zz7 31 27 30,zz1 32 31,zze 33 32 5,oy 34 32 (.cmp .leq (.sc .int) (.t 33) (.c (.int .i64 210))),zz8 35 32 34]
abbrev ygT:ACode:=(.seq (.seq (.reg ygS) (.cond (.t 35) .skip (.exit 2))) (.seq (.block 3 [] ygR) (.reg ygN)))
abbrev ygU:List AG:=[zz9 5 0]
abbrev ygV:List Bool:=[O,I,O,I,O,O,O,O,O,O,O,O,O,O,O,O,O,O,O,O,O,O,O,O,O,O,O,O,O,O,O,O,O,O,O,O,O,O,O,O,O,O,O,O,O,O,O,O,O,O,O,O,O,O,O,O,O,O,O,O,O,O,O,O,O,O,O,O,O,O,O,O,O,O,O,O,O,O]
abbrev ygW:List Bool:=[O,I,O,O,O,O,O,O,O,O,O,O,O,O,O,O,O,O,O,O,O,O,O,O,O,O,O,O,O,O,O,O,O,O,O,O,O,O,O,O,O,O,O,O,O,O,O,O,O,O,O,O,O,O,O,O,O,O,O,O,O,O,O,O,O,O,O,O,O,O,O,O,O,O,O,O,O,O]
abbrev ygX:List AG:=[zz1 17 3,zz6 18 17 1,zz1 3 18]
abbrev ygY:List AG:=[zzh 2]
abbrev ygZ:ACode:=(.seq (.reg ygY) .ret)
abbrev yha:List AG:=[zz1 25 4,o 26 (.not (.t 25))]
abbrev yhb:List AG:=[zz4 19 3 1,zz2 20 1 19,zz1 21 3,zz5 22 5 20 21,zz3 23 5 22,zzf 24 n_w06_FewGate 23,zz1 4 24]
abbrev yhc:ACode:=(.seq (.reg yhb) (.seq (.reg yha) (.cond (.t 26) ygZ .skip)))
abbrev yhd:List AG:=[zz1 8 3,zz4 9 3 1,zz2 10 1 9,zza 11 10,zz7 12 8 11,zz1 13 12,zze 14 13 3,oy 15 13 (.cmp .leq (.sc .int) (.t 14) (.c (.int .i64 210))),zz8 16 13 15]
abbrev yhe:ACode:=(.seq (.seq (.reg yhd) (.cond (.t 16) .skip (.exit 0))) (.seq (.block 1 [] yhc) (.reg ygX)))
abbrev yhf:List AG:=[zz9 3 0]
abbrev yhg:List AG:=[o 1 (.box 4 (.t 0)),zzh 2]
abbrev w06_Few:AFun:=⟨(.seq (.reg yhg) (.seq (.seq (.reg yhf) (.block 0 ygW (.loop ygV yhe))) (.seq (.seq (.reg ygU) (.block 2 ygM (.loop ygL ygT))) (.seq (.reg ygK) (.seq (.reg ygJ) (.seq (.reg ygI) .ret)))))),78,[.tmp 2]⟩
abbrev yhh:List It:=[.code (.seq (.reg ygK) (.seq (.reg ygJ) (.seq (.reg ygI) .ret)))]
abbrev yhi (x1 x5:AV) (h:List Ob) (e:Cx:=cx):Cfg:=atC n_w06_Few (.code ygT::.inLoop ygL ygT::.inBlock 2 ygM::yhh) [U,x1,U,U,U,x5,U,U,U,U,U,U,U,U,U,U,U,U,U,U,U,U,U,U,U,U,U,U,U,U,U,U,U,U,U,U,U,U,U,U,U,U,U,U,U,U,U,U,U,U,U,U,U,U,U,U,U,U,U,U,U,U,U,U,U,U,U,U,U,U,U,U,U,U,U,U,U,U] h e
abbrev yhj (x1:AV) (h:List Ob) (e:Cx:=cx):Cfg:=atC n_w06_Few yhh [U,x1,U,U,U,U,U,U,U,U,U,U,U,U,U,U,U,U,U,U,U,U,U,U,U,U,U,U,U,U,U,U,U,U,U,U,U,U,U,U,U,U,U,U,U,U,U,U,U,U,U,U,U,U,U,U,U,U,U,U,U,U,U,U,U,U,U,U,U,U,U,U,U,U,U,U,U,U] h e
abbrev yhk:List It:=[.code (.seq (.seq (.reg ygU) (.block 2 ygM (.loop ygL ygT))) (.seq (.reg ygK) (.seq (.reg ygJ) (.seq (.reg ygI) .ret))))]
abbrev yhl (x1 x3:AV) (h:List Ob) (e:Cx:=cx):Cfg:=atC n_w06_Few (.code yhe::.inLoop ygV yhe::.inBlock 0 ygW::yhk) [U,x1,U,x3,U,U,U,U,U,U,U,U,U,U,U,U,U,U,U,U,U,U,U,U,U,U,U,U,U,U,U,U,U,U,U,U,U,U,U,U,U,U,U,U,U,U,U,U,U,U,U,U,U,U,U,U,U,U,U,U,U,U,U,U,U,U,U,U,U,U,U,U,U,U,U,U,U,U] h e
@[simp] theorem c_w06_Few:cfun Tryz.prog n_w06_Few=some w06_Few:=by kernel_rfl
@[simp] theorem e_w06_Few:hasBody Tryz.prog n_w06_Few=true:=by kernel_rfl
abbrev yhm:List AG:=[o 4 (.mv (.c (.int .i64 (-1))))]
abbrev yhn:List Bool:=[O,I,O,O,O,I,I,O,O,O,O,O,O,O,O,O,O,O,O,O,O,O]
abbrev yho:List Bool:=[O,O,O,O,O,O,O,O,O,O,O,O,O,O,O,O,O,O,O,O,O,O]
abbrev yhp:List AG:=[zz1 13 6,zz6 14 13 1,zz1 6 14]
abbrev yhq:List AG:=[zz1 21 6,zz1 4 21]
abbrev yhr:ACode:=(.seq (.reg yhq) .ret)
abbrev yhs:List AG:=[zz1 15 5,zz1 16 6,zz5 17 1 15 16,zz2 18 1 17,zz1 19 1,o 20 (.cmp .eql (.sc .str) (.t 18) (.t 19))]
abbrev yht:ACode:=(.seq (.reg yhs) (.cond (.t 20) yhr .skip))
abbrev yhu:List AG:=[zz1 9 6,zz1 10 5,zza 11 10,zz7 12 9 11]
abbrev yhv:ACode:=(.seq (.seq (.reg yhu) (.cond (.t 12) .skip (.exit 0))) (.seq (.block 1 [] yht) (.reg yhp)))
abbrev yhw:List AG:=[zz9 6 0]
abbrev yhx:List AG:=[zz3 7 4 2,zzf 8 n_r06_Nets 7,zz1 5 8]
abbrev yhy:List AG:=[o 2 (.box 4 (.t 0)),zz9 4 0]
abbrev r06_Place:AFun:=⟨(.seq (.reg yhy) (.seq (.reg yhx) (.seq (.seq (.reg yhw) (.block 0 yho (.loop yhn yhv))) (.seq (.reg yhm) .ret)))),22,[.tmp 4]⟩
abbrev yhz:List It:=[.code (.seq (.reg yhm) .ret)]
abbrev yhA (x1 x5 x6:AV) (h:List Ob) (e:Cx:=cx):Cfg:=atC n_r06_Place (.code yhv::.inLoop yhn yhv::.inBlock 0 yho::yhz) [U,x1,U,U,U,x5,x6,U,U,U,U,U,U,U,U,U,U,U,U,U,U,U] h e
@[simp] theorem c_r06_Place:cfun Tryz.prog n_r06_Place=some r06_Place:=by kernel_rfl
@[simp] theorem e_r06_Place:hasBody Tryz.prog n_r06_Place=true:=by kernel_rfl
abbrev yhB:List AG:=[zz1 23 0,zza 24 23,zz1 25 1,o 26 (.cmp .leq (.sc .int) (.t 24) (.t 25)),zz1 4 26]
abbrev yhC:List Bool:=[I,I,O,O,O,I,O,O,O,O,O,O,O,O,O,O,O,O,O,O,O,O,O,O,O,O,O]
abbrev yhD:List Bool:=[I,I,O,O,O,O,O,O,O,O,O,O,O,O,O,O,O,O,O,O,O,O,O,O,O,O,O]
abbrev yhE:List AG:=[zz1 15 5,zz6 16 15 1,zz1 5 16]
abbrev yhF:List AG:=[zzh 4]
abbrev yhG:ACode:=(.seq (.reg yhF) .ret)
abbrev yhH:List AG:=[zz1 17 0,zz1 18 5,zz5 19 1 17 18,zz2 20 1 19,o 21 (.lenStr (.t 20)),o 22 (.cmp .gtr (.sc .int) (.t 21) (.c (.int .i64 60)))]
abbrev yhI:ACode:=(.seq (.reg yhH) (.cond (.t 22) yhG .skip))
abbrev yhJ:List AG:=[zz1 6 5,zz1 7 0,zza 8 7,zz7 9 6 8,zz1 10 9,zze 11 10 5,zze 12 10 1,oy 13 10 (.cmp .leq (.sc .int) (.t 11) (.t 12)),zz8 14 10 13]
abbrev yhK:ACode:=(.seq (.seq (.reg yhJ) (.cond (.t 14) .skip (.exit 0))) (.seq (.block 1 [] yhI) (.reg yhE)))
abbrev yhL:List AG:=[zz9 5 0]
abbrev yhM:List AG:=[zzh 4]
abbrev w05_Texts:AFun:=⟨(.seq (.reg yhM) (.seq (.seq (.reg yhL) (.block 0 yhD (.loop yhC yhK))) (.seq (.reg yhB) .ret))),27,[.tmp 4]⟩
abbrev yhN:List It:=[.code (.seq (.reg yhB) .ret)]
abbrev yhO (x0 x1 x5:AV) (h:List Ob) (e:Cx:=cx):Cfg:=atC n_w05_Texts (.code yhK::.inLoop yhC yhK::.inBlock 0 yhD::yhN) [x0,x1,U,U,U,x5,U,U,U,U,U,U,U,U,U,U,U,U,U,U,U,U,U,U,U,U,U] h e
@[simp] theorem c_w05_Texts:cfun Tryz.prog n_w05_Texts=some w05_Texts:=by kernel_rfl
@[simp] theorem e_w05_Texts:hasBody Tryz.prog n_w05_Texts=true:=by kernel_rfl
abbrev yhP:List AG:=[zz4 18 1 1,zz2 19 1 18,zz4 20 2 1,zz2 21 1 20,zza 22 21,zzg 23 n_net_has 19 22,zz1 24 23,oy 25 24 (.off 3 (.t 1)),zzd 26 24 1 25,oy 27 24 (.len (.t 26)),oy 28 24 (.cmp .leq (.sc .int) (.t 27) (.c (.int .i64 128))),zz8 29 24 28,zz1 30 29,oy 31 30 (.off 3 (.t 1)),zzd 32 30 1 31,zze 33 30 3,oy 34 30 (.call (.f n_slices_ContainsFunc_string_string) [(.t 32),(.t 33)]),oy 35 30 (.not (.t 34)),zz8 36 30 35,zz1 2 36]
abbrev yhQ:List AG:=[zzh 2]
abbrev yhR:ACode:=(.seq (.reg yhQ) .ret)
abbrev yhS:List AG:=[zz4 5 1 1,zz2 6 1 5,o 7 (.cmp .neq (.sc .int) (.t 6) (.c (.int .i64 10))),zz1 8 7,oy 9 8 (.off 3 (.t 1)),zzd 10 8 1 9,oy 11 8 (.len (.t 10)),oy 12 8 (.cmp .gtr (.sc .int) (.t 11) (.c (.int .i64 0))),zze 13 8 12,on 14 13 (.off 4 (.t 1)),on 15 13 (.load false 1 (.t 14)),oy 16 8 (.pick (.t 13) (.c (.bool true)) (.t 15)),zz8 17 8 16]
abbrev yhT:List AG:=[o 4 (.mkFunc (.func n_net_Gate_1) [] [(.t 1)]),zz1 3 4]
abbrev yhU:List AG:=[o 1 (.box 5 (.t 0)),zzh 2]
abbrev net_Gate:AFun:=⟨(.seq (.reg yhU) (.seq (.reg yhT) (.seq (.seq (.reg yhS) (.cond (.t 17) yhR .skip)) (.seq (.reg yhP) .ret)))),37,[.tmp 2]⟩
@[simp] theorem c_net_Gate:cfun Tryz.prog n_net_Gate=some net_Gate:=by kernel_rfl
@[simp] theorem e_net_Gate:hasBody Tryz.prog n_net_Gate=true:=by kernel_rfl
abbrev yhV:List AG:=[zz3 35 2 3,zzb 2 2 35]
abbrev yhW:List AG:=[zz4 34 0 3,q (.store 1 (.t 34) (.f n_step_of_4))]
abbrev yhX:List AG:=[zz4 33 0 3,q (.store 1 (.t 33) (.f n_step_of_3))]
abbrev yhY:List AG:=[zz4 32 0 3,q (.store 1 (.t 32) (.f n_step_of_2))]
abbrev yhZ:List AG:=[zz4 31 0 3,q (.store 1 (.t 31) (.f n_step_of_1))]
abbrev yia:List AG:=[o 30 (.cmp .eql (.sc .int) (.t 13) (.c (.int .i64 9))),zz1 28 30]
abbrev yib:List AG:=[o 29 (.cmp .eql (.sc .int) (.t 13) (.c (.int .i64 8))),zz1 28 29]
abbrev yic:List AG:=[o 27 (.cmp .eql (.sc .int) (.t 13) (.c (.int .i64 7))),zz1 25 27]
abbrev yid:List AG:=[o 26 (.cmp .eql (.sc .int) (.t 13) (.c (.int .i64 6))),zz1 25 26]
abbrev yie:List AG:=[o 24 (.cmp .eql (.sc .int) (.t 13) (.c (.int .i64 5))),zz1 22 24]
abbrev yif:List AG:=[o 23 (.cmp .eql (.sc .int) (.t 13) (.c (.int .i64 4))),zz1 22 23]
abbrev yig:List AG:=[o 21 (.cmp .eql (.sc .int) (.t 13) (.c (.int .i64 3))),zz1 20 21]
abbrev yih:List AG:=[o 19 (.cmp .eql (.sc .int) (.t 13) (.c (.int .i64 2))),zz1 18 19]
abbrev yii:List AG:=[o 17 (.cmp .eql (.sc .int) (.t 13) (.c (.int .i64 1))),zz1 16 17]
abbrev yij:List AG:=[o 15 (.cmp .eql (.sc .int) (.t 13) (.c (.int .i64 0))),zz1 14 15]
abbrev yik:ACode:=(.seq (.seq (.seq (.reg yij) (.cond (.t 14) (.exit 2) .skip)) (.seq (.seq (.reg yii) (.cond (.t 16) (.exit 3) .skip)) (.seq (.seq (.reg yih) (.cond (.t 18) (.exit 4) .skip)) (.seq (.seq (.reg yig) (.cond (.t 20) (.exit 5) .skip)) (.seq (.seq (.seq (.reg yif) (.cond (.t 22) .skip (.reg yie))) (.cond (.t 22) (.exit 6) .skip)) (.seq (.seq (.seq (.reg yid) (.cond (.t 25) .skip (.reg yic))) (.cond (.t 25) (.exit 7) .skip)) (.seq (.seq (.reg yib) (.cond (.t 28) .skip (.reg yia))) (.cond (.t 28) (.exit 8) .skip)))))))) (.exit 1))
abbrev yil:ACode:=(.block 2 [] yik)
abbrev yim:ACode:=(.seq (.block 3 [] yil) (.seq (.reg yhZ) (.exit 1)))
abbrev yin:ACode:=(.block 4 [] yim)
abbrev yio:ACode:=(.block 5 [] yin)
abbrev yip:ACode:=(.seq (.block 6 [] yio) (.seq (.reg yhY) (.exit 1)))
abbrev yiq:ACode:=(.seq (.block 7 [] yip) (.seq (.reg yhX) (.exit 1)))
abbrev yir:ACode:=(.seq (.block 8 [] yiq) (.seq (.reg yhW) (.exit 1)))
abbrev yis:List AG:=[zz1 13 0]
abbrev yit:List AG:=[zz4 12 1 3,q (.store 1 (.t 12) (.c (.bool true)))]
abbrev yiu:List AG:=[o 11 (.cmp .eql (.sc .int) (.t 5) (.c (.int .i64 9))),zz1 6 11]
abbrev yiv:List AG:=[o 10 (.cmp .eql (.sc .int) (.t 5) (.c (.int .i64 7))),zz1 6 10]
abbrev yiw:ACode:=(.seq (.reg yiv) (.cond (.t 6) .skip (.reg yiu)))
abbrev yix:List AG:=[o 9 (.cmp .eql (.sc .int) (.t 5) (.c (.int .i64 5))),zz1 6 9]
abbrev yiy:ACode:=(.seq (.reg yix) (.cond (.t 6) .skip yiw))
abbrev yiz:List AG:=[o 8 (.cmp .eql (.sc .int) (.t 5) (.c (.int .i64 3))),zz1 6 8]
abbrev yiA:ACode:=(.seq (.reg yiz) (.cond (.t 6) .skip yiy))
abbrev yiB:List AG:=[o 7 (.cmp .eql (.sc .int) (.t 5) (.c (.int .i64 1))),zz1 6 7]
abbrev yiC:ACode:=(.seq (.seq (.reg yiB) (.cond (.t 6) .skip yiA)) (.cond (.t 6) (.reg yit) .skip))
abbrev yiD:List AG:=[zz1 5 0]
abbrev yiE:List AG:=[o 4 (.build [.nilf,(.bool false)] []),o 3 (.alloc [.nilf,(.bool false)]),zzb 2 3 4]
abbrev yiF:List AG:=[o 2 (.alloc [.nilf,(.bool false)])]
abbrev step_of:AFun:=⟨(.seq (.reg yiF) (.seq (.reg yiE) (.seq (.seq (.reg yiD) (.block 0 [] yiC)) (.seq (.seq (.reg yis) (.block 1 [] yir)) (.seq (.reg yhV) .ret))))),36,[.cell 2 true 2]⟩
@[simp] theorem c_step_of:cfun Tryz.prog n_step_of=some step_of:=by kernel_rfl
@[simp] theorem e_step_of:hasBody Tryz.prog n_step_of=true:=by kernel_rfl
abbrev yiG:List AG:=[zz4 4 3 1,zz2 5 1 4,o 6 (.mkFunc (.func n_step_Gate_1_1) [] [(.t 2)]),zzg 7 n_slices_ContainsFunc_string_string 5 6,zz1 3 7]
abbrev yiH:List AG:=[o 2 (.box 1 (.t 0)),zzh 3]
abbrev step_Gate_1:AFun:=⟨(.seq (.reg yiH) (.seq (.reg yiG) .ret)),8,[.tmp 3]⟩
@[simp] theorem c_step_Gate_1:cfun Tryz.prog n_step_Gate_1=some step_Gate_1:=by kernel_rfl
@[simp] theorem e_step_Gate_1:hasBody Tryz.prog n_step_Gate_1=true:=by kernel_rfl
abbrev yiI:List AG:=[zz1 5 0,zz1 6 1,zzg 7 n_slices_IndexFunc_string_string 5 6,o 8 (.cmp .geq (.sc .int) (.t 7) (.c (.int .i64 0))),zz1 4 8]
abbrev yiJ:List AG:=[zzh 4]
abbrev slices_ContainsFunc_string_string:AFun:=⟨(.seq (.reg yiJ) (.seq (.reg yiI) .ret)),9,[.tmp 4]⟩
@[simp] theorem c_slices_ContainsFunc_string_string:cfun Tryz.prog n_slices_ContainsFunc_string_string=some slices_ContainsFunc_string_string:=by kernel_rfl
@[simp] theorem e_slices_ContainsFunc_string_string:hasBody Tryz.prog n_slices_ContainsFunc_string_string=true:=by kernel_rfl
abbrev yiK:List AG:=[zz1 4 0,zz2 5 1 1,zzg 6 n_step_fits 4 5,zz1 3 6]
abbrev yiL:List AG:=[zzh 3]
abbrev step_Gate_1_1:AFun:=⟨(.seq (.reg yiL) (.seq (.reg yiK) .ret)),7,[.tmp 3]⟩
@[simp] theorem c_step_Gate_1_1:cfun Tryz.prog n_step_Gate_1_1=some step_Gate_1_1:=by kernel_rfl
@[simp] theorem e_step_Gate_1_1:hasBody Tryz.prog n_step_Gate_1_1=true:=by kernel_rfl
abbrev yiM:List AG:=[o 4 (.mv (.c (.bool true)))]
abbrev yiN:List Bool:=[I,O,O,O,O,O,O,I,I,I,O,O,O,O,O,O,O,O,O,O,O,O,O,O,O,O,O]
abbrev yiO:List Bool:=[O,O,O,O,O,O,O,O,O,O,O,O,O,O,O,O,O,O,O,O,O,O,O,O,O,O,O]
abbrev yiP:List AG:=[zz6 26 9 1,zz1 9 26]
abbrev yiQ:List AG:=[zzh 4]
abbrev yiR:ACode:=(.seq (.reg yiQ) .ret)
abbrev yiS:List AG:=[zz1 14 0,zz1 15 5,o 16 (.ixStr (.t 14) (.t 15)),o 17 (.cmp .neq (.sc .int) (.t 16) (.c (.int .u8 45))),zz1 18 17,zze 19 18 0,zze 20 18 5,oy 21 18 (.ixStr (.t 19) (.t 20)),oy 22 18 (.cmp .eql (.sc .int) (.t 21) (.c (.int .u8 49))),zze 23 18 6,oy 24 18 (.cmp .neq (.sc .bool) (.t 22) (.t 23)),zz8 25 18 24]
abbrev yiT:List AG:=[zz1 11 9,zz5 12 1 7 9,zz2 13 1 12,zz1 5 11,zz1 6 13]
abbrev yiU:ACode:=(.seq (.reg yiT) (.seq (.reg yiS) (.cond (.t 25) yiR .skip)))
abbrev yiV:List AG:=[zz7 10 9 8]
abbrev yiW:ACode:=(.seq (.reg yiV) (.seq (.cond (.t 10) .skip (.exit 0)) (.seq (.block 1 [] yiU) (.reg yiP))))
abbrev yiX:List AG:=[zz1 7 1,zza 8 7,zz9 9 0]
abbrev yiY:List AG:=[zzh 4]
abbrev step_fits:AFun:=⟨(.seq (.reg yiY) (.seq (.seq (.reg yiX) (.block 0 yiO (.loop yiN yiW))) (.seq (.reg yiM) .ret))),27,[.tmp 4]⟩
abbrev yiZ:List It:=[.code (.seq (.reg yiM) .ret)]
abbrev yja (x0 x7 x8 x9:AV) (h:List Ob) (e:Cx:=cx):Cfg:=atC n_step_fits (.code yiW::.inLoop yiN yiW::.inBlock 0 yiO::yiZ) [x0,U,U,U,U,U,U,x7,x8,x9,U,U,U,U,U,U,U,U,U,U,U,U,U,U,U,U,U] h e
@[simp] theorem c_step_fits:cfun Tryz.prog n_step_fits=some step_fits:=by kernel_rfl
@[simp] theorem e_step_fits:hasBody Tryz.prog n_step_fits=true:=by kernel_rfl
abbrev yjb:List AG:=[zz4 66 1 1,zz2 67 1 66,o 68 (.cmp .geq (.sc .int) (.t 67) (.c (.int .i64 4))),zz1 69 68,oy 70 69 (.off 1 (.t 1)),zzd 71 69 1 70,oy 72 69 (.cmp .leq (.sc .int) (.t 71) (.c (.int .i64 9))),zz8 73 69 72,zz1 74 73,zze 75 74 3,oy 76 74 (.cmp .geq (.sc .int) (.t 75) (.c (.int .i64 2))),zz8 77 74 76,zz1 78 77,zze 79 78 3,oy 80 78 (.cmp .leq (.sc .int) (.t 79) (.c (.int .i64 8))),zz8 81 78 80,zz1 2 81]
abbrev yjc:List AG:=[zz1 64 3,o 65 (.cmp .eql (.sc .int) (.t 64) (.c (.int .i64 1))),zz1 2 65]
abbrev yjd:ACode:=(.seq (.reg yjc) .ret)
abbrev yje:List AG:=[zz4 56 1 1,zz2 57 1 56,o 58 (.cmp .eql (.sc .int) (.t 57) (.c (.int .i64 2))),zz1 59 58,on 60 59 (.off 1 (.t 1)),on 61 59 (.load false 1 (.t 60)),on 62 59 (.cmp .eql (.sc .int) (.t 61) (.c (.int .i64 3))),o 63 (.pick (.t 59) (.c (.bool true)) (.t 62))]
abbrev yjf:List AG:=[zz1 54 3,o 55 (.cmp .eql (.sc .int) (.t 54) (.c (.int .i64 0))),zz1 2 55]
abbrev yjg:ACode:=(.seq (.reg yjf) .ret)
abbrev yjh:List AG:=[zz4 46 1 1,zz2 47 1 46,o 48 (.cmp .eql (.sc .int) (.t 47) (.c (.int .i64 0))),zz1 49 48,on 50 49 (.off 1 (.t 1)),on 51 49 (.load false 1 (.t 50)),on 52 49 (.cmp .eql (.sc .int) (.t 51) (.c (.int .i64 1))),o 53 (.pick (.t 49) (.c (.bool true)) (.t 52))]
abbrev yji:List AG:=[zzh 2]
abbrev yjj:ACode:=(.seq (.reg yji) .ret)
abbrev yjk:List AG:=[zz4 38 3 1,zz2 39 1 38,zza 40 39,o 41 (.cmp .gtr (.sc .int) (.t 40) (.c (.int .i64 0))),zz1 42 41,on 43 42 (.off 4 (.t 1)),on 44 42 (.load false 1 (.t 43)),o 45 (.pick (.t 42) (.c (.bool true)) (.t 44))]
abbrev yjl:List AG:=[zz1 30 3,o 31 (.cmp .leq (.sc .int) (.t 30) (.c (.int .i64 8))),zz1 32 31,oy 33 32 (.off 3 (.t 1)),zzd 34 32 1 33,oy 35 32 (.len (.t 34)),oy 36 32 (.cmp .leq (.sc .int) (.t 35) (.c (.int .i64 128))),zz8 37 32 36,zz1 2 37]
abbrev yjm:List Bool:=[O,I,O,I,I,O,O,O,O,O,O,O,O,O,O,O,O,O,O,O,O,O,O,O,O,O,O,O,O,O,O,O,O,O,O,O,O,O,O,O,O,O,O,O,O,O,O,O,O,O,O,O,O,O,O,O,O,O,O,O,O,O,O,O,O,O,O,O,O,O,O,O,O,O,O,O,O,O,O,O,O,O]
abbrev yjn:List Bool:=[O,I,O,I,O,O,O,O,O,O,O,O,O,O,O,O,O,O,O,O,O,O,O,O,O,O,O,O,O,O,O,O,O,O,O,O,O,O,O,O,O,O,O,O,O,O,O,O,O,O,O,O,O,O,O,O,O,O,O,O,O,O,O,O,O,O,O,O,O,O,O,O,O,O,O,O,O,O,O,O,O,O]
abbrev yjo:List AG:=[zz1 20 4,zz6 21 20 1,zz1 4 21]
abbrev yjp:List AG:=[zzh 2]
abbrev yjq:ACode:=(.seq (.reg yjp) .ret)
abbrev yjr:List AG:=[zz4 22 3 1,zz2 23 1 22,zz1 24 4,zz5 25 1 23 24,zz2 26 1 25,zz1 27 3,zzg 28 n_r06_row 26 27,o 29 (.not (.t 28))]
abbrev yjs:ACode:=(.seq (.reg yjr) (.cond (.t 29) yjq .skip))
abbrev yjt:List AG:=[zz1 11 4,zz4 12 3 1,zz2 13 1 12,zza 14 13,zz7 15 11 14,zz1 16 15,zze 17 16 4,oy 18 16 (.cmp .leq (.sc .int) (.t 17) (.c (.int .i64 128))),zz8 19 16 18]
abbrev yju:ACode:=(.seq (.seq (.reg yjt) (.cond (.t 19) .skip (.exit 0))) (.seq (.block 1 [] yjs) (.reg yjo)))
abbrev yjv:List AG:=[zz9 4 0]
abbrev yjw:ACode:=(.seq (.seq (.reg yjv) (.block 0 yjn (.loop yjm yju))) (.seq (.reg yjl) .ret))
abbrev yjx:List AG:=[zz4 8 1 1,zz2 9 1 8,o 10 (.cmp .eql (.sc .int) (.t 9) (.c (.int .i64 10)))]
abbrev yjy:List AG:=[zz4 5 2 1,zz2 6 1 5,zza 7 6,zz1 3 7]
abbrev yjz:List AG:=[o 1 (.box 5 (.t 0)),zzh 2]
abbrev r06_Gate:AFun:=⟨(.seq (.reg yjz) (.seq (.reg yjy) (.seq (.seq (.reg yjx) (.cond (.t 10) yjw .skip)) (.seq (.seq (.reg yjk) (.cond (.t 45) yjj .skip)) (.seq (.seq (.reg yjh) (.cond (.t 53) yjg .skip)) (.seq (.seq (.reg yje) (.cond (.t 63) yjd .skip)) (.seq (.reg yjb) .ret))))))),82,[.tmp 2]⟩
abbrev yjA:List It:=[.code (.seq (.reg yjl) .ret),.code (.seq (.seq (.reg yjk) (.cond (.t 45) yjj .skip)) (.seq (.seq (.reg yjh) (.cond (.t 53) yjg .skip)) (.seq (.seq (.reg yje) (.cond (.t 63) yjd .skip)) (.seq (.reg yjb) .ret))))]
abbrev yjB (x1 x3 x4:AV) (h:List Ob) (e:Cx:=cx):Cfg:=atC n_r06_Gate (.code yju::.inLoop yjm yju::.inBlock 0 yjn::yjA) [U,x1,U,x3,x4,U,U,U,U,U,U,U,U,U,U,U,U,U,U,U,U,U,U,U,U,U,U,U,U,U,U,U,U,U,U,U,U,U,U,U,U,U,U,U,U,U,U,U,U,U,U,U,U,U,U,U,U,U,U,U,U,U,U,U,U,U,U,U,U,U,U,U,U,U,U,U,U,U,U,U,U,U] h e
@[simp] theorem c_r06_Gate:cfun Tryz.prog n_r06_Gate=some r06_Gate:=by kernel_rfl
@[simp] theorem e_r06_Gate:hasBody Tryz.prog n_r06_Gate=true:=by kernel_rfl
abbrev yjC:List AG:=[zz1 81 1,o 82 (.call (.f n_r06_odd) [(.t 81),(.c (.int .i64 0))]),zz1 83 0,o 84 (.cmp .eql (.sc .int) (.t 83) (.c (.int .i64 9))),zz1 4 82,zzh 5,zz1 6 84]
abbrev yjD:List AG:=[zz1 79 1,o 80 (.call (.f n_r06_odd) [(.t 79),(.c (.int .i64 1))]),zz1 4 80,zzh 5,o 6 (.mv (.c (.bool true)))]
abbrev yjE:ACode:=(.seq (.reg yjD) .ret)
abbrev yjF:List AG:=[zz1 77 0,o 78 (.cmp .eql (.sc .int) (.t 77) (.c (.int .i64 8)))]
abbrev yjG:List AG:=[o 4 (.nilrow 1 t_string),zzh 5,zzh 6]
abbrev yjH:ACode:=(.seq (.reg yjG) .ret)
abbrev yjI:List AG:=[zz1 71 1,o 72 (.cmp .lss (.sc .int) (.t 71) (.c (.int .i64 2))),zz1 73 72,on 74 73 (.mv (.t 1)),on 75 73 (.cmp .gtr (.sc .int) (.t 74) (.c (.int .i64 8))),o 76 (.pick (.t 73) (.c (.bool true)) (.t 75))]
abbrev yjJ:List AG:=[zz1 10 1,o 11 (.cmp .eql (.sc .int) (.t 10) (.c (.int .i64 0))),o 4 (.nilrow 1 t_string),zzh 5,zz1 6 11]
abbrev yjK:List AG:=[o 14 (.lit 1 [(.str [])] [(0,(.c (.str [])))]),zz1 15 1,o 16 (.cmp .eql (.sc .int) (.t 15) (.c (.int .i64 0))),zz1 4 14,zzh 5,zz1 6 16]
abbrev yjL:List AG:=[o 19 (.lit 1 [(.str [])] [(0,(.c (.str [49])))]),zz1 20 1,o 21 (.cmp .eql (.sc .int) (.t 20) (.c (.int .i64 1))),zz1 4 19,zzh 5,zz1 6 21]
abbrev yjM:List AG:=[o 24 (.lit 1 [(.str [])] [(0,(.c (.str [48])))]),zz1 25 1,o 26 (.cmp .eql (.sc .int) (.t 25) (.c (.int .i64 1))),zz1 4 24,zzh 5,zz1 6 26]
abbrev yjN:List AG:=[zz1 29 1,o 30 (.call (.f n_r06_all) [(.c (.str [49])),(.t 29)]),o 31 (.lit 1 [(.str [])] [(0,(.t 30))]),zz1 32 1,o 33 (.cmp .geq (.sc .int) (.t 32) (.c (.int .i64 2))),zz1 34 33,zze 35 34 1,oy 36 34 (.cmp .leq (.sc .int) (.t 35) (.c (.int .i64 8))),zz8 37 34 36,zz1 4 31,zzh 5,zz1 6 37]
abbrev yjO:List AG:=[zz1 40 1,o 41 (.call (.f n_r06_all) [(.c (.str [49])),(.t 40)]),o 42 (.lit 1 [(.str [])] [(0,(.t 41))]),zz1 43 1,o 44 (.cmp .geq (.sc .int) (.t 43) (.c (.int .i64 2))),zz1 45 44,zze 46 45 1,oy 47 45 (.cmp .leq (.sc .int) (.t 46) (.c (.int .i64 8))),zz8 48 45 47,zz1 4 42,o 5 (.mv (.c (.bool true))),zz1 6 48]
abbrev yjP:List AG:=[zz1 51 1,o 52 (.call (.f n_r06_all) [(.c (.str [48])),(.t 51)]),o 53 (.lit 1 [(.str [])] [(0,(.t 52))]),zz1 54 1,o 55 (.cmp .geq (.sc .int) (.t 54) (.c (.int .i64 2))),zz1 56 55,zze 57 56 1,oy 58 56 (.cmp .leq (.sc .int) (.t 57) (.c (.int .i64 8))),zz8 59 56 58,zz1 4 53,o 5 (.mv (.c (.bool true))),zz1 6 59]
abbrev yjQ:List AG:=[zz1 62 1,o 63 (.call (.f n_r06_all) [(.c (.str [48])),(.t 62)]),o 64 (.lit 1 [(.str [])] [(0,(.t 63))]),zz1 65 1,o 66 (.cmp .geq (.sc .int) (.t 65) (.c (.int .i64 2))),zz1 67 66,zze 68 67 1,oy 69 67 (.cmp .leq (.sc .int) (.t 68) (.c (.int .i64 8))),zz8 70 67 69,zz1 4 64,zzh 5,zz1 6 70]
abbrev yjR:ACode:=(.seq (.reg yjQ) .ret)
abbrev yjS:List AG:=[o 61 (.cmp .eql (.sc .int) (.t 7) (.c (.int .i64 7))),zz1 60 61]
abbrev yjT:ACode:=(.seq (.reg yjP) .ret)
abbrev yjU:ACode:=(.seq (.reg yjS) (.cond (.t 60) yjR .skip))
abbrev yjV:List AG:=[o 50 (.cmp .eql (.sc .int) (.t 7) (.c (.int .i64 6))),zz1 49 50]
abbrev yjW:ACode:=(.seq (.reg yjO) .ret)
abbrev yjX:ACode:=(.seq (.reg yjV) (.cond (.t 49) yjT yjU))
abbrev yjY:List AG:=[o 39 (.cmp .eql (.sc .int) (.t 7) (.c (.int .i64 5))),zz1 38 39]
abbrev yjZ:ACode:=(.seq (.reg yjN) .ret)
abbrev yka:ACode:=(.seq (.reg yjY) (.cond (.t 38) yjW yjX))
abbrev ykb:List AG:=[o 28 (.cmp .eql (.sc .int) (.t 7) (.c (.int .i64 4))),zz1 27 28]
abbrev ykc:ACode:=(.seq (.reg yjM) .ret)
abbrev ykd:ACode:=(.seq (.reg ykb) (.cond (.t 27) yjZ yka))
abbrev yke:List AG:=[o 23 (.cmp .eql (.sc .int) (.t 7) (.c (.int .i64 3))),zz1 22 23]
abbrev ykf:ACode:=(.seq (.reg yjL) .ret)
abbrev ykg:ACode:=(.seq (.reg yke) (.cond (.t 22) ykc ykd))
abbrev ykh:List AG:=[o 18 (.cmp .eql (.sc .int) (.t 7) (.c (.int .i64 2))),zz1 17 18]
abbrev yki:ACode:=(.seq (.reg yjK) .ret)
abbrev ykj:ACode:=(.seq (.reg ykh) (.cond (.t 17) ykf ykg))
abbrev ykk:List AG:=[o 13 (.cmp .eql (.sc .int) (.t 7) (.c (.int .i64 1))),zz1 12 13]
abbrev ykl:ACode:=(.seq (.reg yjJ) .ret)
abbrev ykm:ACode:=(.seq (.reg ykk) (.cond (.t 12) yki ykj))
abbrev ykn:List AG:=[o 9 (.cmp .eql (.sc .int) (.t 7) (.c (.int .i64 0))),zz1 8 9]
abbrev yko:ACode:=(.seq (.reg ykn) (.cond (.t 8) ykl ykm))
abbrev ykp:List AG:=[zz1 7 0]
abbrev ykq:List AG:=[o 4 (.nilrow 1 t_string),zzh 5,zzh 6]
abbrev r06_Rows:AFun:=⟨(.seq (.reg ykq) (.seq (.seq (.reg ykp) (.block 0 [] yko)) (.seq (.seq (.reg yjI) (.cond (.t 76) yjH .skip)) (.seq (.seq (.reg yjF) (.cond (.t 78) yjE .skip)) (.seq (.reg yjC) .ret))))),85,[.tmp 4,.tmp 5,.tmp 6]⟩
@[simp] theorem c_r06_Rows:cfun Tryz.prog n_r06_Rows=some r06_Rows:=by kernel_rfl
@[simp] theorem e_r06_Rows:hasBody Tryz.prog n_r06_Rows=true:=by kernel_rfl
abbrev ykr:List AG:=[o 4 (.mv (.c (.bool true)))]
abbrev yks:List Bool:=[I,I,O,O,O,I,O,O,O,O,O,O,O,O,O,O,O,O,O,O,O,O,O,O,O,O,O,O,O,O,O,O,O,O,O]
abbrev ykt:List Bool:=[O,O,O,O,O,O,O,O,O,O,O,O,O,O,O,O,O,O,O,O,O,O,O,O,O,O,O,O,O,O,O,O,O,O,O]
abbrev yku:List AG:=[zz1 10 5,zz6 11 10 1,zz1 5 11]
abbrev ykv:List AG:=[zzh 4]
abbrev ykw:ACode:=(.seq (.reg ykv) .ret)
abbrev ykx:List AG:=[zz1 12 0,zz1 13 5,o 14 (.ixStr (.t 12) (.t 13)),o 15 (.cmp .eql (.sc .int) (.t 14) (.c (.int .u8 49))),zz1 16 15,zze 17 16 1,zze 18 16 5,oy 19 16 (.ixAddr 1 (.t 17) (.t 18)),zzd 20 16 1 19,oy 21 16 (.not (.t 20)),zz8 22 16 21,zz1 23 22,on 24 23 (.mv (.t 0)),on 25 23 (.mv (.t 5)),on 26 23 (.ixStr (.t 24) (.t 25)),on 27 23 (.cmp .eql (.sc .int) (.t 26) (.c (.int .u8 48))),on 28 23 (.mv (.t 27)),zze 29 28 1,zze 30 28 5,oy 31 28 (.ixAddr 1 (.t 29) (.t 30)),zzd 32 28 1 31,on 33 23 (.pick (.t 28) (.t 32) (.c (.bool false))),o 34 (.pick (.t 23) (.c (.bool true)) (.t 33))]
abbrev yky:ACode:=(.seq (.reg ykx) (.cond (.t 34) ykw .skip))
abbrev ykz:List AG:=[zz1 6 5,zz1 7 1,zza 8 7,zz7 9 6 8]
abbrev ykA:ACode:=(.seq (.seq (.reg ykz) (.cond (.t 9) .skip (.exit 0))) (.seq (.block 1 [] yky) (.reg yku)))
abbrev ykB:List AG:=[zz9 5 0]
abbrev ykC:List AG:=[zzh 4]
abbrev r08_fits:AFun:=⟨(.seq (.reg ykC) (.seq (.seq (.reg ykB) (.block 0 ykt (.loop yks ykA))) (.seq (.reg ykr) .ret))),35,[.tmp 4]⟩
abbrev ykD:List It:=[.code (.seq (.reg ykr) .ret)]
abbrev ykE (x0 x1 x5:AV) (h:List Ob) (e:Cx:=cx):Cfg:=atC n_r08_fits (.code ykA::.inLoop yks ykA::.inBlock 0 ykt::ykD) [x0,x1,U,U,U,x5,U,U,U,U,U,U,U,U,U,U,U,U,U,U,U,U,U,U,U,U,U,U,U,U,U,U,U,U,U] h e
@[simp] theorem c_r08_fits:cfun Tryz.prog n_r08_fits=some r08_fits:=by kernel_rfl
@[simp] theorem e_r08_fits:hasBody Tryz.prog n_r08_fits=true:=by kernel_rfl
abbrev ykF:List AG:=[zz1 10 3,o 11 (.cmp .eql (.sc .int) (.t 10) (.c (.int .i64 0))),zz1 2 11]
abbrev ykG:List AG:=[zz3 6 4 1,zzf 7 n_order_Check 6,zz1 5 7,zzc 8 5 0,zzc 9 5 1,zz1 3 8,zz1 4 9]
abbrev ykH:List AG:=[o 1 (.box 4 (.t 0)),zzh 2]
abbrev step_right:AFun:=⟨(.seq (.reg ykH) (.seq (.reg ykG) (.seq (.reg ykF) .ret))),12,[.tmp 2]⟩
@[simp] theorem c_step_right:cfun Tryz.prog n_step_right=some step_right:=by kernel_rfl
@[simp] theorem e_step_right:hasBody Tryz.prog n_step_right=true:=by kernel_rfl
abbrev ykI:List AG:=[zz1 10 3,o 11 (.cmp .eql (.sc .int) (.t 10) (.c (.int .i64 0))),zz1 2 11]
abbrev ykJ:List AG:=[zz3 6 4 1,zzf 7 n_r07_Check 6,zz1 5 7,zzc 8 5 0,zzc 9 5 1,zz1 3 8,zz1 4 9]
abbrev ykK:List AG:=[o 1 (.box 4 (.t 0)),zzh 2]
abbrev r08_right:AFun:=⟨(.seq (.reg ykK) (.seq (.reg ykJ) (.seq (.reg ykI) .ret))),12,[.tmp 2]⟩
@[simp] theorem c_r08_right:cfun Tryz.prog n_r08_right=some r08_right:=by kernel_rfl
@[simp] theorem e_r08_right:hasBody Tryz.prog n_r08_right=true:=by kernel_rfl
abbrev ykL:List AG:=[zz3 14 4 1,zz3 15 4 1,zzf 16 n_net_Nets 15,zz1 17 4,o 18 (.build [(.list true 0 []),(.list true 0 []),(.list true 0 []),(.list true 0 []),(.list true 0 []),(.list true 0 [])] [(0,4,(.t 14)),(4,1,(.t 16)),(5,1,(.t 17))]),o 19 (.box 6 (.t 18)),zz1 2 19,zz9 3 0]
abbrev ykM:List AG:=[zz3 10 4 1,zzf 11 n_order_Sort 10,zz1 9 11,zzc 12 9 0,zzc 13 9 1,zz1 4 12,zz1 5 13]
abbrev ykN:List AG:=[o 2 (.mv (.c .nilp)),zz9 3 1]
abbrev ykO:ACode:=(.seq (.reg ykN) .ret)
abbrev ykP:List AG:=[zz3 6 4 1,zzf 7 n_step_right 6,o 8 (.not (.t 7))]
abbrev ykQ:List AG:=[o 1 (.box 4 (.t 0)),o 2 (.mv (.c .nilp)),zz9 3 0]
abbrev step_begin:AFun:=⟨(.seq (.reg ykQ) (.seq (.seq (.reg ykP) (.cond (.t 8) ykO .skip)) (.seq (.reg ykM) (.seq (.dreg [I,O,O,O,O,O,O,O] [6,3,6,6,6,9,9,9] ykL) .ret)))),20,[.tmp 2,.tmp 3]⟩
@[simp] theorem c_step_begin:cfun Tryz.prog n_step_begin=some step_begin:=by kernel_rfl
@[simp] theorem e_step_begin:hasBody Tryz.prog n_step_begin=true:=by kernel_rfl
abbrev ykR:List AG:=[zz1 85 8,zz1 6 85,zz9 7 0]
abbrev ykS:List Bool:=[I,O,O,O,O,O,O,O,I,O,O,O,O,O,O,O,O,O,O,O,O,O,O,O,O,O,O,O,O,O,O,O,O,O,O,O,O,O,O,O,O,O,O,O,O,O,O,O,O,O,O,O,O,O,O,O,O,O,I,I,I,O,O,O,O,O,O,O,O,O,O,O,O,O,O,O,O,O,O,O,O,O,O,O,O,O]
abbrev ykT:List Bool:=[O,O,O,O,O,O,O,O,I,O,O,O,O,O,O,O,O,O,O,O,O,O,O,O,O,O,O,O,O,O,O,O,O,O,O,O,O,O,O,O,O,O,O,O,O,O,O,O,O,O,O,O,O,O,O,O,O,O,O,O,O,O,O,O,O,O,O,O,O,O,O,O,O,O,O,O,O,O,O,O,O,O,O,O,O,O]
abbrev ykU:List AG:=[zz6 84 60 1,zz1 60 84]
abbrev ykV:List AG:=[zz1 73 8,zz4 74 0 13,zz2 75 1 74,zz3 76 5 13,zz1 77 8,zz4 78 2 13,zz2 79 1 78,zzg 80 n_step_pick 77 79,zzg 81 n_step_Gate 76 80,zz1 72 81,zzc 82 72 0,zzc 83 72 1,q (.upd (.sc .str) (.t 73) (.t 75) (.t 82))]
abbrev ykW:List AG:=[zz1 64 0,o 65 (.nilck (.t 64)),zz4 66 0 65,zz4 67 3 66,zz2 68 1 67,zz1 69 12,zz5 70 5 68 69,zz3 71 5 70,o 13 (.alloc [(.str []),(.int .i64 0),(.own 1 t_string []),(.own 1 t_string []),(.bool false)]),zzb 5 13 71]
abbrev ykX:List AG:=[zz5 62 1 58 60,zz2 63 1 62,zz1 12 63]
abbrev ykY:ACode:=(.seq (.reg ykX) (.seq (.reg ykW) (.dreg [O,O,I,I,O,O,O,O,O,O,O,O,O] [13,13,13,9,8,8,8,9,13,13,13,14,14] ykV)))
abbrev ykZ:List AG:=[zz7 61 60 59]
abbrev yla:ACode:=(.seq (.reg ykZ) (.seq (.cond (.t 61) .skip (.exit 2)) (.seq (.block 3 [] ykY) (.reg ykU))))
abbrev ylb:List AG:=[zz1 55 0,o 56 (.nilck (.t 55)),zz4 57 5 56,zz2 58 1 57,zza 59 58,zz9 60 0]
abbrev ylc:List Bool:=[I,O,O,O,O,O,O,O,I,O,O,O,O,O,O,O,O,O,O,O,O,O,O,O,O,O,O,O,O,O,O,O,O,O,O,O,O,O,I,I,I,O,O,O,O,O,O,O,O,O,O,O,O,O,O,O,O,O,O,O,O,O,O,O,O,O,O,O,O,O,O,O,O,O,O,O,O,O,O,O,O,O,O,O,O,O]
abbrev yle:List Bool:=[I,O,O,O,O,O,O,O,I,O,O,O,O,O,O,O,O,O,O,O,O,O,O,O,O,O,O,O,O,O,O,O,O,O,O,O,O,O,O,O,O,O,O,O,O,O,O,O,O,O,O,O,O,O,O,O,O,O,O,O,O,O,O,O,O,O,O,O,O,O,O,O,O,O,O,O,O,O,O,O,O,O,O,O,O,O]
abbrev ylf:List AG:=[zz6 54 40 1,zz1 40 54]
abbrev ylg:List AG:=[zz1 45 8,zz1 46 0,o 47 (.nilck (.t 46)),zz4 48 4 47,zz2 49 1 48,zz1 50 9,zz5 51 1 49 50,zz2 52 1 51,zz1 53 10,q (.upd (.sc .str) (.t 45) (.t 52) (.t 53))]
abbrev ylh:List AG:=[zz1 42 40,zz5 43 1 38 40,zz2 44 1 43,zz1 9 42,zz1 10 44]
abbrev yli:ACode:=(.seq (.reg ylh) (.reg ylg))
abbrev ylj:List AG:=[zz7 41 40 39]
abbrev ylk:ACode:=(.seq (.reg ylj) (.seq (.cond (.t 41) .skip (.exit 0)) (.seq (.block 1 [] yli) (.reg ylf))))
abbrev yll:List AG:=[zz1 35 2,zz1 36 1,o 37 (.lit 1 [(.list true 0 []),(.list true 0 [])] [(0,(.t 35)),(1,(.t 36))]),zzf 38 n_slices_Concat_bool_bool 37,zza 39 38,zz9 40 0]
abbrev ylm:List AG:=[o 34 (.mkMap),zz1 8 34]
abbrev yln:List AG:=[o 6 (.mv (.c .nilm)),zz9 7 11]
abbrev ylo:ACode:=(.seq (.reg yln) .ret)
abbrev ylp:List AG:=[zz1 14 1,zza 15 14,zz1 16 0,o 17 (.nilck (.t 16)),zz4 18 0 17,zz4 19 2 18,zz2 20 1 19,zza 21 20,o 22 (.cmp .neq (.sc .int) (.t 15) (.t 21)),zz1 23 22,on 24 23 (.mv (.t 2)),on 25 23 (.len (.t 24)),on 26 23 (.mv (.t 0)),on 27 23 (.nilck (.t 26)),on 28 23 (.off 0 (.t 27)),on 29 23 (.off 0 (.t 28)),on 30 23 (.load false 1 (.t 29)),on 31 23 (.len (.t 30)),on 32 23 (.cmp .neq (.sc .int) (.t 25) (.t 31)),o 33 (.pick (.t 23) (.c (.bool true)) (.t 32))]
abbrev ylq:List AG:=[o 6 (.mv (.c .nilm)),zz9 7 0]
abbrev step_machine_values:AFun:=⟨(.seq (.reg ylq) (.seq (.seq (.reg ylp) (.cond (.t 33) ylo .skip)) (.seq (.reg ylm) (.seq (.seq (.reg yll) (.block 0 yle (.loop ylc ylk))) (.seq (.seq (.reg ylb) (.block 2 ykT (.loop ykS yla))) (.seq (.reg ykR) .ret)))))),86,[.tmp 6,.tmp 7]⟩
abbrev ylr:List It:=[.code (.seq (.reg ykR) .ret)]
abbrev yls (x0 x8 x58 x59 x60:AV) (h:List Ob) (e:Cx:=cx):Cfg:=atC n_step_machine_values (.code yla::.inLoop ykS yla::.inBlock 2 ykT::ylr) [x0,U,U,U,U,U,U,U,x8,U,U,U,U,U,U,U,U,U,U,U,U,U,U,U,U,U,U,U,U,U,U,U,U,U,U,U,U,U,U,U,U,U,U,U,U,U,U,U,U,U,U,U,U,U,U,U,U,U,x58,x59,x60,U,U,U,U,U,U,U,U,U,U,U,U,U,U,U,U,U,U,U,U,U,U,U,U,U] h e
abbrev ylt (x8:AV) (h:List Ob) (e:Cx:=cx):Cfg:=atC n_step_machine_values ylr [U,U,U,U,U,U,U,U,x8,U,U,U,U,U,U,U,U,U,U,U,U,U,U,U,U,U,U,U,U,U,U,U,U,U,U,U,U,U,U,U,U,U,U,U,U,U,U,U,U,U,U,U,U,U,U,U,U,U,U,U,U,U,U,U,U,U,U,U,U,U,U,U,U,U,U,U,U,U,U,U,U,U,U,U,U,U] h e
abbrev ylu:List It:=[.code (.seq (.seq (.reg ylb) (.block 2 ykT (.loop ykS yla))) (.seq (.reg ykR) .ret))]
abbrev ylv (x0 x8 x38 x39 x40:AV) (h:List Ob) (e:Cx:=cx):Cfg:=atC n_step_machine_values (.code ylk::.inLoop ylc ylk::.inBlock 0 yle::ylu) [x0,U,U,U,U,U,U,U,x8,U,U,U,U,U,U,U,U,U,U,U,U,U,U,U,U,U,U,U,U,U,U,U,U,U,U,U,U,U,x38,x39,x40,U,U,U,U,U,U,U,U,U,U,U,U,U,U,U,U,U,U,U,U,U,U,U,U,U,U,U,U,U,U,U,U,U,U,U,U,U,U,U,U,U,U,U,U,U] h e
abbrev ylw (x0 x8:AV) (h:List Ob) (e:Cx:=cx):Cfg:=atC n_step_machine_values ylu [x0,U,U,U,U,U,U,U,x8,U,U,U,U,U,U,U,U,U,U,U,U,U,U,U,U,U,U,U,U,U,U,U,U,U,U,U,U,U,U,U,U,U,U,U,U,U,U,U,U,U,U,U,U,U,U,U,U,U,U,U,U,U,U,U,U,U,U,U,U,U,U,U,U,U,U,U,U,U,U,U,U,U,U,U,U,U] h e
@[simp] theorem c_step_machine_values:cfun Tryz.prog n_step_machine_values=some step_machine_values:=by kernel_rfl
@[simp] theorem e_step_machine_values:hasBody Tryz.prog n_step_machine_values=true:=by kernel_rfl
abbrev ylx:List AG:=[zz1 21 5,zz1 4 21]
abbrev yly:List Bool:=[I,O,O,O,O,I,O,O,I,I,I,O,O,O,O,O,O,O,O,O,O,O]
abbrev ylz:List Bool:=[O,O,O,O,O,I,O,O,O,O,O,O,O,O,O,O,O,O,O,O,O,O]
abbrev ylA:List AG:=[zz6 20 10 1,zz1 10 20]
abbrev ylB:List AG:=[zz1 14 5,zz1 15 0,zz1 16 7,o 17 (.lookup (.sc .str) (.bool false) (.t 15) (.t 16) false),o 18 (.lit 1 [(.bool false)] [(0,(.t 17))]),o 19 (.append 1 t_bool 1 (.t 14) (.t 18)),zz1 5 19]
abbrev ylC:List AG:=[zz5 12 1 8 10,zz2 13 1 12,zz1 7 13]
abbrev ylD:ACode:=(.seq (.reg ylC) (.reg ylB))
abbrev ylE:List AG:=[zz7 11 10 9]
abbrev ylF:ACode:=(.seq (.reg ylE) (.seq (.cond (.t 11) .skip (.exit 0)) (.seq (.block 1 [] ylD) (.reg ylA))))
abbrev ylG:List AG:=[zz1 8 1,zza 9 8,zz9 10 0]
abbrev ylH:List AG:=[o 5 (.nilrow 1 t_bool)]
abbrev ylI:List AG:=[o 4 (.nilrow 1 t_bool)]
abbrev step_pick:AFun:=⟨(.seq (.reg ylI) (.seq (.reg ylH) (.seq (.seq (.reg ylG) (.block 0 ylz (.loop yly ylF))) (.seq (.reg ylx) .ret)))),22,[.tmp 4]⟩
abbrev ylJ:List It:=[.code (.seq (.reg ylx) .ret)]
abbrev ylK (x0 x5 x8 x9 x10:AV) (h:List Ob) (e:Cx:=cx):Cfg:=atC n_step_pick (.code ylF::.inLoop yly ylF::.inBlock 0 ylz::ylJ) [x0,U,U,U,U,x5,U,U,x8,x9,x10,U,U,U,U,U,U,U,U,U,U,U] h e
@[simp] theorem c_step_pick:cfun Tryz.prog n_step_pick=some step_pick:=by kernel_rfl
@[simp] theorem e_step_pick:hasBody Tryz.prog n_step_pick=true:=by kernel_rfl
abbrev ylL:List AG:=[zz1 75 4,zz1 76 5,zz1 2 75,zz1 3 76]
abbrev ylM:List Bool:=[O,I,O,O,I,I,I,O,O,I,O,O,O,O,O,O,O,O,O,O,O,O,O,O,O,O,O,O,O,O,O,O,O,O,O,O,O,O,O,O,O,O,O,O,O,O,O,O,O,O,O,O,O,O,O,O,O,O,O,O,O,O,O,O,O,O,O,O,O,O,O,O,O,O,O,O,O]
abbrev ylN:List Bool:=[O,O,O,O,I,I,O,O,O,O,O,O,O,O,O,O,O,O,O,O,O,O,O,O,O,O,O,O,O,O,O,O,O,O,O,O,O,O,O,O,O,O,O,O,O,O,O,O,O,O,O,O,O,O,O,O,O,O,O,O,O,O,O,O,O,O,O,O,O,O,O,O,O,O,O,O,O]
abbrev ylO:List AG:=[zz1 59 9,zz6 60 59 1,zz1 9 60]
abbrev ylP:List AG:=[zz1 66 5,zz4 67 3 1,zz2 68 1 67,zz1 69 9,zz5 70 5 68 69,zz4 71 0 70,zz2 72 1 71,o 73 (.lit 1 [(.str [])] [(0,(.t 72))]),o 74 (.append 1 t_string 16 (.t 66) (.t 73)),zz1 5 74]
abbrev ylQ:List AG:=[zz1 61 6,zz1 62 9,zz5 63 1 61 62,zz2 64 1 63,o 65 (.not (.t 64))]
abbrev ylR:ACode:=(.seq (.reg ylQ) (.cond (.t 65) (.reg ylP) .skip))
abbrev ylS:List AG:=[zz1 54 9,zz4 55 3 1,zz2 56 1 55,zza 57 56,zz7 58 54 57]
abbrev ylT:ACode:=(.seq (.seq (.reg ylS) (.cond (.t 58) .skip (.exit 4))) (.seq (.block 5 [] ylR) (.reg ylO)))
abbrev ylU:List AG:=[zz9 9 0]
abbrev ylV:List Bool:=[O,I,O,O,I,I,I,I,O,O,O,O,O,O,O,O,O,O,O,O,O,O,O,O,O,O,O,O,O,O,O,O,O,O,O,O,O,O,O,O,O,O,O,O,O,O,O,O,O,O,O,O,O,O,O,O,O,O,O,O,O,O,O,O,O,O,O,O,O,O,O,O,O,O,O,O,O]
abbrev ylW:List Bool:=[O,I,O,O,I,I,I,O,O,O,O,O,O,O,O,O,O,O,O,O,O,O,O,O,O,O,O,O,O,O,O,O,O,O,O,O,O,O,O,O,O,O,O,O,O,O,O,O,O,O,O,O,O,O,O,O,O,O,O,O,O,O,O,O,O,O,O,O,O,O,O,O,O,O,O,O,O]
abbrev ylX:List AG:=[zz1 22 7,zz6 23 22 1,zz1 7 23]
abbrev ylY:List Bool:=[O,I,O,O,I,I,I,I,I,O,O,O,O,O,O,O,O,O,O,O,O,O,O,O,O,O,O,O,O,O,O,O,O,O,O,O,O,O,O,O,O,O,O,O,O,O,O,O,O,O,O,O,O,O,O,O,O,O,O,O,O,O,O,O,O,O,O,O,O,O,O,O,O,O,O,O,O]
abbrev ylZ:List Bool:=[O,I,O,O,I,I,I,I,O,O,O,O,O,O,O,O,O,O,O,O,O,O,O,O,O,O,O,O,O,O,O,O,O,O,O,O,O,O,O,O,O,O,O,O,O,O,O,O,O,O,O,O,O,O,O,O,O,O,O,O,O,O,O,O,O,O,O,O,O,O,O,O,O,O,O,O,O]
abbrev yma:List AG:=[zz1 29 8,zz6 30 29 1,zz1 8 30]
abbrev ymb:List AG:=[zz1 50 4,zz1 51 8,o 52 (.lit 1 [(.int .i64 0)] [(0,(.t 51))]),o 53 (.append 1 t_int 8 (.t 50) (.t 52)),zz1 4 53]
abbrev ymc:List AG:=[zz1 47 6,zz1 48 8,zz5 49 1 47 48,q (.store 1 (.t 49) (.c (.bool true)))]
abbrev ymd:ACode:=(.seq (.reg ymc) (.seq (.reg ymb) (.exit 2)))
abbrev yme:List AG:=[zz1 31 6,zz1 32 8,zz5 33 1 31 32,zz2 34 1 33,o 35 (.not (.t 34)),zz1 36 35,oy 37 36 (.load true 4 (.t 1)),oy 38 36 (.off 3 (.t 1)),zzd 39 36 1 38,zze 40 36 8,oy 41 36 (.ixAddr 5 (.t 39) (.t 40)),oy 42 36 (.load true 5 (.t 41)),zze 43 36 6,oy 44 36 (.call (.f n_r07_waits) [(.t 37),(.t 42),(.t 43)]),oy 45 36 (.not (.t 44)),zz8 46 36 45]
abbrev ymf:ACode:=(.seq (.dreg [O,O,O,O,O,O,O,O,O,O,O,O,O,O,O,O] [14,14,14,14,14,14,14,14,14,14,14,14,14,17,17,17] yme) (.cond (.t 46) ymd .skip))
abbrev ymg:List AG:=[zz1 24 8,zz4 25 3 1,zz2 26 1 25,zza 27 26,zz7 28 24 27]
abbrev ymh:ACode:=(.seq (.seq (.reg ymg) (.cond (.t 28) .skip (.exit 2))) (.seq (.block 3 [] ymf) (.reg yma)))
abbrev ymi:List AG:=[zz9 8 0]
abbrev ymj:ACode:=(.seq (.reg ymi) (.block 2 ylZ (.loop ylY ymh)))
abbrev ymk:List AG:=[zz1 17 7,zz4 18 3 1,zz2 19 1 18,zza 20 19,zz7 21 17 20]
abbrev yml:ACode:=(.seq (.seq (.reg ymk) (.cond (.t 21) .skip (.exit 0))) (.seq (.block 1 [] ymj) (.reg ylX)))
abbrev ymm:List AG:=[zz9 7 0]
abbrev ymn:List AG:=[zz4 13 3 1,zz2 14 1 13,zza 15 14,o 16 (.mkSlice 1 t_bool 1 (.bool false) (.t 15) (.t 15)),zz1 6 16]
abbrev ymo:List AG:=[o 2 (.nilrow 1 t_int),o 3 (.nilrow 1 t_string)]
abbrev ymp:ACode:=(.seq (.reg ymo) .ret)
abbrev ymq:List AG:=[zz3 10 4 1,zzf 11 n_r07_right 10,o 12 (.not (.t 11))]
abbrev ymr:List AG:=[o 5 (.nilrow 1 t_string)]
abbrev yms:List AG:=[o 4 (.nilrow 1 t_int)]
abbrev ymt:List AG:=[o 1 (.box 4 (.t 0)),o 2 (.nilrow 1 t_int),o 3 (.nilrow 1 t_string)]
abbrev r07_Sort:AFun:=⟨(.seq (.reg ymt) (.seq (.reg yms) (.seq (.reg ymr) (.seq (.seq (.reg ymq) (.cond (.t 12) ymp .skip)) (.seq (.reg ymn) (.seq (.seq (.reg ymm) (.block 0 ylW (.loop ylV yml))) (.seq (.seq (.reg ylU) (.block 4 ylN (.loop ylM ylT))) (.seq (.reg ylL) .ret)))))))),77,[.tmp 2,.tmp 3]⟩
abbrev ymu:List It:=[.code (.seq (.reg ylL) .ret)]
abbrev ymv (x1 x4 x5 x6 x9:AV) (h:List Ob) (e:Cx:=cx):Cfg:=atC n_r07_Sort (.code ylT::.inLoop ylM ylT::.inBlock 4 ylN::ymu) [U,x1,U,U,x4,x5,x6,U,U,x9,U,U,U,U,U,U,U,U,U,U,U,U,U,U,U,U,U,U,U,U,U,U,U,U,U,U,U,U,U,U,U,U,U,U,U,U,U,U,U,U,U,U,U,U,U,U,U,U,U,U,U,U,U,U,U,U,U,U,U,U,U,U,U,U,U,U,U] h e
abbrev ymw:List It:=[.inBlock 1 [],.code (.reg ylX),.inLoop ylV yml,.inBlock 0 ylW,.code (.seq (.seq (.reg ylU) (.block 4 ylN (.loop ylM ylT))) (.seq (.reg ylL) .ret))]
abbrev ymx (x1 x4 x5 x6 x7 x8:AV) (h:List Ob) (e:Cx:=cx):Cfg:=atC n_r07_Sort (.code ymh::.inLoop ylY ymh::.inBlock 2 ylZ::ymw) [U,x1,U,U,x4,x5,x6,x7,x8,U,U,U,U,U,U,U,U,U,U,U,U,U,U,U,U,U,U,U,U,U,U,U,U,U,U,U,U,U,U,U,U,U,U,U,U,U,U,U,U,U,U,U,U,U,U,U,U,U,U,U,U,U,U,U,U,U,U,U,U,U,U,U,U,U,U,U,U] h e
abbrev ymy (x1 x4 x5 x6 x7:AV) (h:List Ob) (e:Cx:=cx):Cfg:=atC n_r07_Sort ymw [U,x1,U,U,x4,x5,x6,x7,U,U,U,U,U,U,U,U,U,U,U,U,U,U,U,U,U,U,U,U,U,U,U,U,U,U,U,U,U,U,U,U,U,U,U,U,U,U,U,U,U,U,U,U,U,U,U,U,U,U,U,U,U,U,U,U,U,U,U,U,U,U,U,U,U,U,U,U,U] h e
abbrev ymz:List It:=[.code (.seq (.seq (.reg ylU) (.block 4 ylN (.loop ylM ylT))) (.seq (.reg ylL) .ret))]
abbrev ymA (x1 x4 x5 x6 x7:AV) (h:List Ob) (e:Cx:=cx):Cfg:=atC n_r07_Sort (.code yml::.inLoop ylV yml::.inBlock 0 ylW::ymz) [U,x1,U,U,x4,x5,x6,x7,U,U,U,U,U,U,U,U,U,U,U,U,U,U,U,U,U,U,U,U,U,U,U,U,U,U,U,U,U,U,U,U,U,U,U,U,U,U,U,U,U,U,U,U,U,U,U,U,U,U,U,U,U,U,U,U,U,U,U,U,U,U,U,U,U,U,U,U,U] h e
@[simp] theorem c_r07_Sort:cfun Tryz.prog n_r07_Sort=some r07_Sort:=by kernel_rfl
@[simp] theorem e_r07_Sort:hasBody Tryz.prog n_r07_Sort=true:=by kernel_rfl
abbrev ymB:List AG:=[zz1 42 9,zz1 43 0,o 44 (.nilck (.t 43)),zz4 45 0 44,zz4 46 1 45,zz2 47 1 46,zzg 48 n_step_pick 42 47,zz1 49 11,zz1 6 48,zz1 7 49,zz9 8 0]
abbrev ymC:List Bool:=[I,O,O,O,O,O,O,O,O,I,O,I,O,O,O,O,O,O,O,O,O,O,O,O,O,O,O,O,I,I,I,O,O,O,O,O,O,O,O,O,O,O,O,O,O,O,O,O,O,O]
abbrev ymD:List Bool:=[I,O,O,O,O,O,O,O,O,I,O,I,O,O,O,O,O,O,O,O,O,O,O,O,O,O,O,O,O,O,O,O,O,O,O,O,O,O,O,O,O,O,O,O,O,O,O,O,O,O]
abbrev ymE:List AG:=[zz6 41 30 1,zz1 30 41]
abbrev ymF:List AG:=[zz1 34 11,zz1 35 9,zz4 36 1 13,zz2 37 1 36,o 38 (.lookup (.sc .str) (.bool false) (.t 35) (.t 37) false),o 39 (.lit 1 [(.bool false)] [(0,(.t 38))]),o 40 (.append 1 t_bool 1 (.t 34) (.t 39)),zz1 11 40]
abbrev ymG:List AG:=[zz5 32 3 28 30,zz3 33 3 32,o 13 (.alloc [(.str []),(.str []),(.int .i64 0)]),zzb 3 13 33]
abbrev ymH:ACode:=(.seq (.reg ymG) (.reg ymF))
abbrev ymI:List AG:=[zz7 31 30 29]
abbrev ymJ:ACode:=(.seq (.reg ymI) (.seq (.cond (.t 31) .skip (.exit 0)) (.seq (.block 1 [] ymH) (.reg ymE))))
abbrev ymK:List AG:=[zz1 24 0,o 25 (.nilck (.t 24)),zz4 26 0 25,zz4 27 2 26,zz2 28 1 27,zza 29 28,zz9 30 0]
abbrev ymL:List AG:=[o 11 (.nilrow 1 t_bool)]
abbrev ymM:List AG:=[zz1 23 10,o 6 (.nilrow 1 t_bool),o 7 (.nilrow 1 t_bool),zz1 8 23]
abbrev ymN:ACode:=(.seq (.reg ymM) .ret)
abbrev ymO:List AG:=[zz1 21 10,o 22 (.cmp .neq (.sc .int) (.t 21) (.c (.int .i64 0)))]
abbrev ymP:List AG:=[zz1 15 0,zz1 16 1,zz1 17 2,o 18 (.call (.f n_step_machine_values) [(.t 15),(.t 16),(.t 17)]),zz1 14 18,zzc 19 14 0,zzc 20 14 1,zz1 9 19,zz1 10 20]
abbrev ymQ:List AG:=[o 6 (.nilrow 1 t_bool),o 7 (.nilrow 1 t_bool),zz9 8 0]
abbrev step_machine_step:AFun:=⟨(.seq (.reg ymQ) (.seq (.reg ymP) (.seq (.seq (.reg ymO) (.cond (.t 22) ymN .skip)) (.seq (.reg ymL) (.seq (.seq (.reg ymK) (.block 0 ymD (.loop ymC ymJ))) (.seq (.reg ymB) .ret)))))),50,[.tmp 6,.tmp 7,.tmp 8]⟩
abbrev ymR:List It:=[.code (.seq (.reg ymB) .ret)]
abbrev ymS (x0 x9 x11 x28 x29 x30:AV) (h:List Ob) (e:Cx:=cx):Cfg:=atC n_step_machine_step (.code ymJ::.inLoop ymC ymJ::.inBlock 0 ymD::ymR) [x0,U,U,U,U,U,U,U,U,x9,U,x11,U,U,U,U,U,U,U,U,U,U,U,U,U,U,U,U,x28,x29,x30,U,U,U,U,U,U,U,U,U,U,U,U,U,U,U,U,U,U,U] h e
abbrev ymT (x0 x9 x11:AV) (h:List Ob) (e:Cx:=cx):Cfg:=atC n_step_machine_step ymR [x0,U,U,U,U,U,U,U,U,x9,U,x11,U,U,U,U,U,U,U,U,U,U,U,U,U,U,U,U,U,U,U,U,U,U,U,U,U,U,U,U,U,U,U,U,U,U,U,U,U,U] h e
@[simp] theorem c_step_machine_step:cfun Tryz.prog n_step_machine_step=some step_machine_step:=by kernel_rfl
@[simp] theorem e_step_machine_step:hasBody Tryz.prog n_step_machine_step=true:=by kernel_rfl
abbrev ymU:List AG:=[o 9 (.mkFunc (.func n_step_machine_steps_1) [] [(.t 6),(.t 4),(.t 5),(.t 7)]),zz1 8 9]
abbrev ymV:List AG:=[o 4 (.box 1 (.t 0)),o 5 (.box 1 (.t 1)),o 6 (.box 1 (.t 2)),o 7 (.box 1 (.t 3)),o 8 (.mv (.c .nilf))]
abbrev step_machine_steps:AFun:=⟨(.seq (.reg ymV) (.seq (.reg ymU) .ret)),10,[.tmp 8]⟩
@[simp] theorem c_step_machine_steps:cfun Tryz.prog n_step_machine_steps=some step_machine_steps:=by kernel_rfl
@[simp] theorem e_step_machine_steps:hasBody Tryz.prog n_step_machine_steps=true:=by kernel_rfl
abbrev ymW:List AG:=[o 5 (.lit 1 [] []),zz1 6 0,o 7 (.append 1 t_bool 1 (.t 5) (.t 6)),zz1 2 7]
abbrev ymX:List AG:=[o 2 (.nilrow 1 t_bool)]
abbrev ymY:ACode:=(.seq (.reg ymX) .ret)
abbrev ymZ:List AG:=[zz1 3 0,o 4 (.isnil false (.t 3))]
abbrev yna:List AG:=[o 2 (.nilrow 1 t_bool)]
abbrev slices_Clone_bool_bool:AFun:=⟨(.seq (.reg yna) (.seq (.seq (.reg ymZ) (.cond (.t 4) ymY .skip)) (.seq (.reg ymW) .ret))),8,[.tmp 2]⟩
@[simp] theorem c_slices_Clone_bool_bool:cfun Tryz.prog n_slices_Clone_bool_bool=some slices_Clone_bool_bool:=by kernel_rfl
@[simp] theorem e_slices_Clone_bool_bool:hasBody Tryz.prog n_slices_Clone_bool_bool=true:=by kernel_rfl
abbrev ynb:List AG:=[zz1 10 3,o 11 (.cmp .eql (.sc .int) (.t 10) (.c (.int .i64 0))),zz1 2 11]
abbrev ync:List AG:=[zz3 6 4 1,zzf 7 n_net_Check 6,zz1 5 7,zzc 8 5 0,zzc 9 5 1,zz1 3 8,zz1 4 9]
abbrev ynd:List AG:=[o 1 (.box 4 (.t 0)),zzh 2]
abbrev order_right:AFun:=⟨(.seq (.reg ynd) (.seq (.reg ync) (.seq (.reg ynb) .ret))),12,[.tmp 2]⟩
@[simp] theorem c_order_right:cfun Tryz.prog n_order_right=some order_right:=by kernel_rfl
@[simp] theorem e_order_right:hasBody Tryz.prog n_order_right=true:=by kernel_rfl
abbrev yne:List AG:=[o 5 (.lit 1 [] []),zz1 6 0,o 7 (.append 1 t_string 16 (.t 5) (.t 6)),zz1 2 7]
abbrev ynf:List AG:=[o 2 (.nilrow 1 t_string)]
abbrev yng:ACode:=(.seq (.reg ynf) .ret)
abbrev ynh:List AG:=[zz1 3 0,o 4 (.isnil false (.t 3))]
abbrev yni:List AG:=[o 2 (.nilrow 1 t_string)]
abbrev slices_Clone_string_string:AFun:=⟨(.seq (.reg yni) (.seq (.seq (.reg ynh) (.cond (.t 4) yng .skip)) (.seq (.reg yne) .ret))),8,[.tmp 2]⟩
@[simp] theorem c_slices_Clone_string_string:cfun Tryz.prog n_slices_Clone_string_string=some slices_Clone_string_string:=by kernel_rfl
@[simp] theorem e_slices_Clone_string_string:hasBody Tryz.prog n_slices_Clone_string_string=true:=by kernel_rfl
abbrev ynj:List AG:=[zz1 42 3,zz1 2 42]
abbrev ynk:List Bool:=[O,I,O,I,O,I,O,O,O,O,O,O,O,O,O,O,O,O,O,O,O,O,O,O,O,O,O,O,O,O,O,O,O,O,O,O,O,O,O,O,O,O,O]
abbrev ynl:List Bool:=[O,O,O,I,O,O,O,O,O,O,O,O,O,O,O,O,O,O,O,O,O,O,O,O,O,O,O,O,O,O,O,O,O,O,O,O,O,O,O,O,O,O,O]
abbrev ynm:List AG:=[zz1 31 5,zz6 32 31 1,zz1 5 32]
abbrev ynn:List AG:=[zz1 33 3,zz4 34 3 1,zz2 35 1 34,zz1 36 5,zz5 37 5 35 36,zz4 38 0 37,zz2 39 1 38,o 40 (.lit 1 [(.str [])] [(0,(.t 39))]),o 41 (.append 1 t_string 16 (.t 33) (.t 40)),zz1 3 41]
abbrev yno:List AG:=[zz1 26 5,zz4 27 3 1,zz2 28 1 27,zza 29 28,zz7 30 26 29]
abbrev ynp:ACode:=(.seq (.seq (.reg yno) (.cond (.t 30) .skip (.exit 2))) (.seq (.block 3 [] (.reg ynn)) (.reg ynm)))
abbrev ynq:List AG:=[zz9 5 0]
abbrev ynr:List Bool:=[O,I,O,I,I,O,O,O,O,O,O,O,O,O,O,O,O,O,O,O,O,O,O,O,O,O,O,O,O,O,O,O,O,O,O,O,O,O,O,O,O,O,O]
abbrev yns:List Bool:=[O,I,O,I,O,O,O,O,O,O,O,O,O,O,O,O,O,O,O,O,O,O,O,O,O,O,O,O,O,O,O,O,O,O,O,O,O,O,O,O,O,O,O]
abbrev ynt:List AG:=[zz1 15 4,zz6 16 15 1,zz1 4 16]
abbrev ynu:List AG:=[zz1 17 3,zz4 18 2 1,zz2 19 1 18,zz1 20 4,zz5 21 3 19 20,zz4 22 0 21,zz2 23 1 22,o 24 (.lit 1 [(.str [])] [(0,(.t 23))]),o 25 (.append 1 t_string 16 (.t 17) (.t 24)),zz1 3 25]
abbrev ynv:List AG:=[zz1 10 4,zz4 11 2 1,zz2 12 1 11,zza 13 12,zz7 14 10 13]
abbrev ynw:ACode:=(.seq (.seq (.reg ynv) (.cond (.t 14) .skip (.exit 0))) (.seq (.block 1 [] (.reg ynu)) (.reg ynt)))
abbrev ynx:List AG:=[zz9 4 0]
abbrev yny:List AG:=[zz1 6 3,zz4 7 0 1,zz2 8 1 7,o 9 (.append 1 t_string 16 (.t 6) (.t 8)),zz1 3 9]
abbrev ynz:List AG:=[o 3 (.nilrow 1 t_string)]
abbrev ynA:List AG:=[o 1 (.box 4 (.t 0)),o 2 (.nilrow 1 t_string)]
abbrev r06_Nets:AFun:=⟨(.seq (.reg ynA) (.seq (.reg ynz) (.seq (.reg yny) (.seq (.seq (.reg ynx) (.block 0 yns (.loop ynr ynw))) (.seq (.seq (.reg ynq) (.block 2 ynl (.loop ynk ynp))) (.seq (.reg ynj) .ret)))))),43,[.tmp 2]⟩
abbrev ynB:List It:=[.code (.seq (.reg ynj) .ret)]
abbrev ynC (x1 x3 x5:AV) (h:List Ob) (e:Cx:=cx):Cfg:=atC n_r06_Nets (.code ynp::.inLoop ynk ynp::.inBlock 2 ynl::ynB) [U,x1,U,x3,U,x5,U,U,U,U,U,U,U,U,U,U,U,U,U,U,U,U,U,U,U,U,U,U,U,U,U,U,U,U,U,U,U,U,U,U,U,U,U] h e
abbrev ynD:List It:=[.code (.seq (.seq (.reg ynq) (.block 2 ynl (.loop ynk ynp))) (.seq (.reg ynj) .ret))]
abbrev ynE (x1 x3 x4:AV) (h:List Ob) (e:Cx:=cx):Cfg:=atC n_r06_Nets (.code ynw::.inLoop ynr ynw::.inBlock 0 yns::ynD) [U,x1,U,x3,x4,U,U,U,U,U,U,U,U,U,U,U,U,U,U,U,U,U,U,U,U,U,U,U,U,U,U,U,U,U,U,U,U,U,U,U,U,U,U] h e
@[simp] theorem c_r06_Nets:cfun Tryz.prog n_r06_Nets=some r06_Nets:=by kernel_rfl
@[simp] theorem e_r06_Nets:hasBody Tryz.prog n_r06_Nets=true:=by kernel_rfl
abbrev ynF:List AG:=[zz1 13 6,zz1 14 13,zze 15 14 1,oy 16 14 (.arrAddr 2 1 (.t 5) (.c (.int .i64 0))),zzd 17 14 1 16,oy 18 14 (.cmp .geq (.sc .int) (.t 15) (.t 17)),zz8 19 14 18,zz1 20 19,zze 21 20 1,oy 22 20 (.arrAddr 2 1 (.t 5) (.c (.int .i64 1))),zzd 23 20 1 22,oy 24 20 (.cmp .leq (.sc .int) (.t 21) (.t 23)),zz8 25 20 24,zz1 4 25]
abbrev ynG:List AG:=[o 8 (.load false 1 (.g 0)),zz1 9 0,o 10 (.lookup (.sc .int) (.agg [(.int .i64 0),(.int .i64 0)]) (.t 8) (.t 9) true),zz1 7 10,zzc 11 7 0,zzc 12 7 1,o 5 (.alloc [(.int .i64 0),(.int .i64 0)]),zzb 2 5 11,zz1 6 12]
abbrev ynH:List AG:=[zzh 4]
abbrev net_has:AFun:=⟨(.seq (.reg ynH) (.seq (.reg ynG) (.seq (.reg ynF) .ret))),26,[.tmp 4]⟩
@[simp] theorem c_net_has:cfun Tryz.prog n_net_has=some net_has:=by kernel_rfl
@[simp] theorem e_net_has:hasBody Tryz.prog n_net_has=true:=by kernel_rfl
abbrev ynI:List AG:=[zz1 9 40]
abbrev ynJ:List AG:=[zz2 41 1 8,zz1 42 9,o 43 (.lit 1 [(.str [])] [(0,(.t 42))]),o 44 (.append 1 t_string 16 (.t 41) (.t 43)),zzb 1 8 44]
abbrev ynK:ACode:=(.block 2 [] (.reg ynJ))
@[simp] theorem e_net_rows:hasBody Tryz.prog n_net_rows=true:=by kernel_rfl
abbrev ynL:List AG:=[zz1 4 0,zz4 5 2 1,zz2 6 1 5,zza 7 6,zzg 8 n_net_row 4 7,o 9 (.not (.t 8)),zz1 3 9]
abbrev ynM:List AG:=[zzh 3]
abbrev net_Gate_1:AFun:=⟨(.seq (.reg ynM) (.seq (.reg ynL) .ret)),10,[.tmp 3]⟩
@[simp] theorem c_net_Gate_1:cfun Tryz.prog n_net_Gate_1=some net_Gate_1:=by kernel_rfl
@[simp] theorem e_net_Gate_1:hasBody Tryz.prog n_net_Gate_1=true:=by kernel_rfl
abbrev ynN:List AG:=[zz1 5 0,o 6 (.lenStr (.t 5)),zz1 7 1,o 8 (.cmp .eql (.sc .int) (.t 6) (.t 7)),zz1 9 8,zze 10 9 0,oy 11 9 (.call (.f n_strings_Trim) [(.t 10),(.c (.str [48,49,45]))]),oy 12 9 (.cmp .eql (.sc .str) (.t 11) (.c (.str []))),zz8 13 9 12,zz1 4 13]
abbrev ynO:List AG:=[zzh 4]
abbrev net_row:AFun:=⟨(.seq (.reg ynO) (.seq (.reg ynN) .ret)),14,[.tmp 4]⟩
@[simp] theorem c_net_row:cfun Tryz.prog n_net_row=some net_row:=by kernel_rfl
@[simp] theorem e_net_row:hasBody Tryz.prog n_net_row=true:=by kernel_rfl
abbrev ynP:List AG:=[zzh 2]
abbrev ynQ:List AG:=[zzh 2]
abbrev step_of_1:AFun:=⟨(.seq (.reg ynQ) (.seq (.reg ynP) .ret)),3,[.tmp 2]⟩
@[simp] theorem c_step_of_1:cfun Tryz.prog n_step_of_1=some step_of_1:=by kernel_rfl
@[simp] theorem e_step_of_1:hasBody Tryz.prog n_step_of_1=true:=by kernel_rfl
abbrev ynR:List AG:=[zz1 3 0,zzf 4 n_step_count 3,zz1 5 0,zza 6 5,o 7 (.cmp .eql (.sc .int) (.t 4) (.t 6)),zz1 2 7]
abbrev ynS:List AG:=[zzh 2]
abbrev step_of_2:AFun:=⟨(.seq (.reg ynS) (.seq (.reg ynR) .ret)),8,[.tmp 2]⟩
@[simp] theorem c_step_of_2:cfun Tryz.prog n_step_of_2=some step_of_2:=by kernel_rfl
@[simp] theorem e_step_of_2:hasBody Tryz.prog n_step_of_2=true:=by kernel_rfl
abbrev ynT:List AG:=[zz1 16 3,zz1 2 16]
abbrev ynU:List Bool:=[O,O,O,I,O,O,I,I,I,O,O,O,O,O,O,O,O]
abbrev ynV:List Bool:=[O,O,O,I,O,O,O,O,O,O,O,O,O,O,O,O,O]
abbrev ynW:List AG:=[zz6 15 8 1,zz1 8 15]
abbrev ynX:List AG:=[zz1 13 3,zz6 14 13 1,zz1 3 14]
abbrev ynY:List AG:=[zz1 12 5]
abbrev ynZ:List AG:=[zz5 10 1 6 8,zz2 11 1 10,zz1 5 11]
abbrev yoa:ACode:=(.seq (.reg ynZ) (.seq (.reg ynY) (.cond (.t 12) (.reg ynX) .skip)))
abbrev yob:List AG:=[zz7 9 8 7]
abbrev yoc:ACode:=(.seq (.reg yob) (.seq (.cond (.t 9) .skip (.exit 0)) (.seq (.block 1 [] yoa) (.reg ynW))))
abbrev yod:List AG:=[zz1 6 0,zza 7 6,zz9 8 0]
abbrev yoe:List AG:=[zz9 3 0]
abbrev yof:List AG:=[zz9 2 0]
abbrev step_count:AFun:=⟨(.seq (.reg yof) (.seq (.reg yoe) (.seq (.seq (.reg yod) (.block 0 ynV (.loop ynU yoc))) (.seq (.reg ynT) .ret)))),17,[.tmp 2]⟩
abbrev yog:List It:=[.code (.seq (.reg ynT) .ret)]
abbrev yoh (x3 x6 x7 x8:AV) (h:List Ob) (e:Cx:=cx):Cfg:=atC n_step_count (.code yoc::.inLoop ynU yoc::.inBlock 0 ynV::yog) [U,U,U,x3,U,U,x6,x7,x8,U,U,U,U,U,U,U,U] h e
@[simp] theorem c_step_count:cfun Tryz.prog n_step_count=some step_count:=by kernel_rfl
@[simp] theorem e_step_count:hasBody Tryz.prog n_step_count=true:=by kernel_rfl
abbrev yoi:List AG:=[zz1 3 0,zzf 4 n_step_count 3,o 5 (.cmp .gtr (.sc .int) (.t 4) (.c (.int .i64 0))),zz1 2 5]
abbrev yoj:List AG:=[zzh 2]
abbrev step_of_3:AFun:=⟨(.seq (.reg yoj) (.seq (.reg yoi) .ret)),6,[.tmp 2]⟩
@[simp] theorem c_step_of_3:cfun Tryz.prog n_step_of_3=some step_of_3:=by kernel_rfl
@[simp] theorem e_step_of_3:hasBody Tryz.prog n_step_of_3=true:=by kernel_rfl
abbrev yok:List AG:=[zz1 3 0,zzf 4 n_step_count 3,o 5 (.ibin .rem (.t 4) (.c (.int .i64 2))),o 6 (.cmp .eql (.sc .int) (.t 5) (.c (.int .i64 1))),zz1 2 6]
abbrev yol:List AG:=[zzh 2]
abbrev step_of_4:AFun:=⟨(.seq (.reg yol) (.seq (.reg yok) .ret)),7,[.tmp 2]⟩
@[simp] theorem c_step_of_4:cfun Tryz.prog n_step_of_4=some step_of_4:=by kernel_rfl
@[simp] theorem e_step_of_4:hasBody Tryz.prog n_step_of_4=true:=by kernel_rfl
abbrev yom:List AG:=[o 4 (.mv (.c (.int .i64 (-1))))]
abbrev yon:List Bool:=[I,I,O,O,O,O,O,I,I,O,O,O,O,O,O,O,O,O,O]
abbrev yoo:List Bool:=[O,O,O,O,O,O,O,O,O,O,O,O,O,O,O,O,O,O,O]
abbrev yop:List AG:=[zz6 18 8 1,zz1 8 18]
abbrev yoq:List AG:=[zz1 17 5,zz1 4 17]
abbrev yor:ACode:=(.seq (.reg yoq) .ret)
abbrev yos:List AG:=[zz1 11 1,zz1 12 0,zz1 13 5,zz5 14 1 12 13,zz2 15 1 14,o 16 (.call (.t 11) [(.t 15)])]
abbrev yot:List AG:=[zz1 10 8,zz1 5 10]
abbrev you:ACode:=(.seq (.reg yot) (.seq (.reg yos) (.cond (.t 16) yor .skip)))
abbrev yov:List AG:=[zz7 9 8 7]
abbrev yow:ACode:=(.seq (.reg yov) (.seq (.cond (.t 9) .skip (.exit 0)) (.seq (.block 1 [] you) (.reg yop))))
abbrev yox:List AG:=[zz1 6 0,zza 7 6,zz9 8 0]
abbrev yoy:List AG:=[zz9 4 0]
abbrev slices_IndexFunc_string_string:AFun:=⟨(.seq (.reg yoy) (.seq (.seq (.reg yox) (.block 0 yoo (.loop yon yow))) (.seq (.reg yom) .ret))),19,[.tmp 4]⟩
abbrev yoz:List It:=[.code (.seq (.reg yom) .ret)]
abbrev yoA (x0 x1 x7 x8:AV) (h:List Ob) (e:Cx:=cx):Cfg:=atC n_slices_IndexFunc_string_string (.code yow::.inLoop yon yow::.inBlock 0 yoo::yoz) [x0,x1,U,U,U,U,U,x7,x8,U,U,U,U,U,U,U,U,U,U] h e
@[simp] theorem c_slices_IndexFunc_string_string:cfun Tryz.prog n_slices_IndexFunc_string_string=some slices_IndexFunc_string_string:=by kernel_rfl
@[simp] theorem e_slices_IndexFunc_string_string:hasBody Tryz.prog n_slices_IndexFunc_string_string=true:=by kernel_rfl
abbrev yoB:List AG:=[zz1 28 0,o 29 (.lenStr (.t 28)),zz1 30 1,o 31 (.cmp .eql (.sc .int) (.t 29) (.t 30)),zz1 4 31]
abbrev yoC:List Bool:=[I,I,O,O,O,I,O,O,O,O,O,O,O,O,O,O,O,O,O,O,O,O,O,O,O,O,O,O,O,O,O,O]
abbrev yoD:List Bool:=[I,I,O,O,O,O,O,O,O,O,O,O,O,O,O,O,O,O,O,O,O,O,O,O,O,O,O,O,O,O,O,O]
abbrev yoE:List AG:=[zz1 10 5,zz6 11 10 1,zz1 5 11]
abbrev yoF:List AG:=[zzh 4]
abbrev yoG:ACode:=(.seq (.reg yoF) .ret)
abbrev yoH:List AG:=[zz1 12 0,zz1 13 5,o 14 (.ixStr (.t 12) (.t 13)),o 15 (.cmp .neq (.sc .int) (.t 14) (.c (.int .u8 48))),zz1 16 15,zze 17 16 0,zze 18 16 5,oy 19 16 (.ixStr (.t 17) (.t 18)),oy 20 16 (.cmp .neq (.sc .int) (.t 19) (.c (.int .u8 49))),zz8 21 16 20,zz1 22 21,zze 23 22 0,zze 24 22 5,oy 25 22 (.ixStr (.t 23) (.t 24)),oy 26 22 (.cmp .neq (.sc .int) (.t 25) (.c (.int .u8 45))),zz8 27 22 26]
abbrev yoI:ACode:=(.seq (.reg yoH) (.cond (.t 27) yoG .skip))
abbrev yoJ:List AG:=[zz1 6 5,zz1 7 0,o 8 (.lenStr (.t 7)),zz7 9 6 8]
abbrev yoK:ACode:=(.seq (.seq (.reg yoJ) (.cond (.t 9) .skip (.exit 0))) (.seq (.block 1 [] yoI) (.reg yoE)))
abbrev yoL:List AG:=[zz9 5 0]
abbrev yoM:List AG:=[zzh 4]
abbrev r06_row:AFun:=⟨(.seq (.reg yoM) (.seq (.seq (.reg yoL) (.block 0 yoD (.loop yoC yoK))) (.seq (.reg yoB) .ret))),32,[.tmp 4]⟩
abbrev yoN:List It:=[.code (.seq (.reg yoB) .ret)]
abbrev yoO (x0 x1 x5:AV) (h:List Ob) (e:Cx:=cx):Cfg:=atC n_r06_row (.code yoK::.inLoop yoC yoK::.inBlock 0 yoD::yoN) [x0,x1,U,U,U,x5,U,U,U,U,U,U,U,U,U,U,U,U,U,U,U,U,U,U,U,U,U,U,U,U,U,U] h e
@[simp] theorem c_r06_row:cfun Tryz.prog n_r06_row=some r06_row:=by kernel_rfl
@[simp] theorem e_r06_row:hasBody Tryz.prog n_r06_row=true:=by kernel_rfl
abbrev yoP:List AG:=[zz1 15 5,zz1 4 15]
abbrev yoQ:List Bool:=[I,I,O,O,O,I,I,O,O,O,O,O,O,O,O,O]
abbrev yoR:List Bool:=[O,O,O,O,O,I,O,O,O,O,O,O,O,O,O,O]
abbrev yoS:List AG:=[zz1 10 6,zz6 11 10 1,zz1 6 11]
abbrev yoT:List AG:=[zz1 12 5,zz1 13 0,o 14 (.concat (.t 12) (.t 13)),zz1 5 14]
abbrev yoU:List AG:=[zz1 7 6,zz1 8 1,zz7 9 7 8]
abbrev yoV:ACode:=(.seq (.seq (.reg yoU) (.cond (.t 9) .skip (.exit 0))) (.seq (.block 1 [] (.reg yoT)) (.reg yoS)))
abbrev yoW:List AG:=[zz9 6 0]
abbrev yoX:List AG:=[o 5 (.mv (.c (.str [])))]
abbrev yoY:List AG:=[o 4 (.mv (.c (.str [])))]
abbrev r06_all:AFun:=⟨(.seq (.reg yoY) (.seq (.reg yoX) (.seq (.seq (.reg yoW) (.block 0 yoR (.loop yoQ yoV))) (.seq (.reg yoP) .ret)))),16,[.tmp 4]⟩
abbrev yoZ:List It:=[.code (.seq (.reg yoP) .ret)]
abbrev ypa (x0 x1 x5 x6:AV) (h:List Ob) (e:Cx:=cx):Cfg:=atC n_r06_all (.code yoV::.inLoop yoQ yoV::.inBlock 0 yoR::yoZ) [x0,x1,U,U,U,x5,x6,U,U,U,U,U,U,U,U,U] h e
@[simp] theorem c_r06_all:cfun Tryz.prog n_r06_all=some r06_all:=by kernel_rfl
@[simp] theorem e_r06_all:hasBody Tryz.prog n_r06_all=true:=by kernel_rfl
abbrev ypb:List AG:=[zz1 43 5,zz1 4 43]
abbrev ypc:List Bool:=[I,I,O,O,O,I,I,O,O,O,O,O,O,O,O,O,O,O,O,O,O,O,O,O,O,O,O,O,O,O,O,O,O,O,O,O,O,O,O,O,O,O,O,O]
abbrev ypd:List Bool:=[O,O,O,O,O,I,O,O,O,O,O,O,O,O,O,O,O,O,O,O,O,O,O,O,O,O,O,O,O,O,O,O,O,O,O,O,O,O,O,O,O,O,O,O]
abbrev ype:List AG:=[zz1 15 6,zz6 16 15 1,zz1 6 16]
abbrev ypf:List AG:=[zz1 39 5,zz1 40 7,o 41 (.lit 1 [(.str [])] [(0,(.t 40))]),o 42 (.append 1 t_string 16 (.t 39) (.t 41)),zz1 5 42]
abbrev ypg:List AG:=[zz1 35 8,o 36 (.ibin .rem (.t 35) (.c (.int .i64 2))),zz1 37 1,o 38 (.cmp .eql (.sc .int) (.t 36) (.t 37))]
abbrev yph:List Bool:=[I,I,O,O,O,I,I,I,I,I,O,O,O,O,O,O,O,O,O,O,O,O,O,O,O,O,O,O,O,O,O,O,O,O,O,O,O,O,O,O,O,O,O,O]
abbrev ypi:List Bool:=[I,I,O,O,O,I,I,I,I,O,O,O,O,O,O,O,O,O,O,O,O,O,O,O,O,O,O,O,O,O,O,O,O,O,O,O,O,O,O,O,O,O,O,O]
abbrev ypj:List AG:=[zz1 21 9,o 22 (.ibin .sub (.t 21) (.c (.int .i64 1))),zz1 9 22]
abbrev ypk:List AG:=[zz1 31 8,zz6 32 31 1,zz1 8 32]
abbrev ypl:List AG:=[zz1 29 7,o 30 (.concat (.t 29) (.c (.str [49]))),zz1 7 30]
abbrev ypm:List AG:=[zz1 33 7,o 34 (.concat (.t 33) (.c (.str [48]))),zz1 7 34]
abbrev ypn:ACode:=(.seq (.reg ypl) (.reg ypk))
abbrev ypo:List AG:=[zz1 23 6,zz1 24 9,o 25 (.conv .u64 (.t 24)),o 26 (.ibin .shr (.t 23) (.t 25)),o 27 (.ibin .rem (.t 26) (.c (.int .i64 2))),o 28 (.cmp .eql (.sc .int) (.t 27) (.c (.int .i64 1)))]
abbrev ypp:ACode:=(.seq (.reg ypo) (.cond (.t 28) ypn (.reg ypm)))
abbrev ypq:List AG:=[zz1 19 9,o 20 (.cmp .geq (.sc .int) (.t 19) (.c (.int .i64 0)))]
abbrev ypr:ACode:=(.seq (.seq (.reg ypq) (.cond (.t 20) .skip (.exit 2))) (.seq (.block 3 [] ypp) (.reg ypj)))
abbrev yps:List AG:=[zz1 17 0,o 18 (.ibin .sub (.t 17) (.c (.int .i64 1))),zz1 9 18]
abbrev ypt:List AG:=[zz9 8 0]
abbrev ypu:List AG:=[o 7 (.mv (.c (.str [])))]
abbrev ypv:ACode:=(.seq (.reg ypu) (.seq (.reg ypt) (.seq (.seq (.reg yps) (.block 2 ypi (.loop yph ypr))) (.seq (.reg ypg) (.cond (.t 38) (.reg ypf) .skip)))))
abbrev ypw:List AG:=[zz1 10 6,zz1 11 0,o 12 (.conv .u64 (.t 11)),o 13 (.ibin .shl (.c (.int .i64 1)) (.t 12)),zz7 14 10 13]
abbrev ypx:ACode:=(.seq (.seq (.reg ypw) (.cond (.t 14) .skip (.exit 0))) (.seq (.block 1 [] ypv) (.reg ype)))
abbrev ypy:List AG:=[zz9 6 0]
abbrev ypz:List AG:=[o 5 (.nilrow 1 t_string)]
abbrev ypA:List AG:=[o 4 (.nilrow 1 t_string)]
abbrev r06_odd:AFun:=⟨(.seq (.reg ypA) (.seq (.reg ypz) (.seq (.seq (.reg ypy) (.block 0 ypd (.loop ypc ypx))) (.seq (.reg ypb) .ret)))),44,[.tmp 4]⟩
abbrev ypB:List It:=[.code (.seq (.reg ypg) (.cond (.t 38) (.reg ypf) .skip)),.inBlock 1 [],.code (.reg ype),.inLoop ypc ypx,.inBlock 0 ypd,.code (.seq (.reg ypb) .ret)]
abbrev ypC (x0 x1 x5 x6 x7 x8 x9:AV) (h:List Ob) (e:Cx:=cx):Cfg:=atC n_r06_odd (.code ypr::.inLoop yph ypr::.inBlock 2 ypi::ypB) [x0,x1,U,U,U,x5,x6,x7,x8,x9,U,U,U,U,U,U,U,U,U,U,U,U,U,U,U,U,U,U,U,U,U,U,U,U,U,U,U,U,U,U,U,U,U,U] h e
abbrev ypD (x0 x1 x5 x6 x7 x8:AV) (h:List Ob) (e:Cx:=cx):Cfg:=atC n_r06_odd ypB [x0,x1,U,U,U,x5,x6,x7,x8,U,U,U,U,U,U,U,U,U,U,U,U,U,U,U,U,U,U,U,U,U,U,U,U,U,U,U,U,U,U,U,U,U,U,U] h e
abbrev ypE:List It:=[.code (.seq (.reg ypb) .ret)]
abbrev ypF (x0 x1 x5 x6:AV) (h:List Ob) (e:Cx:=cx):Cfg:=atC n_r06_odd (.code ypx::.inLoop ypc ypx::.inBlock 0 ypd::ypE) [x0,x1,U,U,U,x5,x6,U,U,U,U,U,U,U,U,U,U,U,U,U,U,U,U,U,U,U,U,U,U,U,U,U,U,U,U,U,U,U,U,U,U,U,U,U] h e
@[simp] theorem c_r06_odd:cfun Tryz.prog n_r06_odd=some r06_odd:=by kernel_rfl
@[simp] theorem e_r06_odd:hasBody Tryz.prog n_r06_odd=true:=by kernel_rfl
abbrev ypG:List AG:=[zz9 2 0,o 3 (.mv (.c (.str [])))]
abbrev ypH:List AG:=[zz1 25 7,o 26 (.ixAddr 1 (.t 25) (.c (.int .i64 0))),zz2 27 1 26,zz9 2 7,zz1 3 27]
abbrev ypI:ACode:=(.seq (.dreg [O,O,O,O,O] [6,6,6,6,6] ypH) .ret)
abbrev ypJ:List AG:=[zz1 22 7,zza 23 22,o 24 (.cmp .gtr (.sc .int) (.t 23) (.c (.int .i64 0)))]
abbrev ypK:List AG:=[zz3 18 4 1,zzf 19 n_order_Sort 18,zz1 17 19,zzc 20 17 0,zzc 21 17 1,zz1 6 20,zz1 7 21]
abbrev ypL:List AG:=[zz1 15 4,zz1 16 5,zz1 2 15,zz1 3 16]
abbrev ypM:ACode:=(.seq (.reg ypL) .ret)
abbrev ypN:List AG:=[zz1 13 4,o 14 (.cmp .neq (.sc .int) (.t 13) (.c (.int .i64 0)))]
abbrev ypO:List AG:=[zz3 9 4 1,zzf 10 n_net_Check 9,zz1 8 10,zzc 11 8 0,zzc 12 8 1,zz1 4 11,zz1 5 12]
abbrev ypP:List AG:=[o 1 (.box 4 (.t 0)),zz9 2 0,o 3 (.mv (.c (.str [])))]
abbrev order_Check:AFun:=⟨(.seq (.reg ypP) (.seq (.seq (.reg ypO) (.seq (.reg ypN) (.cond (.t 14) ypM .skip))) (.seq (.seq (.reg ypK) (.seq (.reg ypJ) (.cond (.t 24) ypI .skip))) (.seq (.reg ypG) .ret)))),28,[.tmp 2,.tmp 3]⟩
@[simp] theorem c_order_Check:cfun Tryz.prog n_order_Check=some order_Check:=by kernel_rfl
@[simp] theorem e_order_Check:hasBody Tryz.prog n_order_Check=true:=by kernel_rfl
abbrev ypQ:List AG:=[zz9 2 0,o 3 (.mv (.c (.str [])))]
abbrev ypR:List AG:=[zz1 25 7,o 26 (.ixAddr 1 (.t 25) (.c (.int .i64 0))),zz2 27 1 26,zz9 2 7,zz1 3 27]
abbrev ypS:ACode:=(.seq (.dreg [O,O,O,O,O] [6,6,6,6,6] ypR) .ret)
abbrev ypT:List AG:=[zz1 22 7,zza 23 22,o 24 (.cmp .gtr (.sc .int) (.t 23) (.c (.int .i64 0)))]
abbrev ypU:List AG:=[zz3 18 4 1,zzf 19 n_r07_Sort 18,zz1 17 19,zzc 20 17 0,zzc 21 17 1,zz1 6 20,zz1 7 21]
abbrev ypV:List AG:=[zz1 15 4,zz1 16 5,zz1 2 15,zz1 3 16]
abbrev ypW:ACode:=(.seq (.reg ypV) .ret)
abbrev ypX:List AG:=[zz1 13 4,o 14 (.cmp .neq (.sc .int) (.t 13) (.c (.int .i64 0)))]
abbrev ypY:List AG:=[zz3 9 4 1,zzf 10 n_r06_Check 9,zz1 8 10,zzc 11 8 0,zzc 12 8 1,zz1 4 11,zz1 5 12]
abbrev ypZ:List AG:=[o 1 (.box 4 (.t 0)),zz9 2 0,o 3 (.mv (.c (.str [])))]
abbrev r07_Check:AFun:=⟨(.seq (.reg ypZ) (.seq (.reg ypY) (.seq (.seq (.reg ypX) (.cond (.t 14) ypW .skip)) (.seq (.reg ypU) (.seq (.seq (.reg ypT) (.cond (.t 24) ypS .skip)) (.seq (.reg ypQ) .ret)))))),28,[.tmp 2,.tmp 3]⟩
@[simp] theorem c_r07_Check:cfun Tryz.prog n_r07_Check=some r07_Check:=by kernel_rfl
@[simp] theorem e_r07_Check:hasBody Tryz.prog n_r07_Check=true:=by kernel_rfl
abbrev yqa:List AG:=[zz2 52 1 4,zz1 53 7,zz1 2 52,zz1 3 53]
abbrev yqb:List Bool:=[O,O,O,O,I,I,O,I,O,O,O,O,O,O,O,O,O,O,O,O,O,O,O,O,O,O,O,O,O,O,O,O,I,I,I,O,O,O,O,O,O,O,O,O,O,O,O,O,O,O,O,O,O,O]
abbrev yqc:List Bool:=[O,O,O,O,I,O,O,I,O,O,O,O,O,O,O,O,O,O,O,O,O,O,O,O,O,O,O,O,O,O,O,O,O,O,O,O,O,O,O,O,O,O,O,O,O,O,O,O,O,O,O,O,O,O]
abbrev yqd:List AG:=[zz6 51 34 1,zz1 34 51]
abbrev yqe:List AG:=[zz1 46 7,zz4 47 0 9,zz2 48 1 47,o 49 (.lit 1 [(.str [])] [(0,(.t 48))]),o 50 (.append 1 t_string 16 (.t 46) (.t 49)),zz1 7 50]
abbrev yqf:List AG:=[zz1 45 11]
abbrev yqg:List AG:=[zz2 39 1 5,zz4 40 0 9,zz2 41 1 40,o 42 (.lookup (.sc .str) (.int .i64 0) (.t 39) (.t 41) true),zz1 38 42,zzc 43 38 0,zzc 44 38 1,zz1 10 43,zz1 11 44]
abbrev yqh:List AG:=[zz5 36 5 32 34,zz3 37 5 36,o 9 (.alloc [(.str []),(.int .i64 0),(.own 1 t_string []),(.own 1 t_string []),(.bool false)]),zzb 5 9 37]
abbrev yqi:ACode:=(.seq (.reg yqh) (.seq (.reg yqg) (.seq (.reg yqf) (.cond (.t 45) (.reg yqe) .skip))))
abbrev yqj:List AG:=[zz7 35 34 33]
abbrev yqk:ACode:=(.seq (.reg yqj) (.seq (.cond (.t 35) .skip (.exit 2)) (.seq (.block 3 [] yqi) (.reg yqd))))
abbrev yql:List AG:=[zz4 31 3 1,zz2 32 1 31,zza 33 32,zz9 34 0]
abbrev yqm:List AG:=[o 7 (.nilrow 1 t_string)]
abbrev yqn:List AG:=[zz1 6 19]
abbrev yqo:List AG:=[zz2 24 1 5,zz4 25 3 1,zz2 26 1 25,zz1 27 6,zz5 28 5 26 27,zz4 29 0 28,zz2 30 1 29,q (.delete (.sc .str) (.t 24) (.t 30))]
abbrev yqp:List AG:=[zz2 20 1 4,zz1 21 6,o 22 (.lit 1 [(.int .i64 0)] [(0,(.t 21))]),o 23 (.append 1 t_int 8 (.t 20) (.t 22)),zzb 1 4 23]
abbrev yqq:ACode:=(.seq (.reg yqp) (.dreg [O,O,O,O,O,O,O,O] [8,8,8,8,8,8,8,9] yqo))
abbrev yqr:ACode:=(.block 1 [] yqq)
abbrev yqs:ACode:=(.rangeFunc (.t 18) [19] [O,I,I,I,I,I,O,O,O,O,O,O,O,O,O,O,O,O,O,O,O,O,O,O,O,O,O,O,O,O,O,O,O,O,O,O,O,O,O,O,O,O,O,O,O,O,O,O,O,O,O,O,O,O] (.reg yqn) yqr)
abbrev yqt:List AG:=[zz3 17 4 1,zzf 18 n_order_coming 17]
abbrev yqu:List AG:=[zz3 15 4 1,zzf 16 n_order_places 15,o 5 (.alloc [.nilm]),zzb 1 5 16]
abbrev yqv:List AG:=[o 4 (.alloc [(.own 1 t_int [])])]
abbrev yqw:List AG:=[o 2 (.nilrow 1 t_int),o 3 (.nilrow 1 t_string)]
abbrev yqx:ACode:=(.seq (.reg yqw) .ret)
abbrev yqy:List AG:=[zz3 12 4 1,zzf 13 n_order_right 12,o 14 (.not (.t 13))]
abbrev yqz:List AG:=[o 1 (.box 4 (.t 0)),o 2 (.nilrow 1 t_int),o 3 (.nilrow 1 t_string)]
abbrev order_Sort:AFun:=⟨(.seq (.reg yqz) (.seq (.seq (.reg yqy) (.cond (.t 14) yqx .skip)) (.seq (.reg yqv) (.seq (.reg yqu) (.seq (.seq (.reg yqt) (.block 0 [] yqs)) (.seq (.reg yqm) (.seq (.seq (.reg yql) (.block 2 yqc (.loop yqb yqk))) (.seq (.reg yqa) .ret)))))))),54,[.tmp 2,.tmp 3]⟩
abbrev yqA:List It:=[.code (.seq (.reg yqa) .ret)]
abbrev yqB (x4 x5 x7 x32 x33 x34:AV) (h:List Ob) (e:Cx:=cx):Cfg:=atC n_order_Sort (.code yqk::.inLoop yqb yqk::.inBlock 2 yqc::yqA) [U,U,U,U,x4,x5,U,x7,U,U,U,U,U,U,U,U,U,U,U,U,U,U,U,U,U,U,U,U,U,U,U,U,x32,x33,x34,U,U,U,U,U,U,U,U,U,U,U,U,U,U,U,U,U,U,U] h e
@[simp] theorem c_order_Sort:cfun Tryz.prog n_order_Sort=some order_Sort:=by kernel_rfl
@[simp] theorem e_order_Sort:hasBody Tryz.prog n_order_Sort=true:=by kernel_rfl
abbrev yqC:List AG:=[zz1 37 3,zz1 2 37]
abbrev yqD:List Bool:=[O,O,O,I,O,O,O,O,O,O,O,O,O,O,O,O,O,O,O,O,O,O,O,O,O,I,I,I,O,O,O,O,O,O,O,O,O,O]
abbrev yqE:List Bool:=[O,O,O,I,O,O,O,O,O,O,O,O,O,O,O,O,O,O,O,O,O,O,O,O,O,O,O,O,O,O,O,O,O,O,O,O,O,O]
abbrev yqF:List AG:=[zz6 36 27 1,zz1 27 36]
abbrev yqG:List AG:=[zz1 31 3,zz4 32 0 7,zz2 33 1 32,o 34 (.lit 1 [(.str [])] [(0,(.t 33))]),o 35 (.append 1 t_string 16 (.t 31) (.t 34)),zz1 3 35]
abbrev yqH:List AG:=[zz5 29 5 25 27,zz3 30 5 29,o 7 (.alloc [(.str []),(.int .i64 0),(.own 1 t_string []),(.own 1 t_string []),(.bool false)]),zzb 5 7 30]
abbrev yqI:ACode:=(.seq (.reg yqH) (.reg yqG))
abbrev yqJ:List AG:=[zz7 28 27 26]
abbrev yqK:ACode:=(.seq (.reg yqJ) (.seq (.cond (.t 28) .skip (.exit 2)) (.seq (.block 3 [] yqI) (.reg yqF))))
abbrev yqL:List AG:=[zz4 24 3 1,zz2 25 1 24,zza 26 25,zz9 27 0]
abbrev yqM:List Bool:=[O,I,O,I,O,O,O,O,O,O,O,O,I,I,I,O,O,O,O,O,O,O,O,O,O,O,O,O,O,O,O,O,O,O,O,O,O,O]
abbrev yqN:List Bool:=[O,I,O,I,O,O,O,O,O,O,O,O,O,O,O,O,O,O,O,O,O,O,O,O,O,O,O,O,O,O,O,O,O,O,O,O,O,O]
abbrev yqO:List AG:=[zz6 23 14 1,zz1 14 23]
abbrev yqP:List AG:=[zz1 18 3,zz4 19 0 5,zz2 20 1 19,o 21 (.lit 1 [(.str [])] [(0,(.t 20))]),o 22 (.append 1 t_string 16 (.t 18) (.t 21)),zz1 3 22]
abbrev yqQ:List AG:=[zz5 16 3 12 14,zz3 17 3 16,o 5 (.alloc [(.str []),(.str []),(.int .i64 0)]),zzb 3 5 17]
abbrev yqR:ACode:=(.seq (.reg yqQ) (.reg yqP))
abbrev yqS:List AG:=[zz7 15 14 13]
abbrev yqT:ACode:=(.seq (.reg yqS) (.seq (.cond (.t 15) .skip (.exit 0)) (.seq (.block 1 [] yqR) (.reg yqO))))
abbrev yqU:List AG:=[zz4 11 2 1,zz2 12 1 11,zza 13 12,zz9 14 0]
abbrev yqV:List AG:=[zz4 8 0 1,zz2 9 1 8,zzf 10 n_slices_Clone_string_string 9,zz1 3 10]
abbrev yqW:List AG:=[o 1 (.box 4 (.t 0)),o 2 (.nilrow 1 t_string)]
abbrev net_Nets:AFun:=⟨(.seq (.reg yqW) (.seq (.reg yqV) (.seq (.seq (.reg yqU) (.block 0 yqN (.loop yqM yqT))) (.seq (.seq (.reg yqL) (.block 2 yqE (.loop yqD yqK))) (.seq (.reg yqC) .ret))))),38,[.tmp 2]⟩
abbrev yqX:List It:=[.code (.seq (.reg yqC) .ret)]
abbrev yqY (x3 x25 x26 x27:AV) (h:List Ob) (e:Cx:=cx):Cfg:=atC n_net_Nets (.code yqK::.inLoop yqD yqK::.inBlock 2 yqE::yqX) [U,U,U,x3,U,U,U,U,U,U,U,U,U,U,U,U,U,U,U,U,U,U,U,U,U,x25,x26,x27,U,U,U,U,U,U,U,U,U,U] h e
abbrev yqZ:List It:=[.code (.seq (.seq (.reg yqL) (.block 2 yqE (.loop yqD yqK))) (.seq (.reg yqC) .ret))]
abbrev yra (x1 x3 x12 x13 x14:AV) (h:List Ob) (e:Cx:=cx):Cfg:=atC n_net_Nets (.code yqT::.inLoop yqM yqT::.inBlock 0 yqN::yqZ) [U,x1,U,x3,U,U,U,U,U,U,U,U,x12,x13,x14,U,U,U,U,U,U,U,U,U,U,U,U,U,U,U,U,U,U,U,U,U,U,U] h e
@[simp] theorem c_net_Nets:cfun Tryz.prog n_net_Nets=some net_Nets:=by kernel_rfl
@[simp] theorem e_net_Nets:hasBody Tryz.prog n_net_Nets=true:=by kernel_rfl
abbrev yrb:List AG:=[zz1 35 6,zz1 2 35]
abbrev yrc:List Bool:=[O,O,O,O,O,O,I,O,O,O,O,O,O,O,O,O,O,O,O,O,O,O,O,O,O,I,I,I,O,O,O,O,O,O,O,O]
abbrev yrd:List Bool:=[O,O,O,O,O,O,I,O,O,O,O,O,O,O,O,O,O,O,O,O,O,O,O,O,O,O,O,O,O,O,O,O,O,O,O,O]
abbrev yre:List AG:=[zz6 34 27 1,zz1 27 34]
abbrev yrf:List AG:=[zz1 31 6,zz1 32 8,o 33 (.append 1 t_bool 1 (.t 31) (.t 32)),zz1 6 33]
abbrev yrg:List AG:=[zz5 29 1 25 27,zz2 30 1 29,zz1 8 30]
abbrev yrh:ACode:=(.seq (.reg yrg) (.reg yrf))
abbrev yri:List AG:=[zz7 28 27 26]
abbrev yrj:ACode:=(.seq (.reg yri) (.seq (.cond (.t 28) .skip (.exit 2)) (.seq (.block 3 [] yrh) (.reg yre))))
abbrev yrk:List AG:=[zz1 25 0,zza 26 25,zz9 27 0]
abbrev yrl:List AG:=[zz1 23 3,o 24 (.call (.f n_slices_Grow_bool_bool) [(.c (.list true 0 [])),(.t 23)]),zz1 6 24]
abbrev yrm:List Bool:=[I,O,O,I,O,O,O,O,O,I,I,I,O,O,O,O,O,O,O,O,O,O,O,O,O,O,O,O,O,O,O,O,O,O,O,O]
abbrev yrn:List Bool:=[I,O,O,I,O,O,O,O,O,O,O,O,O,O,O,O,O,O,O,O,O,O,O,O,O,O,O,O,O,O,O,O,O,O,O,O]
abbrev yro:List AG:=[zz6 22 11 1,zz1 11 22]
abbrev yrp:List AG:=[o 21 (.mkIface t_string (.c (.str [108,101,110,32,111,117,116,32,111,102,32,114,97,110,103,101]))),q (.panic (.t 21))]
abbrev yrq:List AG:=[zz1 19 3,o 20 (.cmp .lss (.sc .int) (.t 19) (.c (.int .i64 0)))]
abbrev yrr:List AG:=[zz1 15 3,zz1 16 5,zza 17 16,o 18 (.ibin .add (.t 15) (.t 17)),zz1 3 18]
abbrev yrs:List AG:=[zz5 13 1 9 11,zz2 14 1 13,zz1 5 14]
abbrev yrt:ACode:=(.seq (.reg yrs) (.seq (.reg yrr) (.seq (.reg yrq) (.cond (.t 20) (.reg yrp) .skip))))
abbrev yru:List AG:=[zz7 12 11 10]
abbrev yrv:ACode:=(.seq (.reg yru) (.seq (.cond (.t 12) .skip (.exit 0)) (.seq (.block 1 [] yrt) (.reg yro))))
abbrev yrw:List AG:=[zz1 9 0,zza 10 9,zz9 11 0]
abbrev yrx:List AG:=[zz9 3 0]
abbrev yry:List AG:=[o 2 (.nilrow 1 t_bool)]
abbrev slices_Concat_bool_bool:AFun:=⟨(.seq (.reg yry) (.seq (.reg yrx) (.seq (.seq (.reg yrw) (.block 0 yrn (.loop yrm yrv))) (.seq (.reg yrl) (.seq (.seq (.reg yrk) (.block 2 yrd (.loop yrc yrj))) (.seq (.reg yrb) .ret)))))),36,[.tmp 2]⟩
abbrev yrz:List It:=[.code (.seq (.reg yrb) .ret)]
abbrev yrA (x6 x25 x26 x27:AV) (h:List Ob) (e:Cx:=cx):Cfg:=atC n_slices_Concat_bool_bool (.code yrj::.inLoop yrc yrj::.inBlock 2 yrd::yrz) [U,U,U,U,U,U,x6,U,U,U,U,U,U,U,U,U,U,U,U,U,U,U,U,U,U,x25,x26,x27,U,U,U,U,U,U,U,U] h e
abbrev yrB:List It:=[.code (.seq (.reg yrl) (.seq (.seq (.reg yrk) (.block 2 yrd (.loop yrc yrj))) (.seq (.reg yrb) .ret)))]
abbrev yrC (x0 x3 x9 x10 x11:AV) (h:List Ob) (e:Cx:=cx):Cfg:=atC n_slices_Concat_bool_bool (.code yrv::.inLoop yrm yrv::.inBlock 0 yrn::yrB) [x0,U,U,x3,U,U,U,U,U,x9,x10,x11,U,U,U,U,U,U,U,U,U,U,U,U,U,U,U,U,U,U,U,U,U,U,U,U] h e
@[simp] theorem c_slices_Concat_bool_bool:cfun Tryz.prog n_slices_Concat_bool_bool=some slices_Concat_bool_bool:=by kernel_rfl
@[simp] theorem e_slices_Concat_bool_bool:hasBody Tryz.prog n_slices_Concat_bool_bool=true:=by kernel_rfl
abbrev yrD:List AG:=[zz1 10 3,o 11 (.cmp .eql (.sc .int) (.t 10) (.c (.int .i64 0))),zz1 2 11]
abbrev yrE:List AG:=[zz3 6 4 1,zzf 7 n_r06_Check 6,zz1 5 7,zzc 8 5 0,zzc 9 5 1,zz1 3 8,zz1 4 9]
abbrev yrF:List AG:=[o 1 (.box 4 (.t 0)),zzh 2]
abbrev r07_right:AFun:=⟨(.seq (.reg yrF) (.seq (.reg yrE) (.seq (.reg yrD) .ret))),12,[.tmp 2]⟩
@[simp] theorem c_r07_right:cfun Tryz.prog n_r07_right=some r07_right:=by kernel_rfl
@[simp] theorem e_r07_right:hasBody Tryz.prog n_r07_right=true:=by kernel_rfl
abbrev yrG:List AG:=[zzh 6]
abbrev yrH:List Bool:=[O,O,I,I,I,O,O,I,O,O,O,O,O,O,O,O,O,O,O,O,O,O,O,O,O,O,O,O,O,O,O,O,O,O,O,O,O,O,O,O,O,O]
abbrev yrI:List Bool:=[O,O,O,O,O,O,O,O,O,O,O,O,O,O,O,O,O,O,O,O,O,O,O,O,O,O,O,O,O,O,O,O,O,O,O,O,O,O,O,O,O,O]
abbrev yrJ:List AG:=[zz1 14 7,zz6 15 14 1,zz1 7 15]
abbrev yrK:List Bool:=[O,O,I,I,I,O,O,I,I,O,O,O,O,O,O,O,O,O,O,O,O,O,O,O,O,O,O,O,O,O,O,O,O,O,O,O,O,O,O,O,O,O]
abbrev yrL:List Bool:=[O,O,I,I,I,O,O,I,O,O,O,O,O,O,O,O,O,O,O,O,O,O,O,O,O,O,O,O,O,O,O,O,O,O,O,O,O,O,O,O,O,O]
abbrev yrM:List AG:=[zz1 21 8,zz6 22 21 1,zz1 8 22]
abbrev yrN:List AG:=[o 6 (.mv (.c (.bool true)))]
abbrev yrO:ACode:=(.seq (.reg yrN) .ret)
abbrev yrP:List AG:=[zz4 23 3 3,zz2 24 1 23,zz1 25 8,zz5 26 5 24 25,zz4 27 0 26,zz2 28 1 27,zz4 29 2 4,zz2 30 1 29,zz1 31 7,zz5 32 1 30 31,zz2 33 1 32,o 34 (.cmp .eql (.sc .str) (.t 28) (.t 33)),zz1 35 34,zze 36 35 2,zze 37 35 8,oy 38 35 (.ixAddr 1 (.t 36) (.t 37)),zzd 39 35 1 38,oy 40 35 (.not (.t 39)),zz8 41 35 40]
abbrev yrQ:ACode:=(.seq (.dreg [O,O,O,O,O,O,O,O,O,O,O,O,O,O,O,O,O,O,O] [20,20,20,20,20,20,20,20,20,20,20,20,20,20,20,20,20,20,20] yrP) (.cond (.t 41) yrO .skip))
abbrev yrR:List AG:=[zz1 16 8,zz4 17 3 3,zz2 18 1 17,zza 19 18,zz7 20 16 19]
abbrev yrS:ACode:=(.seq (.seq (.reg yrR) (.cond (.t 20) .skip (.exit 2))) (.seq (.block 3 [] yrQ) (.reg yrM)))
abbrev yrT:List AG:=[zz9 8 0]
abbrev yrU:ACode:=(.seq (.reg yrT) (.block 2 yrL (.loop yrK yrS)))
abbrev yrV:List AG:=[zz1 9 7,zz4 10 2 4,zz2 11 1 10,zza 12 11,zz7 13 9 12]
abbrev yrW:ACode:=(.seq (.seq (.reg yrV) (.cond (.t 13) .skip (.exit 0))) (.seq (.block 1 [] yrU) (.reg yrJ)))
abbrev yrX:List AG:=[zz9 7 0]
abbrev yrY:List AG:=[o 3 (.box 4 (.t 0)),o 4 (.box 5 (.t 1)),zzh 6]
abbrev r07_waits:AFun:=⟨(.seq (.reg yrY) (.seq (.seq (.reg yrX) (.block 0 yrI (.loop yrH yrW))) (.seq (.reg yrG) .ret))),42,[.tmp 6]⟩
abbrev yrZ:List It:=[.inBlock 1 [],.code (.reg yrJ),.inLoop yrH yrW,.inBlock 0 yrI,.code (.seq (.reg yrG) .ret)]
abbrev ysa (x2 x3 x4 x7 x8:AV) (h:List Ob) (e:Cx:=cx):Cfg:=atC n_r07_waits (.code yrS::.inLoop yrK yrS::.inBlock 2 yrL::yrZ) [U,U,x2,x3,x4,U,U,x7,x8,U,U,U,U,U,U,U,U,U,U,U,U,U,U,U,U,U,U,U,U,U,U,U,U,U,U,U,U,U,U,U,U,U] h e
abbrev ysb (x2 x3 x4 x7:AV) (h:List Ob) (e:Cx:=cx):Cfg:=atC n_r07_waits yrZ [U,U,x2,x3,x4,U,U,x7,U,U,U,U,U,U,U,U,U,U,U,U,U,U,U,U,U,U,U,U,U,U,U,U,U,U,U,U,U,U,U,U,U,U] h e
abbrev ysc:List It:=[.code (.seq (.reg yrG) .ret)]
abbrev ysd (x2 x3 x4 x7:AV) (h:List Ob) (e:Cx:=cx):Cfg:=atC n_r07_waits (.code yrW::.inLoop yrH yrW::.inBlock 0 yrI::ysc) [U,U,x2,x3,x4,U,U,x7,U,U,U,U,U,U,U,U,U,U,U,U,U,U,U,U,U,U,U,U,U,U,U,U,U,U,U,U,U,U,U,U,U,U] h e
@[simp] theorem c_r07_waits:cfun Tryz.prog n_r07_waits=some r07_waits:=by kernel_rfl
@[simp] theorem e_r07_waits:hasBody Tryz.prog n_r07_waits=true:=by kernel_rfl
abbrev yse:List Bool:=[I,O,I,I,I,O,O,O,O,O,O,I,I,I,O,O,O,O,O,O,O,O,O,O,O,O,O,O,O,O,O,O,O,O,O,O,O,O,O]
abbrev ysf:List Bool:=[O,O,O,O,O,O,O,O,O,O,O,O,O,O,O,O,O,O,O,O,O,O,O,O,O,O,O,O,O,O,O,O,O,O,O,O,O,O,O]
abbrev ysg:List AG:=[zz6 38 13 1,zz1 13 38]
abbrev ysh:List AG:=[zz1 37 9,zzb 1 3 37]
abbrev ysi:List AG:=[zz1 28 10,o 29 (.cmp .neq (.sc .int) (.t 28) (.c (.int .i64 0))),zz1 30 29,on 31 30 (.mv (.t 0)),on 32 30 (.mv (.t 8)),on 33 30 (.mv (.t 9)),on 34 30 (.call (.t 31) [(.t 32),(.t 33)]),on 35 30 (.not (.t 34)),o 36 (.pick (.t 30) (.c (.bool true)) (.t 35))]
abbrev ysj:List AG:=[zz2 25 1 4,zz1 26 10,o 27 (.nilck (.t 25)),zzb 1 27 26]
abbrev ysk:List AG:=[zz2 18 1 2,zz2 19 1 3,zz1 20 7,o 21 (.call (.f n_step_machine_step) [(.t 18),(.t 19),(.t 20)]),zz1 17 21,zzc 22 17 0,zzc 23 17 1,zzc 24 17 2,zz1 8 22,zz1 9 23,zz1 10 24]
abbrev ysl:List AG:=[zz5 15 1 11 13,zz2 16 1 15,zz1 7 16]
abbrev ysm:ACode:=(.seq (.reg ysl) (.seq (.reg ysk) (.seq (.seq (.reg ysj) (.seq (.reg ysi) (.cond (.t 36) .ret .skip))) (.reg ysh))))
abbrev ysn:List AG:=[zz7 14 13 12]
abbrev yso:ACode:=(.seq (.reg ysn) (.seq (.cond (.t 14) .skip (.exit 0)) (.seq (.block 1 [] ysm) (.reg ysg))))
abbrev ysp:List AG:=[zz2 11 1 1,zza 12 11,zz9 13 0]
abbrev step_machine_steps_1:AFun:=⟨(.seq (.reg ysp) (.block 0 ysf (.loop yse yso))),39,[]⟩
abbrev ysq:List It:=[]
abbrev ysr (x0 x2 x3 x4 x11 x12 x13:AV) (h:List Ob) (e:Cx:=cx):Cfg:=atC n_step_machine_steps_1 (.code yso::.inLoop yse yso::.inBlock 0 ysf::ysq) [x0,U,x2,x3,x4,U,U,U,U,U,U,x11,x12,x13,U,U,U,U,U,U,U,U,U,U,U,U,U,U,U,U,U,U,U,U,U,U,U,U,U] h e
@[simp] theorem c_step_machine_steps_1:cfun Tryz.prog n_step_machine_steps_1=some step_machine_steps_1:=by kernel_rfl
@[simp] theorem e_step_machine_steps_1:hasBody Tryz.prog n_step_machine_steps_1=true:=by kernel_rfl
abbrev yss:List AG:=[q (.store 1 (.t 2) (.c (.int .i64 0))),q (.store 1 (.t 3) (.c (.str [])))]
abbrev yst:List Bool:=[O,O,I,I,O,O,O,I,O,O,O,O,O,O,O,O,O,O,O,O,O,O,O,O,O,O,O,O,O,O,O,O,O,O,O,O,O,O,O,O,O,O,O,O,O,O,O,O,O,O,O,O,O,O,O,O,O,O,O,O,O,O,O,O,O,O,O,O,O,O,O,O,O,O,O,O,O,O,O,O,O,O,O,O,O,O,O,O,O,O,O,O,I,I,I,O,O,O,O,O,O,O,O,O]
abbrev ysu:List Bool:=[O,O,I,I,O,O,O,O,O,O,O,O,O,O,O,O,O,O,O,O,O,O,O,O,O,O,O,O,O,O,O,O,O,O,O,O,O,O,O,O,O,O,O,O,O,O,O,O,O,O,O,O,O,O,O,O,O,O,O,O,O,O,O,O,O,O,O,O,O,O,O,O,O,O,O,O,O,O,O,O,O,O,O,O,O,O,O,O,O,O,O,O,O,O,O,O,O,O,O,O,O,O,O,O]
abbrev ysv:List AG:=[zz6 103 94 1,zz1 94 103]
abbrev ysw:List AG:=[zz1 98 7,zz1 99 13,o 100 (.lookup (.sc .str) (.bool false) (.t 98) (.t 99) false),zz1 101 13,o 102 (.call (.f n_net_need) [(.t 100),(.c (.int .i64 6)),(.t 101)])]
abbrev ysx:List AG:=[zz5 96 1 92 94,zz2 97 1 96,zz1 13 97]
abbrev ysy:ACode:=(.seq (.reg ysx) (.reg ysw))
abbrev ysz:List AG:=[zz7 95 94 93]
abbrev ysA:ACode:=(.seq (.reg ysz) (.seq (.cond (.t 95) .skip (.exit 6)) (.seq (.block 7 [] ysy) (.reg ysv))))
abbrev ysB:List AG:=[zz3 91 4 1,zzf 92 n_net_used 91,zza 93 92,zz9 94 0]
abbrev ysC:List Bool:=[O,I,I,I,O,O,O,I,O,O,O,O,O,O,O,O,O,O,O,O,O,O,O,O,O,O,O,O,O,O,O,O,O,O,O,O,O,O,O,O,O,O,O,O,O,O,O,O,O,O,O,O,O,O,O,O,O,O,O,O,O,O,O,O,O,O,O,O,O,O,O,O,O,O,O,O,O,O,O,I,I,I,O,O,O,O,O,O,O,O,O,O,O,O,O,O,O,O,O,O,O,O,O,O]
abbrev ysD:List Bool:=[O,I,I,I,O,O,O,I,O,O,O,O,O,O,O,O,O,O,O,O,O,O,O,O,O,O,O,O,O,O,O,O,O,O,O,O,O,O,O,O,O,O,O,O,O,O,O,O,O,O,O,O,O,O,O,O,O,O,O,O,O,O,O,O,O,O,O,O,O,O,O,O,O,O,O,O,O,O,O,O,O,O,O,O,O,O,O,O,O,O,O,O,O,O,O,O,O,O,O,O,O,O,O,O]
abbrev ysE:List AG:=[zz6 90 81 1,zz1 81 90]
abbrev ysF:List AG:=[zz3 85 5 11,zzf 86 n_net_Gate 85,zz4 87 0 11,zz2 88 1 87,o 89 (.call (.f n_net_need) [(.t 86),(.c (.int .i64 1)),(.t 88)])]
abbrev ysG:List AG:=[zz5 83 5 79 81,zz3 84 5 83,o 11 (.alloc [(.str []),(.int .i64 0),(.own 1 t_string []),(.own 1 t_string []),(.bool false)]),zzb 5 11 84]
abbrev ysH:ACode:=(.seq (.reg ysG) (.dreg [O,O,O,I,O] [2,5,5,5,6] ysF))
abbrev ysI:List AG:=[zz7 82 81 80]
abbrev ysJ:ACode:=(.seq (.reg ysI) (.seq (.cond (.t 82) .skip (.exit 4)) (.seq (.block 5 [] ysH) (.reg ysE))))
abbrev ysK:List AG:=[zz4 78 3 1,zz2 79 1 78,zza 80 79,zz9 81 0]
abbrev ysL:List Bool:=[O,I,I,I,O,O,O,I,O,O,O,O,O,O,O,O,O,O,O,O,O,O,O,O,O,O,O,O,O,O,O,O,O,O,O,O,O,O,O,O,O,O,O,O,O,O,O,O,O,O,O,O,O,O,O,O,O,O,O,O,I,I,I,O,O,O,O,O,O,O,O,O,O,O,O,O,O,O,O,O,O,O,O,O,O,O,O,O,O,O,O,O,O,O,O,O,O,O,O,O,O,O,O,O]
abbrev ysM:List Bool:=[O,I,I,I,O,O,O,I,O,O,O,O,O,O,O,O,O,O,O,O,O,O,O,O,O,O,O,O,O,O,O,O,O,O,O,O,O,O,O,O,O,O,O,O,O,O,O,O,O,O,O,O,O,O,O,O,O,O,O,O,O,O,O,O,O,O,O,O,O,O,O,O,O,O,O,O,O,O,O,O,O,O,O,O,O,O,O,O,O,O,O,O,O,O,O,O,O,O,O,O,O,O,O,O]
abbrev ysN:List AG:=[zz6 77 62 1,zz1 62 77]
abbrev ysO:List AG:=[zz4 66 2 9,zz2 67 1 66,o 68 (.cmp .geq (.sc .int) (.t 67) (.c (.int .i64 0))),zz1 69 68,oy 70 69 (.off 2 (.t 9)),zzd 71 69 1 70,oy 72 69 (.cmp .leq (.sc .int) (.t 71) (.c (.int .i64 2))),zz8 73 69 72,zz4 74 0 9,zz2 75 1 74,o 76 (.call (.f n_net_need) [(.t 73),(.c (.int .i64 1)),(.t 75)])]
abbrev ysP:List AG:=[zz5 64 3 60 62,zz3 65 3 64,o 9 (.alloc [(.str []),(.str []),(.int .i64 0)]),zzb 3 9 65]
abbrev ysQ:ACode:=(.seq (.reg ysP) (.reg ysO))
abbrev ysR:List AG:=[zz7 63 62 61]
abbrev ysS:ACode:=(.seq (.reg ysR) (.seq (.cond (.t 63) .skip (.exit 2)) (.seq (.block 3 [] ysQ) (.reg ysN))))
abbrev ysT:List AG:=[zz4 59 2 1,zz2 60 1 59,zza 61 60,zz9 62 0]
abbrev ysU:List AG:=[zz4 56 1 1,zz2 57 1 56,zzf 58 n_net_once 57]
abbrev ysV:List AG:=[zz3 53 4 1,zzf 54 n_net_Nets 53,zzf 55 n_net_once 54,zz1 7 55]
abbrev ysW:List Bool:=[O,I,I,I,O,O,O,O,O,O,O,O,O,O,O,O,O,O,O,O,O,O,O,O,O,O,O,O,O,O,O,O,O,O,O,O,O,O,O,O,O,O,I,I,I,O,O,O,O,O,O,O,O,O,O,O,O,O,O,O,O,O,O,O,O,O,O,O,O,O,O,O,O,O,O,O,O,O,O,O,O,O,O,O,O,O,O,O,O,O,O,O,O,O,O,O,O,O,O,O,O,O,O,O]
abbrev ysX:List Bool:=[O,I,I,I,O,O,O,O,O,O,O,O,O,O,O,O,O,O,O,O,O,O,O,O,O,O,O,O,O,O,O,O,O,O,O,O,O,O,O,O,O,O,O,O,O,O,O,O,O,O,O,O,O,O,O,O,O,O,O,O,O,O,O,O,O,O,O,O,O,O,O,O,O,O,O,O,O,O,O,O,O,O,O,O,O,O,O,O,O,O,O,O,O,O,O,O,O,O,O,O,O,O,O,O]
abbrev ysY:List AG:=[zz6 52 44 1,zz1 44 52]
abbrev ysZ:List AG:=[zz1 48 6,zzf 49 n_ident_Name 48,zz1 50 6,o 51 (.call (.f n_net_need) [(.t 49),(.c (.int .i64 4)),(.t 50)])]
abbrev yta:List AG:=[zz5 46 1 42 44,zz2 47 1 46,zz1 6 47]
abbrev ytb:ACode:=(.seq (.reg yta) (.reg ysZ))
abbrev ytc:List AG:=[zz7 45 44 43]
abbrev ytd:ACode:=(.seq (.reg ytc) (.seq (.cond (.t 45) .skip (.exit 0)) (.seq (.block 1 [] ytb) (.reg ysY))))
abbrev yte:List AG:=[zz3 41 4 1,zzf 42 n_net_told 41,zza 43 42,zz9 44 0]
abbrev ytf:List AG:=[zz4 15 0 1,zz2 16 1 15,zza 17 16,zz4 18 2 1,zz2 19 1 18,zza 20 19,o 21 (.ibin .add (.t 17) (.t 20)),zz4 22 3 1,zz2 23 1 22,zza 24 23,o 25 (.ibin .add (.t 21) (.t 24)),o 26 (.cmp .leq (.sc .int) (.t 25) (.c (.int .i64 200))),zz1 27 26,oy 28 27 (.off 1 (.t 1)),zzd 29 27 1 28,oy 30 27 (.len (.t 29)),oy 31 27 (.cmp .leq (.sc .int) (.t 30) (.c (.int .i64 200))),zz8 32 27 31,zz1 33 32,oy 34 33 (.off 3 (.t 1)),zzd 35 33 1 34,zze 36 33 4,oy 37 33 (.call (.f n_slices_ContainsFunc_api_Gate_api_Gate) [(.t 35),(.t 36)]),oy 38 33 (.not (.t 37)),zz8 39 33 38,o 40 (.call (.f n_net_need) [(.t 39),(.c (.int .i64 8)),(.c (.str []))])]
abbrev ytg:List AG:=[o 4 (.mv (.f n_net_Check_2))]
abbrev yth:List AG:=[o 14 (.mkFunc (.func n_net_Check_1) [] [(.t 2),(.t 3)]),q (.defer (.t 14) [])]
abbrev yti:List AG:=[o 1 (.box 4 (.t 0)),o 2 (.alloc [(.int .i64 0)]),o 3 (.alloc [(.str [])])]
abbrev net_Check:AFun:=⟨(.seq (.reg yti) (.seq (.reg yth) (.seq (.reg ytg) (.seq (.reg ytf) (.seq (.seq (.reg yte) (.block 0 ysX (.loop ysW ytd))) (.seq (.reg ysV) (.seq (.reg ysU) (.seq (.seq (.reg ysT) (.block 2 ysM (.loop ysL ysS))) (.seq (.seq (.reg ysK) (.block 4 ysD (.loop ysC ysJ))) (.seq (.seq (.reg ysB) (.block 6 ysu (.loop yst ysA))) (.seq (.reg yss) .ret))))))))))),104,[.cell 2 false 1,.cell 3 false 1]⟩
abbrev ytj:List It:=[.code (.seq (.reg yss) .ret)]
abbrev ytk (x2 x3 x7 x92 x93 x94:AV) (h:List Ob) (e:Cx:=cx):Cfg:=atC n_net_Check (.code ysA::.inLoop yst ysA::.inBlock 6 ysu::ytj) [U,U,x2,x3,U,U,U,x7,U,U,U,U,U,U,U,U,U,U,U,U,U,U,U,U,U,U,U,U,U,U,U,U,U,U,U,U,U,U,U,U,U,U,U,U,U,U,U,U,U,U,U,U,U,U,U,U,U,U,U,U,U,U,U,U,U,U,U,U,U,U,U,U,U,U,U,U,U,U,U,U,U,U,U,U,U,U,U,U,U,U,U,U,x92,x93,x94,U,U,U,U,U,U,U,U,U] h e
abbrev ytl:List It:=[.code (.seq (.seq (.reg ysB) (.block 6 ysu (.loop yst ysA))) (.seq (.reg yss) .ret))]
abbrev ytm (x1 x2 x3 x7 x79 x80 x81:AV) (h:List Ob) (e:Cx:=cx):Cfg:=atC n_net_Check (.code ysJ::.inLoop ysC ysJ::.inBlock 4 ysD::ytl) [U,x1,x2,x3,U,U,U,x7,U,U,U,U,U,U,U,U,U,U,U,U,U,U,U,U,U,U,U,U,U,U,U,U,U,U,U,U,U,U,U,U,U,U,U,U,U,U,U,U,U,U,U,U,U,U,U,U,U,U,U,U,U,U,U,U,U,U,U,U,U,U,U,U,U,U,U,U,U,U,U,x79,x80,x81,U,U,U,U,U,U,U,U,U,U,U,U,U,U,U,U,U,U,U,U,U,U] h e
abbrev ytn:List It:=[.code (.seq (.seq (.reg ysK) (.block 4 ysD (.loop ysC ysJ))) (.seq (.seq (.reg ysB) (.block 6 ysu (.loop yst ysA))) (.seq (.reg yss) .ret)))]
abbrev yto (x1 x2 x3 x7 x60 x61 x62:AV) (h:List Ob) (e:Cx:=cx):Cfg:=atC n_net_Check (.code ysS::.inLoop ysL ysS::.inBlock 2 ysM::ytn) [U,x1,x2,x3,U,U,U,x7,U,U,U,U,U,U,U,U,U,U,U,U,U,U,U,U,U,U,U,U,U,U,U,U,U,U,U,U,U,U,U,U,U,U,U,U,U,U,U,U,U,U,U,U,U,U,U,U,U,U,U,U,x60,x61,x62,U,U,U,U,U,U,U,U,U,U,U,U,U,U,U,U,U,U,U,U,U,U,U,U,U,U,U,U,U,U,U,U,U,U,U,U,U,U,U,U,U] h e
abbrev ytp:List It:=[.code (.seq (.reg ysV) (.seq (.reg ysU) (.seq (.seq (.reg ysT) (.block 2 ysM (.loop ysL ysS))) (.seq (.seq (.reg ysK) (.block 4 ysD (.loop ysC ysJ))) (.seq (.seq (.reg ysB) (.block 6 ysu (.loop yst ysA))) (.seq (.reg yss) .ret))))))]
abbrev ytq (x1 x2 x3 x42 x43 x44:AV) (h:List Ob) (e:Cx:=cx):Cfg:=atC n_net_Check (.code ytd::.inLoop ysW ytd::.inBlock 0 ysX::ytp) [U,x1,x2,x3,U,U,U,U,U,U,U,U,U,U,U,U,U,U,U,U,U,U,U,U,U,U,U,U,U,U,U,U,U,U,U,U,U,U,U,U,U,U,x42,x43,x44,U,U,U,U,U,U,U,U,U,U,U,U,U,U,U,U,U,U,U,U,U,U,U,U,U,U,U,U,U,U,U,U,U,U,U,U,U,U,U,U,U,U,U,U,U,U,U,U,U,U,U,U,U,U,U,U,U,U,U] h e
@[simp] theorem c_net_Check:cfun Tryz.prog n_net_Check=some net_Check:=by kernel_rfl
@[simp] theorem e_net_Check:hasBody Tryz.prog n_net_Check=true:=by kernel_rfl
@[simp] theorem e_strings_Trim:hasBody Tryz.prog n_strings_Trim=true:=by kernel_rfl
abbrev ytr:List AG:=[zz9 2 0,o 3 (.mv (.c (.str [])))]
abbrev yts:List Bool:=[O,O,O,O,O,O,I,O,O,O,O,O,O,I,I,O,O,O,O,O,O,O,O,O,O,O,O,O,O,O,O,O,O,O,O,O,O,O,O,O,O,O,O,O,O,O,O,O,O,O,O,O,O,O,O,O,O,O,O,O,O,O,O,O,O,O,O,O,O,O,O,O,O,O,O,O,O,O,O,O,O,O,O,O,O,O,O,O,O,O,O,O,O,O,O,O,O,O,O,O,O,O,O,O,O,O,O,O,O,O,O,O,O,O,O,O,O,O,O,O]
abbrev ytt:List Bool:=[O,O,O,O,O,O,O,O,O,O,O,O,O,O,O,O,O,O,O,O,O,O,O,O,O,O,O,O,O,O,O,O,O,O,O,O,O,O,O,O,O,O,O,O,O,O,O,O,O,O,O,O,O,O,O,O,O,O,O,O,O,O,O,O,O,O,O,O,O,O,O,O,O,O,O,O,O,O,O,O,O,O,O,O,O,O,O,O,O,O,O,O,O,O,O,O,O,O,O,O,O,O,O,O,O,O,O,O,O,O,O,O,O,O,O,O,O,O,O,O]
abbrev ytu:List AG:=[zz1 107 14,zz6 108 107 1,zz1 14 108]
abbrev ytv:List AG:=[zz1 116 13,zz1 117 14,zz5 118 1 116 117,zz2 119 1 118,zz9 2 6,zz1 3 119]
abbrev ytw:ACode:=(.seq (.dreg [O,O,O,O,O,O] [7,7,7,7,7,7] ytv) .ret)
abbrev ytx:List AG:=[zz1 109 6,zz1 110 13,zz1 111 14,zz5 112 1 110 111,zz2 113 1 112,zzg 114 n_r01_Has 109 113,o 115 (.not (.t 114))]
abbrev yty:ACode:=(.seq (.reg ytx) (.cond (.t 115) ytw .skip))
abbrev ytz:List AG:=[zz1 103 14,zz1 104 13,zza 105 104,zz7 106 103 105]
abbrev ytA:ACode:=(.seq (.seq (.reg ytz) (.cond (.t 106) .skip (.exit 6))) (.seq (.block 7 [] yty) (.reg ytu)))
abbrev ytB:List AG:=[zz9 14 0]
abbrev ytC:List AG:=[zz3 101 4 1,zzf 102 n_r06_Used 101,zz1 13 102]
abbrev ytD:List Bool:=[O,I,O,O,O,O,I,O,O,O,O,O,I,O,O,O,O,O,O,O,O,O,O,O,O,O,O,O,O,O,O,O,O,O,O,O,O,O,O,O,O,O,O,O,O,O,O,O,O,O,O,O,O,O,O,O,O,O,O,O,O,O,O,O,O,O,O,O,O,O,O,O,O,O,O,O,O,O,O,O,O,O,O,O,O,O,O,O,O,O,O,O,O,O,O,O,O,O,O,O,O,O,O,O,O,O,O,O,O,O,O,O,O,O,O,O,O,O,O,O]
abbrev ytE:List Bool:=[O,I,O,O,O,O,I,O,O,O,O,O,O,O,O,O,O,O,O,O,O,O,O,O,O,O,O,O,O,O,O,O,O,O,O,O,O,O,O,O,O,O,O,O,O,O,O,O,O,O,O,O,O,O,O,O,O,O,O,O,O,O,O,O,O,O,O,O,O,O,O,O,O,O,O,O,O,O,O,O,O,O,O,O,O,O,O,O,O,O,O,O,O,O,O,O,O,O,O,O,O,O,O,O,O,O,O,O,O,O,O,O,O,O,O,O,O,O,O,O]
abbrev ytF:List AG:=[zz1 86 12,zz6 87 86 1,zz1 12 87]
abbrev ytG:List AG:=[zz4 95 3 1,zz2 96 1 95,zz1 97 12,zz5 98 5 96 97,zz4 99 0 98,zz2 100 1 99,zz9 2 1,zz1 3 100]
abbrev ytH:ACode:=(.seq (.dreg [O,O,O,O,O,O,O,O] [9,9,9,9,9,9,9,9] ytG) .ret)
abbrev ytI:List AG:=[zz4 88 3 1,zz2 89 1 88,zz1 90 12,zz5 91 5 89 90,zz3 92 5 91,zzf 93 n_r06_Gate 92,o 94 (.not (.t 93))]
abbrev ytJ:ACode:=(.seq (.reg ytI) (.cond (.t 94) ytH .skip))
abbrev ytK:List AG:=[zz1 81 12,zz4 82 3 1,zz2 83 1 82,zza 84 83,zz7 85 81 84]
abbrev ytL:ACode:=(.seq (.seq (.reg ytK) (.cond (.t 85) .skip (.exit 4))) (.seq (.block 5 [] ytJ) (.reg ytF)))
abbrev ytM:List AG:=[zz9 12 0]
abbrev ytN:List Bool:=[O,I,O,O,O,O,I,O,O,O,O,I,O,O,O,O,O,O,O,O,O,O,O,O,O,O,O,O,O,O,O,O,O,O,O,O,O,O,O,O,O,O,O,O,O,O,O,O,O,O,O,O,O,O,O,O,O,O,O,O,O,O,O,O,O,O,O,O,O,O,O,O,O,O,O,O,O,O,O,O,O,O,O,O,O,O,O,O,O,O,O,O,O,O,O,O,O,O,O,O,O,O,O,O,O,O,O,O,O,O,O,O,O,O,O,O,O,O,O,O]
abbrev ytO:List Bool:=[O,I,O,O,O,O,I,O,O,O,O,O,O,O,O,O,O,O,O,O,O,O,O,O,O,O,O,O,O,O,O,O,O,O,O,O,O,O,O,O,O,O,O,O,O,O,O,O,O,O,O,O,O,O,O,O,O,O,O,O,O,O,O,O,O,O,O,O,O,O,O,O,O,O,O,O,O,O,O,O,O,O,O,O,O,O,O,O,O,O,O,O,O,O,O,O,O,O,O,O,O,O,O,O,O,O,O,O,O,O,O,O,O,O,O,O,O,O,O,O]
abbrev ytP:List AG:=[zz1 57 11,zz6 58 57 1,zz1 11 58]
abbrev ytQ:List AG:=[zz4 75 2 1,zz2 76 1 75,zz1 77 11,zz5 78 3 76 77,zz4 79 0 78,zz2 80 1 79,zz9 2 1,zz1 3 80]
abbrev ytR:ACode:=(.seq (.dreg [O,O,O,O,O,O,O,O] [9,9,9,9,9,9,9,9] ytQ) .ret)
abbrev ytS:List AG:=[zz4 59 2 1,zz2 60 1 59,zz1 61 11,zz5 62 3 60 61,zz4 63 2 62,zz2 64 1 63,o 65 (.cmp .lss (.sc .int) (.t 64) (.c (.int .i64 0))),zz1 66 65,on 67 66 (.off 2 (.t 1)),on 68 66 (.load false 1 (.t 67)),on 69 66 (.mv (.t 11)),on 70 66 (.ixAddr 3 (.t 68) (.t 69)),on 71 66 (.off 2 (.t 70)),on 72 66 (.load false 1 (.t 71)),on 73 66 (.cmp .gtr (.sc .int) (.t 72) (.c (.int .i64 2))),o 74 (.pick (.t 66) (.c (.bool true)) (.t 73))]
abbrev ytT:ACode:=(.seq (.reg ytS) (.cond (.t 74) ytR .skip))
abbrev ytU:List AG:=[zz1 52 11,zz4 53 2 1,zz2 54 1 53,zza 55 54,zz7 56 52 55]
abbrev ytV:ACode:=(.seq (.seq (.reg ytU) (.cond (.t 56) .skip (.exit 2))) (.seq (.block 3 [] ytT) (.reg ytP)))
abbrev ytW:List AG:=[zz9 11 0]
abbrev ytX:List AG:=[zz1 51 9,zz9 2 5,zz1 3 51]
abbrev ytY:ACode:=(.seq (.reg ytX) .ret)
abbrev ytZ:List AG:=[zz1 50 10]
abbrev yua:List AG:=[zz4 45 1 1,zz2 46 1 45,zzf 47 n_r06_twice 46,zz1 44 47,zzc 48 44 0,zzc 49 44 1,zz1 9 48,zz1 10 49]
abbrev yub:List AG:=[zz1 43 7,zz9 2 5,zz1 3 43]
abbrev yuc:ACode:=(.seq (.reg yub) .ret)
abbrev yud:List AG:=[zz1 42 8]
abbrev yue:List AG:=[zz1 38 6,zzf 39 n_r06_twice 38,zz1 37 39,zzc 40 37 0,zzc 41 37 1,zz1 7 40,zz1 8 41]
abbrev yuf:List AG:=[zz3 35 4 1,zzf 36 n_r06_Nets 35,zz1 6 36]
abbrev yug:List Bool:=[O,I,O,O,I,I,O,O,O,O,O,O,O,O,O,O,O,O,O,O,O,O,O,O,O,O,O,O,O,O,O,O,O,O,O,O,O,O,O,O,O,O,O,O,O,O,O,O,O,O,O,O,O,O,O,O,O,O,O,O,O,O,O,O,O,O,O,O,O,O,O,O,O,O,O,O,O,O,O,O,O,O,O,O,O,O,O,O,O,O,O,O,O,O,O,O,O,O,O,O,O,O,O,O,O,O,O,O,O,O,O,O,O,O,O,O,O,O,O,O]
abbrev yuh:List Bool:=[O,I,O,O,O,O,O,O,O,O,O,O,O,O,O,O,O,O,O,O,O,O,O,O,O,O,O,O,O,O,O,O,O,O,O,O,O,O,O,O,O,O,O,O,O,O,O,O,O,O,O,O,O,O,O,O,O,O,O,O,O,O,O,O,O,O,O,O,O,O,O,O,O,O,O,O,O,O,O,O,O,O,O,O,O,O,O,O,O,O,O,O,O,O,O,O,O,O,O,O,O,O,O,O,O,O,O,O,O,O,O,O,O,O,O,O,O,O,O,O]
abbrev yui:List AG:=[zz1 23 5,zz6 24 23 1,zz1 5 24]
abbrev yuj:List AG:=[zz1 31 4,zz1 32 5,zz5 33 1 31 32,zz2 34 1 33,zz9 2 4,zz1 3 34]
abbrev yuk:ACode:=(.seq (.dreg [O,O,O,O,O,O] [7,7,7,7,7,7] yuj) .ret)
abbrev yul:List AG:=[zz1 25 4,zz1 26 5,zz5 27 1 25 26,zz2 28 1 27,zzf 29 n_r04_Name 28,o 30 (.not (.t 29))]
abbrev yum:ACode:=(.seq (.reg yul) (.cond (.t 30) yuk .skip))
abbrev yun:List AG:=[zz1 19 5,zz1 20 4,zza 21 20,zz7 22 19 21]
abbrev yuo:ACode:=(.seq (.seq (.reg yun) (.cond (.t 22) .skip (.exit 0))) (.seq (.block 1 [] yum) (.reg yui)))
abbrev yup:List AG:=[zz9 5 0]
abbrev yuq:List AG:=[zz3 17 4 1,zzf 18 n_r06_Told 17,zz1 4 18]
abbrev yur:List AG:=[zz9 2 8,o 3 (.mv (.c (.str [])))]
abbrev yus:ACode:=(.seq (.reg yur) .ret)
abbrev yut:List AG:=[zz3 15 4 1,zzf 16 n_r06_limit 15]
abbrev yuu:List AG:=[o 1 (.box 4 (.t 0)),zz9 2 0,o 3 (.mv (.c (.str [])))]
abbrev r06_Check:AFun:=⟨(.seq (.reg yuu) (.seq (.seq (.reg yut) (.cond (.t 16) yus .skip)) (.seq (.reg yuq) (.seq (.seq (.reg yup) (.block 0 yuh (.loop yug yuo))) (.seq (.reg yuf) (.seq (.reg yue) (.seq (.seq (.reg yud) (.cond (.t 42) yuc .skip)) (.seq (.reg yua) (.seq (.seq (.reg ytZ) (.cond (.t 50) ytY .skip)) (.seq (.seq (.reg ytW) (.block 2 ytO (.loop ytN ytV))) (.seq (.seq (.reg ytM) (.block 4 ytE (.loop ytD ytL))) (.seq (.reg ytC) (.seq (.seq (.reg ytB) (.block 6 ytt (.loop yts ytA))) (.seq (.reg ytr) .ret)))))))))))))),120,[.tmp 2,.tmp 3]⟩
abbrev yuv:List It:=[.code (.seq (.reg ytr) .ret)]
abbrev yuw (x6 x13 x14:AV) (h:List Ob) (e:Cx:=cx):Cfg:=atC n_r06_Check (.code ytA::.inLoop yts ytA::.inBlock 6 ytt::yuv) [U,U,U,U,U,U,x6,U,U,U,U,U,U,x13,x14,U,U,U,U,U,U,U,U,U,U,U,U,U,U,U,U,U,U,U,U,U,U,U,U,U,U,U,U,U,U,U,U,U,U,U,U,U,U,U,U,U,U,U,U,U,U,U,U,U,U,U,U,U,U,U,U,U,U,U,U,U,U,U,U,U,U,U,U,U,U,U,U,U,U,U,U,U,U,U,U,U,U,U,U,U,U,U,U,U,U,U,U,U,U,U,U,U,U,U,U,U,U,U,U,U] h e
abbrev yux:List It:=[.code (.seq (.reg ytC) (.seq (.seq (.reg ytB) (.block 6 ytt (.loop yts ytA))) (.seq (.reg ytr) .ret)))]
abbrev yuy (x1 x6 x12:AV) (h:List Ob) (e:Cx:=cx):Cfg:=atC n_r06_Check (.code ytL::.inLoop ytD ytL::.inBlock 4 ytE::yux) [U,x1,U,U,U,U,x6,U,U,U,U,U,x12,U,U,U,U,U,U,U,U,U,U,U,U,U,U,U,U,U,U,U,U,U,U,U,U,U,U,U,U,U,U,U,U,U,U,U,U,U,U,U,U,U,U,U,U,U,U,U,U,U,U,U,U,U,U,U,U,U,U,U,U,U,U,U,U,U,U,U,U,U,U,U,U,U,U,U,U,U,U,U,U,U,U,U,U,U,U,U,U,U,U,U,U,U,U,U,U,U,U,U,U,U,U,U,U,U,U,U] h e
abbrev yuz:List It:=[.code (.seq (.seq (.reg ytM) (.block 4 ytE (.loop ytD ytL))) (.seq (.reg ytC) (.seq (.seq (.reg ytB) (.block 6 ytt (.loop yts ytA))) (.seq (.reg ytr) .ret))))]
abbrev yuA (x1 x6 x11:AV) (h:List Ob) (e:Cx:=cx):Cfg:=atC n_r06_Check (.code ytV::.inLoop ytN ytV::.inBlock 2 ytO::yuz) [U,x1,U,U,U,U,x6,U,U,U,U,x11,U,U,U,U,U,U,U,U,U,U,U,U,U,U,U,U,U,U,U,U,U,U,U,U,U,U,U,U,U,U,U,U,U,U,U,U,U,U,U,U,U,U,U,U,U,U,U,U,U,U,U,U,U,U,U,U,U,U,U,U,U,U,U,U,U,U,U,U,U,U,U,U,U,U,U,U,U,U,U,U,U,U,U,U,U,U,U,U,U,U,U,U,U,U,U,U,U,U,U,U,U,U,U,U,U,U,U,U] h e
abbrev yuB:List It:=[.code (.seq (.reg yuf) (.seq (.reg yue) (.seq (.seq (.reg yud) (.cond (.t 42) yuc .skip)) (.seq (.reg yua) (.seq (.seq (.reg ytZ) (.cond (.t 50) ytY .skip)) (.seq (.seq (.reg ytW) (.block 2 ytO (.loop ytN ytV))) (.seq (.seq (.reg ytM) (.block 4 ytE (.loop ytD ytL))) (.seq (.reg ytC) (.seq (.seq (.reg ytB) (.block 6 ytt (.loop yts ytA))) (.seq (.reg ytr) .ret))))))))))]
abbrev yuC (x1 x4 x5:AV) (h:List Ob) (e:Cx:=cx):Cfg:=atC n_r06_Check (.code yuo::.inLoop yug yuo::.inBlock 0 yuh::yuB) [U,x1,U,U,x4,x5,U,U,U,U,U,U,U,U,U,U,U,U,U,U,U,U,U,U,U,U,U,U,U,U,U,U,U,U,U,U,U,U,U,U,U,U,U,U,U,U,U,U,U,U,U,U,U,U,U,U,U,U,U,U,U,U,U,U,U,U,U,U,U,U,U,U,U,U,U,U,U,U,U,U,U,U,U,U,U,U,U,U,U,U,U,U,U,U,U,U,U,U,U,U,U,U,U,U,U,U,U,U,U,U,U,U,U,U,U,U,U,U,U,U] h e
@[simp] theorem c_r06_Check:cfun Tryz.prog n_r06_Check=some r06_Check:=by kernel_rfl
@[simp] theorem e_r06_Check:hasBody Tryz.prog n_r06_Check=true:=by kernel_rfl
abbrev yuD:List AG:=[zz1 20 3,zz1 2 20]
abbrev yuE:List Bool:=[O,O,O,I,O,O,O,O,I,I,I,O,O,O,O,O,O,O,O,O,O]
abbrev yuF:List Bool:=[O,O,O,I,O,O,O,O,O,O,O,O,O,O,O,O,O,O,O,O,O]
abbrev yuG:List AG:=[zz6 19 10 1,zz1 10 19]
abbrev yuH:List AG:=[zz1 15 3,zz4 16 0 5,zz2 17 1 16,zz1 18 4,q (.upd (.sc .str) (.t 15) (.t 17) (.t 18))]
abbrev yuI:List AG:=[zz1 12 10,zz5 13 5 8 10,zz3 14 5 13,o 5 (.alloc [(.str []),(.int .i64 0),(.own 1 t_string []),(.own 1 t_string []),(.bool false)]),zz1 4 12,zzb 5 5 14]
abbrev yuJ:ACode:=(.seq (.reg yuI) (.reg yuH))
abbrev yuK:List AG:=[zz7 11 10 9]
abbrev yuL:ACode:=(.seq (.reg yuK) (.seq (.cond (.t 11) .skip (.exit 0)) (.seq (.block 1 [] yuJ) (.reg yuG))))
abbrev yuM:List AG:=[zz4 7 3 1,zz2 8 1 7,zza 9 8,zz9 10 0]
abbrev yuN:List AG:=[o 6 (.mkMap),zz1 3 6]
abbrev yuO:List AG:=[o 1 (.box 4 (.t 0)),o 2 (.mv (.c .nilm))]
abbrev order_places:AFun:=⟨(.seq (.reg yuO) (.seq (.reg yuN) (.seq (.seq (.reg yuM) (.block 0 yuF (.loop yuE yuL))) (.seq (.reg yuD) .ret)))),21,[.tmp 2]⟩
abbrev yuP:List It:=[.code (.seq (.reg yuD) .ret)]
abbrev yuQ (x3 x8 x9 x10:AV) (h:List Ob) (e:Cx:=cx):Cfg:=atC n_order_places (.code yuL::.inLoop yuE yuL::.inBlock 0 yuF::yuP) [U,U,U,x3,U,U,U,U,x8,x9,x10,U,U,U,U,U,U,U,U,U,U] h e
@[simp] theorem c_order_places:cfun Tryz.prog n_order_places=some order_places:=by kernel_rfl
@[simp] theorem e_order_places:hasBody Tryz.prog n_order_places=true:=by kernel_rfl
abbrev yuR:List AG:=[o 3 (.mkFunc (.func n_order_coming_1) [] [(.t 1)]),zz1 2 3]
abbrev yuS:List AG:=[o 1 (.box 4 (.t 0)),o 2 (.mv (.c .nilf))]
abbrev order_coming:AFun:=⟨(.seq (.reg yuS) (.seq (.reg yuR) .ret)),4,[.tmp 2]⟩
@[simp] theorem c_order_coming:cfun Tryz.prog n_order_coming=some order_coming:=by kernel_rfl
@[simp] theorem e_order_coming:hasBody Tryz.prog n_order_coming=true:=by kernel_rfl
abbrev yuT:List AG:=[zz1 26 0,zz1 4 26]
abbrev yuU:List AG:=[zz1 17 0,zz1 18 0,o 19 (.cap (.t 18)),o 20 (.slice 1 (.t 17) none (some (.t 19))),zz1 21 1,o 22 (.appendZ 1 t_bool 1 (.bool false) (.t 20) (.t 21)),zz1 23 0,zza 24 23,o 25 (.slice 1 (.t 22) none (some (.t 24))),zz1 0 25]
abbrev yuV:List AG:=[zz1 15 1,o 16 (.cmp .gtr (.sc .int) (.t 15) (.c (.int .i64 0)))]
abbrev yuW:List AG:=[zz1 8 1,zz1 9 0,o 10 (.cap (.t 9)),zz1 11 0,zza 12 11,o 13 (.ibin .sub (.t 10) (.t 12)),o 14 (.ibin .sub (.t 8) (.t 13)),zz1 1 14]
abbrev yuX:List AG:=[o 7 (.mkIface t_string (.c (.str [99,97,110,110,111,116,32,98,101,32,110,101,103,97,116,105,118,101]))),q (.panic (.t 7))]
abbrev yuY:List AG:=[zz1 5 1,o 6 (.cmp .lss (.sc .int) (.t 5) (.c (.int .i64 0)))]
abbrev yuZ:List AG:=[o 4 (.nilrow 1 t_bool)]
abbrev slices_Grow_bool_bool:AFun:=⟨(.seq (.reg yuZ) (.seq (.seq (.reg yuY) (.cond (.t 6) (.reg yuX) .skip)) (.seq (.seq (.reg yuW) (.seq (.reg yuV) (.cond (.t 16) (.reg yuU) .skip))) (.seq (.reg yuT) .ret)))),27,[.tmp 4]⟩
@[simp] theorem c_slices_Grow_bool_bool:cfun Tryz.prog n_slices_Grow_bool_bool=some slices_Grow_bool_bool:=by kernel_rfl
@[simp] theorem e_slices_Grow_bool_bool:hasBody Tryz.prog n_slices_Grow_bool_bool=true:=by kernel_rfl
abbrev yva:List AG:=[zz4 10 0 2,zz2 11 1 10,zz4 12 1 2,zz2 13 1 12,zzb 1 0 11,zzb 1 1 13]
abbrev yvb:List AG:=[zz1 9 3]
abbrev yvc:List AG:=[o 5 (.recover),o 6 (.tassert (.t 5) t_net_wrong (.agg [(.int .i64 0),(.str [])]) true),zz1 4 6,zzc 7 4 0,zzc 8 4 1,o 2 (.alloc [(.int .i64 0),(.str [])]),zzb 2 2 7,zz1 3 8]
abbrev net_Check_1:AFun:=⟨(.seq (.reg yvc) (.seq (.reg yvb) (.cond (.t 9) (.dreg [O,O,O,I,O,O] [5,5,6,6,6,7] yva) .skip))),14,[]⟩
@[simp] theorem c_net_Check_1:cfun Tryz.prog n_net_Check_1=some net_Check_1:=by kernel_rfl
@[simp] theorem e_net_Check_1:hasBody Tryz.prog n_net_Check_1=true:=by kernel_rfl
abbrev yvd:List AG:=[zz4 3 2 1,zz2 4 1 3,zza 5 4,o 6 (.cmp .gtr (.sc .int) (.t 5) (.c (.int .i64 8))),zz1 7 6,on 8 7 (.off 3 (.t 1)),on 9 7 (.load false 1 (.t 8)),on 10 7 (.len (.t 9)),on 11 7 (.cmp .gtr (.sc .int) (.t 10) (.c (.int .i64 128))),o 12 (.pick (.t 7) (.c (.bool true)) (.t 11)),zz1 2 12]
abbrev yve:List AG:=[o 1 (.box 5 (.t 0)),zzh 2]
abbrev net_Check_2:AFun:=⟨(.seq (.reg yve) (.seq (.reg yvd) .ret)),13,[.tmp 2]⟩
@[simp] theorem c_net_Check_2:cfun Tryz.prog n_net_Check_2=some net_Check_2:=by kernel_rfl
@[simp] theorem e_net_Check_2:hasBody Tryz.prog n_net_Check_2=true:=by kernel_rfl
abbrev yvf:List AG:=[zz1 8 1,zz1 9 2,o 10 (.build [(.int .i64 0),(.str [])] [(0,1,(.t 8)),(1,1,(.t 9))]),o 11 (.mkIface t_net_wrong (.t 10)),q (.panic (.t 11))]
abbrev yvg:List AG:=[zz1 6 0,o 7 (.not (.t 6))]
abbrev net_need:AFun:=⟨(.seq (.reg yvg) (.cond (.t 7) (.reg yvf) .skip)),12,[]⟩
@[simp] theorem c_net_need:cfun Tryz.prog n_net_need=some net_need:=by kernel_rfl
@[simp] theorem e_net_need:hasBody Tryz.prog n_net_need=true:=by kernel_rfl
abbrev yvh:List AG:=[zz1 5 0,zz1 6 1,zzg 7 n_slices_IndexFunc_api_Gate_api_Gate 5 6,o 8 (.cmp .geq (.sc .int) (.t 7) (.c (.int .i64 0))),zz1 4 8]
abbrev yvi:List AG:=[zzh 4]
abbrev slices_ContainsFunc_api_Gate_api_Gate:AFun:=⟨(.seq (.reg yvi) (.seq (.reg yvh) .ret)),9,[.tmp 4]⟩
@[simp] theorem c_slices_ContainsFunc_api_Gate_api_Gate:cfun Tryz.prog n_slices_ContainsFunc_api_Gate_api_Gate=some slices_ContainsFunc_api_Gate_api_Gate:=by kernel_rfl
@[simp] theorem e_slices_ContainsFunc_api_Gate_api_Gate:hasBody Tryz.prog n_slices_ContainsFunc_api_Gate_api_Gate=true:=by kernel_rfl
abbrev yvj:List AG:=[zz1 45 3,zz1 2 45]
abbrev yvk:List Bool:=[O,O,O,I,O,O,O,O,O,O,O,O,O,O,O,O,O,O,O,O,O,O,O,O,O,O,O,O,O,O,I,I,I,O,O,O,O,O,O,O,O,O,O,O,O,O]
abbrev yvl:List Bool:=[O,O,O,I,O,O,O,O,O,O,O,O,O,O,O,O,O,O,O,O,O,O,O,O,O,O,O,O,O,O,O,O,O,O,O,O,O,O,O,O,O,O,O,O,O,O]
abbrev yvm:List AG:=[zz6 44 32 1,zz1 32 44]
abbrev yvn:List AG:=[zz1 36 3,zz4 37 0 7,zz2 38 1 37,o 39 (.lit 1 [(.str [])] [(0,(.t 38))]),o 40 (.append 1 t_string 16 (.t 36) (.t 39)),zz4 41 2 7,zz2 42 1 41,o 43 (.append 1 t_string 16 (.t 40) (.t 42)),zz1 3 43]
abbrev yvo:List AG:=[zz5 34 5 30 32,zz3 35 5 34,o 7 (.alloc [(.str []),(.int .i64 0),(.own 1 t_string []),(.own 1 t_string []),(.bool false)]),zzb 5 7 35]
abbrev yvp:ACode:=(.seq (.reg yvo) (.dreg [O,O,O,O,O,O,I,O,O] [5,4,4,5,8,8,8,10,10] yvn))
abbrev yvq:List AG:=[zz7 33 32 31]
abbrev yvr:ACode:=(.seq (.reg yvq) (.seq (.cond (.t 33) .skip (.exit 2)) (.seq (.block 3 [] yvp) (.reg yvm))))
abbrev yvs:List AG:=[zz4 29 3 1,zz2 30 1 29,zza 31 30,zz9 32 0]
abbrev yvt:List Bool:=[O,I,O,I,O,O,O,O,O,O,O,O,O,O,O,I,I,I,O,O,O,O,O,O,O,O,O,O,O,O,O,O,O,O,O,O,O,O,O,O,O,O,O,O,O,O]
abbrev yvu:List Bool:=[O,I,O,I,O,O,O,O,O,O,O,O,O,O,O,O,O,O,O,O,O,O,O,O,O,O,O,O,O,O,O,O,O,O,O,O,O,O,O,O,O,O,O,O,O,O]
abbrev yvv:List AG:=[zz6 28 17 1,zz1 17 28]
abbrev yvw:List AG:=[zz1 21 3,zz4 22 0 5,zz2 23 1 22,zz4 24 1 5,zz2 25 1 24,o 26 (.lit 1 [(.str []),(.str [])] [(0,(.t 23)),(1,(.t 25))]),o 27 (.append 1 t_string 16 (.t 21) (.t 26)),zz1 3 27]
abbrev yvx:List AG:=[zz5 19 3 15 17,zz3 20 3 19,o 5 (.alloc [(.str []),(.str []),(.int .i64 0)]),zzb 3 5 20]
abbrev yvy:ACode:=(.seq (.reg yvx) (.reg yvw))
abbrev yvz:List AG:=[zz7 18 17 16]
abbrev yvA:ACode:=(.seq (.reg yvz) (.seq (.cond (.t 18) .skip (.exit 0)) (.seq (.block 1 [] yvy) (.reg yvv))))
abbrev yvB:List AG:=[zz4 14 2 1,zz2 15 1 14,zza 16 15,zz9 17 0]
abbrev yvC:List AG:=[zz4 8 0 1,zz2 9 1 8,zz4 10 1 1,zz2 11 1 10,o 12 (.lit 1 [(.list true 0 []),(.list true 0 [])] [(0,(.t 9)),(1,(.t 11))]),zzf 13 n_slices_Concat_string_string 12,zz1 3 13]
abbrev yvD:List AG:=[o 1 (.box 4 (.t 0)),o 2 (.nilrow 1 t_string)]
abbrev net_told:AFun:=⟨(.seq (.reg yvD) (.seq (.reg yvC) (.seq (.seq (.reg yvB) (.block 0 yvu (.loop yvt yvA))) (.seq (.seq (.reg yvs) (.block 2 yvl (.loop yvk yvr))) (.seq (.reg yvj) .ret))))),46,[.tmp 2]⟩
abbrev yvE:List It:=[.code (.seq (.reg yvj) .ret)]
abbrev yvF (x3 x30 x31 x32:AV) (h:List Ob) (e:Cx:=cx):Cfg:=atC n_net_told (.code yvr::.inLoop yvk yvr::.inBlock 2 yvl::yvE) [U,U,U,x3,U,U,U,U,U,U,U,U,U,U,U,U,U,U,U,U,U,U,U,U,U,U,U,U,U,U,x30,x31,x32,U,U,U,U,U,U,U,U,U,U,U,U,U] h e
abbrev yvG:List It:=[.code (.seq (.seq (.reg yvs) (.block 2 yvl (.loop yvk yvr))) (.seq (.reg yvj) .ret))]
abbrev yvH (x1 x3 x15 x16 x17:AV) (h:List Ob) (e:Cx:=cx):Cfg:=atC n_net_told (.code yvA::.inLoop yvt yvA::.inBlock 0 yvu::yvG) [U,x1,U,x3,U,U,U,U,U,U,U,U,U,U,U,x15,x16,x17,U,U,U,U,U,U,U,U,U,U,U,U,U,U,U,U,U,U,U,U,U,U,U,U,U,U,U,U] h e
@[simp] theorem c_net_told:cfun Tryz.prog n_net_told=some net_told:=by kernel_rfl
@[simp] theorem e_net_told:hasBody Tryz.prog n_net_told=true:=by kernel_rfl
abbrev yvI:List AG:=[zz1 3 0,zzf 4 n_ident_name_plain 3,zz1 2 4]
abbrev yvJ:List AG:=[zzh 2]
abbrev ident_Name:AFun:=⟨(.seq (.reg yvJ) (.seq (.reg yvI) .ret)),5,[.tmp 2]⟩
@[simp] theorem c_ident_Name:cfun Tryz.prog n_ident_Name=some ident_Name:=by kernel_rfl
@[simp] theorem e_ident_Name:hasBody Tryz.prog n_ident_Name=true:=by kernel_rfl
abbrev yvK:List AG:=[zz1 22 3,zz1 2 22]
abbrev yvL:List Bool:=[O,O,O,I,O,O,O,I,I,I,O,O,O,O,O,O,O,O,O,O,O,O,O]
abbrev yvM:List Bool:=[O,O,O,I,O,O,O,O,O,O,O,O,O,O,O,O,O,O,O,O,O,O,O]
abbrev yvN:List AG:=[zz6 21 9 1,zz1 9 21]
abbrev yvO:List AG:=[zz1 19 3,zz1 20 5,q (.upd (.sc .str) (.t 19) (.t 20) (.c (.bool true)))]
abbrev yvP:List AG:=[zz1 13 3,zz1 14 5,o 15 (.lookup (.sc .str) (.bool false) (.t 13) (.t 14) false),o 16 (.not (.t 15)),zz1 17 5,o 18 (.call (.f n_net_need) [(.t 16),(.c (.int .i64 5)),(.t 17)])]
abbrev yvQ:List AG:=[zz5 11 1 7 9,zz2 12 1 11,zz1 5 12]
abbrev yvR:ACode:=(.seq (.reg yvQ) (.seq (.reg yvP) (.reg yvO)))
abbrev yvS:List AG:=[zz7 10 9 8]
abbrev yvT:ACode:=(.seq (.reg yvS) (.seq (.cond (.t 10) .skip (.exit 0)) (.seq (.block 1 [] yvR) (.reg yvN))))
abbrev yvU:List AG:=[zz1 7 0,zza 8 7,zz9 9 0]
abbrev yvV:List AG:=[o 6 (.mkMap),zz1 3 6]
abbrev yvW:List AG:=[o 2 (.mv (.c .nilm))]
abbrev net_once:AFun:=⟨(.seq (.reg yvW) (.seq (.reg yvV) (.seq (.seq (.reg yvU) (.block 0 yvM (.loop yvL yvT))) (.seq (.reg yvK) .ret)))),23,[.tmp 2]⟩
abbrev yvX:List It:=[.code (.seq (.reg yvK) .ret)]
abbrev yvY (x3 x7 x8 x9:AV) (h:List Ob) (e:Cx:=cx):Cfg:=atC n_net_once (.code yvT::.inLoop yvL yvT::.inBlock 0 yvM::yvX) [U,U,U,x3,U,U,U,x7,x8,x9,U,U,U,U,U,U,U,U,U,U,U,U,U] h e
@[simp] theorem c_net_once:cfun Tryz.prog n_net_once=some net_once:=by kernel_rfl
@[simp] theorem e_net_once:hasBody Tryz.prog n_net_once=true:=by kernel_rfl
abbrev yvZ:List AG:=[zz1 36 3,zz1 2 36]
abbrev ywa:List Bool:=[O,O,O,I,O,O,O,O,O,O,O,O,O,O,O,O,O,O,O,O,O,O,O,O,O,I,I,I,O,O,O,O,O,O,O,O,O]
abbrev ywb:List Bool:=[O,O,O,I,O,O,O,O,O,O,O,O,O,O,O,O,O,O,O,O,O,O,O,O,O,O,O,O,O,O,O,O,O,O,O,O,O]
abbrev ywc:List AG:=[zz6 35 27 1,zz1 27 35]
abbrev ywd:List AG:=[zz1 31 3,zz4 32 2 7,zz2 33 1 32,o 34 (.append 1 t_string 16 (.t 31) (.t 33)),zz1 3 34]
abbrev ywe:List AG:=[zz5 29 5 25 27,zz3 30 5 29,o 7 (.alloc [(.str []),(.int .i64 0),(.own 1 t_string []),(.own 1 t_string []),(.bool false)]),zzb 5 7 30]
abbrev ywf:ACode:=(.seq (.reg ywe) (.reg ywd))
abbrev ywg:List AG:=[zz7 28 27 26]
abbrev ywh:ACode:=(.seq (.reg ywg) (.seq (.cond (.t 28) .skip (.exit 2)) (.seq (.block 3 [] ywf) (.reg ywc))))
abbrev ywi:List AG:=[zz4 24 3 1,zz2 25 1 24,zza 26 25,zz9 27 0]
abbrev ywj:List Bool:=[O,I,O,I,O,O,O,O,O,O,O,O,I,I,I,O,O,O,O,O,O,O,O,O,O,O,O,O,O,O,O,O,O,O,O,O,O]
abbrev ywk:List Bool:=[O,I,O,I,O,O,O,O,O,O,O,O,O,O,O,O,O,O,O,O,O,O,O,O,O,O,O,O,O,O,O,O,O,O,O,O,O]
abbrev ywl:List AG:=[zz6 23 14 1,zz1 14 23]
abbrev ywm:List AG:=[zz1 18 3,zz4 19 1 5,zz2 20 1 19,o 21 (.lit 1 [(.str [])] [(0,(.t 20))]),o 22 (.append 1 t_string 16 (.t 18) (.t 21)),zz1 3 22]
abbrev ywn:List AG:=[zz5 16 3 12 14,zz3 17 3 16,o 5 (.alloc [(.str []),(.str []),(.int .i64 0)]),zzb 3 5 17]
abbrev ywo:ACode:=(.seq (.reg ywn) (.reg ywm))
abbrev ywp:List AG:=[zz7 15 14 13]
abbrev ywq:ACode:=(.seq (.reg ywp) (.seq (.cond (.t 15) .skip (.exit 0)) (.seq (.block 1 [] ywo) (.reg ywl))))
abbrev ywr:List AG:=[zz4 11 2 1,zz2 12 1 11,zza 13 12,zz9 14 0]
abbrev yws:List AG:=[zz4 8 1 1,zz2 9 1 8,zzf 10 n_slices_Clone_string_string 9,zz1 3 10]
abbrev ywt:List AG:=[o 1 (.box 4 (.t 0)),o 2 (.nilrow 1 t_string)]
abbrev net_used:AFun:=⟨(.seq (.reg ywt) (.seq (.reg yws) (.seq (.seq (.reg ywr) (.block 0 ywk (.loop ywj ywq))) (.seq (.seq (.reg ywi) (.block 2 ywb (.loop ywa ywh))) (.seq (.reg yvZ) .ret))))),37,[.tmp 2]⟩
abbrev ywu:List It:=[.code (.seq (.reg yvZ) .ret)]
abbrev ywv (x3 x25 x26 x27:AV) (h:List Ob) (e:Cx:=cx):Cfg:=atC n_net_used (.code ywh::.inLoop ywa ywh::.inBlock 2 ywb::ywu) [U,U,U,x3,U,U,U,U,U,U,U,U,U,U,U,U,U,U,U,U,U,U,U,U,U,x25,x26,x27,U,U,U,U,U,U,U,U,U] h e
abbrev yww:List It:=[.code (.seq (.seq (.reg ywi) (.block 2 ywb (.loop ywa ywh))) (.seq (.reg yvZ) .ret))]
abbrev ywx (x1 x3 x12 x13 x14:AV) (h:List Ob) (e:Cx:=cx):Cfg:=atC n_net_used (.code ywq::.inLoop ywj ywq::.inBlock 0 ywk::yww) [U,x1,U,x3,U,U,U,U,U,U,U,U,x12,x13,x14,U,U,U,U,U,U,U,U,U,U,U,U,U,U,U,U,U,U,U,U,U,U] h e
@[simp] theorem c_net_used:cfun Tryz.prog n_net_used=some net_used:=by kernel_rfl
@[simp] theorem e_net_used:hasBody Tryz.prog n_net_used=true:=by kernel_rfl
abbrev ywy:List AG:=[zz4 29 0 1,zz2 30 1 29,zza 31 30,zz4 32 2 1,zz2 33 1 32,zza 34 33,o 35 (.ibin .add (.t 31) (.t 34)),zz4 36 3 1,zz2 37 1 36,zza 38 37,o 39 (.ibin .add (.t 35) (.t 38)),o 40 (.cmp .gtr (.sc .int) (.t 39) (.c (.int .i64 200))),zz1 41 40,on 42 41 (.off 1 (.t 1)),on 43 41 (.load false 1 (.t 42)),on 44 41 (.len (.t 43)),on 45 41 (.cmp .gtr (.sc .int) (.t 44) (.c (.int .i64 200))),o 46 (.pick (.t 41) (.c (.bool true)) (.t 45)),zz1 2 46]
abbrev ywz:List Bool:=[O,I,O,I,O,O,O,O,O,O,O,O,O,O,O,O,O,O,O,O,O,O,O,O,O,O,O,O,O,O,O,O,O,O,O,O,O,O,O,O,O,O,O,O,O,O,O]
abbrev ywA:List Bool:=[O,I,O,O,O,O,O,O,O,O,O,O,O,O,O,O,O,O,O,O,O,O,O,O,O,O,O,O,O,O,O,O,O,O,O,O,O,O,O,O,O,O,O,O,O,O,O]
abbrev ywB:List AG:=[zz1 9 3,zz6 10 9 1,zz1 3 10]
abbrev ywC:List AG:=[o 2 (.mv (.c (.bool true)))]
abbrev ywD:ACode:=(.seq (.reg ywC) .ret)
abbrev ywE:List AG:=[zz4 11 3 1,zz2 12 1 11,zz1 13 3,zz5 14 5 12 13,zz4 15 2 14,zz2 16 1 15,zza 17 16,o 18 (.cmp .gtr (.sc .int) (.t 17) (.c (.int .i64 8))),zz1 19 18,on 20 19 (.off 3 (.t 1)),on 21 19 (.load false 1 (.t 20)),on 22 19 (.mv (.t 3)),on 23 19 (.ixAddr 5 (.t 21) (.t 22)),on 24 19 (.off 3 (.t 23)),on 25 19 (.load false 1 (.t 24)),on 26 19 (.len (.t 25)),on 27 19 (.cmp .gtr (.sc .int) (.t 26) (.c (.int .i64 128))),o 28 (.pick (.t 19) (.c (.bool true)) (.t 27))]
abbrev ywF:ACode:=(.seq (.reg ywE) (.cond (.t 28) ywD .skip))
abbrev ywG:List AG:=[zz1 4 3,zz4 5 3 1,zz2 6 1 5,zza 7 6,zz7 8 4 7]
abbrev ywH:ACode:=(.seq (.seq (.reg ywG) (.cond (.t 8) .skip (.exit 0))) (.seq (.block 1 [] ywF) (.reg ywB)))
abbrev ywI:List AG:=[zz9 3 0]
abbrev ywJ:List AG:=[o 1 (.box 4 (.t 0)),zzh 2]
abbrev r06_limit:AFun:=⟨(.seq (.reg ywJ) (.seq (.seq (.reg ywI) (.block 0 ywA (.loop ywz ywH))) (.seq (.reg ywy) .ret))),47,[.tmp 2]⟩
abbrev ywK:List It:=[.code (.seq (.reg ywy) .ret)]
abbrev ywL (x1 x3:AV) (h:List Ob) (e:Cx:=cx):Cfg:=atC n_r06_limit (.code ywH::.inLoop ywz ywH::.inBlock 0 ywA::ywK) [U,x1,U,x3,U,U,U,U,U,U,U,U,U,U,U,U,U,U,U,U,U,U,U,U,U,U,U,U,U,U,U,U,U,U,U,U,U,U,U,U,U,U,U,U,U,U,U] h e
@[simp] theorem c_r06_limit:cfun Tryz.prog n_r06_limit=some r06_limit:=by kernel_rfl
@[simp] theorem e_r06_limit:hasBody Tryz.prog n_r06_limit=true:=by kernel_rfl
abbrev ywM:List AG:=[zz1 60 3,zz1 2 60]
abbrev ywN:List Bool:=[O,I,O,I,O,I,O,O,O,O,O,O,O,O,O,O,O,O,O,O,O,O,O,O,O,O,O,O,O,O,O,O,O,O,O,O,O,O,O,O,O,O,O,O,O,O,O,O,O,O,O,O,O,O,O,O,O,O,O,O,O]
abbrev ywO:List Bool:=[O,O,O,I,O,O,O,O,O,O,O,O,O,O,O,O,O,O,O,O,O,O,O,O,O,O,O,O,O,O,O,O,O,O,O,O,O,O,O,O,O,O,O,O,O,O,O,O,O,O,O,O,O,O,O,O,O,O,O,O,O]
abbrev ywP:List AG:=[zz1 41 5,zz6 42 41 1,zz1 5 42]
abbrev ywQ:List AG:=[zz1 52 3,zz4 53 3 1,zz2 54 1 53,zz1 55 5,zz5 56 5 54 55,zz4 57 2 56,zz2 58 1 57,o 59 (.append 1 t_string 16 (.t 52) (.t 58)),zz1 3 59]
abbrev ywR:List AG:=[zz1 43 3,zz4 44 3 1,zz2 45 1 44,zz1 46 5,zz5 47 5 45 46,zz4 48 0 47,zz2 49 1 48,o 50 (.lit 1 [(.str [])] [(0,(.t 49))]),o 51 (.append 1 t_string 16 (.t 43) (.t 50)),zz1 3 51]
abbrev ywS:ACode:=(.seq (.reg ywR) (.reg ywQ))
abbrev ywT:List AG:=[zz1 36 5,zz4 37 3 1,zz2 38 1 37,zza 39 38,zz7 40 36 39]
abbrev ywU:ACode:=(.seq (.seq (.reg ywT) (.cond (.t 40) .skip (.exit 2))) (.seq (.block 3 [] ywS) (.reg ywP)))
abbrev ywV:List AG:=[zz9 5 0]
abbrev ywW:List Bool:=[O,I,O,I,I,O,O,O,O,O,O,O,O,O,O,O,O,O,O,O,O,O,O,O,O,O,O,O,O,O,O,O,O,O,O,O,O,O,O,O,O,O,O,O,O,O,O,O,O,O,O,O,O,O,O,O,O,O,O,O,O]
abbrev ywX:List Bool:=[O,I,O,I,O,O,O,O,O,O,O,O,O,O,O,O,O,O,O,O,O,O,O,O,O,O,O,O,O,O,O,O,O,O,O,O,O,O,O,O,O,O,O,O,O,O,O,O,O,O,O,O,O,O,O,O,O,O,O,O,O]
abbrev ywY:List AG:=[zz1 19 4,zz6 20 19 1,zz1 4 20]
abbrev ywZ:List AG:=[zz1 21 3,zz4 22 2 1,zz2 23 1 22,zz1 24 4,zz5 25 3 23 24,zz4 26 0 25,zz2 27 1 26,zz4 28 2 1,zz2 29 1 28,zz1 30 4,zz5 31 3 29 30,zz4 32 1 31,zz2 33 1 32,o 34 (.lit 1 [(.str []),(.str [])] [(0,(.t 27)),(1,(.t 33))]),o 35 (.append 1 t_string 16 (.t 21) (.t 34)),zz1 3 35]
abbrev yxa:List AG:=[zz1 14 4,zz4 15 2 1,zz2 16 1 15,zza 17 16,zz7 18 14 17]
abbrev yxb:ACode:=(.seq (.seq (.reg yxa) (.cond (.t 18) .skip (.exit 0))) (.seq (.block 1 [] (.dreg [O,O,O,O,O,O,O,O,O,O,O,O,O,O,O,O] [15,14,14,14,14,14,14,14,14,14,14,14,14,15,17,17] ywZ)) (.reg ywY)))
abbrev yxc:List AG:=[zz9 4 0]
abbrev yxd:List AG:=[zz1 10 3,zz4 11 1 1,zz2 12 1 11,o 13 (.append 1 t_string 16 (.t 10) (.t 12)),zz1 3 13]
abbrev yxe:List AG:=[zz1 6 3,zz4 7 0 1,zz2 8 1 7,o 9 (.append 1 t_string 16 (.t 6) (.t 8)),zz1 3 9]
abbrev yxf:List AG:=[o 3 (.nilrow 1 t_string)]
abbrev yxg:List AG:=[o 1 (.box 4 (.t 0)),o 2 (.nilrow 1 t_string)]
abbrev r06_Told:AFun:=⟨(.seq (.reg yxg) (.seq (.reg yxf) (.seq (.reg yxe) (.seq (.reg yxd) (.seq (.seq (.reg yxc) (.block 0 ywX (.loop ywW yxb))) (.seq (.seq (.reg ywV) (.block 2 ywO (.loop ywN ywU))) (.seq (.reg ywM) .ret))))))),61,[.tmp 2]⟩
abbrev yxh:List It:=[.code (.seq (.reg ywM) .ret)]
abbrev yxi (x1 x3 x5:AV) (h:List Ob) (e:Cx:=cx):Cfg:=atC n_r06_Told (.code ywU::.inLoop ywN ywU::.inBlock 2 ywO::yxh) [U,x1,U,x3,U,x5,U,U,U,U,U,U,U,U,U,U,U,U,U,U,U,U,U,U,U,U,U,U,U,U,U,U,U,U,U,U,U,U,U,U,U,U,U,U,U,U,U,U,U,U,U,U,U,U,U,U,U,U,U,U,U] h e
abbrev yxj:List It:=[.code (.seq (.seq (.reg ywV) (.block 2 ywO (.loop ywN ywU))) (.seq (.reg ywM) .ret))]
abbrev yxk (x1 x3 x4:AV) (h:List Ob) (e:Cx:=cx):Cfg:=atC n_r06_Told (.code yxb::.inLoop ywW yxb::.inBlock 0 ywX::yxj) [U,x1,U,x3,x4,U,U,U,U,U,U,U,U,U,U,U,U,U,U,U,U,U,U,U,U,U,U,U,U,U,U,U,U,U,U,U,U,U,U,U,U,U,U,U,U,U,U,U,U,U,U,U,U,U,U,U,U,U,U,U,U] h e
@[simp] theorem c_r06_Told:cfun Tryz.prog n_r06_Told=some r06_Told:=by kernel_rfl
@[simp] theorem e_r06_Told:hasBody Tryz.prog n_r06_Told=true:=by kernel_rfl
abbrev yxl:List AG:=[zz1 20 0,o 21 (.lenStr (.t 20)),o 22 (.cmp .geq (.sc .int) (.t 21) (.c (.int .i64 1))),zz1 23 22,zze 24 23 0,oy 25 23 (.lenStr (.t 24)),oy 26 23 (.cmp .leq (.sc .int) (.t 25) (.c (.int .i64 40))),zz8 27 23 26,zz1 2 27]
abbrev yxm:List Bool:=[I,O,O,I,O,O,O,O,O,O,O,O,O,O,O,O,O,O,O,O,O,O,O,O,O,O,O,O]
abbrev yxn:List Bool:=[I,O,O,O,O,O,O,O,O,O,O,O,O,O,O,O,O,O,O,O,O,O,O,O,O,O,O,O]
abbrev yxo:List AG:=[zz1 8 3,zz6 9 8 1,zz1 3 9]
abbrev yxp:List AG:=[zzh 2]
abbrev yxq:ACode:=(.seq (.reg yxp) .ret)
abbrev yxr:List AG:=[zz1 10 0,zz1 11 3,o 12 (.ixStr (.t 10) (.t 11)),o 13 (.cmp .lss (.sc .int) (.t 12) (.c (.int .u8 33))),zz1 14 13,on 15 14 (.mv (.t 0)),on 16 14 (.mv (.t 3)),on 17 14 (.ixStr (.t 15) (.t 16)),on 18 14 (.cmp .gtr (.sc .int) (.t 17) (.c (.int .u8 126))),o 19 (.pick (.t 14) (.c (.bool true)) (.t 18))]
abbrev yxs:ACode:=(.seq (.reg yxr) (.cond (.t 19) yxq .skip))
abbrev yxt:List AG:=[zz1 4 3,zz1 5 0,o 6 (.lenStr (.t 5)),zz7 7 4 6]
abbrev yxu:ACode:=(.seq (.seq (.reg yxt) (.cond (.t 7) .skip (.exit 0))) (.seq (.block 1 [] yxs) (.reg yxo)))
abbrev yxv:List AG:=[zz9 3 0]
abbrev yxw:List AG:=[zzh 2]
abbrev r04_Name:AFun:=⟨(.seq (.reg yxw) (.seq (.seq (.reg yxv) (.block 0 yxn (.loop yxm yxu))) (.seq (.reg yxl) .ret))),28,[.tmp 2]⟩
abbrev yxx:List It:=[.code (.seq (.reg yxl) .ret)]
abbrev yxy (x0 x3:AV) (h:List Ob) (e:Cx:=cx):Cfg:=atC n_r04_Name (.code yxu::.inLoop yxm yxu::.inBlock 0 yxn::yxx) [x0,U,U,x3,U,U,U,U,U,U,U,U,U,U,U,U,U,U,U,U,U,U,U,U,U,U,U,U] h e
@[simp] theorem c_r04_Name:cfun Tryz.prog n_r04_Name=some r04_Name:=by kernel_rfl
@[simp] theorem e_r04_Name:hasBody Tryz.prog n_r04_Name=true:=by kernel_rfl
abbrev yxz:List AG:=[o 2 (.mv (.c (.str []))),zzh 3]
abbrev yxA:List Bool:=[I,O,O,O,I,O,O,O,O,O,O,O,O,O,O,O,O,O,O,O,O,O,O]
abbrev yxB:List Bool:=[O,O,O,O,O,O,O,O,O,O,O,O,O,O,O,O,O,O,O,O,O,O,O]
abbrev yxC:List AG:=[zz1 9 4,zz6 10 9 1,zz1 4 10]
abbrev yxD:List AG:=[zz1 19 0,zz1 20 4,zz5 21 1 19 20,zz2 22 1 21,zz1 2 22,o 3 (.mv (.c (.bool true)))]
abbrev yxE:ACode:=(.seq (.reg yxD) .ret)
abbrev yxF:List AG:=[zz1 11 0,zz1 12 4,o 13 (.slice 1 (.t 11) none (some (.t 12))),zz1 14 0,zz1 15 4,zz5 16 1 14 15,zz2 17 1 16,zzg 18 n_r01_Has 13 17]
abbrev yxG:ACode:=(.seq (.dreg [O,O,O,O,O,O,O,O] [8,8,8,8,8,8,8,9] yxF) (.cond (.t 18) yxE .skip))
abbrev yxH:List AG:=[zz1 5 4,zz1 6 0,zza 7 6,zz7 8 5 7]
abbrev yxI:ACode:=(.seq (.seq (.reg yxH) (.cond (.t 8) .skip (.exit 0))) (.seq (.block 1 [] yxG) (.reg yxC)))
abbrev yxJ:List AG:=[zz9 4 0]
abbrev yxK:List AG:=[o 2 (.mv (.c (.str []))),zzh 3]
abbrev r06_twice:AFun:=⟨(.seq (.reg yxK) (.seq (.seq (.reg yxJ) (.block 0 yxB (.loop yxA yxI))) (.seq (.reg yxz) .ret))),23,[.tmp 2,.tmp 3]⟩
abbrev yxL:List It:=[.code (.seq (.reg yxz) .ret)]
abbrev yxM (x0 x4:AV) (h:List Ob) (e:Cx:=cx):Cfg:=atC n_r06_twice (.code yxI::.inLoop yxA yxI::.inBlock 0 yxB::yxL) [x0,U,U,U,x4,U,U,U,U,U,U,U,U,U,U,U,U,U,U,U,U,U,U] h e
@[simp] theorem c_r06_twice:cfun Tryz.prog n_r06_twice=some r06_twice:=by kernel_rfl
@[simp] theorem e_r06_twice:hasBody Tryz.prog n_r06_twice=true:=by kernel_rfl
abbrev yxN:List AG:=[zz1 41 3,zz1 2 41]
abbrev yxO:List Bool:=[O,I,O,I,O,I,O,O,O,O,O,O,O,O,O,O,O,O,O,O,O,O,O,O,O,O,O,O,O,O,O,O,O,O,O,O,O,O,O,O,O,O]
abbrev yxP:List Bool:=[O,O,O,I,O,O,O,O,O,O,O,O,O,O,O,O,O,O,O,O,O,O,O,O,O,O,O,O,O,O,O,O,O,O,O,O,O,O,O,O,O,O]
abbrev yxQ:List AG:=[zz1 31 5,zz6 32 31 1,zz1 5 32]
abbrev yxR:List AG:=[zz1 33 3,zz4 34 3 1,zz2 35 1 34,zz1 36 5,zz5 37 5 35 36,zz4 38 2 37,zz2 39 1 38,o 40 (.append 1 t_string 16 (.t 33) (.t 39)),zz1 3 40]
abbrev yxS:List AG:=[zz1 26 5,zz4 27 3 1,zz2 28 1 27,zza 29 28,zz7 30 26 29]
abbrev yxT:ACode:=(.seq (.seq (.reg yxS) (.cond (.t 30) .skip (.exit 2))) (.seq (.block 3 [] (.reg yxR)) (.reg yxQ)))
abbrev yxU:List AG:=[zz9 5 0]
abbrev yxV:List Bool:=[O,I,O,I,I,O,O,O,O,O,O,O,O,O,O,O,O,O,O,O,O,O,O,O,O,O,O,O,O,O,O,O,O,O,O,O,O,O,O,O,O,O]
abbrev yxW:List Bool:=[O,I,O,I,O,O,O,O,O,O,O,O,O,O,O,O,O,O,O,O,O,O,O,O,O,O,O,O,O,O,O,O,O,O,O,O,O,O,O,O,O,O]
abbrev yxX:List AG:=[zz1 15 4,zz6 16 15 1,zz1 4 16]
abbrev yxY:List AG:=[zz1 17 3,zz4 18 2 1,zz2 19 1 18,zz1 20 4,zz5 21 3 19 20,zz4 22 1 21,zz2 23 1 22,o 24 (.lit 1 [(.str [])] [(0,(.t 23))]),o 25 (.append 1 t_string 16 (.t 17) (.t 24)),zz1 3 25]
abbrev yxZ:List AG:=[zz1 10 4,zz4 11 2 1,zz2 12 1 11,zza 13 12,zz7 14 10 13]
abbrev yya:ACode:=(.seq (.seq (.reg yxZ) (.cond (.t 14) .skip (.exit 0))) (.seq (.block 1 [] (.reg yxY)) (.reg yxX)))
abbrev yyb:List AG:=[zz9 4 0]
abbrev yyc:List AG:=[zz1 6 3,zz4 7 1 1,zz2 8 1 7,o 9 (.append 1 t_string 16 (.t 6) (.t 8)),zz1 3 9]
abbrev yyd:List AG:=[o 3 (.nilrow 1 t_string)]
abbrev yye:List AG:=[o 1 (.box 4 (.t 0)),o 2 (.nilrow 1 t_string)]
abbrev r06_Used:AFun:=⟨(.seq (.reg yye) (.seq (.reg yyd) (.seq (.reg yyc) (.seq (.seq (.reg yyb) (.block 0 yxW (.loop yxV yya))) (.seq (.seq (.reg yxU) (.block 2 yxP (.loop yxO yxT))) (.seq (.reg yxN) .ret)))))),42,[.tmp 2]⟩
abbrev yyf:List It:=[.code (.seq (.reg yxN) .ret)]
abbrev yyg (x1 x3 x5:AV) (h:List Ob) (e:Cx:=cx):Cfg:=atC n_r06_Used (.code yxT::.inLoop yxO yxT::.inBlock 2 yxP::yyf) [U,x1,U,x3,U,x5,U,U,U,U,U,U,U,U,U,U,U,U,U,U,U,U,U,U,U,U,U,U,U,U,U,U,U,U,U,U,U,U,U,U,U,U] h e
abbrev yyh:List It:=[.code (.seq (.seq (.reg yxU) (.block 2 yxP (.loop yxO yxT))) (.seq (.reg yxN) .ret))]
abbrev yyi (x1 x3 x4:AV) (h:List Ob) (e:Cx:=cx):Cfg:=atC n_r06_Used (.code yya::.inLoop yxV yya::.inBlock 0 yxW::yyh) [U,x1,U,x3,x4,U,U,U,U,U,U,U,U,U,U,U,U,U,U,U,U,U,U,U,U,U,U,U,U,U,U,U,U,U,U,U,U,U,U,U,U,U] h e
@[simp] theorem c_r06_Used:cfun Tryz.prog n_r06_Used=some r06_Used:=by kernel_rfl
@[simp] theorem e_r06_Used:hasBody Tryz.prog n_r06_Used=true:=by kernel_rfl
abbrev yyj:List AG:=[zzh 4]
abbrev yyk:List Bool:=[I,I,O,O,O,I,O,O,O,O,O,O,O,O,O,O,O,O]
abbrev yyl:List Bool:=[O,O,O,O,O,O,O,O,O,O,O,O,O,O,O,O,O,O]
abbrev yym:List AG:=[zz1 10 5,zz6 11 10 1,zz1 5 11]
abbrev yyn:List AG:=[o 4 (.mv (.c (.bool true)))]
abbrev yyo:ACode:=(.seq (.reg yyn) .ret)
abbrev yyp:List AG:=[zz1 12 0,zz1 13 5,zz5 14 1 12 13,zz2 15 1 14,zz1 16 1,o 17 (.cmp .eql (.sc .str) (.t 15) (.t 16))]
abbrev yyq:ACode:=(.seq (.reg yyp) (.cond (.t 17) yyo .skip))
abbrev yyr:List AG:=[zz1 6 5,zz1 7 0,zza 8 7,zz7 9 6 8]
abbrev yys:ACode:=(.seq (.seq (.reg yyr) (.cond (.t 9) .skip (.exit 0))) (.seq (.block 1 [] yyq) (.reg yym)))
abbrev yyt:List AG:=[zz9 5 0]
abbrev yyu:List AG:=[zzh 4]
abbrev r01_Has:AFun:=⟨(.seq (.reg yyu) (.seq (.seq (.reg yyt) (.block 0 yyl (.loop yyk yys))) (.seq (.reg yyj) .ret))),18,[.tmp 4]⟩
abbrev yyv:List It:=[.code (.seq (.reg yyj) .ret)]
abbrev yyw (x0 x1 x5:AV) (h:List Ob) (e:Cx:=cx):Cfg:=atC n_r01_Has (.code yys::.inLoop yyk yys::.inBlock 0 yyl::yyv) [x0,x1,U,U,U,x5,U,U,U,U,U,U,U,U,U,U,U,U] h e
@[simp] theorem c_r01_Has:cfun Tryz.prog n_r01_Has=some r01_Has:=by kernel_rfl
@[simp] theorem e_r01_Has:hasBody Tryz.prog n_r01_Has=true:=by kernel_rfl
abbrev yyx:List Bool:=[I,O,O,I,I,O,O,O,O,O,O,O,O,O,O,O,O,O,O,O,O,O,O,O,O,O,O,O,O,O,O,O,O,O,O,O,O,O,O,O,O,O,O,O,O,O,O,O,O,O,O,O,O,O,O,O,O,O,O,O,O,O,O,O,O,O,O,O,O,O,O,O,O,O]
abbrev yyy:List Bool:=[O,O,O,O,O,O,O,O,O,O,O,O,O,O,O,O,O,O,O,O,O,O,O,O,O,O,O,O,O,O,O,O,O,O,O,O,O,O,O,O,O,O,O,O,O,O,O,O,O,O,O,O,O,O,O,O,O,O,O,O,O,O,O,O,O,O,O,O,O,O,O,O,O,O]
abbrev yyz:List Bool:=[I,O,O,I,I,O,I,O,O,O,O,O,O,O,O,O,O,O,O,O,O,O,O,O,O,O,O,O,O,O,O,O,O,O,O,O,O,O,O,O,O,O,O,O,O,O,O,O,O,I,I,I,O,O,O,O,O,O,O,O,O,O,O,O,O,O,O,O,O,O,O,O,O,O]
abbrev yyA:List Bool:=[I,O,O,I,I,O,O,O,O,O,O,O,O,O,O,O,O,O,O,O,O,O,O,O,O,O,O,O,O,O,O,O,O,O,O,O,O,O,O,O,O,O,O,O,O,O,O,O,O,O,O,O,O,O,O,O,O,O,O,O,O,O,O,O,O,O,O,O,O,O,O,O,O,O]
abbrev yyB:List AG:=[zz6 73 51 1,zz1 51 73]
abbrev yyC:List AG:=[zz1 68 4,o 69 (.mkIface t_order_pile (.t 68)),zz1 70 8,o 71 (.mkIface t_int (.t 70)),zzg 72 n_container_heap_Push 69 71]
abbrev yyD:List AG:=[zz4 61 0 3,zz2 62 1 61,zz1 63 8,zz5 64 1 62 63,zz2 65 1 64,o 66 (.lenMap (.t 65)),o 67 (.cmp .eql (.sc .int) (.t 66) (.c (.int .i64 0)))]
abbrev yyE:List AG:=[zz4 55 0 3,zz2 56 1 55,zz1 57 8,zz5 58 1 56 57,zz2 59 1 58,zz1 60 6,q (.delete (.sc .int) (.t 59) (.t 60))]
abbrev yyF:List AG:=[zz5 53 1 49 51,zz2 54 1 53,zz1 8 54]
abbrev yyG:ACode:=(.seq (.reg yyF) (.seq (.reg yyE) (.seq (.reg yyD) (.cond (.t 67) (.reg yyC) .skip))))
abbrev yyH:List AG:=[zz7 52 51 50]
abbrev yyI:ACode:=(.seq (.reg yyH) (.seq (.cond (.t 52) .skip (.exit 4)) (.seq (.block 5 [] yyG) (.reg yyB))))
abbrev yyJ:List AG:=[zz4 45 1 3,zz2 46 1 45,zz1 47 6,zz5 48 1 46 47,zz2 49 1 48,zza 50 49,zz9 51 0]
abbrev yyK:List AG:=[zz1 41 0,zz1 42 6,o 43 (.call (.t 41) [(.t 42)]),o 44 (.not (.t 43))]
abbrev yyL:List AG:=[zz1 37 4,o 38 (.mkIface t_order_pile (.t 37)),zzf 39 n_container_heap_Pop 38,o 40 (.tassert (.t 39) t_int (.int .i64 0) false),zz1 6 40]
abbrev yyM:ACode:=(.seq (.reg yyL) (.seq (.seq (.reg yyK) (.cond (.t 44) .ret .skip)) (.seq (.reg yyJ) (.block 4 yyA (.loop yyz yyI)))))
abbrev yyN:List AG:=[zz1 32 4,o 33 (.nilck (.t 32)),zz2 34 1 33,zzf 35 n_order_pile_Len 34,o 36 (.cmp .gtr (.sc .int) (.t 35) (.c (.int .i64 0)))]
abbrev yyO:ACode:=(.seq (.seq (.reg yyN) (.cond (.t 36) .skip (.exit 2))) (.block 3 [] yyM))
abbrev yyP:List Bool:=[I,O,O,I,I,O,O,O,O,O,O,O,O,O,O,I,I,O,O,O,O,O,O,O,O,O,O,O,O,O,O,O,O,O,O,O,O,O,O,O,O,O,O,O,O,O,O,O,O,O,O,O,O,O,O,O,O,O,O,O,O,O,O,O,O,O,O,O,O,O,O,O,O,O]
abbrev yyQ:List Bool:=[I,O,O,I,I,O,O,O,O,O,O,O,O,O,O,O,O,O,O,O,O,O,O,O,O,O,O,O,O,O,O,O,O,O,O,O,O,O,O,O,O,O,O,O,O,O,O,O,O,O,O,O,O,O,O,O,O,O,O,O,O,O,O,O,O,O,O,O,O,O,O,O,O,O]
abbrev yyR:List AG:=[zz6 31 16 1,zz1 16 31]
abbrev yyS:List AG:=[zz1 26 4,o 27 (.mkIface t_order_pile (.t 26)),zz1 28 5,o 29 (.mkIface t_int (.t 28)),zzg 30 n_container_heap_Push 27 29]
abbrev yyT:List AG:=[zz4 19 0 3,zz2 20 1 19,zz1 21 5,zz5 22 1 20 21,zz2 23 1 22,o 24 (.lenMap (.t 23)),o 25 (.cmp .eql (.sc .int) (.t 24) (.c (.int .i64 0)))]
abbrev yyU:List AG:=[zz1 18 16,zz1 5 18]
abbrev yyV:ACode:=(.seq (.reg yyU) (.seq (.reg yyT) (.cond (.t 25) (.reg yyS) .skip)))
abbrev yyW:List AG:=[zz7 17 16 15]
abbrev yyX:ACode:=(.seq (.reg yyW) (.seq (.cond (.t 17) .skip (.exit 0)) (.seq (.block 1 [] yyV) (.reg yyR))))
abbrev yyY:List AG:=[zz4 13 3 1,zz2 14 1 13,zza 15 14,zz9 16 0]
abbrev yyZ:List AG:=[o 11 (.lit 1 [] []),o 12 (.box 1 (.t 11)),zz1 4 12]
abbrev yza:List AG:=[zz3 9 4 1,zzf 10 n_order_wait 9,o 3 (.alloc [(.own 1 t_map_int_bool_2 []),(.own 1 t_int_2 [])]),zzb 2 3 10]
abbrev order_coming_1:AFun:=⟨(.seq (.reg yza) (.seq (.reg yyZ) (.seq (.seq (.reg yyY) (.block 0 yyQ (.loop yyP yyX))) (.block 2 yyy (.loop yyx yyO))))),74,[]⟩
abbrev yzb:List It:=[.inBlock 3 [],.inLoop yyx yyO,.inBlock 2 yyy]
abbrev yzc (x0 x3 x4 x6 x49 x50 x51:AV) (h:List Ob) (e:Cx:=cx):Cfg:=atC n_order_coming_1 (.code yyI::.inLoop yyz yyI::.inBlock 4 yyA::yzb) [x0,U,U,x3,x4,U,x6,U,U,U,U,U,U,U,U,U,U,U,U,U,U,U,U,U,U,U,U,U,U,U,U,U,U,U,U,U,U,U,U,U,U,U,U,U,U,U,U,U,U,x49,x50,x51,U,U,U,U,U,U,U,U,U,U,U,U,U,U,U,U,U,U,U,U,U,U] h e
abbrev yzd (x0 x3 x4:AV) (h:List Ob) (e:Cx:=cx):Cfg:=atC n_order_coming_1 yzb [x0,U,U,x3,x4,U,U,U,U,U,U,U,U,U,U,U,U,U,U,U,U,U,U,U,U,U,U,U,U,U,U,U,U,U,U,U,U,U,U,U,U,U,U,U,U,U,U,U,U,U,U,U,U,U,U,U,U,U,U,U,U,U,U,U,U,U,U,U,U,U,U,U,U,U] h e
abbrev yze:List It:=[]
abbrev yzf (x0 x3 x4:AV) (h:List Ob) (e:Cx:=cx):Cfg:=atC n_order_coming_1 (.code yyO::.inLoop yyx yyO::.inBlock 2 yyy::yze) [x0,U,U,x3,x4,U,U,U,U,U,U,U,U,U,U,U,U,U,U,U,U,U,U,U,U,U,U,U,U,U,U,U,U,U,U,U,U,U,U,U,U,U,U,U,U,U,U,U,U,U,U,U,U,U,U,U,U,U,U,U,U,U,U,U,U,U,U,U,U,U,U,U,U,U] h e
abbrev yzg:List It:=[.code (.block 2 yyy (.loop yyx yyO))]
abbrev yzh (x0 x3 x4 x15 x16:AV) (h:List Ob) (e:Cx:=cx):Cfg:=atC n_order_coming_1 (.code yyX::.inLoop yyP yyX::.inBlock 0 yyQ::yzg) [x0,U,U,x3,x4,U,U,U,U,U,U,U,U,U,U,x15,x16,U,U,U,U,U,U,U,U,U,U,U,U,U,U,U,U,U,U,U,U,U,U,U,U,U,U,U,U,U,U,U,U,U,U,U,U,U,U,U,U,U,U,U,U,U,U,U,U,U,U,U,U,U,U,U,U,U] h e
abbrev yzi (x0 x3 x4:AV) (h:List Ob) (e:Cx:=cx):Cfg:=atC n_order_coming_1 yzg [x0,U,U,x3,x4,U,U,U,U,U,U,U,U,U,U,U,U,U,U,U,U,U,U,U,U,U,U,U,U,U,U,U,U,U,U,U,U,U,U,U,U,U,U,U,U,U,U,U,U,U,U,U,U,U,U,U,U,U,U,U,U,U,U,U,U,U,U,U,U,U,U,U,U,U] h e
@[simp] theorem c_order_coming_1:cfun Tryz.prog n_order_coming_1=some order_coming_1:=by kernel_rfl
@[simp] theorem e_order_coming_1:hasBody Tryz.prog n_order_coming_1=true:=by kernel_rfl
abbrev yzj:List AG:=[zz3 79 2 4,zzb 2 2 79]
abbrev yzk:List Bool:=[O,O,I,I,I,O,O,O,O,O,O,O,O,O,O,O,O,O,O,O,O,O,O,I,I,I,O,O,O,O,O,O,O,O,O,O,O,O,O,O,O,O,O,O,O,O,O,O,O,O,O,O,O,O,O,O,O,O,O,O,O,O,O,O,O,O,O,O,O,O,O,O,O,O,O,O,O,O,O,O]
abbrev yzl:List Bool:=[O,O,I,O,I,O,O,O,O,O,O,O,O,O,O,O,O,O,O,O,O,O,O,O,O,O,O,O,O,O,O,O,O,O,O,O,O,O,O,O,O,O,O,O,O,O,O,O,O,O,O,O,O,O,O,O,O,O,O,O,O,O,O,O,O,O,O,O,O,O,O,O,O,O,O,O,O,O,O,O]
abbrev yzm:List AG:=[zz6 78 25 1,zz1 25 78]
abbrev yzn:List Bool:=[O,O,I,I,I,I,O,O,O,O,O,O,O,O,O,O,O,O,O,O,O,O,O,I,I,I,O,O,O,O,O,O,O,O,O,O,I,I,I,O,O,O,O,O,O,O,O,O,O,O,O,O,O,O,O,O,O,O,O,O,O,O,O,O,O,O,O,O,O,O,O,O,O,O,O,O,O,O,O,O]
abbrev yzo:List Bool:=[O,O,I,I,I,O,O,O,O,O,O,O,O,O,O,O,O,O,O,O,O,O,O,I,I,I,O,O,O,O,O,O,O,O,O,O,O,O,O,O,O,O,O,O,O,O,O,O,O,O,O,O,O,O,O,O,O,O,O,O,O,O,O,O,O,O,O,O,O,O,O,O,O,O,O,O,O,O,O,O]
abbrev yzp:List AG:=[zz6 77 38 1,zz1 38 77]
abbrev yzq:List AG:=[zz4 65 1 4,zz2 66 1 65,zz1 67 9,zz4 68 1 4,zz2 69 1 68,zz1 70 9,zz5 71 1 69 70,zz2 72 1 71,zz1 73 5,o 74 (.lit 1 [(.int .i64 0)] [(0,(.t 73))]),o 75 (.append 1 t_int 8 (.t 72) (.t 74)),zz5 76 1 66 67,zzb 1 76 75]
abbrev yzr:List AG:=[zz4 59 0 4,zz2 60 1 59,zz1 61 5,zz5 62 1 60 61,zz2 63 1 62,zz1 64 9,q (.upd (.sc .int) (.t 63) (.t 64) (.c (.bool true)))]
abbrev yzs:ACode:=(.seq (.reg yzr) (.dreg [O,I,O,O,I,O,O,I,O,O,O,O,O] [13,13,13,11,11,11,11,11,10,11,13,13,14] yzq))
abbrev yzt:List AG:=[zz1 48 10,zz1 49 48,oy 50 49 (.off 0 (.t 4)),zzd 51 49 1 50,zze 52 49 5,oy 53 49 (.ixAddr 1 (.t 51) (.t 52)),zzd 54 49 1 53,zze 55 49 9,oy 56 49 (.lookup (.sc .int) (.bool false) (.t 54) (.t 55) false),oy 57 49 (.not (.t 56)),zz8 58 49 57]
abbrev yzu:List AG:=[zz1 43 3,zz1 44 8,o 45 (.lookup (.sc .str) (.int .i64 0) (.t 43) (.t 44) true),zz1 42 45,zzc 46 42 0,zzc 47 42 1,zz1 9 46,zz1 10 47]
abbrev yzv:List AG:=[zz5 40 1 36 38,zz2 41 1 40,zz1 8 41]
abbrev yzw:ACode:=(.seq (.reg yzv) (.seq (.reg yzu) (.seq (.reg yzt) (.cond (.t 58) yzs .skip))))
abbrev yzx:List AG:=[zz7 39 38 37]
abbrev yzy:ACode:=(.seq (.reg yzx) (.seq (.cond (.t 39) .skip (.exit 2)) (.seq (.block 3 [] yzw) (.reg yzp))))
abbrev yzz:List AG:=[zz4 35 2 6,zz2 36 1 35,zza 37 36,zz9 38 0]
abbrev yzA:List AG:=[zz4 30 0 4,zz2 31 1 30,zz1 32 5,o 33 (.mkMap),zz5 34 1 31 32,zzb 1 34 33]
abbrev yzB:List AG:=[zz1 27 25,zz5 28 5 23 25,zz3 29 5 28,o 6 (.alloc [(.str []),(.int .i64 0),(.own 1 t_string []),(.own 1 t_string []),(.bool false)]),zz1 5 27,zzb 5 6 29]
abbrev yzC:ACode:=(.seq (.reg yzB) (.seq (.reg yzA) (.seq (.reg yzz) (.block 2 yzo (.loop yzn yzy)))))
abbrev yzD:List AG:=[zz7 26 25 24]
abbrev yzE:ACode:=(.seq (.reg yzD) (.seq (.cond (.t 26) .skip (.exit 0)) (.seq (.block 1 [] yzC) (.reg yzm))))
abbrev yzF:List AG:=[zz4 22 3 1,zz2 23 1 22,zza 24 23,zz9 25 0]
abbrev yzG:List AG:=[zz4 13 3 1,zz2 14 1 13,zza 15 14,o 16 (.mkSlice 1 t_map_int_bool_2 8 .nilm (.t 15) (.t 15)),zz4 17 3 1,zz2 18 1 17,zza 19 18,o 20 (.mkSlice 1 t_int_2 24 (.list true 0 []) (.t 19) (.t 19)),o 21 (.build [(.list true 0 []),(.list true 0 [])] [(0,1,(.t 16)),(1,1,(.t 20))]),o 4 (.alloc [(.own 1 t_map_int_bool_2 []),(.own 1 t_int_2 [])]),zzb 2 4 21]
abbrev yzH:List AG:=[zz3 11 4 1,zzf 12 n_order_places 11,zz1 3 12]
abbrev yzI:List AG:=[o 1 (.box 4 (.t 0)),o 2 (.alloc [(.own 1 t_map_int_bool_2 []),(.own 1 t_int_2 [])])]
abbrev order_wait:AFun:=⟨(.seq (.reg yzI) (.seq (.reg yzH) (.seq (.oreg [[],[0],[1],[2,2],[],[4],[5],[6,6],[3,7],[],[9,8,0,1,2,3,4,5,6,7,8,9]] yzG) (.seq (.seq (.reg yzF) (.block 0 yzl (.loop yzk yzE))) (.seq (.reg yzj) .ret))))),80,[.cell 2 true 2]⟩
abbrev yzJ:List It:=[.inBlock 1 [],.code (.reg yzm),.inLoop yzk yzE,.inBlock 0 yzl,.code (.seq (.reg yzj) .ret)]
abbrev yzK (x2 x3 x4 x5 x23 x24 x25 x36 x37 x38:AV) (h:List Ob) (e:Cx:=cx):Cfg:=atC n_order_wait (.code yzy::.inLoop yzn yzy::.inBlock 2 yzo::yzJ) [U,U,x2,x3,x4,x5,U,U,U,U,U,U,U,U,U,U,U,U,U,U,U,U,U,x23,x24,x25,U,U,U,U,U,U,U,U,U,U,x36,x37,x38,U,U,U,U,U,U,U,U,U,U,U,U,U,U,U,U,U,U,U,U,U,U,U,U,U,U,U,U,U,U,U,U,U,U,U,U,U,U,U,U,U] h e
abbrev yzL (x2 x3 x4 x23 x24 x25:AV) (h:List Ob) (e:Cx:=cx):Cfg:=atC n_order_wait yzJ [U,U,x2,x3,x4,U,U,U,U,U,U,U,U,U,U,U,U,U,U,U,U,U,U,x23,x24,x25,U,U,U,U,U,U,U,U,U,U,U,U,U,U,U,U,U,U,U,U,U,U,U,U,U,U,U,U,U,U,U,U,U,U,U,U,U,U,U,U,U,U,U,U,U,U,U,U,U,U,U,U,U,U] h e
abbrev yzM:List It:=[.code (.seq (.reg yzj) .ret)]
abbrev yzN (x2 x3 x4 x23 x24 x25:AV) (h:List Ob) (e:Cx:=cx):Cfg:=atC n_order_wait (.code yzE::.inLoop yzk yzE::.inBlock 0 yzl::yzM) [U,U,x2,x3,x4,U,U,U,U,U,U,U,U,U,U,U,U,U,U,U,U,U,U,x23,x24,x25,U,U,U,U,U,U,U,U,U,U,U,U,U,U,U,U,U,U,U,U,U,U,U,U,U,U,U,U,U,U,U,U,U,U,U,U,U,U,U,U,U,U,U,U,U,U,U,U,U,U,U,U,U,U] h e
@[simp] theorem c_order_wait:cfun Tryz.prog n_order_wait=some order_wait:=by kernel_rfl
@[simp] theorem e_order_wait:hasBody Tryz.prog n_order_wait=true:=by kernel_rfl
abbrev yzO:List AG:=[zz1 7 0,zz1 8 0,o 9 (.invoke (.t 8) "Len" []),o 10 (.ibin .sub (.t 9) (.c (.int .i64 1))),zzg 11 n_container_heap_up 7 10]
abbrev yzP:List AG:=[zz1 4 0,zz1 5 1,o 6 (.invoke (.t 4) "Push" [(.t 5)])]
abbrev container_heap_Push:AFun:=⟨(.seq (.reg yzP) (.reg yzO)),12,[]⟩
@[simp] theorem c_container_heap_Push:cfun Tryz.prog n_container_heap_Push=some container_heap_Push:=by kernel_rfl
@[simp] theorem e_container_heap_Push:hasBody Tryz.prog n_container_heap_Push=true:=by kernel_rfl
abbrev yzQ:List AG:=[zz1 3 0,zza 4 3,zz1 2 4]
abbrev yzR:List AG:=[zz9 2 0]
abbrev order_pile_Len:AFun:=⟨(.seq (.reg yzR) (.seq (.reg yzQ) .ret)),5,[.tmp 2]⟩
@[simp] theorem c_order_pile_Len:cfun Tryz.prog n_order_pile_Len=some order_pile_Len:=by kernel_rfl
@[simp] theorem e_order_pile_Len:hasBody Tryz.prog n_order_pile_Len=true:=by kernel_rfl
abbrev yzS:List AG:=[zz1 13 0,o 14 (.invoke (.t 13) "Pop" []),zz1 2 14]
abbrev yzT:List AG:=[zz1 10 0,zz1 11 3,o 12 (.call (.f n_container_heap_down) [(.t 10),(.c (.int .i64 0)),(.t 11)])]
abbrev yzU:List AG:=[zz1 7 0,zz1 8 3,o 9 (.invoke (.t 7) "Swap" [(.c (.int .i64 0)),(.t 8)])]
abbrev yzV:List AG:=[zz1 4 0,o 5 (.invoke (.t 4) "Len" []),o 6 (.ibin .sub (.t 5) (.c (.int .i64 1))),zz1 3 6]
abbrev yzW:List AG:=[o 2 (.mv (.c .nili))]
abbrev container_heap_Pop:AFun:=⟨(.seq (.reg yzW) (.seq (.reg yzV) (.seq (.reg yzU) (.seq (.reg yzT) (.seq (.reg yzS) .ret))))),15,[.tmp 2]⟩
@[simp] theorem c_container_heap_Pop:cfun Tryz.prog n_container_heap_Pop=some container_heap_Pop:=by kernel_rfl
@[simp] theorem e_container_heap_Pop:hasBody Tryz.prog n_container_heap_Pop=true:=by kernel_rfl
abbrev yzX:List AG:=[o 4 (.mv (.c (.int .i64 (-1))))]
abbrev yzY:List Bool:=[I,I,O,O,O,O,O,I,I,O,O,O,O,O,O,O,O,O,O]
abbrev yzZ:List Bool:=[O,O,O,O,O,O,O,O,O,O,O,O,O,O,O,O,O,O,O]
abbrev yAa:List AG:=[zz6 18 8 1,zz1 8 18]
abbrev yAb:List AG:=[zz1 17 5,zz1 4 17]
abbrev yAc:ACode:=(.seq (.reg yAb) .ret)
abbrev yAd:List AG:=[zz1 11 1,zz1 12 0,zz1 13 5,zz5 14 5 12 13,zz3 15 5 14,o 16 (.call (.t 11) [(.t 15)])]
abbrev yAe:List AG:=[zz1 10 8,zz1 5 10]
abbrev yAf:ACode:=(.seq (.reg yAe) (.seq (.reg yAd) (.cond (.t 16) yAc .skip)))
abbrev yAg:List AG:=[zz7 9 8 7]
abbrev yAh:ACode:=(.seq (.reg yAg) (.seq (.cond (.t 9) .skip (.exit 0)) (.seq (.block 1 [] yAf) (.reg yAa))))
abbrev yAi:List AG:=[zz1 6 0,zza 7 6,zz9 8 0]
abbrev yAj:List AG:=[zz9 4 0]
abbrev slices_IndexFunc_api_Gate_api_Gate:AFun:=⟨(.seq (.reg yAj) (.seq (.seq (.reg yAi) (.block 0 yzZ (.loop yzY yAh))) (.seq (.reg yzX) .ret))),19,[.tmp 4]⟩
abbrev yAk:List It:=[.code (.seq (.reg yzX) .ret)]
abbrev yAl (x0 x1 x7 x8:AV) (h:List Ob) (e:Cx:=cx):Cfg:=atC n_slices_IndexFunc_api_Gate_api_Gate (.code yAh::.inLoop yzY yAh::.inBlock 0 yzZ::yAk) [x0,x1,U,U,U,U,U,x7,x8,U,U,U,U,U,U,U,U,U,U] h e
@[simp] theorem c_slices_IndexFunc_api_Gate_api_Gate:cfun Tryz.prog n_slices_IndexFunc_api_Gate_api_Gate=some slices_IndexFunc_api_Gate_api_Gate:=by kernel_rfl
@[simp] theorem e_slices_IndexFunc_api_Gate_api_Gate:hasBody Tryz.prog n_slices_IndexFunc_api_Gate_api_Gate=true:=by kernel_rfl
abbrev yAm:List AG:=[zz1 35 6,zz1 2 35]
abbrev yAn:List Bool:=[O,O,O,O,O,O,I,O,O,O,O,O,O,O,O,O,O,O,O,O,O,O,O,O,O,I,I,I,O,O,O,O,O,O,O,O]
abbrev yAo:List Bool:=[O,O,O,O,O,O,I,O,O,O,O,O,O,O,O,O,O,O,O,O,O,O,O,O,O,O,O,O,O,O,O,O,O,O,O,O]
abbrev yAp:List AG:=[zz6 34 27 1,zz1 27 34]
abbrev yAq:List AG:=[zz1 31 6,zz1 32 8,o 33 (.append 1 t_string 16 (.t 31) (.t 32)),zz1 6 33]
abbrev yAr:List AG:=[zz5 29 1 25 27,zz2 30 1 29,zz1 8 30]
abbrev yAs:ACode:=(.seq (.reg yAr) (.reg yAq))
abbrev yAt:List AG:=[zz7 28 27 26]
abbrev yAu:ACode:=(.seq (.reg yAt) (.seq (.cond (.t 28) .skip (.exit 2)) (.seq (.block 3 [] yAs) (.reg yAp))))
abbrev yAv:List AG:=[zz1 25 0,zza 26 25,zz9 27 0]
abbrev yAw:List AG:=[zz1 23 3,o 24 (.call (.f n_slices_Grow_string_string) [(.c (.list true 0 [])),(.t 23)]),zz1 6 24]
abbrev yAx:List Bool:=[I,O,O,I,O,O,O,O,O,I,I,I,O,O,O,O,O,O,O,O,O,O,O,O,O,O,O,O,O,O,O,O,O,O,O,O]
abbrev yAy:List Bool:=[I,O,O,I,O,O,O,O,O,O,O,O,O,O,O,O,O,O,O,O,O,O,O,O,O,O,O,O,O,O,O,O,O,O,O,O]
abbrev yAz:List AG:=[zz6 22 11 1,zz1 11 22]
abbrev yAA:List AG:=[o 21 (.mkIface t_string (.c (.str [108,101,110,32,111,117,116,32,111,102,32,114,97,110,103,101]))),q (.panic (.t 21))]
abbrev yAB:List AG:=[zz1 19 3,o 20 (.cmp .lss (.sc .int) (.t 19) (.c (.int .i64 0)))]
abbrev yAC:List AG:=[zz1 15 3,zz1 16 5,zza 17 16,o 18 (.ibin .add (.t 15) (.t 17)),zz1 3 18]
abbrev yAD:List AG:=[zz5 13 1 9 11,zz2 14 1 13,zz1 5 14]
abbrev yAE:ACode:=(.seq (.reg yAD) (.seq (.reg yAC) (.seq (.reg yAB) (.cond (.t 20) (.reg yAA) .skip))))
abbrev yAF:List AG:=[zz7 12 11 10]
abbrev yAG:ACode:=(.seq (.reg yAF) (.seq (.cond (.t 12) .skip (.exit 0)) (.seq (.block 1 [] yAE) (.reg yAz))))
abbrev yAH:List AG:=[zz1 9 0,zza 10 9,zz9 11 0]
abbrev yAI:List AG:=[zz9 3 0]
abbrev yAJ:List AG:=[o 2 (.nilrow 1 t_string)]
abbrev slices_Concat_string_string:AFun:=⟨(.seq (.reg yAJ) (.seq (.reg yAI) (.seq (.seq (.reg yAH) (.block 0 yAy (.loop yAx yAG))) (.seq (.reg yAw) (.seq (.seq (.reg yAv) (.block 2 yAo (.loop yAn yAu))) (.seq (.reg yAm) .ret)))))),36,[.tmp 2]⟩
abbrev yAK:List It:=[.code (.seq (.reg yAm) .ret)]
abbrev yAL (x6 x25 x26 x27:AV) (h:List Ob) (e:Cx:=cx):Cfg:=atC n_slices_Concat_string_string (.code yAu::.inLoop yAn yAu::.inBlock 2 yAo::yAK) [U,U,U,U,U,U,x6,U,U,U,U,U,U,U,U,U,U,U,U,U,U,U,U,U,U,x25,x26,x27,U,U,U,U,U,U,U,U] h e
abbrev yAM:List It:=[.code (.seq (.reg yAw) (.seq (.seq (.reg yAv) (.block 2 yAo (.loop yAn yAu))) (.seq (.reg yAm) .ret)))]
abbrev yAN (x0 x3 x9 x10 x11:AV) (h:List Ob) (e:Cx:=cx):Cfg:=atC n_slices_Concat_string_string (.code yAG::.inLoop yAx yAG::.inBlock 0 yAy::yAM) [x0,U,U,x3,U,U,U,U,U,x9,x10,x11,U,U,U,U,U,U,U,U,U,U,U,U,U,U,U,U,U,U,U,U,U,U,U,U] h e
@[simp] theorem c_slices_Concat_string_string:cfun Tryz.prog n_slices_Concat_string_string=some slices_Concat_string_string:=by kernel_rfl
@[simp] theorem e_slices_Concat_string_string:hasBody Tryz.prog n_slices_Concat_string_string=true:=by kernel_rfl
abbrev yAO:List AG:=[zz1 4 0,o 5 (.cmp .neq (.sc .str) (.t 4) (.c (.str []))),zz1 6 5,zze 7 6 0,oy 8 6 (.lenStr (.t 7)),oy 9 6 (.cmp .leq (.sc .int) (.t 8) (.c (.int .i64 40))),zz8 10 6 9,zz1 11 10,zze 12 11 0,zze 13 11 3,oy 14 11 (.call (.f n_strings_IndexFunc) [(.t 12),(.t 13)]),oy 15 11 (.cmp .lss (.sc .int) (.t 14) (.c (.int .i64 0))),zz8 16 11 15,zz1 2 16]
abbrev yAP:List AG:=[o 3 (.mv (.f n_ident_name_plain_1))]
abbrev yAQ:List AG:=[zzh 2]
abbrev ident_name_plain:AFun:=⟨(.seq (.reg yAQ) (.seq (.reg yAP) (.seq (.reg yAO) .ret))),17,[.tmp 2]⟩
@[simp] theorem c_ident_name_plain:cfun Tryz.prog n_ident_name_plain=some ident_name_plain:=by kernel_rfl
@[simp] theorem e_ident_name_plain:hasBody Tryz.prog n_ident_name_plain=true:=by kernel_rfl
abbrev yAR:List Bool:=[I,I,O,O,O,O,O,O,O,O,O,O,O,O,O,O,O,O,O,O,O,O,O]
abbrev yAS:List Bool:=[O,O,O,O,O,O,O,O,O,O,O,O,O,O,O,O,O,O,O,O,O,O,O]
abbrev yAT:List AG:=[zz1 22 4,zz1 1 22]
abbrev yAU:List AG:=[zz1 18 0,zz1 19 4,zz1 20 1,o 21 (.invoke (.t 18) "Swap" [(.t 19),(.t 20)])]
abbrev yAV:List AG:=[zz1 8 4,zz1 9 1,o 10 (.cmp .eql (.sc .int) (.t 8) (.t 9)),zz1 11 10,on 12 11 (.mv (.t 0)),on 13 11 (.mv (.t 1)),on 14 11 (.mv (.t 4)),on 15 11 (.invoke (.t 12) "Less" [(.t 13),(.t 14)]),on 16 11 (.not (.t 15)),o 17 (.pick (.t 11) (.c (.bool true)) (.t 16))]
abbrev yAW:List AG:=[zz1 5 1,o 6 (.ibin .sub (.t 5) (.c (.int .i64 1))),o 7 (.ibin .quo (.t 6) (.c (.int .i64 2))),zz1 4 7]
abbrev yAX:ACode:=(.seq (.reg yAW) (.seq (.seq (.reg yAV) (.cond (.t 17) (.exit 0) .skip)) (.seq (.reg yAU) (.reg yAT))))
abbrev yAY:ACode:=(.block 1 [] yAX)
abbrev container_heap_up:AFun:=⟨(.block 0 yAS (.loop yAR yAY)),23,[]⟩
abbrev yAZ:List It:=[]
abbrev yBa (x0 x1:AV) (h:List Ob) (e:Cx:=cx):Cfg:=atC n_container_heap_up (.code yAY::.inLoop yAR yAY::.inBlock 0 yAS::yAZ) [x0,x1,U,U,U,U,U,U,U,U,U,U,U,U,U,U,U,U,U,U,U,U,U] h e
@[simp] theorem c_container_heap_up:cfun Tryz.prog n_container_heap_up=some container_heap_up:=by kernel_rfl
@[simp] theorem e_container_heap_up:hasBody Tryz.prog n_container_heap_up=true:=by kernel_rfl
abbrev yBb:List AG:=[zz1 45 7,zz1 46 1,o 47 (.cmp .gtr (.sc .int) (.t 45) (.t 46)),zz1 6 47]
abbrev yBc:List Bool:=[I,I,I,O,O,O,O,I,O,O,O,O,O,O,O,O,O,O,O,O,O,O,O,O,O,O,O,O,O,O,O,O,O,O,O,O,O,O,O,O,O,O,O,O,O,O,O,O]
abbrev yBd:List Bool:=[O,I,O,O,O,O,O,I,O,O,O,O,O,O,O,O,O,O,O,O,O,O,O,O,O,O,O,O,O,O,O,O,O,O,O,O,O,O,O,O,O,O,O,O,O,O,O,O]
abbrev yBe:List AG:=[zz1 44 9,zz1 7 44]
abbrev yBf:List AG:=[zz1 40 0,zz1 41 7,zz1 42 9,o 43 (.invoke (.t 40) "Swap" [(.t 41),(.t 42)])]
abbrev yBg:List AG:=[zz1 35 0,zz1 36 9,zz1 37 7,o 38 (.invoke (.t 35) "Less" [(.t 36),(.t 37)]),o 39 (.not (.t 38))]
abbrev yBh:List AG:=[zz1 34 10,zz1 9 34]
abbrev yBi:List AG:=[zz1 25 10,zz1 26 2,zz7 27 25 26,zz1 28 27,zze 29 28 0,zze 30 28 10,zze 31 28 8,oy 32 28 (.invoke (.t 29) "Less" [(.t 30),(.t 31)]),zz8 33 28 32]
abbrev yBj:List AG:=[zz1 23 8,zz6 24 23 1,zz1 10 24]
abbrev yBk:List AG:=[zz1 22 8,zz1 9 22]
abbrev yBl:List AG:=[zz1 15 8,zz1 16 2,o 17 (.cmp .geq (.sc .int) (.t 15) (.t 16)),zz1 18 17,on 19 18 (.mv (.t 8)),on 20 18 (.cmp .lss (.sc .int) (.t 19) (.c (.int .i64 0))),o 21 (.pick (.t 18) (.c (.bool true)) (.t 20))]
abbrev yBm:List AG:=[zz1 12 7,o 13 (.ibin .mul (.c (.int .i64 2)) (.t 12)),zz6 14 13 1,zz1 8 14]
abbrev yBn:ACode:=(.seq (.reg yBm) (.seq (.seq (.reg yBl) (.cond (.t 21) (.exit 0) .skip)) (.seq (.reg yBk) (.seq (.seq (.reg yBj) (.seq (.reg yBi) (.cond (.t 33) (.reg yBh) .skip))) (.seq (.seq (.reg yBg) (.cond (.t 39) (.exit 0) .skip)) (.seq (.reg yBf) (.reg yBe)))))))
abbrev yBo:ACode:=(.block 1 [] yBn)
abbrev yBp:List AG:=[zz1 11 1,zz1 7 11]
abbrev yBq:List AG:=[zzh 6]
abbrev container_heap_down:AFun:=⟨(.seq (.reg yBq) (.seq (.reg yBp) (.seq (.block 0 yBd (.loop yBc yBo)) (.seq (.reg yBb) .ret)))),48,[.tmp 6]⟩
abbrev yBr:List It:=[.code (.seq (.reg yBb) .ret)]
abbrev yBs (x0 x1 x2 x7:AV) (h:List Ob) (e:Cx:=cx):Cfg:=atC n_container_heap_down (.code yBo::.inLoop yBc yBo::.inBlock 0 yBd::yBr) [x0,x1,x2,U,U,U,U,x7,U,U,U,U,U,U,U,U,U,U,U,U,U,U,U,U,U,U,U,U,U,U,U,U,U,U,U,U,U,U,U,U,U,U,U,U,U,U,U,U] h e
@[simp] theorem c_container_heap_down:cfun Tryz.prog n_container_heap_down=some container_heap_down:=by kernel_rfl
@[simp] theorem e_container_heap_down:hasBody Tryz.prog n_container_heap_down=true:=by kernel_rfl
abbrev yBt:List AG:=[zz1 26 0,zz1 4 26]
abbrev yBu:List AG:=[zz1 17 0,zz1 18 0,o 19 (.cap (.t 18)),o 20 (.slice 1 (.t 17) none (some (.t 19))),zz1 21 1,o 22 (.appendZ 1 t_string 16 (.str []) (.t 20) (.t 21)),zz1 23 0,zza 24 23,o 25 (.slice 1 (.t 22) none (some (.t 24))),zz1 0 25]
abbrev yBv:List AG:=[zz1 15 1,o 16 (.cmp .gtr (.sc .int) (.t 15) (.c (.int .i64 0)))]
abbrev yBw:List AG:=[zz1 8 1,zz1 9 0,o 10 (.cap (.t 9)),zz1 11 0,zza 12 11,o 13 (.ibin .sub (.t 10) (.t 12)),o 14 (.ibin .sub (.t 8) (.t 13)),zz1 1 14]
abbrev yBx:List AG:=[o 7 (.mkIface t_string (.c (.str [99,97,110,110,111,116,32,98,101,32,110,101,103,97,116,105,118,101]))),q (.panic (.t 7))]
abbrev yBy:List AG:=[zz1 5 1,o 6 (.cmp .lss (.sc .int) (.t 5) (.c (.int .i64 0)))]
abbrev yBz:List AG:=[o 4 (.nilrow 1 t_string)]
abbrev slices_Grow_string_string:AFun:=⟨(.seq (.reg yBz) (.seq (.seq (.reg yBy) (.cond (.t 6) (.reg yBx) .skip)) (.seq (.seq (.reg yBw) (.seq (.reg yBv) (.cond (.t 16) (.reg yBu) .skip))) (.seq (.reg yBt) .ret)))),27,[.tmp 4]⟩
@[simp] theorem c_slices_Grow_string_string:cfun Tryz.prog n_slices_Grow_string_string=some slices_Grow_string_string:=by kernel_rfl
@[simp] theorem e_slices_Grow_string_string:hasBody Tryz.prog n_slices_Grow_string_string=true:=by kernel_rfl
abbrev yBA:List AG:=[zz1 3 0,o 4 (.cmp .leq (.sc .int) (.t 3) (.c (.int .i32 32))),zz1 5 4,on 6 5 (.mv (.t 0)),on 7 5 (.cmp .gtr (.sc .int) (.t 6) (.c (.int .i32 126))),o 8 (.pick (.t 5) (.c (.bool true)) (.t 7)),zz1 2 8]
abbrev yBB:List AG:=[zzh 2]
abbrev ident_name_plain_1:AFun:=⟨(.seq (.reg yBB) (.seq (.reg yBA) .ret)),9,[.tmp 2]⟩
@[simp] theorem c_ident_name_plain_1:cfun Tryz.prog n_ident_name_plain_1=some ident_name_plain_1:=by kernel_rfl
@[simp] theorem e_ident_name_plain_1:hasBody Tryz.prog n_ident_name_plain_1=true:=by kernel_rfl
abbrev yBC:List AG:=[zz1 5 0,zz1 6 1,o 7 (.call (.f n_strings_indexFunc) [(.t 5),(.t 6),(.c (.bool true))]),zz1 4 7]
abbrev yBD:List AG:=[zz9 4 0]
abbrev strings_IndexFunc:AFun:=⟨(.seq (.reg yBD) (.seq (.reg yBC) .ret)),8,[.tmp 4]⟩
@[simp] theorem c_strings_IndexFunc:cfun Tryz.prog n_strings_IndexFunc=some strings_IndexFunc:=by kernel_rfl
@[simp] theorem e_strings_IndexFunc:hasBody Tryz.prog n_strings_IndexFunc=true:=by kernel_rfl
abbrev yBE:List AG:=[o 6 (.mv (.c (.int .i64 (-1))))]
abbrev yBF:List Bool:=[O,I,I,O,O,O,O,O,O,O,I,O,O,O,O,O,O,O,O,O,O]
abbrev yBG:List Bool:=[O,O,O,O,O,O,O,O,O,O,O,O,O,O,O,O,O,O,O,O,O]
abbrev yBH:List AG:=[zz1 20 7,zz1 6 20]
abbrev yBI:ACode:=(.seq (.reg yBH) .ret)
abbrev yBJ:List AG:=[zz1 15 1,zz1 16 8,o 17 (.call (.t 15) [(.t 16)]),zz1 18 2,o 19 (.cmp .eql (.sc .bool) (.t 17) (.t 18))]
abbrev yBK:List AG:=[zzc 13 11 1,zzc 14 11 2,zz1 7 13,zz1 8 14]
abbrev yBL:ACode:=(.seq (.reg yBK) (.seq (.reg yBJ) (.cond (.t 19) yBI .skip)))
abbrev yBM:List AG:=[o 11 (.next (.t 10)),zzc 12 11 0]
abbrev yBN:ACode:=(.seq (.reg yBM) (.seq (.cond (.t 12) .skip (.exit 0)) (.block 1 [] yBL)))
abbrev yBO:List AG:=[zz1 9 0,o 10 (.range (.t 9))]
abbrev yBP:List AG:=[zz9 6 0]
abbrev strings_indexFunc:AFun:=⟨(.seq (.reg yBP) (.seq (.seq (.reg yBO) (.block 0 yBG (.loop yBF yBN))) (.seq (.reg yBE) .ret))),21,[.tmp 6]⟩
abbrev yBQ:List It:=[.code (.seq (.reg yBE) .ret)]
abbrev yBR (x1 x2 x10:AV) (h:List Ob) (e:Cx:=cx):Cfg:=atC n_strings_indexFunc (.code yBN::.inLoop yBF yBN::.inBlock 0 yBG::yBQ) [U,x1,x2,U,U,U,U,U,U,U,x10,U,U,U,U,U,U,U,U,U,U] h e
@[simp] theorem c_strings_indexFunc:cfun Tryz.prog n_strings_indexFunc=some strings_indexFunc:=by kernel_rfl
@[simp] theorem e_strings_indexFunc:hasBody Tryz.prog n_strings_indexFunc=true:=by kernel_rfl
abbrev yBS:List AG:=[zz1 7 0,zz1 8 1,zz5 9 1 7 8,zz2 10 1 9,zz1 11 0,zz1 12 2,zz5 13 1 11 12,zz2 14 1 13,zz7 15 10 14,zz1 6 15]
abbrev yBT:List AG:=[zzh 6]
abbrev order_pile_Less:AFun:=⟨(.seq (.reg yBT) (.seq (.dreg [O,O,O,O,O,O,O,O,O,O] [11,11,11,11,11,11,11,11,11,11] yBS) .ret)),16,[.tmp 6]⟩
@[simp] theorem c_order_pile_Less:cfun Tryz.prog n_order_pile_Less=some order_pile_Less:=by kernel_rfl
@[simp] theorem e_order_pile_Less:hasBody Tryz.prog n_order_pile_Less=true:=by kernel_rfl
abbrev yBU:List AG:=[zz1 25 3,o 26 (.mkIface t_int (.t 25)),zz1 2 26]
abbrev yBV:List AG:=[zz1 14 0,zz1 15 0,o 16 (.nilck (.t 15)),zz2 17 1 16,zz1 18 0,o 19 (.nilck (.t 18)),zz2 20 1 19,zza 21 20,o 22 (.ibin .sub (.t 21) (.c (.int .i64 1))),o 23 (.slice 1 (.t 17) none (some (.t 22))),o 24 (.nilck (.t 14)),zzb 1 24 23]
abbrev yBW:List AG:=[zz1 4 0,o 5 (.nilck (.t 4)),zz2 6 1 5,zz1 7 0,o 8 (.nilck (.t 7)),zz2 9 1 8,zza 10 9,o 11 (.ibin .sub (.t 10) (.c (.int .i64 1))),zz5 12 1 6 11,zz2 13 1 12,zz1 3 13]
abbrev yBX:List AG:=[o 2 (.mv (.c .nili))]
abbrev order_pile_Pop:AFun:=⟨(.seq (.reg yBX) (.seq (.dreg [O,O,O,O,O,O,O,O,O,O,O] [12,12,12,12,12,12,12,12,12,12,12] yBW) (.seq (.dreg [O,O,O,O,O,O,O,O,O,O,O,O] [12,12,12,12,12,12,12,12,12,12,12,13] yBV) (.seq (.reg yBU) .ret)))),27,[.tmp 2]⟩
@[simp] theorem c_order_pile_Pop:cfun Tryz.prog n_order_pile_Pop=some order_pile_Pop:=by kernel_rfl
@[simp] theorem e_order_pile_Pop:hasBody Tryz.prog n_order_pile_Pop=true:=by kernel_rfl
abbrev yBY:List AG:=[zz1 4 0,zz1 5 0,o 6 (.nilck (.t 5)),zz2 7 1 6,zz1 8 1,o 9 (.tassert (.t 8) t_int (.int .i64 0) false),o 10 (.lit 1 [(.int .i64 0)] [(0,(.t 9))]),o 11 (.append 1 t_int 8 (.t 7) (.t 10)),o 12 (.nilck (.t 4)),zzb 1 12 11]
abbrev order_pile_Push:AFun:=⟨(.dreg [O,O,O,I,O,O,O,O,O,O] [10,8,8,8,7,7,8,10,10,11] yBY),13,[]⟩
@[simp] theorem c_order_pile_Push:cfun Tryz.prog n_order_pile_Push=some order_pile_Push:=by kernel_rfl
@[simp] theorem e_order_pile_Push:hasBody Tryz.prog n_order_pile_Push=true:=by kernel_rfl
abbrev yBZ:List AG:=[zz1 6 0,zz1 7 1,zz1 8 0,zz1 9 2,zz1 10 0,zz1 11 2,zz5 12 1 10 11,zz2 13 1 12,zz1 14 0,zz1 15 1,zz5 16 1 14 15,zz2 17 1 16,zz5 18 1 6 7,zzb 1 18 13,zz5 19 1 8 9,zzb 1 19 17]
abbrev order_pile_Swap:AFun:=⟨(.dreg [O,O,O,O,O,O,O,O,O,O,O,O,O,O,O,O] [14,14,16,16,14,14,14,14,14,14,14,14,14,16,16,17] yBZ),20,[]⟩
@[simp] theorem c_order_pile_Swap:cfun Tryz.prog n_order_pile_Swap=some order_pile_Swap:=by kernel_rfl
@[simp] theorem e_order_pile_Swap:hasBody Tryz.prog n_order_pile_Swap=true:=by kernel_rfl
end Go.Proofs.YtpinapmcemimcaaGreatDoor
