/- The functions, as the abstract machine has them. Printed by a program. -/
import Derived.Test.YtpinapmcemimcaaGreatDoorAMd
import Derived.Test.YtpinapmcemimcaaGreatDoorChecked
import Derived.KernelRfl
set_option linter.unusedSimpArgs false
set_option linter.unusedVariables false
namespace Go.Proofs.YtpinapmcemimcaaGreatDoor
open Go.AM Go.Proofs
abbrev zz1 (d i:Nat):AG:=o d (.mv (.t i))
abbrev zz2 (d k i:Nat):AG:=o d (.load false k (.t i))
abbrev zz3 (d k i:Nat):AG:=o d (.load true k (.t i))
abbrev zz4 (d k i:Nat):AG:=o d (.off k (.t i))
abbrev zz5 (d k i j:Nat):AG:=o d (.ixAddr k (.t i) (.t j))
abbrev zz6 (d i:Nat) (n:Int):AG:=o d (.ibin .add (.t i) (.c (.int .i64 n)))
abbrev zz7 (d i j:Nat):AG:=o d (.cmp .lss (.sc .int) (.t i) (.t j))
abbrev zz8 (d i j:Nat):AG:=o d (.pick (.t i) (.t j) (.c (.bool false)))
abbrev zz9 (d:Nat) (n:Int):AG:=o d (.mv (.c (.int .i64 n)))
abbrev zza (d i:Nat):AG:=o d (.len (.t i))
abbrev zzb (k a x:Nat):AG:=q (.store k (.t a) (.t x))
abbrev zzc (d i k:Nat):AG:=o d (.extract (.t i) k)
abbrev zzd (d j k i:Nat):AG:=oy d j (.load false k (.t i))
abbrev zze (d j i:Nat):AG:=oy d j (.mv (.t i))
abbrev zzf (d:Nat) (f:FuncId) (i:Nat):AG:=o d (.call (.f f) [(.t i)])
abbrev zzg (d:Nat) (f:FuncId) (i j:Nat):AG:=o d (.call (.f f) [(.t i),(.t j)])
abbrev zzh (d:Nat):AG:=o d (.mv (.c (.bool false)))
abbrev n_w08_StepTells:FuncId:=4
abbrev n_w08_StepRuns:FuncId:=5
abbrev n_w08_StepSame:FuncId:=6
abbrev n_w08_StepTurns:FuncId:=7
abbrev n_w08_works:FuncId:=8
abbrev n_w06_FewGate:FuncId:=9
abbrev n_step_Gate:FuncId:=10
abbrev n_r08_Gate:FuncId:=11
abbrev n_w07_Little:FuncId:=12
abbrev n_step_Start:FuncId:=13
abbrev n_r08_Start:FuncId:=14
abbrev n_step_Values:FuncId:=15
abbrev n_r08_Values:FuncId:=16
abbrev n_step_Step:FuncId:=17
abbrev n_r08_Step:FuncId:=18
abbrev n_r08_Allowed:FuncId:=19
abbrev n_r08_Bools:FuncId:=20
abbrev n_step_Allowed:FuncId:=21
abbrev n_w08_Rows:FuncId:=22
abbrev n_step_Run:FuncId:=23
abbrev n_r08_Run:FuncId:=24
abbrev n_r08_Rows:FuncId:=25
abbrev n_w06_Few:FuncId:=26
abbrev n_order_Trim:FuncId:=27
abbrev n_r06_Place:FuncId:=28
abbrev n_net_Canon:FuncId:=29
abbrev n_w05_Texts:FuncId:=30
abbrev n_net_Gate:FuncId:=31
abbrev n_step_of:FuncId:=32
abbrev n_step_Gate_1:FuncId:=33
abbrev n_slices_ContainsFunc_string_string:FuncId:=34
abbrev n_step_Gate_1_1:FuncId:=35
abbrev n_step_fits:FuncId:=36
abbrev n_r06_Gate:FuncId:=37
abbrev n_r06_Rows:FuncId:=38
abbrev n_r08_fits:FuncId:=39
abbrev n_step_right:FuncId:=40
abbrev n_r08_right:FuncId:=41
abbrev n_step_begin:FuncId:=42
abbrev n_step_machine_values:FuncId:=43
abbrev n_step_pick:FuncId:=44
abbrev n_r07_Sort:FuncId:=45
abbrev n_step_machine_step:FuncId:=46
abbrev n_step_machine_steps:FuncId:=47
abbrev n_slices_Clone_bool_bool:FuncId:=48
abbrev n_order_right:FuncId:=49
abbrev n_order_Cone:FuncId:=50
abbrev n_slices_Clone_string_string:FuncId:=51
abbrev n_slices_Contains_string_string:FuncId:=52
abbrev n_r06_Nets:FuncId:=53
abbrev n_net_has:FuncId:=54
abbrev n_net_rows:FuncId:=55
abbrev n_slices_Equal_string_string:FuncId:=56
abbrev n_net_Gate_1:FuncId:=57
abbrev n_net_row:FuncId:=58
abbrev n_step_of_1:FuncId:=59
abbrev n_step_of_2:FuncId:=60
abbrev n_step_count:FuncId:=61
abbrev n_step_of_3:FuncId:=62
abbrev n_step_of_4:FuncId:=63
abbrev n_slices_IndexFunc_string_string:FuncId:=64
abbrev n_r06_row:FuncId:=65
abbrev n_r06_all:FuncId:=66
abbrev n_r06_odd:FuncId:=67
abbrev n_order_Check:FuncId:=68
abbrev n_r07_Check:FuncId:=69
abbrev n_order_Sort:FuncId:=70
abbrev n_net_Nets:FuncId:=71
abbrev n_slices_Concat_bool_bool:FuncId:=72
abbrev n_r07_right:FuncId:=73
abbrev n_r07_waits:FuncId:=74
abbrev n_step_machine_steps_1:FuncId:=75
abbrev n_net_Check:FuncId:=76
abbrev n_slices_Index_string_string:FuncId:=77
abbrev n_strings_Repeat:FuncId:=78
abbrev n_net_parity:FuncId:=79
abbrev n_strings_Trim:FuncId:=80
abbrev n_r06_Check:FuncId:=81
abbrev n_order_places:FuncId:=82
abbrev n_order_coming:FuncId:=83
abbrev n_slices_Grow_bool_bool:FuncId:=84
abbrev n_net_Check_1:FuncId:=85
abbrev n_net_Check_2:FuncId:=86
abbrev n_net_need:FuncId:=87
abbrev n_slices_ContainsFunc_api_Gate_api_Gate:FuncId:=88
abbrev n_net_told:FuncId:=89
abbrev n_ident_Name:FuncId:=90
abbrev n_net_once:FuncId:=91
abbrev n_net_used:FuncId:=92
abbrev n_net_parity_1:FuncId:=99
abbrev n_math_bits_OnesCount:FuncId:=100
abbrev n_r06_limit:FuncId:=108
abbrev n_r06_Told:FuncId:=109
abbrev n_r04_Name:FuncId:=110
abbrev n_r06_twice:FuncId:=111
abbrev n_r06_Used:FuncId:=112
abbrev n_r01_Has:FuncId:=113
abbrev n_order_coming_1:FuncId:=114
abbrev n_order_wait:FuncId:=115
abbrev n_container_heap_Push:FuncId:=116
abbrev n_order_pile_Len:FuncId:=117
abbrev n_container_heap_Pop:FuncId:=118
abbrev n_slices_IndexFunc_api_Gate_api_Gate:FuncId:=119
abbrev n_slices_Concat_string_string:FuncId:=120
abbrev n_ident_name_plain:FuncId:=121
abbrev n_math_bits_OnesCount32:FuncId:=127
abbrev n_math_bits_OnesCount64:FuncId:=128
abbrev n_container_heap_up:FuncId:=133
abbrev n_container_heap_down:FuncId:=134
abbrev n_slices_Grow_string_string:FuncId:=135
abbrev n_ident_name_plain_1:FuncId:=136
abbrev n_strings_IndexFunc:FuncId:=137
abbrev n_strings_indexFunc:FuncId:=143
abbrev n_order_pile_Less:FuncId:=168
abbrev n_order_pile_Pop:FuncId:=169
abbrev n_order_pile_Push:FuncId:=170
abbrev n_order_pile_Swap:FuncId:=171
abbrev t_int:TypeId:=3
abbrev t_bool:TypeId:=4
abbrev t_uint8:TypeId:=5
abbrev t_string:TypeId:=9
abbrev t_api_Gate:TypeId:=25
abbrev t_api_Gate_2:TypeId:=t_api_Gate
abbrev t_bool_2:TypeId:=26
abbrev t_api_Latch_2:TypeId:=55
abbrev t_int_2:TypeId:=75
abbrev t_net_wrong:TypeId:=118
abbrev t_order_pile:TypeId:=153
@[simp] theorem m_order_pile_Push:cmeth Tryz.prog t_order_pile "Push" = some (n_order_pile_Push,none):=by kernel_rfl
@[simp] theorem m_order_pile_Len:cmeth Tryz.prog t_order_pile "Len" = some (n_order_pile_Len,some (false,1)):=by kernel_rfl
@[simp] theorem m_order_pile_Swap:cmeth Tryz.prog t_order_pile "Swap" = some (n_order_pile_Swap,some (false,1)):=by kernel_rfl
@[simp] theorem m_order_pile_Pop:cmeth Tryz.prog t_order_pile "Pop" = some (n_order_pile_Pop,none):=by kernel_rfl
@[simp] theorem m_order_pile_Less:cmeth Tryz.prog t_order_pile "Less" = some (n_order_pile_Less,some (false,1)):=by kernel_rfl
abbrev t_order_pile_2:TypeId:=154
@[simp] theorem m_order_pile_2_Len:cmeth Tryz.prog t_order_pile_2 "Len" = some (n_order_pile_Len,none):=by kernel_rfl
@[simp] theorem m_order_pile_2_Swap:cmeth Tryz.prog t_order_pile_2 "Swap" = some (n_order_pile_Swap,none):=by kernel_rfl
@[simp] theorem m_order_pile_2_Less:cmeth Tryz.prog t_order_pile_2 "Less" = some (n_order_pile_Less,none):=by kernel_rfl
abbrev t_map_int_bool_2:TypeId:=155
abbrev ya:List AG:=[zz1 94 9,zz1 95 94,zze 96 95 11,zze 97 95 13,oy 98 95 (.call (.f n_r08_Bools) [(.t 96),(.t 97)]),zz8 99 95 98,zz1 100 99,zze 101 100 12,zze 102 100 14,oy 103 100 (.cmp .eql (.sc .int) (.t 101) (.t 102)),zz8 104 100 103,zz1 105 104,zze 106 105 15,zze 107 105 17,oy 108 105 (.call (.f n_r08_Bools) [(.t 106),(.t 107)]),zz8 109 105 108,zz1 110 109,zze 111 110 16,zze 112 110 18,oy 113 110 (.cmp .eql (.sc .int) (.t 111) (.t 112)),zz8 114 110 113,zz1 115 114,zze 116 115 19,zze 117 115 22,oy 118 115 (.call (.f n_r08_Bools) [(.t 116),(.t 117)]),zz8 119 115 118,zz1 120 119,zze 121 120 20,zze 122 120 23,oy 123 120 (.call (.f n_r08_Bools) [(.t 121),(.t 122)]),zz8 124 120 123,zz1 125 124,zze 126 125 21,zze 127 125 24,oy 128 125 (.cmp .eql (.sc .int) (.t 126) (.t 127)),zz8 129 125 128,zz1 130 129,oy 131 130 (.load true 4 (.t 4)),zze 132 130 1,oy 133 130 (.call (.f n_step_Allowed) [(.t 131),(.t 132)]),zze 134 130 25,oy 135 130 (.cmp .eql (.sc .bool) (.t 133) (.t 134)),zz8 136 130 135,zz1 8 136]
abbrev yd:List AG:=[zz3 91 4 4,zz1 92 1,zzg 93 n_r08_Allowed 91 92,zz1 25 93]
abbrev ye:List AG:=[zz3 84 4 4,zz1 85 1,zz1 86 2,o 87 (.call (.f n_r08_Step) [(.t 84),(.t 85),(.t 86)]),zz1 83 87,zzc 88 83 0,zzc 89 83 1,zzc 90 83 2,zz1 22 88,zz1 23 89,zz1 24 90]
abbrev yf:List AG:=[zz3 76 4 4,zz1 77 1,zz1 78 2,o 79 (.call (.f n_step_Step) [(.t 76),(.t 77),(.t 78)]),zz1 75 79,zzc 80 75 0,zzc 81 75 1,zzc 82 75 2,zz1 19 80,zz1 20 81,zz1 21 82]
abbrev yg:List AG:=[zz3 69 4 4,zz1 70 1,zz1 71 2,o 72 (.call (.f n_r08_Values) [(.t 69),(.t 70),(.t 71)]),zz1 68 72,zzc 73 68 0,zzc 74 68 1,zz1 17 73,zz1 18 74]
abbrev yh:List AG:=[zz3 62 4 4,zz1 63 1,zz1 64 2,o 65 (.call (.f n_step_Values) [(.t 62),(.t 63),(.t 64)]),zz1 61 65,zzc 66 61 0,zzc 67 61 1,zz1 15 66,zz1 16 67]
abbrev yi:List AG:=[zz3 56 4 4,zz1 57 3,zzg 58 n_r08_Start 56 57,zz1 55 58,zzc 59 55 0,zzc 60 55 1,zz1 13 59,zz1 14 60]
abbrev yj:List AG:=[zz3 50 4 4,zz1 51 3,zzg 52 n_step_Start 50 51,zz1 49 52,zzc 53 49 0,zzc 54 49 1,zz1 11 53,zz1 12 54]
abbrev yk:List AG:=[zz1 48 9,zz1 8 48]
abbrev ym:ACode:=(.seq (.reg yk) .ret)
abbrev yo:List AG:=[zz1 31 10,o 32 (.not (.t 31)),zz1 33 32,on 34 33 (.mv (.t 1)),on 35 33 (.len (.t 34)),on 36 33 (.cmp .gtr (.sc .int) (.t 35) (.c (.int .i64 60))),o 37 (.pick (.t 33) (.c (.bool true)) (.t 36)),zz1 38 37,on 39 38 (.mv (.t 2)),on 40 38 (.len (.t 39)),on 41 38 (.cmp .gtr (.sc .int) (.t 40) (.c (.int .i64 60))),o 42 (.pick (.t 38) (.c (.bool true)) (.t 41)),zz1 43 42,on 44 43 (.mv (.t 3)),on 45 43 (.len (.t 44)),on 46 43 (.cmp .gtr (.sc .int) (.t 45) (.c (.int .i64 60))),o 47 (.pick (.t 43) (.c (.bool true)) (.t 46))]
abbrev yp:List AG:=[zz3 29 4 4,zzf 30 n_w07_Little 29,zz1 10 30]
abbrev yq:List AG:=[zzh 8]
abbrev yr:ACode:=(.seq (.reg yq) .ret)
abbrev yu:List AG:=[zz1 27 9,o 28 (.not (.t 27))]
abbrev yv:List AG:=[o 26 (.call (.f n_w08_works) []),zz1 9 26]
abbrev yw:List AG:=[o 4 (.box 4 (.t 0)),zzh 8]
abbrev w08_StepTells:AFun:=⟨(.seq (.reg yw) (.seq (.reg yv) (.seq (.seq (.reg yu) (.cond (.t 28) yr .skip)) (.seq (.reg yp) (.seq (.seq (.reg yo) (.cond (.t 47) ym .skip)) (.seq (.reg yj) (.seq (.reg yi) (.seq (.reg yh) (.seq (.reg yg) (.seq (.reg yf) (.seq (.reg ye) (.seq (.reg yd) (.seq (.reg ya) .ret))))))))))))),137,[.tmp 8]⟩
@[simp] theorem c_w08_StepTells:cfun Tryz.prog n_w08_StepTells=some w08_StepTells:=by kernel_rfl
@[simp] theorem e_w08_StepTells:hasBody Tryz.prog n_w08_StepTells=true:=by kernel_rfl
abbrev yx:List AG:=[zz1 59 7,zz1 60 59,zze 61 60 9,zze 62 60 12,oy 63 60 (.call (.f n_r08_Rows) [(.t 61),(.t 62)]),zz8 64 60 63,zz1 65 64,zze 66 65 10,zze 67 65 13,oy 68 65 (.call (.f n_r08_Bools) [(.t 66),(.t 67)]),zz8 69 65 68,zz1 70 69,zze 71 70 11,zze 72 70 14,oy 73 70 (.cmp .eql (.sc .int) (.t 71) (.t 72)),zz8 74 70 73,zz1 6 74]
abbrev yy:List AG:=[zz3 52 4 3,zz1 53 1,zz1 54 2,o 55 (.call (.f n_r08_Run) [(.t 52),(.t 53),(.t 54)]),zz1 51 55,zzc 56 51 0,zzc 57 51 1,zzc 58 51 2,zz1 12 56,zz1 13 57,zz1 14 58]
abbrev yz:List AG:=[zz3 44 4 3,zz1 45 1,zz1 46 2,o 47 (.call (.f n_step_Run) [(.t 44),(.t 45),(.t 46)]),zz1 43 47,zzc 48 43 0,zzc 49 43 1,zzc 50 43 2,zz1 9 48,zz1 10 49,zz1 11 50]
abbrev yA:List AG:=[zz1 42 7,zz1 6 42]
abbrev yB:ACode:=(.seq (.reg yA) .ret)
abbrev yC:List AG:=[zz1 24 8,o 25 (.not (.t 24)),zz1 26 25,on 27 26 (.mv (.t 1)),on 28 26 (.len (.t 27)),on 29 26 (.cmp .gtr (.sc .int) (.t 28) (.c (.int .i64 60))),o 30 (.pick (.t 26) (.c (.bool true)) (.t 29)),zz1 31 30,on 32 31 (.mv (.t 2)),on 33 31 (.len (.t 32)),on 34 31 (.cmp .gtr (.sc .int) (.t 33) (.c (.int .i64 6))),on 35 31 (.mv (.t 34)),oy 36 35 (.off 3 (.t 3)),zzd 37 35 1 36,oy 38 35 (.len (.t 37)),oy 39 35 (.cmp .gtr (.sc .int) (.t 38) (.c (.int .i64 12))),on 40 31 (.pick (.t 35) (.t 39) (.c (.bool false))),o 41 (.pick (.t 31) (.c (.bool true)) (.t 40))]
abbrev yD:List AG:=[zz3 18 4 3,zzf 19 n_w07_Little 18,zz1 20 19,zze 21 20 2,oy 22 20 (.call (.f n_w08_Rows) [(.t 21),(.c (.int .i64 45))]),zz8 23 20 22,zz1 8 23]
abbrev yE:List AG:=[zzh 6]
abbrev yF:ACode:=(.seq (.reg yE) .ret)
abbrev yG:List AG:=[zz1 16 7,o 17 (.not (.t 16))]
abbrev yH:List AG:=[o 15 (.call (.f n_w08_works) []),zz1 7 15]
abbrev yI:List AG:=[o 3 (.box 4 (.t 0)),zzh 6]
abbrev w08_StepRuns:AFun:=⟨(.seq (.reg yI) (.seq (.reg yH) (.seq (.seq (.reg yG) (.cond (.t 17) yF .skip)) (.seq (.reg yD) (.seq (.seq (.reg yC) (.cond (.t 41) yB .skip)) (.seq (.reg yz) (.seq (.reg yy) (.seq (.reg yx) .ret)))))))),75,[.tmp 6]⟩
@[simp] theorem c_w08_StepRuns:cfun Tryz.prog n_w08_StepRuns=some w08_StepRuns:=by kernel_rfl
@[simp] theorem e_w08_StepRuns:hasBody Tryz.prog n_w08_StepRuns=true:=by kernel_rfl
abbrev yJ:List AG:=[zz1 121 7,zz1 122 121,zze 123 122 13,zze 124 122 18,oy 125 122 (.cmp .eql (.sc .int) (.t 123) (.t 124)),zz8 126 122 125,zz1 127 126,zze 128 127 13,zze 129 127 24,oy 130 127 (.cmp .eql (.sc .int) (.t 128) (.t 129)),zz8 131 127 130,zz1 132 131,zze 133 132 11,zze 134 132 16,oy 135 132 (.call (.f n_r08_Rows) [(.t 133),(.t 134)]),zz8 136 132 135,zz1 137 136,zze 138 137 11,zze 139 137 22,oy 140 137 (.call (.f n_r08_Rows) [(.t 138),(.t 139)]),zz8 141 137 140,zz1 6 141]
abbrev yK:List AG:=[zz3 114 4 19,zz1 115 20,zz1 116 1,o 117 (.call (.f n_step_Run) [(.t 114),(.t 115),(.t 116)]),zz1 113 117,zzc 118 113 0,zzc 119 113 1,zzc 120 113 2,zz1 22 118,zz1 23 119,zz1 24 120]
abbrev yL:List Bool:=[O,I,O,I,O,O,O,I,O,I,O,I,O,I,O,O,I,O,I,I,I,I,O,O,O,O,O,O,O,O,O,O,O,O,O,O,O,O,O,O,O,O,O,O,O,O,O,O,O,O,O,O,O,O,O,O,O,O,O,O,O,O,O,O,O,O,O,O,O,O,O,O,O,O,O,O,O,O,O,O,O,O,O,O,O,O,O,O,O,O,O,O,O,O,O,O,O,O,O,O,O,O,O,O,O,O,O,O,O,O,O,O,O,O,O,O,O,O,O,O,O,O,O,O,O,O,O,O,O,O,O,O,O,O,O,O,O,O,O,O,O,O]
abbrev yM:List Bool:=[O,I,O,O,O,O,O,I,O,O,O,I,O,I,O,O,I,O,I,I,I,O,O,O,O,O,O,O,O,O,O,O,O,O,O,O,O,O,O,O,O,O,O,O,O,O,O,O,O,O,O,O,O,O,O,O,O,O,O,O,O,O,O,O,O,O,O,O,O,O,O,O,O,O,O,O,O,O,O,O,O,O,O,O,O,O,O,O,O,O,O,O,O,O,O,O,O,O,O,O,O,O,O,O,O,O,O,O,O,O,O,O,O,O,O,O,O,O,O,O,O,O,O,O,O,O,O,O,O,O,O,O,O,O,O,O,O,O,O,O,O,O]
abbrev yN:List AG:=[zz1 95 21,zz6 96 95 1,zz1 21 96]
abbrev yO:List AG:=[zz1 106 20,zz1 107 9,zz1 108 21,zz5 109 1 107 108,zz2 110 1 109,o 111 (.lit 1 [(.bool false)] [(0,(.t 110))]),o 112 (.append 1 t_bool 1 (.t 106) (.t 111)),zz1 20 112]
abbrev yP:List AG:=[zz3 97 4 19,zz4 98 2 3,zz2 99 1 98,zz1 100 21,zz5 101 3 99 100,zz4 102 0 101,zz2 103 1 102,zzg 104 n_r06_Place 97 103,o 105 (.cmp .geq (.sc .int) (.t 104) (.c (.int .i64 0)))]
abbrev yQ:ACode:=(.seq (.dreg [O,O,O,O,O,O,O,O,O] [8,8,8,8,8,8,8,10,10] yP) (.cond (.t 105) (.reg yO) .skip))
abbrev yR:List AG:=[zz1 90 21,zz4 91 2 3,zz2 92 1 91,zza 93 92,zz7 94 90 93]
abbrev yS:ACode:=(.seq (.seq (.reg yR) (.cond (.t 94) .skip (.exit 2))) (.seq (.block 3 [] yQ) (.reg yN)))
abbrev yT:List AG:=[zz9 21 0]
abbrev yU:List AG:=[o 20 (.nilrow 1 t_bool)]
abbrev yV:List AG:=[zz3 88 4 3,zzf 89 n_order_Trim 88,o 19 (.alloc [(.own 1 t_string []),(.own 1 t_string []),(.own 3 t_api_Latch_2 []),(.own 5 t_api_Gate [])]),zzb 4 19 89]
abbrev yW:List AG:=[zz3 81 4 14,zz1 82 9,zz1 83 1,o 84 (.call (.f n_step_Run) [(.t 81),(.t 82),(.t 83)]),zz1 80 84,zzc 85 80 0,zzc 86 80 1,zzc 87 80 2,zz1 16 85,zz1 17 86,zz1 18 87]
abbrev yX:List Bool:=[O,I,O,I,O,O,O,I,O,I,O,I,O,I,I,I,O,O,O,O,O,O,O,O,O,O,O,O,O,O,O,O,O,O,O,O,O,O,O,O,O,O,O,O,O,O,O,O,O,O,O,O,O,O,O,O,O,O,O,O,O,O,O,O,O,O,O,O,O,O,O,O,O,O,O,O,O,O,O,O,O,O,O,O,O,O,O,O,O,O,O,O,O,O,O,O,O,O,O,O,O,O,O,O,O,O,O,O,O,O,O,O,O,O,O,O,O,O,O,O,O,O,O,O,O,O,O,O,O,O,O,O,O,O,O,O,O,O,O,O,O,O]
abbrev yY:List Bool:=[O,I,O,I,O,O,O,I,O,I,O,I,O,I,I,O,O,O,O,O,O,O,O,O,O,O,O,O,O,O,O,O,O,O,O,O,O,O,O,O,O,O,O,O,O,O,O,O,O,O,O,O,O,O,O,O,O,O,O,O,O,O,O,O,O,O,O,O,O,O,O,O,O,O,O,O,O,O,O,O,O,O,O,O,O,O,O,O,O,O,O,O,O,O,O,O,O,O,O,O,O,O,O,O,O,O,O,O,O,O,O,O,O,O,O,O,O,O,O,O,O,O,O,O,O,O,O,O,O,O,O,O,O,O,O,O,O,O,O,O,O,O]
abbrev yZ:List AG:=[zz1 68 15,o 69 (.ibin .sub (.t 68) (.c (.int .i64 1))),zz1 15 69]
abbrev yba:List AG:=[zz4 70 3 14,zz2 71 1 70,zz4 72 3 3,zz2 73 1 72,zz1 74 15,zz5 75 5 73 74,zz3 76 5 75,o 77 (.lit 5 [(.agg [(.str []),(.int .i64 0),(.list true 0 []),(.list true 0 []),(.bool false)])] [(0,(.t 76))]),o 78 (.append 5 t_api_Gate 80 (.t 71) (.t 77)),zz4 79 3 14,zzb 1 79 78]
abbrev ybb:List AG:=[zz1 66 15,o 67 (.cmp .geq (.sc .int) (.t 66) (.c (.int .i64 0)))]
abbrev ybc:ACode:=(.seq (.seq (.reg ybb) (.cond (.t 67) .skip (.exit 0))) (.seq (.block 1 [] (.dreg [O,I,O,O,O,O,O,O,O,O,O] [9,9,8,8,8,8,8,9,11,11,12] yba)) (.reg yZ)))
abbrev ybd:List AG:=[zz4 62 3 3,zz2 63 1 62,zza 64 63,o 65 (.ibin .sub (.t 64) (.c (.int .i64 1))),zz1 15 65]
abbrev ybe:List AG:=[zz4 61 3 14,q (.store 1 (.t 61) (.c (.list true 0 [])))]
abbrev ybf:List AG:=[zz3 60 4 3,o 14 (.alloc [(.own 1 t_string []),(.own 1 t_string []),(.own 3 t_api_Latch_2 []),(.own 5 t_api_Gate [])]),zzb 4 14 60]
abbrev ybg:List AG:=[zz3 53 4 3,zz1 54 9,zz1 55 1,o 56 (.call (.f n_step_Run) [(.t 53),(.t 54),(.t 55)]),zz1 52 56,zzc 57 52 0,zzc 58 52 1,zzc 59 52 2,zz1 11 57,zz1 12 58,zz1 13 59]
abbrev ybh:List AG:=[zz1 51 7,zz1 6 51]
abbrev ybi:ACode:=(.seq (.reg ybh) .ret)
abbrev ybj:List AG:=[zz1 40 8,o 41 (.not (.t 40)),zz1 42 41,on 43 42 (.mv (.t 10)),on 44 42 (.cmp .neq (.sc .int) (.t 43) (.c (.int .i64 0))),o 45 (.pick (.t 42) (.c (.bool true)) (.t 44)),zz1 46 45,on 47 46 (.mv (.t 2)),on 48 46 (.len (.t 47)),on 49 46 (.cmp .gtr (.sc .int) (.t 48) (.c (.int .i64 60))),o 50 (.pick (.t 46) (.c (.bool true)) (.t 49))]
abbrev ybk:List AG:=[zz3 35 4 3,zz1 36 2,zzg 37 n_step_Start 35 36,zz1 34 37,zzc 38 34 0,zzc 39 34 1,zz1 9 38,zz1 10 39]
abbrev ybl:List AG:=[zz3 28 4 3,zzf 29 n_w06_Few 28,zz1 30 29,zze 31 30 1,oy 32 30 (.call (.f n_w08_Rows) [(.t 31),(.c (.int .i64 12))]),zz8 33 30 32,zz1 8 33]
abbrev ybm:List AG:=[zzh 6]
abbrev ybn:ACode:=(.seq (.reg ybm) .ret)
abbrev ybo:List AG:=[zz1 26 7,o 27 (.not (.t 26))]
abbrev ybp:List AG:=[o 25 (.call (.f n_w08_works) []),zz1 7 25]
abbrev ybq:List AG:=[o 3 (.box 4 (.t 0)),zzh 6]
abbrev w08_StepSame:AFun:=⟨(.seq (.reg ybq) (.seq (.reg ybp) (.seq (.seq (.reg ybo) (.cond (.t 27) ybn .skip)) (.seq (.reg ybl) (.seq (.reg ybk) (.seq (.seq (.reg ybj) (.cond (.t 50) ybi .skip)) (.seq (.reg ybg) (.seq (.reg ybf) (.seq (.reg ybe) (.seq (.seq (.reg ybd) (.block 0 yY (.loop yX ybc))) (.seq (.reg yW) (.seq (.reg yV) (.seq (.reg yU) (.seq (.seq (.reg yT) (.block 2 yM (.loop yL yS))) (.seq (.reg yK) (.seq (.reg yJ) .ret)))))))))))))))),142,[.tmp 6]⟩
abbrev ybr:List It:=[.code (.seq (.reg yK) (.seq (.reg yJ) .ret))]
abbrev ybs (x1 x3 x7 x9 x11 x13 x16 x18 x19 x20 x21:AV) (h:List Ob) (e:Cx:=cx):Cfg:=atC n_w08_StepSame (.code yS::.inLoop yL yS::.inBlock 2 yM::ybr) [U,x1,U,x3,U,U,U,x7,U,x9,U,x11,U,x13,U,U,x16,U,x18,x19,x20,x21,U,U,U,U,U,U,U,U,U,U,U,U,U,U,U,U,U,U,U,U,U,U,U,U,U,U,U,U,U,U,U,U,U,U,U,U,U,U,U,U,U,U,U,U,U,U,U,U,U,U,U,U,U,U,U,U,U,U,U,U,U,U,U,U,U,U,U,U,U,U,U,U,U,U,U,U,U,U,U,U,U,U,U,U,U,U,U,U,U,U,U,U,U,U,U,U,U,U,U,U,U,U,U,U,U,U,U,U,U,U,U,U,U,U,U,U,U,U,U,U] h e
abbrev ybt (x1 x7 x11 x13 x16 x18 x19 x20:AV) (h:List Ob) (e:Cx:=cx):Cfg:=atC n_w08_StepSame ybr [U,x1,U,U,U,U,U,x7,U,U,U,x11,U,x13,U,U,x16,U,x18,x19,x20,U,U,U,U,U,U,U,U,U,U,U,U,U,U,U,U,U,U,U,U,U,U,U,U,U,U,U,U,U,U,U,U,U,U,U,U,U,U,U,U,U,U,U,U,U,U,U,U,U,U,U,U,U,U,U,U,U,U,U,U,U,U,U,U,U,U,U,U,U,U,U,U,U,U,U,U,U,U,U,U,U,U,U,U,U,U,U,U,U,U,U,U,U,U,U,U,U,U,U,U,U,U,U,U,U,U,U,U,U,U,U,U,U,U,U,U,U,U,U,U,U] h e
abbrev ybu:List It:=[.code (.seq (.reg yW) (.seq (.reg yV) (.seq (.reg yU) (.seq (.seq (.reg yT) (.block 2 yM (.loop yL yS))) (.seq (.reg yK) (.seq (.reg yJ) .ret))))))]
abbrev ybv (x1 x3 x7 x9 x11 x13 x14 x15:AV) (h:List Ob) (e:Cx:=cx):Cfg:=atC n_w08_StepSame (.code ybc::.inLoop yX ybc::.inBlock 0 yY::ybu) [U,x1,U,x3,U,U,U,x7,U,x9,U,x11,U,x13,x14,x15,U,U,U,U,U,U,U,U,U,U,U,U,U,U,U,U,U,U,U,U,U,U,U,U,U,U,U,U,U,U,U,U,U,U,U,U,U,U,U,U,U,U,U,U,U,U,U,U,U,U,U,U,U,U,U,U,U,U,U,U,U,U,U,U,U,U,U,U,U,U,U,U,U,U,U,U,U,U,U,U,U,U,U,U,U,U,U,U,U,U,U,U,U,U,U,U,U,U,U,U,U,U,U,U,U,U,U,U,U,U,U,U,U,U,U,U,U,U,U,U,U,U,U,U,U,U] h e
abbrev ybw (x1 x3 x7 x9 x11 x13 x14:AV) (h:List Ob) (e:Cx:=cx):Cfg:=atC n_w08_StepSame ybu [U,x1,U,x3,U,U,U,x7,U,x9,U,x11,U,x13,x14,U,U,U,U,U,U,U,U,U,U,U,U,U,U,U,U,U,U,U,U,U,U,U,U,U,U,U,U,U,U,U,U,U,U,U,U,U,U,U,U,U,U,U,U,U,U,U,U,U,U,U,U,U,U,U,U,U,U,U,U,U,U,U,U,U,U,U,U,U,U,U,U,U,U,U,U,U,U,U,U,U,U,U,U,U,U,U,U,U,U,U,U,U,U,U,U,U,U,U,U,U,U,U,U,U,U,U,U,U,U,U,U,U,U,U,U,U,U,U,U,U,U,U,U,U,U,U] h e
@[simp] theorem c_w08_StepSame:cfun Tryz.prog n_w08_StepSame=some w08_StepSame:=by kernel_rfl
@[simp] theorem e_w08_StepSame:hasBody Tryz.prog n_w08_StepSame=true:=by kernel_rfl
abbrev ybx:List AG:=[zz1 106 5,zz1 107 106,zze 108 107 10,oy 109 107 (.cmp .eql (.sc .int) (.t 108) (.c (.int .i64 0))),zz8 110 107 109,zz1 111 110,zze 112 111 7,zze 113 111 9,oy 114 111 (.cmp .eql (.sc .bool) (.t 112) (.t 113)),zz8 115 111 114,zz1 116 115,zze 117 116 16,oy 118 116 (.cmp .eql (.sc .int) (.t 117) (.c (.int .i64 0))),zz8 119 116 118,zz1 120 119,zze 121 120 15,zze 122 120 7,oy 123 120 (.not (.t 122)),oy 124 120 (.cmp .eql (.sc .bool) (.t 121) (.t 123)),zz8 125 120 124,zz1 4 125]
abbrev yby:List AG:=[zz3 101 5 11,zz1 102 14,zzg 103 n_step_Gate 101 102,zz1 100 103,zzc 104 100 0,zzc 105 100 1,zz1 15 104,zz1 16 105]
abbrev ybz:List AG:=[zz4 77 1 11,q (.store 1 (.t 77) (.c (.int .i64 1)))]
abbrev ybA:List AG:=[zz4 80 1 11,q (.store 1 (.t 80) (.c (.int .i64 3)))]
abbrev ybB:List AG:=[zz1 84 12,zz1 14 84]
abbrev ybC:List AG:=[zz4 83 1 11,q (.store 1 (.t 83) (.c (.int .i64 6)))]
abbrev ybD:List AG:=[zz4 87 1 11,q (.store 1 (.t 87) (.c (.int .i64 4)))]
abbrev ybE:List AG:=[zz4 90 1 11,q (.store 1 (.t 90) (.c (.int .i64 6)))]
abbrev ybF:List AG:=[zz4 93 1 11,q (.store 1 (.t 93) (.c (.int .i64 9)))]
abbrev ybG:List AG:=[zz4 96 4 2,zz2 97 1 96,o 98 (.not (.t 97)),zz4 99 4 11,zzb 1 99 98]
abbrev ybH:List AG:=[zz1 65 5,zz1 66 65,zze 67 66 10,oy 68 66 (.cmp .eql (.sc .int) (.t 67) (.c (.int .i64 0))),zz8 69 66 68,zz1 70 69,zze 71 70 7,zze 72 70 9,oy 73 70 (.cmp .eql (.sc .bool) (.t 71) (.t 72)),zz8 74 70 73,zz1 4 74]
abbrev ybI:ACode:=(.seq (.reg ybH) .ret)
abbrev ybJ:List AG:=[o 95 (.cmp .eql (.sc .int) (.t 64) (.c (.int .i64 10))),zz1 94 95]
abbrev ybK:ACode:=(.seq (.reg ybJ) (.cond (.t 94) (.reg ybG) ybI))
abbrev ybL:List AG:=[o 92 (.cmp .eql (.sc .int) (.t 64) (.c (.int .i64 8))),zz1 91 92]
abbrev ybM:ACode:=(.seq (.reg ybL) (.cond (.t 91) (.reg ybF) ybK))
abbrev ybN:List AG:=[o 89 (.cmp .eql (.sc .int) (.t 64) (.c (.int .i64 7))),zz1 88 89]
abbrev ybO:ACode:=(.seq (.reg ybN) (.cond (.t 88) (.reg ybE) ybM))
abbrev ybP:List AG:=[o 86 (.cmp .eql (.sc .int) (.t 64) (.c (.int .i64 5))),zz1 85 86]
abbrev ybQ:ACode:=(.seq (.reg ybC) (.reg ybB))
abbrev ybR:ACode:=(.seq (.reg ybP) (.cond (.t 85) (.reg ybD) ybO))
abbrev ybS:List AG:=[o 82 (.cmp .eql (.sc .int) (.t 64) (.c (.int .i64 4))),zz1 81 82]
abbrev ybT:ACode:=(.seq (.reg ybS) (.cond (.t 81) ybQ ybR))
abbrev ybU:List AG:=[o 79 (.cmp .eql (.sc .int) (.t 64) (.c (.int .i64 2))),zz1 78 79]
abbrev ybV:ACode:=(.seq (.reg ybU) (.cond (.t 78) (.reg ybA) ybT))
abbrev ybW:List AG:=[o 76 (.cmp .eql (.sc .int) (.t 64) (.c (.int .i64 0))),zz1 75 76]
abbrev ybX:ACode:=(.seq (.reg ybW) (.cond (.t 75) (.reg ybz) ybV))
abbrev ybY:List AG:=[zz4 63 1 2,zz2 64 1 63]
abbrev ybZ:List AG:=[zz1 62 1,zz1 14 62]
abbrev yca:List Bool:=[O,I,I,O,O,I,O,I,O,I,I,I,I,I,O,O,O,O,O,O,O,O,O,O,O,O,O,O,O,O,O,O,O,O,O,O,O,O,O,O,O,O,O,O,O,O,O,O,O,O,O,O,O,O,O,O,O,O,O,O,O,O,O,O,O,O,O,O,O,O,O,O,O,O,O,O,O,O,O,O,O,O,O,O,O,O,O,O,O,O,O,O,O,O,O,O,O,O,O,O,O,O,O,O,O,O,O,O,O,O,O,O,O,O,O,O,O,O,O,O,O,O,O,O,O,O]
abbrev ycb:List Bool:=[O,I,I,O,O,I,O,I,O,I,I,I,I,O,O,O,O,O,O,O,O,O,O,O,O,O,O,O,O,O,O,O,O,O,O,O,O,O,O,O,O,O,O,O,O,O,O,O,O,O,O,O,O,O,O,O,O,O,O,O,O,O,O,O,O,O,O,O,O,O,O,O,O,O,O,O,O,O,O,O,O,O,O,O,O,O,O,O,O,O,O,O,O,O,O,O,O,O,O,O,O,O,O,O,O,O,O,O,O,O,O,O,O,O,O,O,O,O,O,O,O,O,O,O,O,O]
abbrev ycc:List AG:=[zz1 52 13,zz6 53 52 1,zz1 13 53]
abbrev ycd:List AG:=[zz1 54 12,zz1 55 1,zz1 56 13,zz5 57 1 55 56,zz2 58 1 57,o 59 (.not (.t 58)),o 60 (.lit 1 [(.bool false)] [(0,(.t 59))]),o 61 (.append 1 t_bool 1 (.t 54) (.t 60)),zz1 12 61]
abbrev yce:List AG:=[zz1 48 13,zz1 49 1,zza 50 49,zz7 51 48 50]
abbrev ycf:ACode:=(.seq (.seq (.reg yce) (.cond (.t 51) .skip (.exit 0))) (.seq (.block 1 [] (.reg ycd)) (.reg ycc)))
abbrev ycg:List AG:=[zz9 13 0]
abbrev ych:List AG:=[o 12 (.nilrow 1 t_bool)]
abbrev yci:List AG:=[zz3 47 5 2,o 11 (.alloc [(.str []),(.int .i64 0),(.own 1 t_string []),(.own 1 t_string []),(.bool false)]),zzb 5 11 47]
abbrev ycj:List AG:=[zz3 41 5 2,zzf 42 n_net_Canon 41,zz1 43 1,zzg 44 n_step_Gate 42 43,zz1 40 44,zzc 45 40 0,zzc 46 40 1,zz1 9 45,zz1 10 46]
abbrev yck:List AG:=[zz1 39 5,zz1 4 39]
abbrev ycl:ACode:=(.seq (.reg yck) .ret)
abbrev ycm:List AG:=[zz1 28 6,o 29 (.not (.t 28)),zz1 30 29,on 31 30 (.mv (.t 8)),on 32 30 (.cmp .neq (.sc .int) (.t 31) (.c (.int .i64 0))),o 33 (.pick (.t 30) (.c (.bool true)) (.t 32)),zz1 34 33,on 35 34 (.mv (.t 1)),on 36 34 (.len (.t 35)),on 37 34 (.cmp .gtr (.sc .int) (.t 36) (.c (.int .i64 60))),o 38 (.pick (.t 34) (.c (.bool true)) (.t 37))]
abbrev ycn:List AG:=[zz3 23 5 2,zz1 24 1,zzg 25 n_step_Gate 23 24,zz1 22 25,zzc 26 22 0,zzc 27 22 1,zz1 7 26,zz1 8 27]
abbrev yco:List AG:=[zz3 20 5 2,zzf 21 n_w06_FewGate 20,zz1 6 21]
abbrev ycp:List AG:=[zzh 4]
abbrev ycq:ACode:=(.seq (.reg ycp) .ret)
abbrev ycr:List AG:=[zz1 18 5,o 19 (.not (.t 18))]
abbrev ycs:List AG:=[o 17 (.call (.f n_w08_works) []),zz1 5 17]
abbrev yct:List AG:=[o 2 (.box 5 (.t 0)),zzh 4]
abbrev w08_StepTurns:AFun:=⟨(.seq (.reg yct) (.seq (.reg ycs) (.seq (.seq (.reg ycr) (.cond (.t 19) ycq .skip)) (.seq (.reg yco) (.seq (.reg ycn) (.seq (.seq (.reg ycm) (.cond (.t 38) ycl .skip)) (.seq (.reg ycj) (.seq (.reg yci) (.seq (.reg ych) (.seq (.seq (.reg ycg) (.block 0 ycb (.loop yca ycf))) (.seq (.reg ybZ) (.seq (.seq (.reg ybY) (.block 2 [] ybX)) (.seq (.reg yby) (.seq (.reg ybx) .ret)))))))))))))),126,[.tmp 4]⟩
@[simp] theorem c_w08_StepTurns:cfun Tryz.prog n_w08_StepTurns=some w08_StepTurns:=by kernel_rfl
@[simp] theorem e_w08_StepTurns:hasBody Tryz.prog n_w08_StepTurns=true:=by kernel_rfl
abbrev ycu:List AG:=[zz1 54 3,o 55 (.cmp .eql (.sc .int) (.t 54) (.c (.int .i64 0))),zz1 56 55,zze 57 56 4,oy 58 56 (.lit 1 [(.bool false)] [(0,(.c (.bool false)))]),oy 59 56 (.lit 1 [(.bool false)] [(0,(.c (.bool true)))]),oy 60 56 (.lit 1 [(.bool false)] [(0,(.c (.bool false)))]),oy 61 56 (.lit 1 [(.list true 0 []),(.list true 0 []),(.list true 0 [])] [(0,(.t 58)),(1,(.t 59)),(2,(.t 60))]),oy 62 56 (.call (.f n_r08_Rows) [(.t 57),(.t 61)]),zz8 63 56 62,zz1 64 63,zze 65 64 5,oy 66 64 (.len (.t 65)),oy 67 64 (.cmp .eql (.sc .int) (.t 66) (.c (.int .i64 1))),zz8 68 64 67,zz1 69 68,zze 70 69 5,oy 71 69 (.ixAddr 1 (.t 70) (.c (.int .i64 0))),zzd 72 69 1 71,zz8 73 69 72,zz1 74 73,zze 75 74 6,oy 76 74 (.cmp .eql (.sc .int) (.t 75) (.c (.int .i64 0))),zz8 77 74 76,zz1 78 77,zze 79 78 7,oy 80 78 (.not (.t 79)),zz8 81 78 80,zz1 82 81,zze 83 82 8,oy 84 82 (.cmp .eql (.sc .int) (.t 83) (.c (.int .i64 0))),zz8 85 82 84,zz1 86 85,zze 87 86 9,oy 88 86 (.lit 1 [(.bool false),(.bool false)] [(0,(.c (.bool false))),(1,(.c (.bool true)))]),oy 89 86 (.call (.f n_r08_Bools) [(.t 87),(.t 88)]),zz8 90 86 89,zz1 91 90,zze 92 91 10,oy 93 91 (.cmp .eql (.sc .int) (.t 92) (.c (.int .i64 0))),zz8 94 91 93,zz1 95 94,zze 96 95 13,oy 97 95 (.cmp .eql (.sc .int) (.t 96) (.c (.int .i64 11))),zz8 98 95 97,zz1 99 98,oy 100 99 (.load true 4 (.t 1)),zze 101 99 2,oy 102 99 (.call (.f n_step_Allowed) [(.t 100),(.t 101)]),zz8 103 99 102,zz1 104 103,oy 105 104 (.load true 4 (.t 1)),zze 106 104 5,oy 107 104 (.call (.f n_step_Allowed) [(.t 105),(.t 106)]),oy 108 104 (.not (.t 107)),zz8 109 104 108,zz1 0 109]
abbrev ycv:List AG:=[zz3 49 4 1,o 50 (.call (.f n_step_Step) [(.t 49),(.c (.list true 0 [])),(.c (.list true 0 []))]),zz1 48 50,zzc 51 48 0,zzc 52 48 1,zzc 53 48 2,zz1 11 51,zz1 12 52,zz1 13 53]
abbrev ycw:List AG:=[zz3 43 4 1,zz1 44 2,o 45 (.call (.f n_step_Values) [(.t 43),(.t 44),(.c (.list true 0 []))]),zz1 42 45,zzc 46 42 0,zzc 47 42 1,zz1 9 46,zz1 10 47]
abbrev ycx:List AG:=[o 35 (.lit 1 [(.str []),(.str [])] [(0,(.c (.str [97]))),(1,(.c (.str [98])))]),o 36 (.lit 1 [(.str [])] [(0,(.c (.str [49,45])))]),o 37 (.build [(.str []),(.int .i64 0),(.list true 0 []),(.list true 0 []),(.bool false)] [(1,1,(.c (.int .i64 10))),(2,1,(.t 35)),(3,1,(.t 36)),(4,1,(.c (.bool true)))]),o 38 (.lit 1 [(.bool false),(.bool false)] [(0,(.c (.bool true))),(1,(.c (.bool false)))]),zzg 39 n_step_Gate 37 38,zz1 34 39,zzc 40 34 0,zzc 41 34 1,zz1 7 40,zz1 8 41]
abbrev ycy:List AG:=[zz3 27 4 1,zz1 28 2,o 29 (.lit 1 [(.list true 0 []),(.list true 0 []),(.list true 0 [])] [(0,(.c (.list true 0 []))),(1,(.c (.list true 0 []))),(2,(.c (.list true 0 [])))]),o 30 (.call (.f n_step_Run) [(.t 27),(.t 28),(.t 29)]),zz1 26 30,zzc 31 26 0,zzc 32 26 1,zzc 33 26 2,zz1 4 31,zz1 5 32,zz1 6 33]
abbrev ycz:List AG:=[zz3 22 4 1,o 23 (.call (.f n_step_Start) [(.t 22),(.c (.list true 0 []))]),zz1 21 23,zzc 24 21 0,zzc 25 21 1,zz1 2 24,zz1 3 25]
abbrev ycA:List AG:=[o 14 (.lit 1 [(.str [])] [(0,(.c (.str [113])))]),o 15 (.build [(.str []),(.str []),(.int .i64 0)] [(0,1,(.c (.str [113]))),(1,1,(.c (.str [122])))]),o 16 (.lit 3 [(.agg [(.str []),(.str []),(.int .i64 0)])] [(0,(.t 15))]),o 17 (.lit 1 [(.str [])] [(0,(.c (.str [113])))]),o 18 (.build [(.str []),(.int .i64 0),(.list true 0 []),(.list true 0 []),(.bool false)] [(0,1,(.c (.str [122]))),(1,1,(.c (.int .i64 3))),(2,1,(.t 17))]),o 19 (.lit 5 [(.agg [(.str []),(.int .i64 0),(.list true 0 []),(.list true 0 []),(.bool false)])] [(0,(.t 18))]),o 20 (.build [(.list true 0 []),(.list true 0 []),(.list true 0 []),(.list true 0 [])] [(1,1,(.t 14)),(2,1,(.t 16)),(3,1,(.t 19))]),o 1 (.alloc [(.own 1 t_string []),(.own 1 t_string []),(.own 3 t_api_Latch_2 []),(.own 5 t_api_Gate [])]),zzb 4 1 20]
abbrev ycB:List AG:=[zzh 0]
abbrev w08_works:AFun:=⟨(.seq (.reg ycB) (.seq (.reg ycA) (.seq (.reg ycz) (.seq (.reg ycy) (.seq (.reg ycx) (.seq (.reg ycw) (.seq (.reg ycv) (.seq (.reg ycu) .ret)))))))),110,[.tmp 0]⟩
@[simp] theorem c_w08_works:cfun Tryz.prog n_w08_works=some w08_works:=by kernel_rfl
@[simp] theorem e_w08_works:hasBody Tryz.prog n_w08_works=true:=by kernel_rfl
abbrev ycC:List AG:=[zz1 11 3,zz1 12 11,zze 13 12 4,zz8 14 12 13,zz1 15 14,oy 16 15 (.off 0 (.t 1)),zzd 17 15 1 16,oy 18 15 (.lenStr (.t 17)),oy 19 15 (.cmp .leq (.sc .int) (.t 18) (.c (.int .i64 60))),zz8 20 15 19,zz1 2 20]
abbrev ycD:List AG:=[zz4 8 3 1,zz2 9 1 8,o 10 (.call (.f n_w05_Texts) [(.t 9),(.c (.int .i64 140))]),zz1 4 10]
abbrev ycE:List AG:=[zz4 5 2 1,zz2 6 1 5,o 7 (.call (.f n_w05_Texts) [(.t 6),(.c (.int .i64 12))]),zz1 3 7]
abbrev ycF:List AG:=[o 1 (.box 5 (.t 0)),zzh 2]
abbrev w06_FewGate:AFun:=⟨(.seq (.reg ycF) (.seq (.reg ycE) (.seq (.reg ycD) (.seq (.reg ycC) .ret)))),21,[.tmp 2]⟩
@[simp] theorem c_w06_FewGate:cfun Tryz.prog n_w06_FewGate=some w06_FewGate:=by kernel_rfl
@[simp] theorem e_w06_FewGate:hasBody Tryz.prog n_w06_FewGate=true:=by kernel_rfl
abbrev ycG:List AG:=[zz4 29 0 6,zz2 30 1 29,zz1 31 1,o 32 (.call (.t 30) [(.t 31)]),zz4 33 1 6,zz2 34 1 33,o 35 (.cmp .neq (.sc .bool) (.t 32) (.t 34)),zz1 4 35,zz9 5 0]
abbrev ycH:List AG:=[o 27 (.mkFunc (.func n_step_Gate_1) [] [(.t 2)]),zz4 28 0 6,zzb 1 28 27]
abbrev ycI:List AG:=[zz4 24 4 2,zz2 25 1 24,zz4 26 1 6,zzb 1 26 25]
abbrev ycJ:ACode:=(.seq (.reg ycI) (.reg ycH))
abbrev ycK:List AG:=[zz4 21 1 2,zz2 22 1 21,o 23 (.cmp .eql (.sc .int) (.t 22) (.c (.int .i64 10)))]
abbrev ycL:List AG:=[zz4 18 1 2,zz2 19 1 18,zzf 20 n_step_of 19,o 6 (.alloc [.nilf,(.bool false)]),zzb 2 6 20]
abbrev ycM:List AG:=[zzh 4,zz9 5 1]
abbrev ycN:ACode:=(.seq (.reg ycM) .ret)
abbrev ycO:List AG:=[zz3 7 5 2,zzf 8 n_net_Gate 7,o 9 (.not (.t 8)),zz1 10 9,on 11 10 (.mv (.t 1)),on 12 10 (.len (.t 11)),on 13 10 (.off 2 (.t 2)),on 14 10 (.load false 1 (.t 13)),on 15 10 (.len (.t 14)),on 16 10 (.cmp .neq (.sc .int) (.t 12) (.t 15)),o 17 (.pick (.t 10) (.c (.bool true)) (.t 16))]
abbrev ycP:List AG:=[o 2 (.box 5 (.t 0)),zzh 4,zz9 5 0]
abbrev step_Gate:AFun:=⟨(.seq (.reg ycP) (.seq (.seq (.reg ycO) (.cond (.t 17) ycN .skip)) (.seq (.reg ycL) (.seq (.seq (.reg ycK) (.cond (.t 23) ycJ .skip)) (.seq (.dreg [O,O,O,O,O,I,O,O,O] [4,4,4,10,10,10,10,10,10] ycG) .ret))))),36,[.tmp 4,.tmp 5]⟩
@[simp] theorem c_step_Gate:cfun Tryz.prog n_step_Gate=some step_Gate:=by kernel_rfl
@[simp] theorem e_step_Gate:hasBody Tryz.prog n_step_Gate=true:=by kernel_rfl
abbrev ycQ:List AG:=[zz1 57 11,zz1 58 7,o 59 (.cmp .neq (.sc .bool) (.t 57) (.t 58)),zz1 4 59,zz9 5 0]
abbrev ycR:List Bool:=[O,I,O,O,O,O,I,I,O,O,O,I,I,O,O,O,O,O,O,O,O,O,O,O,O,O,O,O,O,O,O,O,O,O,O,O,O,O,O,O,O,O,O,O,O,O,O,O,O,O,O,O,O,O,O,O,O,O,O,O]
abbrev ycS:List Bool:=[O,O,O,O,O,O,O,I,O,O,O,I,O,O,O,O,O,O,O,O,O,O,O,O,O,O,O,O,O,O,O,O,O,O,O,O,O,O,O,O,O,O,O,O,O,O,O,O,O,O,O,O,O,O,O,O,O,O,O,O]
abbrev ycT:List AG:=[zz1 46 12,zz6 47 46 1,zz1 12 47]
abbrev ycU:List AG:=[zz1 48 11,zz1 49 48,on 50 49 (.mv (.t 6)),on 51 49 (.mv (.t 12)),on 52 49 (.ixAddr 1 (.t 50) (.t 51)),on 53 49 (.load false 1 (.t 52)),on 54 49 (.mv (.t 1)),on 55 49 (.call (.f n_r08_fits) [(.t 53),(.t 54)]),o 56 (.pick (.t 49) (.c (.bool true)) (.t 55)),zz1 11 56]
abbrev ycV:List AG:=[zz1 42 12,zz1 43 6,zza 44 43,zz7 45 42 44]
abbrev ycW:ACode:=(.seq (.seq (.reg ycV) (.cond (.t 45) .skip (.exit 0))) (.seq (.block 1 [] (.reg ycU)) (.reg ycT)))
abbrev ycX:List AG:=[zz9 12 0]
abbrev ycY:List AG:=[zzh 11]
abbrev ycZ:List AG:=[zz1 41 9,zz1 7 41]
abbrev yda:List AG:=[zz1 40 8,zz1 6 40]
abbrev ydb:List AG:=[zz4 32 1 2,zz2 33 1 32,zz1 34 1,zza 35 34,zzg 36 n_r06_Rows 33 35,zz1 31 36,zzc 37 31 0,zzc 38 31 1,zzc 39 31 2,zz1 8 37,zz1 9 38,zz1 10 39]
abbrev ydc:ACode:=(.seq (.reg ydb) (.seq (.reg yda) (.reg ycZ)))
abbrev ydd:List AG:=[zz4 28 1 2,zz2 29 1 28,o 30 (.cmp .neq (.sc .int) (.t 29) (.c (.int .i64 10)))]
abbrev yde:List AG:=[zz4 26 4 2,zz2 27 1 26,zz1 7 27]
abbrev ydf:List AG:=[zz4 24 3 2,zz2 25 1 24,zz1 6 25]
abbrev ydg:List AG:=[zzh 4,zz9 5 1]
abbrev ydh:ACode:=(.seq (.reg ydg) .ret)
abbrev ydi:List AG:=[zz3 13 5 2,zzf 14 n_r06_Gate 13,o 15 (.not (.t 14)),zz1 16 15,on 17 16 (.mv (.t 1)),on 18 16 (.len (.t 17)),on 19 16 (.off 2 (.t 2)),on 20 16 (.load false 1 (.t 19)),on 21 16 (.len (.t 20)),on 22 16 (.cmp .neq (.sc .int) (.t 18) (.t 21)),o 23 (.pick (.t 16) (.c (.bool true)) (.t 22))]
abbrev ydj:List AG:=[o 2 (.box 5 (.t 0)),zzh 4,zz9 5 0]
abbrev r08_Gate:AFun:=⟨(.seq (.reg ydj) (.seq (.seq (.reg ydi) (.cond (.t 23) ydh .skip)) (.seq (.reg ydf) (.seq (.reg yde) (.seq (.seq (.reg ydd) (.cond (.t 30) ydc .skip)) (.seq (.reg ycY) (.seq (.seq (.reg ycX) (.block 0 ycS (.loop ycR ycW))) (.seq (.reg ycQ) .ret)))))))),60,[.tmp 4,.tmp 5]⟩
@[simp] theorem c_r08_Gate:cfun Tryz.prog n_r08_Gate=some r08_Gate:=by kernel_rfl
@[simp] theorem e_r08_Gate:hasBody Tryz.prog n_r08_Gate=true:=by kernel_rfl
abbrev ydk:List AG:=[zz1 6 3,zz1 7 6,oy 8 7 (.off 3 (.t 1)),zzd 9 7 1 8,oy 10 7 (.len (.t 9)),oy 11 7 (.cmp .leq (.sc .int) (.t 10) (.c (.int .i64 24))),zz8 12 7 11,zz1 13 12,oy 14 13 (.off 0 (.t 1)),zzd 15 13 1 14,oy 16 13 (.len (.t 15)),oy 17 13 (.cmp .leq (.sc .int) (.t 16) (.c (.int .i64 24))),zz8 18 13 17,zz1 19 18,oy 20 19 (.off 2 (.t 1)),zzd 21 19 1 20,oy 22 19 (.len (.t 21)),oy 23 19 (.cmp .leq (.sc .int) (.t 22) (.c (.int .i64 24))),zz8 24 19 23,zz1 2 24]
abbrev ydl:List AG:=[zz3 4 4 1,zzf 5 n_w06_Few 4,zz1 3 5]
abbrev ydm:List AG:=[o 1 (.box 4 (.t 0)),zzh 2]
abbrev w07_Little:AFun:=⟨(.seq (.reg ydm) (.seq (.reg ydl) (.seq (.reg ydk) .ret))),25,[.tmp 2]⟩
@[simp] theorem c_w07_Little:cfun Tryz.prog n_w07_Little=some w07_Little:=by kernel_rfl
@[simp] theorem e_w07_Little:hasBody Tryz.prog n_w07_Little=true:=by kernel_rfl
abbrev ydn:List AG:=[zz1 41 6,zz1 4 41,zz9 5 0]
abbrev ydo:List Bool:=[O,I,O,O,O,O,I,O,O,O,O,O,O,O,I,I,I,O,O,O,O,O,O,O,O,O,O,O,O,O,O,O,O,O,O,O,O,O,O,O,O,O]
abbrev ydp:List Bool:=[O,O,O,O,O,O,I,O,O,O,O,O,O,O,O,O,O,O,O,O,O,O,O,O,O,O,O,O,O,O,O,O,O,O,O,O,O,O,O,O,O,O]
abbrev ydq:List AG:=[zz6 40 16 1,zz1 16 40]
abbrev ydr:List AG:=[zz1 36 6,zz1 37 9,o 38 (.lit 1 [(.bool false)] [(0,(.t 37))]),o 39 (.append 1 t_bool 1 (.t 36) (.t 38)),zz1 6 39]
abbrev yds:List AG:=[zz1 31 1,o 32 (.ixAddr 1 (.t 31) (.c (.int .i64 0))),zz2 33 1 32,zz1 34 1,o 35 (.slice 1 (.t 34) (some (.c (.int .i64 1))) none),zz1 9 33,zz1 1 35]
abbrev ydt:List AG:=[zz4 23 2 8,zz2 24 1 23,o 25 (.cmp .eql (.sc .int) (.t 24) (.c (.int .i64 2))),zz1 26 25,zze 27 26 1,oy 28 26 (.len (.t 27)),oy 29 26 (.cmp .gtr (.sc .int) (.t 28) (.c (.int .i64 0))),zz8 30 26 29]
abbrev ydu:List AG:=[zz4 20 2 8,zz2 21 1 20,o 22 (.cmp .eql (.sc .int) (.t 21) (.c (.int .i64 1))),zz1 9 22]
abbrev ydv:List AG:=[zz5 18 3 14 16,zz3 19 3 18,o 8 (.alloc [(.str []),(.str []),(.int .i64 0)]),zzb 3 8 19]
abbrev ydw:ACode:=(.seq (.reg ydv) (.seq (.reg ydu) (.seq (.seq (.reg ydt) (.cond (.t 30) (.dreg [O,O,O,O,O,O,O] [8,8,8,8,8,8,8] yds) .skip)) (.reg ydr))))
abbrev ydx:List AG:=[zz7 17 16 15]
abbrev ydy:ACode:=(.seq (.reg ydx) (.seq (.cond (.t 17) .skip (.exit 0)) (.seq (.block 1 [] ydw) (.reg ydq))))
abbrev ydz:List AG:=[zz4 13 2 2,zz2 14 1 13,zza 15 14,zz9 16 0]
abbrev ydA:List AG:=[o 6 (.nilrow 1 t_bool)]
abbrev ydB:List AG:=[o 4 (.nilrow 1 t_bool),zz9 5 1]
abbrev ydC:ACode:=(.seq (.reg ydB) .ret)
abbrev ydD:List AG:=[zz3 10 4 2,zzf 11 n_step_right 10,o 12 (.not (.t 11))]
abbrev ydE:List AG:=[o 2 (.box 4 (.t 0)),o 4 (.nilrow 1 t_bool),zz9 5 0]
abbrev step_Start:AFun:=⟨(.seq (.reg ydE) (.seq (.seq (.reg ydD) (.cond (.t 12) ydC .skip)) (.seq (.reg ydA) (.seq (.seq (.reg ydz) (.block 0 ydp (.loop ydo ydy))) (.seq (.reg ydn) .ret))))),42,[.tmp 4,.tmp 5]⟩
abbrev ydF:List It:=[.code (.seq (.reg ydn) .ret)]
abbrev ydG (x1 x6 x14 x15 x16:AV) (h:List Ob) (e:Cx:=cx):Cfg:=atC n_step_Start (.code ydy::.inLoop ydo ydy::.inBlock 0 ydp::ydF) [U,x1,U,U,U,U,x6,U,U,U,U,U,U,U,x14,x15,x16,U,U,U,U,U,U,U,U,U,U,U,U,U,U,U,U,U,U,U,U,U,U,U,U,U] h e
@[simp] theorem c_step_Start:cfun Tryz.prog n_step_Start=some step_Start:=by kernel_rfl
@[simp] theorem e_step_Start:hasBody Tryz.prog n_step_Start=true:=by kernel_rfl
abbrev ydH:List AG:=[zz1 50 6,zz1 4 50,zz9 5 0]
abbrev ydI:List Bool:=[O,I,I,O,O,O,I,I,I,O,O,O,O,O,O,O,O,O,O,O,O,O,O,O,O,O,O,O,O,O,O,O,O,O,O,O,O,O,O,O,O,O,O,O,O,O,O,O,O,O,O]
abbrev ydJ:List Bool:=[O,O,O,O,O,O,I,O,O,O,O,O,O,O,O,O,O,O,O,O,O,O,O,O,O,O,O,O,O,O,O,O,O,O,O,O,O,O,O,O,O,O,O,O,O,O,O,O,O,O,O]
abbrev ydK:List AG:=[zz1 18 8,zz6 19 18 1,zz1 8 19]
abbrev ydL:List AG:=[zz1 46 6,zz1 47 9,o 48 (.lit 1 [(.bool false)] [(0,(.t 47))]),o 49 (.append 1 t_bool 1 (.t 46) (.t 48)),zz1 6 49]
abbrev ydM:List AG:=[zz1 44 7,zz6 45 44 1,zz1 7 45]
abbrev ydN:List AG:=[zz1 34 7,zz1 35 1,zza 36 35,zz7 37 34 36,zz1 38 37,zze 39 38 1,zze 40 38 7,oy 41 38 (.ixAddr 1 (.t 39) (.t 40)),zzd 42 38 1 41,zz8 43 38 42,zz1 9 43]
abbrev ydO:ACode:=(.seq (.reg ydN) (.reg ydM))
abbrev ydP:List AG:=[zz4 27 2 2,zz2 28 1 27,zz1 29 8,zz5 30 3 28 29,zz4 31 2 30,zz2 32 1 31,o 33 (.cmp .eql (.sc .int) (.t 32) (.c (.int .i64 2)))]
abbrev ydQ:List AG:=[zz4 20 2 2,zz2 21 1 20,zz1 22 8,zz5 23 3 21 22,zz4 24 2 23,zz2 25 1 24,o 26 (.cmp .eql (.sc .int) (.t 25) (.c (.int .i64 1))),zz1 9 26]
abbrev ydR:ACode:=(.seq (.reg ydQ) (.seq (.seq (.reg ydP) (.cond (.t 33) ydO .skip)) (.reg ydL)))
abbrev ydS:List AG:=[zz1 13 8,zz4 14 2 2,zz2 15 1 14,zza 16 15,zz7 17 13 16]
abbrev ydT:ACode:=(.seq (.seq (.reg ydS) (.cond (.t 17) .skip (.exit 0))) (.seq (.block 1 [] ydR) (.reg ydK)))
abbrev ydU:List AG:=[zz9 8 0]
abbrev ydV:List AG:=[zz9 7 0]
abbrev ydW:List AG:=[o 6 (.nilrow 1 t_bool)]
abbrev ydX:List AG:=[o 4 (.nilrow 1 t_bool),zz9 5 1]
abbrev ydY:ACode:=(.seq (.reg ydX) .ret)
abbrev ydZ:List AG:=[zz3 10 4 2,zzf 11 n_r08_right 10,o 12 (.not (.t 11))]
abbrev yea:List AG:=[o 2 (.box 4 (.t 0)),o 4 (.nilrow 1 t_bool),zz9 5 0]
abbrev r08_Start:AFun:=⟨(.seq (.reg yea) (.seq (.seq (.reg ydZ) (.cond (.t 12) ydY .skip)) (.seq (.reg ydW) (.seq (.reg ydV) (.seq (.seq (.reg ydU) (.block 0 ydJ (.loop ydI ydT))) (.seq (.reg ydH) .ret)))))),51,[.tmp 4,.tmp 5]⟩
@[simp] theorem c_r08_Start:cfun Tryz.prog n_r08_Start=some r08_Start:=by kernel_rfl
@[simp] theorem e_r08_Start:hasBody Tryz.prog n_r08_Start=true:=by kernel_rfl
abbrev yeb:List AG:=[zz1 29 10,zz1 30 8,o 31 (.nilck (.t 30)),zz4 32 4 31,zz2 33 1 32,zzg 34 n_step_pick 29 33,zz1 6 34,zz9 7 0]
abbrev yec:List AG:=[zz1 28 9,o 6 (.nilrow 1 t_bool),zz1 7 28]
abbrev yed:ACode:=(.seq (.reg yec) .ret)
abbrev yee:List AG:=[zz1 26 9,o 27 (.cmp .neq (.sc .int) (.t 26) (.c (.int .i64 0)))]
abbrev yef:List AG:=[zz1 20 8,zz1 21 1,zz1 22 2,o 23 (.call (.f n_step_machine_values) [(.t 20),(.t 21),(.t 22)]),zz1 19 23,zzc 24 19 0,zzc 25 19 1,zz1 10 24,zz1 9 25]
abbrev yeg:List AG:=[zz1 18 9,o 6 (.nilrow 1 t_bool),zz1 7 18]
abbrev yeh:ACode:=(.seq (.reg yeg) .ret)
abbrev yei:List AG:=[zz1 16 9,o 17 (.cmp .neq (.sc .int) (.t 16) (.c (.int .i64 0)))]
abbrev yej:List AG:=[zz3 12 4 3,zzf 13 n_step_begin 12,zz1 11 13,zzc 14 11 0,zzc 15 11 1,zz1 8 14,zz1 9 15]
abbrev yek:List AG:=[o 3 (.box 4 (.t 0)),o 6 (.nilrow 1 t_bool),zz9 7 0]
abbrev step_Values:AFun:=⟨(.seq (.reg yek) (.seq (.reg yej) (.seq (.seq (.reg yei) (.cond (.t 17) yeh .skip)) (.seq (.reg yef) (.seq (.seq (.reg yee) (.cond (.t 27) yed .skip)) (.seq (.reg yeb) .ret)))))),35,[.tmp 6,.tmp 7]⟩
@[simp] theorem c_step_Values:cfun Tryz.prog n_step_Values=some step_Values:=by kernel_rfl
@[simp] theorem e_step_Values:hasBody Tryz.prog n_step_Values=true:=by kernel_rfl
abbrev yel:List AG:=[zz1 108 8,zz1 6 108,zz9 7 0]
abbrev yem:List Bool:=[O,O,O,I,O,O,O,O,I,I,O,I,O,I,O,O,O,O,O,O,O,O,O,O,O,O,O,O,O,O,O,O,O,O,O,O,O,O,O,O,O,O,O,O,O,O,O,O,O,O,O,O,O,O,O,O,O,O,O,O,O,O,O,O,O,O,O,O,O,O,O,O,O,O,O,O,O,O,O,O,O,O,O,O,O,O,O,O,O,O,O,O,O,O,O,O,O,O,O,O,O,O,O,O,O,O,O,O,O]
abbrev yen:List Bool:=[O,O,O,O,O,O,O,O,I,O,O,O,O,O,O,O,O,O,O,O,O,O,O,O,O,O,O,O,O,O,O,O,O,O,O,O,O,O,O,O,O,O,O,O,O,O,O,O,O,O,O,O,O,O,O,O,O,O,O,O,O,O,O,O,O,O,O,O,O,O,O,O,O,O,O,O,O,O,O,O,O,O,O,O,O,O,O,O,O,O,O,O,O,O,O,O,O,O,O,O,O,O,O,O,O,O,O,O,O]
abbrev yeo:List AG:=[zz1 63 13,zz6 64 63 1,zz1 13 64]
abbrev yep:List AG:=[zz1 99 8,zz1 100 9,zz1 101 11,zz1 102 13,zz5 103 1 101 102,zz2 104 1 103,o 105 (.ibin .add (.t 100) (.t 104)),zz1 106 17,zz5 107 1 99 105,zzb 1 107 106]
abbrev yeq:List AG:=[zz3 94 5 14,zz1 95 15,zzg 96 n_r08_Gate 94 95,zz1 93 96,zzc 97 93 0,zzc 98 93 1,zz1 17 97,zz1 18 98]
abbrev yer:List Bool:=[O,O,O,I,O,O,O,O,I,I,O,I,O,I,I,I,I,O,O,O,O,O,O,O,O,O,O,O,O,O,O,O,O,O,O,O,O,O,O,O,O,O,O,O,O,O,O,O,O,O,O,O,O,O,O,O,O,O,O,O,O,O,O,O,O,O,O,O,O,O,O,O,O,O,O,O,O,O,O,O,O,O,O,O,O,O,O,O,O,O,O,O,O,O,O,O,O,O,O,O,O,O,O,O,O,O,O,O,O]
abbrev yes:List Bool:=[O,O,O,I,O,O,O,O,I,I,O,I,O,I,I,I,O,O,O,O,O,O,O,O,O,O,O,O,O,O,O,O,O,O,O,O,O,O,O,O,O,O,O,O,O,O,O,O,O,O,O,O,O,O,O,O,O,O,O,O,O,O,O,O,O,O,O,O,O,O,O,O,O,O,O,O,O,O,O,O,O,O,O,O,O,O,O,O,O,O,O,O,O,O,O,O,O,O,O,O,O,O,O,O,O,O,O,O,O]
abbrev yeu:List AG:=[zz1 78 16,zz6 79 78 1,zz1 16 79]
abbrev yev:List AG:=[zz1 80 15,zz1 81 8,zz3 82 4 3,zz4 83 2 14,zz2 84 1 83,zz1 85 16,zz5 86 1 84 85,zz2 87 1 86,zzg 88 n_r06_Place 82 87,zz5 89 1 81 88,zz2 90 1 89,o 91 (.lit 1 [(.bool false)] [(0,(.t 90))]),o 92 (.append 1 t_bool 1 (.t 80) (.t 91)),zz1 15 92]
abbrev yew:List AG:=[zz1 73 16,zz4 74 2 14,zz2 75 1 74,zza 76 75,zz7 77 73 76]
abbrev yex:ACode:=(.seq (.seq (.reg yew) (.cond (.t 77) .skip (.exit 4))) (.seq (.block 5 [] (.dreg [O,O,O,O,O,O,O,O,O,O,O,O,O,O] [13,12,9,9,9,9,9,9,12,12,12,13,15,15] yev)) (.reg yeu)))
abbrev yey:List AG:=[zz9 16 0]
abbrev yez:List AG:=[o 15 (.nilrow 1 t_bool)]
abbrev yeA:List AG:=[zz4 65 3 3,zz2 66 1 65,zz1 67 11,zz1 68 13,zz5 69 1 67 68,zz2 70 1 69,zz5 71 5 66 70,zz3 72 5 71,o 14 (.alloc [(.str []),(.int .i64 0),(.own 1 t_string []),(.own 1 t_string []),(.bool false)]),zzb 5 14 72]
abbrev yeB:ACode:=(.seq (.dreg [O,I,O,O,O,I,O,I,O,O] [10,10,10,10,10,10,10,10,10,11] yeA) (.seq (.reg yez) (.seq (.seq (.reg yey) (.block 4 yes (.loop yer yex))) (.seq (.reg yeq) (.reg yep)))))
abbrev yeC:List AG:=[zz1 59 13,zz1 60 11,zza 61 60,zz7 62 59 61]
abbrev yeD:ACode:=(.seq (.seq (.reg yeC) (.cond (.t 62) .skip (.exit 2))) (.seq (.block 3 [] yeB) (.reg yeo)))
abbrev yeE:List AG:=[zz9 13 0]
abbrev yeF:List AG:=[zz3 55 4 3,zzf 56 n_r07_Sort 55,zz1 54 56,zzc 57 54 0,zzc 58 54 1,zz1 11 57,zz1 12 58]
abbrev yeG:List Bool:=[O,O,O,I,O,O,O,O,I,I,I,O,O,O,O,O,O,O,O,O,O,O,O,O,O,O,O,O,O,O,O,O,O,O,O,O,O,O,O,O,O,O,O,O,O,O,O,O,O,O,O,O,O,O,O,O,O,O,O,O,O,O,O,O,O,O,O,O,O,O,O,O,O,O,O,O,O,O,O,O,O,O,O,O,O,O,O,O,O,O,O,O,O,O,O,O,O,O,O,O,O,O,O,O,O,O,O,O,O]
abbrev yeH:List Bool:=[O,O,O,I,O,O,O,O,I,I,O,O,O,O,O,O,O,O,O,O,O,O,O,O,O,O,O,O,O,O,O,O,O,O,O,O,O,O,O,O,O,O,O,O,O,O,O,O,O,O,O,O,O,O,O,O,O,O,O,O,O,O,O,O,O,O,O,O,O,O,O,O,O,O,O,O,O,O,O,O,O,O,O,O,O,O,O,O,O,O,O,O,O,O,O,O,O,O,O,O,O,O,O,O,O,O,O,O,O]
abbrev yeI:List AG:=[zz1 49 10,zz6 50 49 1,zz1 10 50]
abbrev yeJ:List AG:=[zz1 51 8,o 52 (.lit 1 [(.bool false)] [(0,(.c (.bool false)))]),o 53 (.append 1 t_bool 1 (.t 51) (.t 52)),zz1 8 53]
abbrev yeK:List AG:=[zz1 44 10,zz4 45 3 3,zz2 46 1 45,zza 47 46,zz7 48 44 47]
abbrev yeL:ACode:=(.seq (.seq (.reg yeK) (.cond (.t 48) .skip (.exit 0))) (.seq (.block 1 [] (.reg yeJ)) (.reg yeI)))
abbrev yeM:List AG:=[zz9 10 0]
abbrev yeN:List AG:=[zz1 42 8,zza 43 42,zz1 9 43]
abbrev yeO:List AG:=[zz1 39 8,zz1 40 1,o 41 (.append 1 t_bool 1 (.t 39) (.t 40)),zz1 8 41]
abbrev yeP:List AG:=[zz1 36 8,zz1 37 2,o 38 (.append 1 t_bool 1 (.t 36) (.t 37)),zz1 8 38]
abbrev yeQ:List AG:=[o 8 (.nilrow 1 t_bool)]
abbrev yeR:List AG:=[o 6 (.nilrow 1 t_bool),zz9 7 11]
abbrev yeS:ACode:=(.seq (.reg yeR) .ret)
abbrev yeT:List AG:=[zz1 22 1,zza 23 22,zz4 24 2 3,zz2 25 1 24,zza 26 25,o 27 (.cmp .neq (.sc .int) (.t 23) (.t 26)),zz1 28 27,on 29 28 (.mv (.t 2)),on 30 28 (.len (.t 29)),on 31 28 (.off 0 (.t 3)),on 32 28 (.load false 1 (.t 31)),on 33 28 (.len (.t 32)),on 34 28 (.cmp .neq (.sc .int) (.t 30) (.t 33)),o 35 (.pick (.t 28) (.c (.bool true)) (.t 34))]
abbrev yeU:List AG:=[o 6 (.nilrow 1 t_bool),zz9 7 1]
abbrev yeV:ACode:=(.seq (.reg yeU) .ret)
abbrev yeW:List AG:=[zz3 19 4 3,zzf 20 n_r08_right 19,o 21 (.not (.t 20))]
abbrev yeX:List AG:=[o 3 (.box 4 (.t 0)),o 6 (.nilrow 1 t_bool),zz9 7 0]
abbrev r08_Values:AFun:=⟨(.seq (.reg yeX) (.seq (.seq (.reg yeW) (.cond (.t 21) yeV .skip)) (.seq (.seq (.reg yeT) (.cond (.t 35) yeS .skip)) (.seq (.reg yeQ) (.seq (.reg yeP) (.seq (.reg yeO) (.seq (.reg yeN) (.seq (.seq (.reg yeM) (.block 0 yeH (.loop yeG yeL))) (.seq (.reg yeF) (.seq (.seq (.reg yeE) (.block 2 yen (.loop yem yeD))) (.seq (.reg yel) .ret))))))))))),109,[.tmp 6,.tmp 7]⟩
@[simp] theorem c_r08_Values:cfun Tryz.prog n_r08_Values=some r08_Values:=by kernel_rfl
@[simp] theorem e_r08_Values:hasBody Tryz.prog n_r08_Values=true:=by kernel_rfl
abbrev yeY:List AG:=[zz1 19 9,zz1 20 1,zz1 21 2,o 22 (.call (.f n_step_machine_step) [(.t 19),(.t 20),(.t 21)]),zzc 23 22 0,zzc 24 22 1,zzc 25 22 2,zz1 6 23,zz1 7 24,zz1 8 25]
abbrev yeZ:List AG:=[zz1 18 10,o 6 (.nilrow 1 t_bool),o 7 (.nilrow 1 t_bool),zz1 8 18]
abbrev yfa:ACode:=(.seq (.reg yeZ) .ret)
abbrev yfb:List AG:=[zz1 16 10,o 17 (.cmp .neq (.sc .int) (.t 16) (.c (.int .i64 0)))]
abbrev yfc:List AG:=[zz3 12 4 3,zzf 13 n_step_begin 12,zz1 11 13,zzc 14 11 0,zzc 15 11 1,zz1 9 14,zz1 10 15]
abbrev yfd:List AG:=[o 3 (.box 4 (.t 0)),o 6 (.nilrow 1 t_bool),o 7 (.nilrow 1 t_bool),zz9 8 0]
abbrev step_Step:AFun:=⟨(.seq (.reg yfd) (.seq (.reg yfc) (.seq (.seq (.reg yfb) (.cond (.t 17) yfa .skip)) (.seq (.reg yeY) .ret)))),26,[.tmp 6,.tmp 7,.tmp 8]⟩
@[simp] theorem c_step_Step:cfun Tryz.prog n_step_Step=some step_Step:=by kernel_rfl
@[simp] theorem e_step_Step:hasBody Tryz.prog n_step_Step=true:=by kernel_rfl
abbrev yfe:List AG:=[zz1 66 11,zz1 67 12,zz1 6 66,zz1 7 67,zz9 8 0]
abbrev yff:List Bool:=[O,O,O,I,O,O,O,O,O,I,O,I,I,O,I,O,O,O,O,O,O,O,O,O,O,O,O,O,O,O,O,O,O,O,O,O,O,O,O,O,O,O,O,O,O,O,O,O,O,O,O,O,O,O,O,O,O,O,O,O,O,O,O,O,O,O,O,O]
abbrev yfg:List Bool:=[O,O,O,O,O,O,O,O,O,O,O,I,I,O,O,O,O,O,O,O,O,O,O,O,O,O,O,O,O,O,O,O,O,O,O,O,O,O,O,O,O,O,O,O,O,O,O,O,O,O,O,O,O,O,O,O,O,O,O,O,O,O,O,O,O,O,O,O]
abbrev yfh:List AG:=[zz1 50 14,zz6 51 50 1,zz1 14 51]
abbrev yfi:List AG:=[zz1 52 12,zz1 53 9,zz3 54 4 3,zz4 55 2 3,zz2 56 1 55,zz1 57 14,zz5 58 3 56 57,zz4 59 1 58,zz2 60 1 59,zzg 61 n_r06_Place 54 60,zz5 62 1 53 61,zz2 63 1 62,o 64 (.lit 1 [(.bool false)] [(0,(.t 63))]),o 65 (.append 1 t_bool 1 (.t 52) (.t 64)),zz1 12 65]
abbrev yfj:List AG:=[zz1 45 14,zz4 46 2 3,zz2 47 1 46,zza 48 47,zz7 49 45 48]
abbrev yfk:ACode:=(.seq (.seq (.reg yfj) (.cond (.t 49) .skip (.exit 2))) (.seq (.block 3 [] (.dreg [O,O,O,O,O,O,O,O,O,O,O,O,O,O,O] [14,13,10,10,10,10,10,10,10,13,13,13,14,16,16] yfi)) (.reg yfh)))
abbrev yfl:List AG:=[zz9 14 0]
abbrev yfm:List Bool:=[O,O,O,I,O,O,O,O,O,I,O,I,I,I,O,O,O,O,O,O,O,O,O,O,O,O,O,O,O,O,O,O,O,O,O,O,O,O,O,O,O,O,O,O,O,O,O,O,O,O,O,O,O,O,O,O,O,O,O,O,O,O,O,O,O,O,O,O]
abbrev yfn:List Bool:=[O,O,O,I,O,O,O,O,O,I,O,I,I,O,O,O,O,O,O,O,O,O,O,O,O,O,O,O,O,O,O,O,O,O,O,O,O,O,O,O,O,O,O,O,O,O,O,O,O,O,O,O,O,O,O,O,O,O,O,O,O,O,O,O,O,O,O,O]
abbrev yfo:List AG:=[zz1 30 13,zz6 31 30 1,zz1 13 31]
abbrev yfp:List AG:=[zz1 32 11,zz1 33 9,zz3 34 4 3,zz4 35 1 3,zz2 36 1 35,zz1 37 13,zz5 38 1 36 37,zz2 39 1 38,zzg 40 n_r06_Place 34 39,zz5 41 1 33 40,zz2 42 1 41,o 43 (.lit 1 [(.bool false)] [(0,(.t 42))]),o 44 (.append 1 t_bool 1 (.t 32) (.t 43)),zz1 11 44]
abbrev yfq:List AG:=[zz1 25 13,zz4 26 1 3,zz2 27 1 26,zza 28 27,zz7 29 25 28]
abbrev yfr:ACode:=(.seq (.seq (.reg yfq) (.cond (.t 29) .skip (.exit 0))) (.seq (.block 1 [] (.dreg [O,O,O,O,O,O,O,O,O,O,O,O,O,O] [13,12,9,9,9,9,9,9,12,12,12,13,15,15] yfp)) (.reg yfo)))
abbrev yfs:List AG:=[zz9 13 0]
abbrev yft:List AG:=[o 12 (.nilrow 1 t_bool)]
abbrev yfu:List AG:=[o 11 (.nilrow 1 t_bool)]
abbrev yfv:List AG:=[zz1 24 10,o 6 (.nilrow 1 t_bool),o 7 (.nilrow 1 t_bool),zz1 8 24]
abbrev yfw:ACode:=(.seq (.reg yfv) .ret)
abbrev yfx:List AG:=[zz1 22 10,o 23 (.cmp .neq (.sc .int) (.t 22) (.c (.int .i64 0)))]
abbrev yfy:List AG:=[zz3 16 4 3,zz1 17 1,zz1 18 2,o 19 (.call (.f n_r08_Values) [(.t 16),(.t 17),(.t 18)]),zz1 15 19,zzc 20 15 0,zzc 21 15 1,zz1 9 20,zz1 10 21]
abbrev yfz:List AG:=[o 3 (.box 4 (.t 0)),o 6 (.nilrow 1 t_bool),o 7 (.nilrow 1 t_bool),zz9 8 0]
abbrev r08_Step:AFun:=⟨(.seq (.reg yfz) (.seq (.reg yfy) (.seq (.seq (.reg yfx) (.cond (.t 23) yfw .skip)) (.seq (.reg yfu) (.seq (.reg yft) (.seq (.seq (.reg yfs) (.block 0 yfn (.loop yfm yfr))) (.seq (.seq (.reg yfl) (.block 2 yfg (.loop yff yfk))) (.seq (.reg yfe) .ret)))))))),68,[.tmp 6,.tmp 7,.tmp 8]⟩
@[simp] theorem c_r08_Step:cfun Tryz.prog n_r08_Step=some r08_Step:=by kernel_rfl
@[simp] theorem e_r08_Step:hasBody Tryz.prog n_r08_Step=true:=by kernel_rfl
abbrev yfA:List AG:=[o 4 (.mv (.c (.bool true)))]
abbrev yfB:List Bool:=[O,I,I,O,O,I,O,O,O,O,O,O,O,O,O,O,O,O,O,O,O,O,O,O,O,O,O,O,O,O,O,O,O,O,O,O,O,O,O,O,O,O,O,O,O,O,O,O,O,O,O,O]
abbrev yfC:List Bool:=[O,O,O,O,O,O,O,O,O,O,O,O,O,O,O,O,O,O,O,O,O,O,O,O,O,O,O,O,O,O,O,O,O,O,O,O,O,O,O,O,O,O,O,O,O,O,O,O,O,O,O,O]
abbrev yfD:List AG:=[zz1 21 5,zz6 22 21 1,zz1 5 22]
abbrev yfE:List AG:=[zzh 4]
abbrev yfF:ACode:=(.seq (.reg yfE) .ret)
abbrev yfG:List AG:=[zz4 23 2 2,zz2 24 1 23,zz1 25 5,zz5 26 3 24 25,zz4 27 2 26,zz2 28 1 27,o 29 (.cmp .eql (.sc .int) (.t 28) (.c (.int .i64 0))),zz1 30 29,zze 31 30 1,zze 32 30 5,oy 33 30 (.ixAddr 1 (.t 31) (.t 32)),zzd 34 30 1 33,zz8 35 30 34,zz1 36 35,on 37 36 (.off 2 (.t 2)),on 38 36 (.load false 1 (.t 37)),on 39 36 (.mv (.t 5)),on 40 36 (.ixAddr 3 (.t 38) (.t 39)),on 41 36 (.off 2 (.t 40)),on 42 36 (.load false 1 (.t 41)),on 43 36 (.cmp .eql (.sc .int) (.t 42) (.c (.int .i64 1))),on 44 36 (.mv (.t 43)),zze 45 44 1,zze 46 44 5,oy 47 44 (.ixAddr 1 (.t 45) (.t 46)),zzd 48 44 1 47,oy 49 44 (.not (.t 48)),on 50 36 (.pick (.t 44) (.t 49) (.c (.bool false))),o 51 (.pick (.t 36) (.c (.bool true)) (.t 50))]
abbrev yfH:ACode:=(.seq (.reg yfG) (.cond (.t 51) yfF .skip))
abbrev yfI:List AG:=[zz1 17 5,zz1 18 1,zza 19 18,zz7 20 17 19]
abbrev yfJ:ACode:=(.seq (.seq (.reg yfI) (.cond (.t 20) .skip (.exit 0))) (.seq (.block 1 [] yfH) (.reg yfD)))
abbrev yfK:List AG:=[zz9 5 0]
abbrev yfL:List AG:=[zzh 4]
abbrev yfM:ACode:=(.seq (.reg yfL) .ret)
abbrev yfN:List AG:=[zz3 6 4 2,zzf 7 n_r08_right 6,o 8 (.not (.t 7)),zz1 9 8,on 10 9 (.mv (.t 1)),on 11 9 (.len (.t 10)),on 12 9 (.off 2 (.t 2)),on 13 9 (.load false 1 (.t 12)),on 14 9 (.len (.t 13)),on 15 9 (.cmp .neq (.sc .int) (.t 11) (.t 14)),o 16 (.pick (.t 9) (.c (.bool true)) (.t 15))]
abbrev yfO:List AG:=[o 2 (.box 4 (.t 0)),zzh 4]
abbrev r08_Allowed:AFun:=⟨(.seq (.reg yfO) (.seq (.seq (.reg yfN) (.cond (.t 16) yfM .skip)) (.seq (.seq (.reg yfK) (.block 0 yfC (.loop yfB yfJ))) (.seq (.reg yfA) .ret)))),52,[.tmp 4]⟩
@[simp] theorem c_r08_Allowed:cfun Tryz.prog n_r08_Allowed=some r08_Allowed:=by kernel_rfl
@[simp] theorem e_r08_Allowed:hasBody Tryz.prog n_r08_Allowed=true:=by kernel_rfl
abbrev yfP:List AG:=[o 4 (.mv (.c (.bool true)))]
abbrev yfQ:List Bool:=[I,I,O,O,O,I,O,O,O,O,O,O,O,O,O,O,O,O,O,O,O,O,O,O,O,O]
abbrev yfR:List Bool:=[O,O,O,O,O,O,O,O,O,O,O,O,O,O,O,O,O,O,O,O,O,O,O,O,O,O]
abbrev yfS:List AG:=[zz1 15 5,zz6 16 15 1,zz1 5 16]
abbrev yfT:List AG:=[zzh 4]
abbrev yfU:ACode:=(.seq (.reg yfT) .ret)
abbrev yfV:List AG:=[zz1 17 0,zz1 18 5,zz5 19 1 17 18,zz2 20 1 19,zz1 21 1,zz1 22 5,zz5 23 1 21 22,zz2 24 1 23,o 25 (.cmp .neq (.sc .bool) (.t 20) (.t 24))]
abbrev yfW:ACode:=(.seq (.dreg [O,O,O,O,O,O,O,O,O] [10,10,10,10,10,10,10,10,10] yfV) (.cond (.t 25) yfU .skip))
abbrev yfX:List AG:=[zz1 11 5,zz1 12 0,zza 13 12,zz7 14 11 13]
abbrev yfY:ACode:=(.seq (.seq (.reg yfX) (.cond (.t 14) .skip (.exit 0))) (.seq (.block 1 [] yfW) (.reg yfS)))
abbrev yfZ:List AG:=[zz9 5 0]
abbrev yga:List AG:=[zzh 4]
abbrev ygb:ACode:=(.seq (.reg yga) .ret)
abbrev ygc:List AG:=[zz1 6 0,zza 7 6,zz1 8 1,zza 9 8,o 10 (.cmp .neq (.sc .int) (.t 7) (.t 9))]
abbrev ygd:List AG:=[zzh 4]
abbrev r08_Bools:AFun:=⟨(.seq (.reg ygd) (.seq (.seq (.reg ygc) (.cond (.t 10) ygb .skip)) (.seq (.seq (.reg yfZ) (.block 0 yfR (.loop yfQ yfY))) (.seq (.reg yfP) .ret)))),26,[.tmp 4]⟩
abbrev yge:List It:=[.code (.seq (.reg yfP) .ret)]
abbrev ygf (x0 x1 x5:AV) (h:List Ob) (e:Cx:=cx):Cfg:=atC n_r08_Bools (.code yfY::.inLoop yfQ yfY::.inBlock 0 yfR::yge) [x0,x1,U,U,U,x5,U,U,U,U,U,U,U,U,U,U,U,U,U,U,U,U,U,U,U,U] h e
@[simp] theorem c_r08_Bools:cfun Tryz.prog n_r08_Bools=some r08_Bools:=by kernel_rfl
@[simp] theorem e_r08_Bools:hasBody Tryz.prog n_r08_Bools=true:=by kernel_rfl
abbrev ygg:List AG:=[o 4 (.mv (.c (.bool true)))]
abbrev ygh:List Bool:=[O,I,O,O,O,O,O,O,O,O,O,O,O,O,O,O,O,O,O,I,I,I,O,O,O,O,O,O,O,O,O,O,O,O,O,O,O,O,O,O]
abbrev ygi:List Bool:=[O,O,O,O,O,O,O,O,O,O,O,O,O,O,O,O,O,O,O,O,O,O,O,O,O,O,O,O,O,O,O,O,O,O,O,O,O,O,O,O]
abbrev ygj:List AG:=[zz6 39 21 1,zz1 21 39]
abbrev ygk:List AG:=[zzh 4]
abbrev ygl:ACode:=(.seq (.reg ygk) .ret)
abbrev ygm:List AG:=[zz4 26 2 6,zz2 27 1 26,o 28 (.cmp .lss (.sc .int) (.t 27) (.c (.int .i64 2))),zz1 29 28,oy 30 29 (.off 2 (.t 6)),zzd 31 29 1 30,oy 32 29 (.cmp .eql (.sc .int) (.t 31) (.c (.int .i64 1))),zze 33 29 1,zze 34 29 5,oy 35 29 (.ixAddr 1 (.t 33) (.t 34)),zzd 36 29 1 35,oy 37 29 (.cmp .neq (.sc .bool) (.t 32) (.t 36)),zz8 38 29 37]
abbrev ygn:List AG:=[zz1 23 21,zz5 24 3 19 21,zz3 25 3 24,o 6 (.alloc [(.str []),(.str []),(.int .i64 0)]),zz1 5 23,zzb 3 6 25]
abbrev ygo:ACode:=(.seq (.reg ygn) (.seq (.dreg [O,O,O,O,O,O,O,O,O,O,O,O,O] [14,14,14,14,14,14,14,14,14,14,14,14,14] ygm) (.cond (.t 38) ygl .skip)))
abbrev ygp:List AG:=[zz7 22 21 20]
abbrev ygq:ACode:=(.seq (.reg ygp) (.seq (.cond (.t 22) .skip (.exit 0)) (.seq (.block 1 [] ygo) (.reg ygj))))
abbrev ygr:List AG:=[zz4 18 2 2,zz2 19 1 18,zza 20 19,zz9 21 0]
abbrev ygs:List AG:=[zzh 4]
abbrev ygt:ACode:=(.seq (.reg ygs) .ret)
abbrev ygu:List AG:=[zz3 7 4 2,zzf 8 n_step_right 7,o 9 (.not (.t 8)),zz1 10 9,on 11 10 (.mv (.t 1)),on 12 10 (.len (.t 11)),on 13 10 (.off 2 (.t 2)),on 14 10 (.load false 1 (.t 13)),on 15 10 (.len (.t 14)),on 16 10 (.cmp .neq (.sc .int) (.t 12) (.t 15)),o 17 (.pick (.t 10) (.c (.bool true)) (.t 16))]
abbrev ygv:List AG:=[o 2 (.box 4 (.t 0)),zzh 4]
abbrev step_Allowed:AFun:=⟨(.seq (.reg ygv) (.seq (.seq (.reg ygu) (.cond (.t 17) ygt .skip)) (.seq (.seq (.reg ygr) (.block 0 ygi (.loop ygh ygq))) (.seq (.reg ygg) .ret)))),40,[.tmp 4]⟩
abbrev ygw:List It:=[.code (.seq (.reg ygg) .ret)]
abbrev ygx (x1 x19 x20 x21:AV) (h:List Ob) (e:Cx:=cx):Cfg:=atC n_step_Allowed (.code ygq::.inLoop ygh ygq::.inBlock 0 ygi::ygw) [U,x1,U,U,U,U,U,U,U,U,U,U,U,U,U,U,U,U,U,x19,x20,x21,U,U,U,U,U,U,U,U,U,U,U,U,U,U,U,U,U,U] h e
@[simp] theorem c_step_Allowed:cfun Tryz.prog n_step_Allowed=some step_Allowed:=by kernel_rfl
@[simp] theorem e_step_Allowed:hasBody Tryz.prog n_step_Allowed=true:=by kernel_rfl
abbrev ygy:List AG:=[zz1 23 0,zza 24 23,zz1 25 1,o 26 (.cmp .leq (.sc .int) (.t 24) (.t 25)),zz1 4 26]
abbrev ygz:List Bool:=[I,I,O,O,O,I,O,O,O,O,O,O,O,O,O,O,O,O,O,O,O,O,O,O,O,O,O]
abbrev ygA:List Bool:=[I,I,O,O,O,O,O,O,O,O,O,O,O,O,O,O,O,O,O,O,O,O,O,O,O,O,O]
abbrev ygB:List AG:=[zz1 15 5,zz6 16 15 1,zz1 5 16]
abbrev ygC:List AG:=[zzh 4]
abbrev ygD:ACode:=(.seq (.reg ygC) .ret)
abbrev ygE:List AG:=[zz1 17 0,zz1 18 5,zz5 19 1 17 18,zz2 20 1 19,zza 21 20,o 22 (.cmp .gtr (.sc .int) (.t 21) (.c (.int .i64 60)))]
abbrev ygF:ACode:=(.seq (.reg ygE) (.cond (.t 22) ygD .skip))
abbrev ygG:List AG:=[zz1 6 5,zz1 7 0,zza 8 7,zz7 9 6 8,zz1 10 9,zze 11 10 5,zze 12 10 1,oy 13 10 (.cmp .leq (.sc .int) (.t 11) (.t 12)),zz8 14 10 13]
abbrev ygH:ACode:=(.seq (.seq (.reg ygG) (.cond (.t 14) .skip (.exit 0))) (.seq (.block 1 [] ygF) (.reg ygB)))
abbrev ygI:List AG:=[zz9 5 0]
abbrev ygJ:List AG:=[zzh 4]
abbrev w08_Rows:AFun:=⟨(.seq (.reg ygJ) (.seq (.seq (.reg ygI) (.block 0 ygA (.loop ygz ygH))) (.seq (.reg ygy) .ret))),27,[.tmp 4]⟩
abbrev ygK:List It:=[.code (.seq (.reg ygy) .ret)]
abbrev ygL (x0 x1 x5:AV) (h:List Ob) (e:Cx:=cx):Cfg:=atC n_w08_Rows (.code ygH::.inLoop ygz ygH::.inBlock 0 ygA::ygK) [x0,x1,U,U,U,x5,U,U,U,U,U,U,U,U,U,U,U,U,U,U,U,U,U,U,U,U,U] h e
@[simp] theorem c_w08_Rows:cfun Tryz.prog n_w08_Rows=some w08_Rows:=by kernel_rfl
@[simp] theorem e_w08_Rows:hasBody Tryz.prog n_w08_Rows=true:=by kernel_rfl
abbrev ygM:List AG:=[zz2 48 1 11,zz2 49 1 4,zzf 50 n_slices_Clone_bool_bool 49,zz1 6 48,zz1 7 50,zz9 8 0]
abbrev ygN:List AG:=[zz2 47 1 10,o 6 (.nilrow 1 t_bool_2),o 7 (.nilrow 1 t_bool),zz1 8 47]
abbrev ygO:ACode:=(.seq (.dreg [I,O,O,O] [5,3,5,5] ygN) .ret)
abbrev ygP:List AG:=[zz2 45 1 10,o 46 (.cmp .neq (.sc .int) (.t 45) (.c (.int .i64 0)))]
abbrev ygQ:List AG:=[zz1 13 39]
abbrev ygR:List AG:=[zz1 12 38]
abbrev ygS:List AG:=[zz2 40 1 11,zz1 41 12,o 42 (.lit 1 [(.list true 0 [])] [(0,(.t 41))]),o 43 (.append 1 t_bool_2 24 (.t 40) (.t 42)),zz1 44 13,zzb 1 11 43,zzb 1 4 44]
abbrev ygT:ACode:=(.seq (.reg ygR) (.reg ygQ))
abbrev ygU:ACode:=(.block 2 [] (.reg ygS))
abbrev ygV:ACode:=(.rangeFunc (.t 37) [38,39] [O,O,O,O,I,O,I,I,I,O,O,I,O,O,O,O,O,O,O,O,O,O,O,O,O,O,O,O,O,O,O,O,O,O,O,O,O,O,O,O,O,O,O,O,O,O,O,O,O,O,O] ygT ygU)
abbrev ygW:List AG:=[zz1 34 9,zz2 35 1 4,zz1 36 2,o 37 (.call (.f n_step_machine_steps) [(.t 34),(.t 35),(.t 36),(.t 10)])]
abbrev ygX:List AG:=[o 11 (.alloc [(.own 1 t_bool_2 [])])]
abbrev ygY:List AG:=[zz2 22 1 10,o 6 (.nilrow 1 t_bool_2),o 7 (.nilrow 1 t_bool),zz1 8 22]
abbrev ygZ:List AG:=[o 6 (.nilrow 1 t_bool_2),o 7 (.nilrow 1 t_bool),zz9 8 8]
abbrev yha:List AG:=[o 6 (.nilrow 1 t_bool_2),o 7 (.nilrow 1 t_bool),zz9 8 11]
abbrev yhb:ACode:=(.seq (.reg yha) .ret)
abbrev yhc:List AG:=[zz2 28 1 4,zza 29 28,zz4 30 2 3,zz2 31 1 30,zza 32 31,o 33 (.cmp .neq (.sc .int) (.t 29) (.t 32)),zz1 27 33]
abbrev yhd:ACode:=(.seq (.reg ygZ) .ret)
abbrev yhe:ACode:=(.seq (.reg yhc) (.cond (.t 27) yhb .skip))
abbrev yhf:List AG:=[zz1 24 2,zza 25 24,o 26 (.cmp .gtr (.sc .int) (.t 25) (.c (.int .i64 40))),zz1 23 26]
abbrev yhg:ACode:=(.seq (.dreg [I,O,O,O] [5,3,5,5] ygY) .ret)
abbrev yhh:ACode:=(.seq (.reg yhf) (.cond (.t 23) yhd yhe))
abbrev yhi:List AG:=[zz2 20 1 10,o 21 (.cmp .neq (.sc .int) (.t 20) (.c (.int .i64 0))),zz1 19 21]
abbrev yhj:ACode:=(.seq (.reg yhi) (.cond (.t 19) yhg yhh))
abbrev yhk:List AG:=[zz3 15 4 3,zzf 16 n_step_begin 15,zz1 14 16,zzc 17 14 0,zzc 18 14 1,o 10 (.alloc [(.int .i64 0)]),zz1 9 17,zzb 1 10 18]
abbrev yhl:List AG:=[o 3 (.box 4 (.t 0)),o 4 (.box 1 (.t 1)),o 6 (.nilrow 1 t_bool_2),o 7 (.nilrow 1 t_bool),zz9 8 0]
abbrev step_Run:AFun:=⟨(.seq (.reg yhl) (.seq (.reg yhk) (.seq (.block 0 [] yhj) (.seq (.reg ygX) (.seq (.seq (.reg ygW) (.block 1 [] ygV)) (.seq (.seq (.reg ygP) (.cond (.t 46) ygO .skip)) (.seq (.dreg [I,O,O,O,O,O] [7,3,7,7,7,7] ygM) .ret))))))),51,[.tmp 6,.tmp 7,.tmp 8]⟩
@[simp] theorem c_step_Run:cfun Tryz.prog n_step_Run=some step_Run:=by kernel_rfl
@[simp] theorem e_step_Run:hasBody Tryz.prog n_step_Run=true:=by kernel_rfl
abbrev yhm:List AG:=[zz1 51 9,zz1 52 1,zz1 6 51,zz1 7 52,zz9 8 0]
abbrev yhn:List Bool:=[O,I,I,I,O,O,O,O,O,I,I,O,O,O,O,O,O,O,O,O,O,O,O,O,O,O,O,O,O,O,O,O,O,O,O,O,O,O,O,O,O,O,O,O,O,O,O,O,O,O,O,O,O]
abbrev yho:List Bool:=[O,I,O,O,O,O,O,O,O,I,O,O,O,O,O,O,O,O,O,O,O,O,O,O,O,O,O,O,O,O,O,O,O,O,O,O,O,O,O,O,O,O,O,O,O,O,O,O,O,O,O,O,O]
abbrev yhp:List AG:=[zz1 30 10,zz6 31 30 1,zz1 10 31]
abbrev yhq:List AG:=[zz1 50 12,zz1 1 50]
abbrev yhr:List AG:=[zz1 46 9,zz1 47 11,o 48 (.lit 1 [(.list true 0 [])] [(0,(.t 47))]),o 49 (.append 1 t_bool_2 24 (.t 46) (.t 48)),zz1 9 49]
abbrev yhs:List AG:=[zz1 45 13,o 6 (.nilrow 1 t_bool_2),o 7 (.nilrow 1 t_bool),zz1 8 45]
abbrev yht:ACode:=(.seq (.reg yhs) .ret)
abbrev yhu:List AG:=[zz1 43 13,o 44 (.cmp .neq (.sc .int) (.t 43) (.c (.int .i64 0)))]
abbrev yhv:List AG:=[zz3 33 4 3,zz1 34 1,zz1 35 2,zz1 36 10,zz5 37 1 35 36,zz2 38 1 37,o 39 (.call (.f n_r08_Step) [(.t 33),(.t 34),(.t 38)]),zz1 32 39,zzc 40 32 0,zzc 41 32 1,zzc 42 32 2,zz1 11 40,zz1 12 41,zz1 13 42]
abbrev yhw:ACode:=(.seq (.dreg [O,O,O,O,O,O,O,O,O,O,O,O,O,O] [7,7,7,7,7,7,15,15,15,15,15,15,15,15] yhv) (.seq (.seq (.reg yhu) (.cond (.t 44) yht .skip)) (.seq (.reg yhr) (.reg yhq))))
abbrev yhx:List AG:=[zz1 26 10,zz1 27 2,zza 28 27,zz7 29 26 28]
abbrev yhy:ACode:=(.seq (.seq (.reg yhx) (.cond (.t 29) .skip (.exit 0))) (.seq (.block 1 [] yhw) (.reg yhp)))
abbrev yhz:List AG:=[zz9 10 0]
abbrev yhA:List AG:=[o 9 (.nilrow 1 t_bool_2)]
abbrev yhB:List AG:=[o 6 (.nilrow 1 t_bool_2),o 7 (.nilrow 1 t_bool),zz9 8 11]
abbrev yhC:ACode:=(.seq (.reg yhB) .ret)
abbrev yhD:List AG:=[zz1 20 1,zza 21 20,zz4 22 2 3,zz2 23 1 22,zza 24 23,o 25 (.cmp .neq (.sc .int) (.t 21) (.t 24))]
abbrev yhE:List AG:=[o 6 (.nilrow 1 t_bool_2),o 7 (.nilrow 1 t_bool),zz9 8 8]
abbrev yhF:ACode:=(.seq (.reg yhE) .ret)
abbrev yhG:List AG:=[zz1 17 2,zza 18 17,o 19 (.cmp .gtr (.sc .int) (.t 18) (.c (.int .i64 40)))]
abbrev yhH:List AG:=[o 6 (.nilrow 1 t_bool_2),o 7 (.nilrow 1 t_bool),zz9 8 1]
abbrev yhI:ACode:=(.seq (.reg yhH) .ret)
abbrev yhJ:List AG:=[zz3 14 4 3,zzf 15 n_r08_right 14,o 16 (.not (.t 15))]
abbrev yhK:List AG:=[o 3 (.box 4 (.t 0)),o 6 (.nilrow 1 t_bool_2),o 7 (.nilrow 1 t_bool),zz9 8 0]
abbrev r08_Run:AFun:=⟨(.seq (.reg yhK) (.seq (.seq (.reg yhJ) (.cond (.t 16) yhI .skip)) (.seq (.seq (.reg yhG) (.cond (.t 19) yhF .skip)) (.seq (.seq (.reg yhD) (.cond (.t 25) yhC .skip)) (.seq (.reg yhA) (.seq (.seq (.reg yhz) (.block 0 yho (.loop yhn yhy))) (.seq (.reg yhm) .ret))))))),53,[.tmp 6,.tmp 7,.tmp 8]⟩
@[simp] theorem c_r08_Run:cfun Tryz.prog n_r08_Run=some r08_Run:=by kernel_rfl
@[simp] theorem e_r08_Run:hasBody Tryz.prog n_r08_Run=true:=by kernel_rfl
abbrev yhL:List AG:=[o 4 (.mv (.c (.bool true)))]
abbrev yhM:List Bool:=[I,I,O,O,O,I,O,O,O,O,O,O,O,O,O,O,O,O,O,O,O,O,O,O,O,O,O]
abbrev yhN:List Bool:=[O,O,O,O,O,O,O,O,O,O,O,O,O,O,O,O,O,O,O,O,O,O,O,O,O,O,O]
abbrev yhO:List AG:=[zz1 15 5,zz6 16 15 1,zz1 5 16]
abbrev yhP:List AG:=[zzh 4]
abbrev yhQ:ACode:=(.seq (.reg yhP) .ret)
abbrev yhR:List AG:=[zz1 17 0,zz1 18 5,zz5 19 1 17 18,zz2 20 1 19,zz1 21 1,zz1 22 5,zz5 23 1 21 22,zz2 24 1 23,zzg 25 n_r08_Bools 20 24,o 26 (.not (.t 25))]
abbrev yhS:ACode:=(.seq (.dreg [O,O,O,O,O,O,O,O,O,O] [9,9,9,9,9,9,9,9,11,11] yhR) (.cond (.t 26) yhQ .skip))
abbrev yhT:List AG:=[zz1 11 5,zz1 12 0,zza 13 12,zz7 14 11 13]
abbrev yhU:ACode:=(.seq (.seq (.reg yhT) (.cond (.t 14) .skip (.exit 0))) (.seq (.block 1 [] yhS) (.reg yhO)))
abbrev yhV:List AG:=[zz9 5 0]
abbrev yhW:List AG:=[zzh 4]
abbrev yhX:ACode:=(.seq (.reg yhW) .ret)
abbrev yhY:List AG:=[zz1 6 0,zza 7 6,zz1 8 1,zza 9 8,o 10 (.cmp .neq (.sc .int) (.t 7) (.t 9))]
abbrev yhZ:List AG:=[zzh 4]
abbrev r08_Rows:AFun:=⟨(.seq (.reg yhZ) (.seq (.seq (.reg yhY) (.cond (.t 10) yhX .skip)) (.seq (.seq (.reg yhV) (.block 0 yhN (.loop yhM yhU))) (.seq (.reg yhL) .ret)))),27,[.tmp 4]⟩
abbrev yia:List It:=[.code (.seq (.reg yhL) .ret)]
abbrev yib (x0 x1 x5:AV) (h:List Ob) (e:Cx:=cx):Cfg:=atC n_r08_Rows (.code yhU::.inLoop yhM yhU::.inBlock 0 yhN::yia) [x0,x1,U,U,U,x5,U,U,U,U,U,U,U,U,U,U,U,U,U,U,U,U,U,U,U,U,U] h e
@[simp] theorem c_r08_Rows:cfun Tryz.prog n_r08_Rows=some r08_Rows:=by kernel_rfl
@[simp] theorem e_r08_Rows:hasBody Tryz.prog n_r08_Rows=true:=by kernel_rfl
abbrev yic:List AG:=[zz1 62 6,zz1 63 62,zze 64 63 7,zz8 65 63 64,zz1 66 65,oy 67 66 (.off 3 (.t 1)),zzd 68 66 1 67,oy 69 66 (.len (.t 68)),oy 70 66 (.cmp .leq (.sc .int) (.t 69) (.c (.int .i64 210))),zz8 71 66 70,zz1 72 71,oy 73 72 (.off 2 (.t 1)),zzd 74 72 1 73,oy 75 72 (.len (.t 74)),oy 76 72 (.cmp .leq (.sc .int) (.t 75) (.c (.int .i64 210))),zz8 77 72 76,zz1 2 77]
abbrev yid:List AG:=[zz4 59 1 1,zz2 60 1 59,o 61 (.call (.f n_w05_Texts) [(.t 60),(.c (.int .i64 210))]),zz1 7 61]
abbrev yie:List AG:=[zz4 56 0 1,zz2 57 1 56,o 58 (.call (.f n_w05_Texts) [(.t 57),(.c (.int .i64 210))]),zz1 6 58]
abbrev yif:List Bool:=[O,I,O,O,O,I,O,O,O,O,O,O,O,O,O,O,O,O,O,O,O,O,O,O,O,O,O,O,O,O,O,O,O,O,O,O,O,O,O,O,O,O,O,O,O,O,O,O,O,O,O,O,O,O,O,O,O,O,O,O,O,O,O,O,O,O,O,O,O,O,O,O,O,O,O,O,O,O]
abbrev yig:List Bool:=[O,I,O,O,O,O,O,O,O,O,O,O,O,O,O,O,O,O,O,O,O,O,O,O,O,O,O,O,O,O,O,O,O,O,O,O,O,O,O,O,O,O,O,O,O,O,O,O,O,O,O,O,O,O,O,O,O,O,O,O,O,O,O,O,O,O,O,O,O,O,O,O,O,O,O,O,O,O]
abbrev yih:List AG:=[zz1 36 5,zz6 37 36 1,zz1 5 37]
abbrev yii:List AG:=[zzh 2]
abbrev yij:ACode:=(.seq (.reg yii) .ret)
abbrev yik:List AG:=[zz4 38 2 1,zz2 39 1 38,zz1 40 5,zz5 41 3 39 40,zz4 42 0 41,zz2 43 1 42,o 44 (.lenStr (.t 43)),o 45 (.cmp .gtr (.sc .int) (.t 44) (.c (.int .i64 60))),zz1 46 45,on 47 46 (.off 2 (.t 1)),on 48 46 (.load false 1 (.t 47)),on 49 46 (.mv (.t 5)),on 50 46 (.ixAddr 3 (.t 48) (.t 49)),on 51 46 (.off 1 (.t 50)),on 52 46 (.load false 1 (.t 51)),on 53 46 (.lenStr (.t 52)),on 54 46 (.cmp .gtr (.sc .int) (.t 53) (.c (.int .i64 60))),o 55 (.pick (.t 46) (.c (.bool true)) (.t 54))]
abbrev yil:ACode:=(.seq (.reg yik) (.cond (.t 55) yij .skip))
abbrev yim:List AG:=[zz1 27 5,zz4 28 2 1,zz2 29 1 28,zza 30 29,zz7 31 27 30,zz1 32 31,zze 33 32 5,oy 34 32 (.cmp .leq (.sc .int) (.t 33) (.c (.int .i64 210))),zz8 35 32 34]
abbrev yin:ACode:=(.seq (.seq (.reg yim) (.cond (.t 35) .skip (.exit 2))) (.seq (.block 3 [] yil) (.reg yih)))
abbrev yio:List AG:=[zz9 5 0]
abbrev yip:List Bool:=[O,I,O,I,O,O,O,O,O,O,O,O,O,O,O,O,O,O,O,O,O,O,O,O,O,O,O,O,O,O,O,O,O,O,O,O,O,O,O,O,O,O,O,O,O,O,O,O,O,O,O,O,O,O,O,O,O,O,O,O,O,O,O,O,O,O,O,O,O,O,O,O,O,O,O,O,O,O]
abbrev yiq:List Bool:=[O,I,O,O,O,O,O,O,O,O,O,O,O,O,O,O,O,O,O,O,O,O,O,O,O,O,O,O,O,O,O,O,O,O,O,O,O,O,O,O,O,O,O,O,O,O,O,O,O,O,O,O,O,O,O,O,O,O,O,O,O,O,O,O,O,O,O,O,O,O,O,O,O,O,O,O,O,O]
abbrev yir:List AG:=[zz1 17 3,zz6 18 17 1,zz1 3 18]
abbrev yis:List AG:=[zzh 2]
abbrev yit:ACode:=(.seq (.reg yis) .ret)
abbrev yiu:List AG:=[zz1 25 4,o 26 (.not (.t 25))]
abbrev yiv:List AG:=[zz4 19 3 1,zz2 20 1 19,zz1 21 3,zz5 22 5 20 21,zz3 23 5 22,zzf 24 n_w06_FewGate 23,zz1 4 24]
abbrev yiw:ACode:=(.seq (.reg yiv) (.seq (.reg yiu) (.cond (.t 26) yit .skip)))
abbrev yix:List AG:=[zz1 8 3,zz4 9 3 1,zz2 10 1 9,zza 11 10,zz7 12 8 11,zz1 13 12,zze 14 13 3,oy 15 13 (.cmp .leq (.sc .int) (.t 14) (.c (.int .i64 210))),zz8 16 13 15]
abbrev yiy:ACode:=(.seq (.seq (.reg yix) (.cond (.t 16) .skip (.exit 0))) (.seq (.block 1 [] yiw) (.reg yir)))
abbrev yiz:List AG:=[zz9 3 0]
abbrev yiA:List AG:=[o 1 (.box 4 (.t 0)),zzh 2]
abbrev w06_Few:AFun:=⟨(.seq (.reg yiA) (.seq (.seq (.reg yiz) (.block 0 yiq (.loop yip yiy))) (.seq (.seq (.reg yio) (.block 2 yig (.loop yif yin))) (.seq (.reg yie) (.seq (.reg yid) (.seq (.reg yic) .ret)))))),78,[.tmp 2]⟩
abbrev yiB:List It:=[.code (.seq (.reg yie) (.seq (.reg yid) (.seq (.reg yic) .ret)))]
abbrev yiC (x1 x5:AV) (h:List Ob) (e:Cx:=cx):Cfg:=atC n_w06_Few (.code yin::.inLoop yif yin::.inBlock 2 yig::yiB) [U,x1,U,U,U,x5,U,U,U,U,U,U,U,U,U,U,U,U,U,U,U,U,U,U,U,U,U,U,U,U,U,U,U,U,U,U,U,U,U,U,U,U,U,U,U,U,U,U,U,U,U,U,U,U,U,U,U,U,U,U,U,U,U,U,U,U,U,U,U,U,U,U,U,U,U,U,U,U] h e
abbrev yiD (x1:AV) (h:List Ob) (e:Cx:=cx):Cfg:=atC n_w06_Few yiB [U,x1,U,U,U,U,U,U,U,U,U,U,U,U,U,U,U,U,U,U,U,U,U,U,U,U,U,U,U,U,U,U,U,U,U,U,U,U,U,U,U,U,U,U,U,U,U,U,U,U,U,U,U,U,U,U,U,U,U,U,U,U,U,U,U,U,U,U,U,U,U,U,U,U,U,U,U,U] h e
abbrev yiE:List It:=[.code (.seq (.seq (.reg yio) (.block 2 yig (.loop yif yin))) (.seq (.reg yie) (.seq (.reg yid) (.seq (.reg yic) .ret))))]
abbrev yiF (x1 x3:AV) (h:List Ob) (e:Cx:=cx):Cfg:=atC n_w06_Few (.code yiy::.inLoop yip yiy::.inBlock 0 yiq::yiE) [U,x1,U,x3,U,U,U,U,U,U,U,U,U,U,U,U,U,U,U,U,U,U,U,U,U,U,U,U,U,U,U,U,U,U,U,U,U,U,U,U,U,U,U,U,U,U,U,U,U,U,U,U,U,U,U,U,U,U,U,U,U,U,U,U,U,U,U,U,U,U,U,U,U,U,U,U,U,U] h e
@[simp] theorem c_w06_Few:cfun Tryz.prog n_w06_Few=some w06_Few:=by kernel_rfl
@[simp] theorem e_w06_Few:hasBody Tryz.prog n_w06_Few=true:=by kernel_rfl
abbrev yiG:List AG:=[zz3 60 4 4,zzb 4 2 60]
abbrev yiH:List Bool:=[O,O,I,I,I,O,O,O,O,O,O,O,O,O,O,O,O,O,O,O,O,O,O,O,O,O,O,O,O,O,O,O,O,O,O,O,O,O,O,O,O,O,O,I,I,I,O,O,O,O,O,O,O,O,O,O,O,O,O,O,O]
abbrev yiI:List Bool:=[O,O,I,O,I,O,O,O,O,O,O,O,O,O,O,O,O,O,O,O,O,O,O,O,O,O,O,O,O,O,O,O,O,O,O,O,O,O,O,O,O,O,O,O,O,O,O,O,O,O,O,O,O,O,O,O,O,O,O,O,O]
abbrev yiJ:List AG:=[zz6 59 45 1,zz1 45 59]
abbrev yiK:List AG:=[zz4 53 3 4,zz2 54 1 53,zz3 55 5 8,o 56 (.lit 5 [(.agg [(.str []),(.int .i64 0),(.list true 0 []),(.list true 0 []),(.bool false)])] [(0,(.t 55))]),o 57 (.append 5 t_api_Gate 80 (.t 54) (.t 56)),zz4 58 3 4,zzb 1 58 57]
abbrev yiL:List AG:=[zz1 49 3,zz4 50 0 8,zz2 51 1 50,zzg 52 n_slices_Contains_string_string 49 51]
abbrev yiM:List AG:=[zz5 47 5 43 45,zz3 48 5 47,o 8 (.alloc [(.str []),(.int .i64 0),(.own 1 t_string []),(.own 1 t_string []),(.bool false)]),zzb 5 8 48]
abbrev yiN:ACode:=(.seq (.reg yiM) (.seq (.reg yiL) (.cond (.t 52) (.reg yiK) .skip)))
abbrev yiO:List AG:=[zz7 46 45 44]
abbrev yiP:ACode:=(.seq (.reg yiO) (.seq (.cond (.t 46) .skip (.exit 2)) (.seq (.block 3 [] yiN) (.reg yiJ))))
abbrev yiQ:List AG:=[zz4 42 3 1,zz2 43 1 42,zza 44 43,zz9 45 0]
abbrev yiR:List Bool:=[O,I,I,I,I,O,O,O,O,O,O,O,O,O,O,O,O,O,O,O,O,O,O,O,O,I,I,I,O,O,O,O,O,O,O,O,O,O,O,O,O,O,O,O,O,O,O,O,O,O,O,O,O,O,O,O,O,O,O,O,O]
abbrev yiS:List Bool:=[O,I,I,I,I,O,O,O,O,O,O,O,O,O,O,O,O,O,O,O,O,O,O,O,O,O,O,O,O,O,O,O,O,O,O,O,O,O,O,O,O,O,O,O,O,O,O,O,O,O,O,O,O,O,O,O,O,O,O,O,O]
abbrev yiT:List AG:=[zz6 41 27 1,zz1 27 41]
abbrev yiU:List AG:=[zz4 35 2 4,zz2 36 1 35,zz3 37 3 6,o 38 (.lit 3 [(.agg [(.str []),(.str []),(.int .i64 0)])] [(0,(.t 37))]),o 39 (.append 3 t_api_Latch_2 40 (.t 36) (.t 38)),zz4 40 2 4,zzb 1 40 39]
abbrev yiV:List AG:=[zz1 31 3,zz4 32 0 6,zz2 33 1 32,zzg 34 n_slices_Contains_string_string 31 33]
abbrev yiW:List AG:=[zz5 29 3 25 27,zz3 30 3 29,o 6 (.alloc [(.str []),(.str []),(.int .i64 0)]),zzb 3 6 30]
abbrev yiX:ACode:=(.seq (.reg yiW) (.seq (.reg yiV) (.cond (.t 34) (.reg yiU) .skip)))
abbrev yiY:List AG:=[zz7 28 27 26]
abbrev yiZ:ACode:=(.seq (.reg yiY) (.seq (.cond (.t 28) .skip (.exit 0)) (.seq (.block 1 [] yiX) (.reg yiT))))
abbrev yja:List AG:=[zz4 24 2 1,zz2 25 1 24,zza 26 25,zz9 27 0]
abbrev yjb:List AG:=[zz4 17 0 1,zz2 18 1 17,zzf 19 n_slices_Clone_string_string 18,zz4 20 1 1,zz2 21 1 20,zzf 22 n_slices_Clone_string_string 21,o 23 (.build [(.list true 0 []),(.list true 0 []),(.list true 0 []),(.list true 0 [])] [(0,1,(.t 19)),(1,1,(.t 22))]),o 4 (.alloc [(.own 1 t_string []),(.own 1 t_string []),(.own 3 t_api_Latch_2 []),(.own 5 t_api_Gate [])]),zzb 4 4 23]
abbrev yjc:List AG:=[zz3 13 4 1,zz4 14 1 1,zz2 15 1 14,zzg 16 n_order_Cone 13 15,zz1 3 16]
abbrev yjd:List AG:=[o 12 (.build [(.list true 0 []),(.list true 0 []),(.list true 0 []),(.list true 0 [])] []),zzb 4 2 12]
abbrev yje:ACode:=(.seq (.reg yjd) .ret)
abbrev yjf:List AG:=[zz3 9 4 1,zzf 10 n_order_right 9,o 11 (.not (.t 10))]
abbrev yjg:List AG:=[o 1 (.box 4 (.t 0)),o 2 (.alloc [(.own 1 t_string []),(.own 1 t_string []),(.own 3 t_api_Latch_2 []),(.own 5 t_api_Gate [])])]
abbrev order_Trim:AFun:=⟨(.seq (.reg yjg) (.seq (.seq (.reg yjf) (.cond (.t 11) yje .skip)) (.seq (.reg yjc) (.seq (.dreg [O,I,I,O,I,I,O,O,O] [9,9,9,9,9,9,9,9,10] yjb) (.seq (.seq (.reg yja) (.block 0 yiS (.loop yiR yiZ))) (.seq (.seq (.reg yiQ) (.block 2 yiI (.loop yiH yiP))) (.seq (.reg yiG) .ret))))))),61,[.cell 2 true 4]⟩
abbrev yjh:List It:=[.code (.seq (.reg yiG) .ret)]
abbrev yji (x2 x3 x4 x43 x44 x45:AV) (h:List Ob) (e:Cx:=cx):Cfg:=atC n_order_Trim (.code yiP::.inLoop yiH yiP::.inBlock 2 yiI::yjh) [U,U,x2,x3,x4,U,U,U,U,U,U,U,U,U,U,U,U,U,U,U,U,U,U,U,U,U,U,U,U,U,U,U,U,U,U,U,U,U,U,U,U,U,U,x43,x44,x45,U,U,U,U,U,U,U,U,U,U,U,U,U,U,U] h e
abbrev yjj:List It:=[.code (.seq (.seq (.reg yiQ) (.block 2 yiI (.loop yiH yiP))) (.seq (.reg yiG) .ret))]
abbrev yjk (x1 x2 x3 x4 x25 x26 x27:AV) (h:List Ob) (e:Cx:=cx):Cfg:=atC n_order_Trim (.code yiZ::.inLoop yiR yiZ::.inBlock 0 yiS::yjj) [U,x1,x2,x3,x4,U,U,U,U,U,U,U,U,U,U,U,U,U,U,U,U,U,U,U,U,x25,x26,x27,U,U,U,U,U,U,U,U,U,U,U,U,U,U,U,U,U,U,U,U,U,U,U,U,U,U,U,U,U,U,U,U,U] h e
@[simp] theorem c_order_Trim:cfun Tryz.prog n_order_Trim=some order_Trim:=by kernel_rfl
@[simp] theorem e_order_Trim:hasBody Tryz.prog n_order_Trim=true:=by kernel_rfl
abbrev yjl:List AG:=[o 4 (.mv (.c (.int .i64 (-1))))]
abbrev yjm:List Bool:=[O,I,O,O,O,I,I,O,O,O,O,O,O,O,O,O,O,O,O,O,O,O]
abbrev yjn:List Bool:=[O,O,O,O,O,O,O,O,O,O,O,O,O,O,O,O,O,O,O,O,O,O]
abbrev yjo:List AG:=[zz1 13 6,zz6 14 13 1,zz1 6 14]
abbrev yjp:List AG:=[zz1 21 6,zz1 4 21]
abbrev yjq:ACode:=(.seq (.reg yjp) .ret)
abbrev yjr:List AG:=[zz1 15 5,zz1 16 6,zz5 17 1 15 16,zz2 18 1 17,zz1 19 1,o 20 (.cmp .eql (.sc .str) (.t 18) (.t 19))]
abbrev yjs:ACode:=(.seq (.reg yjr) (.cond (.t 20) yjq .skip))
abbrev yjt:List AG:=[zz1 9 6,zz1 10 5,zza 11 10,zz7 12 9 11]
abbrev yju:ACode:=(.seq (.seq (.reg yjt) (.cond (.t 12) .skip (.exit 0))) (.seq (.block 1 [] yjs) (.reg yjo)))
abbrev yjv:List AG:=[zz9 6 0]
abbrev yjw:List AG:=[zz3 7 4 2,zzf 8 n_r06_Nets 7,zz1 5 8]
abbrev yjx:List AG:=[o 2 (.box 4 (.t 0)),zz9 4 0]
abbrev r06_Place:AFun:=⟨(.seq (.reg yjx) (.seq (.reg yjw) (.seq (.seq (.reg yjv) (.block 0 yjn (.loop yjm yju))) (.seq (.reg yjl) .ret)))),22,[.tmp 4]⟩
abbrev yjy:List It:=[.code (.seq (.reg yjl) .ret)]
abbrev yjz (x1 x5 x6:AV) (h:List Ob) (e:Cx:=cx):Cfg:=atC n_r06_Place (.code yju::.inLoop yjm yju::.inBlock 0 yjn::yjy) [U,x1,U,U,U,x5,x6,U,U,U,U,U,U,U,U,U,U,U,U,U,U,U] h e
@[simp] theorem c_r06_Place:cfun Tryz.prog n_r06_Place=some r06_Place:=by kernel_rfl
@[simp] theorem e_r06_Place:hasBody Tryz.prog n_r06_Place=true:=by kernel_rfl
abbrev yjA:List AG:=[zz3 71 5 1,zzb 5 2 71]
abbrev yjB:List Bool:=[O,I,I,I,O,O,O,O,O,O,O,O,O,O,O,O,O,O,O,O,O,O,O,O,O,O,O,O,O,O,O,O,O,O,O,O,O,O,O,O,O,O,O,O,O,O,O,O,O,O,O,O,O,O,O,O,O,O,O,O,O,O,O,O,O,O,O,O,O,O,O,O]
abbrev yjC:List Bool:=[O,I,I,O,O,O,O,O,O,O,O,O,O,O,O,O,O,O,O,O,O,O,O,O,O,O,O,O,O,O,O,O,O,O,O,O,O,O,O,O,O,O,O,O,O,O,O,O,O,O,O,O,O,O,O,O,O,O,O,O,O,O,O,O,O,O,O,O,O,O,O,O]
abbrev yjD:List AG:=[zz1 39 3,zz6 40 39 1,zz1 3 40]
abbrev yjE:List AG:=[zz4 65 0 1,zz2 66 1 65,zz1 67 3,zz4 68 2 1,zz2 69 1 68,o 70 (.build [(.str []),(.int .i64 0),(.list true 0 []),(.list true 0 []),(.bool false)] [(0,1,(.t 66)),(1,1,(.t 67)),(2,1,(.t 69))]),zzb 5 2 70]
abbrev yjF:ACode:=(.seq (.reg yjE) .ret)
abbrev yjG:List AG:=[zz1 55 5,zz4 56 4 1,zz2 57 1 56,o 58 (.cmp .eql (.sc .bool) (.t 55) (.t 57)),zz1 59 58,zze 60 59 4,oy 61 59 (.off 3 (.t 1)),zzd 62 59 1 61,oy 63 59 (.call (.f n_slices_Equal_string_string) [(.t 60),(.t 62)]),zz8 64 59 63]
abbrev yjH:List AG:=[zz1 48 3,zz4 49 2 1,zz2 50 1 49,zza 51 50,zzg 52 n_net_rows 48 51,zz1 47 52,zzc 53 47 0,zzc 54 47 1,zz1 4 53,zz1 5 54]
abbrev yjI:List AG:=[zz1 41 3,zz4 42 2 1,zz2 43 1 42,zza 44 43,zzg 45 n_net_has 41 44,o 46 (.not (.t 45))]
abbrev yjJ:ACode:=(.seq (.seq (.reg yjI) (.cond (.t 46) (.exit 2) .skip)) (.seq (.reg yjH) (.seq (.reg yjG) (.cond (.t 64) yjF .skip))))
abbrev yjK:List AG:=[zz1 37 3,o 38 (.cmp .lss (.sc .int) (.t 37) (.c (.int .i64 10)))]
abbrev yjL:ACode:=(.seq (.seq (.reg yjK) (.cond (.t 38) .skip (.exit 1))) (.seq (.block 2 [] yjJ) (.reg yjD)))
abbrev yjM:List AG:=[zz9 3 0]
abbrev yjN:List AG:=[zz3 36 5 1,zzb 5 2 36]
abbrev yjO:ACode:=(.seq (.reg yjN) .ret)
abbrev yjP:List AG:=[zz4 33 1 1,zz2 34 1 33,o 35 (.cmp .neq (.sc .int) (.t 34) (.c (.int .i64 10)))]
abbrev yjQ:List AG:=[zz4 27 1 1,q (.store 1 (.t 27) (.c (.int .i64 2)))]
abbrev yjR:List AG:=[zz4 32 1 1,q (.store 1 (.t 32) (.c (.int .i64 3)))]
abbrev yjS:List AG:=[o 31 (.cmp .eql (.sc .int) (.t 22) (.c (.int .i64 9))),zz1 28 31]
abbrev yjT:List AG:=[o 30 (.cmp .eql (.sc .int) (.t 22) (.c (.int .i64 7))),zz1 28 30]
abbrev yjU:ACode:=(.seq (.reg yjT) (.cond (.t 28) .skip (.reg yjS)))
abbrev yjV:List AG:=[o 29 (.cmp .eql (.sc .int) (.t 22) (.c (.int .i64 5))),zz1 28 29]
abbrev yjW:ACode:=(.seq (.seq (.reg yjV) (.cond (.t 28) .skip yjU)) (.cond (.t 28) (.reg yjR) .skip))
abbrev yjX:List AG:=[o 26 (.cmp .eql (.sc .int) (.t 22) (.c (.int .i64 8))),zz1 23 26]
abbrev yjY:List AG:=[o 25 (.cmp .eql (.sc .int) (.t 22) (.c (.int .i64 6))),zz1 23 25]
abbrev yjZ:ACode:=(.seq (.reg yjY) (.cond (.t 23) .skip (.reg yjX)))
abbrev yka:List AG:=[o 24 (.cmp .eql (.sc .int) (.t 22) (.c (.int .i64 4))),zz1 23 24]
abbrev ykb:ACode:=(.seq (.seq (.reg yka) (.cond (.t 23) .skip yjZ)) (.cond (.t 23) (.reg yjQ) yjW))
abbrev ykc:List AG:=[zz4 21 1 1,zz2 22 1 21]
abbrev ykd:ACode:=(.seq (.reg ykc) (.block 0 [] ykb))
abbrev yke:List AG:=[zz4 6 2 1,zz2 7 1 6,zza 8 7,o 9 (.cmp .eql (.sc .int) (.t 8) (.c (.int .i64 1))),zz1 10 9,oy 11 10 (.off 3 (.t 1)),zzd 12 10 1 11,oy 13 10 (.len (.t 12)),oy 14 10 (.cmp .eql (.sc .int) (.t 13) (.c (.int .i64 0))),zz8 15 10 14,zz1 16 15,oy 17 16 (.off 4 (.t 1)),zzd 18 16 1 17,oy 19 16 (.not (.t 18)),zz8 20 16 19]
abbrev ykf:List AG:=[o 1 (.box 5 (.t 0)),o 2 (.alloc [(.str []),(.int .i64 0),(.own 1 t_string []),(.own 1 t_string []),(.bool false)])]
abbrev net_Canon:AFun:=⟨(.seq (.reg ykf) (.seq (.seq (.reg yke) (.cond (.t 20) ykd .skip)) (.seq (.seq (.reg yjP) (.cond (.t 35) yjO .skip)) (.seq (.seq (.reg yjM) (.block 1 yjC (.loop yjB yjL))) (.seq (.reg yjA) .ret))))),72,[.cell 2 true 5]⟩
@[simp] theorem c_net_Canon:cfun Tryz.prog n_net_Canon=some net_Canon:=by kernel_rfl
@[simp] theorem e_net_Canon:hasBody Tryz.prog n_net_Canon=true:=by kernel_rfl
abbrev ykg:List AG:=[zz1 23 0,zza 24 23,zz1 25 1,o 26 (.cmp .leq (.sc .int) (.t 24) (.t 25)),zz1 4 26]
abbrev ykh:List Bool:=[I,I,O,O,O,I,O,O,O,O,O,O,O,O,O,O,O,O,O,O,O,O,O,O,O,O,O]
abbrev yki:List Bool:=[I,I,O,O,O,O,O,O,O,O,O,O,O,O,O,O,O,O,O,O,O,O,O,O,O,O,O]
abbrev ykj:List AG:=[zz1 15 5,zz6 16 15 1,zz1 5 16]
abbrev ykk:List AG:=[zzh 4]
abbrev ykl:ACode:=(.seq (.reg ykk) .ret)
abbrev ykm:List AG:=[zz1 17 0,zz1 18 5,zz5 19 1 17 18,zz2 20 1 19,o 21 (.lenStr (.t 20)),o 22 (.cmp .gtr (.sc .int) (.t 21) (.c (.int .i64 60)))]
abbrev ykn:ACode:=(.seq (.reg ykm) (.cond (.t 22) ykl .skip))
abbrev yko:List AG:=[zz1 6 5,zz1 7 0,zza 8 7,zz7 9 6 8,zz1 10 9,zze 11 10 5,zze 12 10 1,oy 13 10 (.cmp .leq (.sc .int) (.t 11) (.t 12)),zz8 14 10 13]
abbrev ykp:ACode:=(.seq (.seq (.reg yko) (.cond (.t 14) .skip (.exit 0))) (.seq (.block 1 [] ykn) (.reg ykj)))
abbrev ykq:List AG:=[zz9 5 0]
abbrev ykr:List AG:=[zzh 4]
abbrev w05_Texts:AFun:=⟨(.seq (.reg ykr) (.seq (.seq (.reg ykq) (.block 0 yki (.loop ykh ykp))) (.seq (.reg ykg) .ret))),27,[.tmp 4]⟩
abbrev yks:List It:=[.code (.seq (.reg ykg) .ret)]
abbrev ykt (x0 x1 x5:AV) (h:List Ob) (e:Cx:=cx):Cfg:=atC n_w05_Texts (.code ykp::.inLoop ykh ykp::.inBlock 0 yki::yks) [x0,x1,U,U,U,x5,U,U,U,U,U,U,U,U,U,U,U,U,U,U,U,U,U,U,U,U,U] h e
@[simp] theorem c_w05_Texts:cfun Tryz.prog n_w05_Texts=some w05_Texts:=by kernel_rfl
@[simp] theorem e_w05_Texts:hasBody Tryz.prog n_w05_Texts=true:=by kernel_rfl
abbrev yku:List AG:=[zz4 18 1 1,zz2 19 1 18,zz4 20 2 1,zz2 21 1 20,zza 22 21,zzg 23 n_net_has 19 22,zz1 24 23,oy 25 24 (.off 3 (.t 1)),zzd 26 24 1 25,oy 27 24 (.len (.t 26)),oy 28 24 (.cmp .leq (.sc .int) (.t 27) (.c (.int .i64 128))),zz8 29 24 28,zz1 30 29,oy 31 30 (.off 3 (.t 1)),zzd 32 30 1 31,zze 33 30 3,oy 34 30 (.call (.f n_slices_ContainsFunc_string_string) [(.t 32),(.t 33)]),oy 35 30 (.not (.t 34)),zz8 36 30 35,zz1 2 36]
abbrev ykv:List AG:=[zzh 2]
abbrev ykw:ACode:=(.seq (.reg ykv) .ret)
abbrev ykx:List AG:=[zz4 5 1 1,zz2 6 1 5,o 7 (.cmp .neq (.sc .int) (.t 6) (.c (.int .i64 10))),zz1 8 7,oy 9 8 (.off 3 (.t 1)),zzd 10 8 1 9,oy 11 8 (.len (.t 10)),oy 12 8 (.cmp .gtr (.sc .int) (.t 11) (.c (.int .i64 0))),zze 13 8 12,on 14 13 (.off 4 (.t 1)),on 15 13 (.load false 1 (.t 14)),oy 16 8 (.pick (.t 13) (.c (.bool true)) (.t 15)),zz8 17 8 16]
abbrev yky:List AG:=[o 4 (.mkFunc (.func n_net_Gate_1) [] [(.t 1)]),zz1 3 4]
abbrev ykz:List AG:=[o 1 (.box 5 (.t 0)),zzh 2]
abbrev net_Gate:AFun:=⟨(.seq (.reg ykz) (.seq (.reg yky) (.seq (.seq (.reg ykx) (.cond (.t 17) ykw .skip)) (.seq (.reg yku) .ret)))),37,[.tmp 2]⟩
@[simp] theorem c_net_Gate:cfun Tryz.prog n_net_Gate=some net_Gate:=by kernel_rfl
@[simp] theorem e_net_Gate:hasBody Tryz.prog n_net_Gate=true:=by kernel_rfl
abbrev ykA:List AG:=[zz3 35 2 3,zzb 2 2 35]
abbrev ykB:List AG:=[zz4 34 0 3,q (.store 1 (.t 34) (.f n_step_of_4))]
abbrev ykC:List AG:=[zz4 33 0 3,q (.store 1 (.t 33) (.f n_step_of_3))]
abbrev ykD:List AG:=[zz4 32 0 3,q (.store 1 (.t 32) (.f n_step_of_2))]
abbrev ykE:List AG:=[zz4 31 0 3,q (.store 1 (.t 31) (.f n_step_of_1))]
abbrev ykF:List AG:=[o 30 (.cmp .eql (.sc .int) (.t 13) (.c (.int .i64 9))),zz1 28 30]
abbrev ykG:List AG:=[o 29 (.cmp .eql (.sc .int) (.t 13) (.c (.int .i64 8))),zz1 28 29]
abbrev ykH:List AG:=[o 27 (.cmp .eql (.sc .int) (.t 13) (.c (.int .i64 7))),zz1 25 27]
abbrev ykI:List AG:=[o 26 (.cmp .eql (.sc .int) (.t 13) (.c (.int .i64 6))),zz1 25 26]
abbrev ykJ:List AG:=[o 24 (.cmp .eql (.sc .int) (.t 13) (.c (.int .i64 5))),zz1 22 24]
abbrev ykK:List AG:=[o 23 (.cmp .eql (.sc .int) (.t 13) (.c (.int .i64 4))),zz1 22 23]
abbrev ykL:List AG:=[o 21 (.cmp .eql (.sc .int) (.t 13) (.c (.int .i64 3))),zz1 20 21]
abbrev ykM:List AG:=[o 19 (.cmp .eql (.sc .int) (.t 13) (.c (.int .i64 2))),zz1 18 19]
abbrev ykN:List AG:=[o 17 (.cmp .eql (.sc .int) (.t 13) (.c (.int .i64 1))),zz1 16 17]
abbrev ykO:List AG:=[o 15 (.cmp .eql (.sc .int) (.t 13) (.c (.int .i64 0))),zz1 14 15]
abbrev ykP:ACode:=(.seq (.seq (.seq (.reg ykO) (.cond (.t 14) (.exit 2) .skip)) (.seq (.seq (.reg ykN) (.cond (.t 16) (.exit 3) .skip)) (.seq (.seq (.reg ykM) (.cond (.t 18) (.exit 4) .skip)) (.seq (.seq (.reg ykL) (.cond (.t 20) (.exit 5) .skip)) (.seq (.seq (.seq (.reg ykK) (.cond (.t 22) .skip (.reg ykJ))) (.cond (.t 22) (.exit 6) .skip)) (.seq (.seq (.seq (.reg ykI) (.cond (.t 25) .skip (.reg ykH))) (.cond (.t 25) (.exit 7) .skip)) (.seq (.seq (.reg ykG) (.cond (.t 28) .skip (.reg ykF))) (.cond (.t 28) (.exit 8) .skip)))))))) (.exit 1))
abbrev ykQ:ACode:=(.block 2 [] ykP)
abbrev ykR:ACode:=(.seq (.block 3 [] ykQ) (.seq (.reg ykE) (.exit 1)))
abbrev ykS:ACode:=(.block 4 [] ykR)
abbrev ykT:ACode:=(.block 5 [] ykS)
abbrev ykU:ACode:=(.seq (.block 6 [] ykT) (.seq (.reg ykD) (.exit 1)))
abbrev ykV:ACode:=(.seq (.block 7 [] ykU) (.seq (.reg ykC) (.exit 1)))
abbrev ykW:ACode:=(.seq (.block 8 [] ykV) (.seq (.reg ykB) (.exit 1)))
abbrev ykX:List AG:=[zz1 13 0]
abbrev ykY:List AG:=[zz4 12 1 3,q (.store 1 (.t 12) (.c (.bool true)))]
abbrev ykZ:List AG:=[o 11 (.cmp .eql (.sc .int) (.t 5) (.c (.int .i64 9))),zz1 6 11]
abbrev yla:List AG:=[o 10 (.cmp .eql (.sc .int) (.t 5) (.c (.int .i64 7))),zz1 6 10]
abbrev ylb:ACode:=(.seq (.reg yla) (.cond (.t 6) .skip (.reg ykZ)))
abbrev ylc:List AG:=[o 9 (.cmp .eql (.sc .int) (.t 5) (.c (.int .i64 5))),zz1 6 9]
abbrev yle:ACode:=(.seq (.reg ylc) (.cond (.t 6) .skip ylb))
abbrev ylf:List AG:=[o 8 (.cmp .eql (.sc .int) (.t 5) (.c (.int .i64 3))),zz1 6 8]
abbrev ylg:ACode:=(.seq (.reg ylf) (.cond (.t 6) .skip yle))
abbrev ylh:List AG:=[o 7 (.cmp .eql (.sc .int) (.t 5) (.c (.int .i64 1))),zz1 6 7]
abbrev yli:ACode:=(.seq (.seq (.reg ylh) (.cond (.t 6) .skip ylg)) (.cond (.t 6) (.reg ykY) .skip))
abbrev ylj:List AG:=[zz1 5 0]
abbrev ylk:List AG:=[o 4 (.build [.nilf,(.bool false)] []),o 3 (.alloc [.nilf,(.bool false)]),zzb 2 3 4]
abbrev yll:List AG:=[o 2 (.alloc [.nilf,(.bool false)])]
abbrev step_of:AFun:=⟨(.seq (.reg yll) (.seq (.reg ylk) (.seq (.seq (.reg ylj) (.block 0 [] yli)) (.seq (.seq (.reg ykX) (.block 1 [] ykW)) (.seq (.reg ykA) .ret))))),36,[.cell 2 true 2]⟩
@[simp] theorem c_step_of:cfun Tryz.prog n_step_of=some step_of:=by kernel_rfl
@[simp] theorem e_step_of:hasBody Tryz.prog n_step_of=true:=by kernel_rfl
abbrev ylm:List AG:=[zz4 4 3 1,zz2 5 1 4,o 6 (.mkFunc (.func n_step_Gate_1_1) [] [(.t 2)]),zzg 7 n_slices_ContainsFunc_string_string 5 6,zz1 3 7]
abbrev yln:List AG:=[o 2 (.box 1 (.t 0)),zzh 3]
abbrev step_Gate_1:AFun:=⟨(.seq (.reg yln) (.seq (.reg ylm) .ret)),8,[.tmp 3]⟩
@[simp] theorem c_step_Gate_1:cfun Tryz.prog n_step_Gate_1=some step_Gate_1:=by kernel_rfl
@[simp] theorem e_step_Gate_1:hasBody Tryz.prog n_step_Gate_1=true:=by kernel_rfl
abbrev ylo:List AG:=[zz1 5 0,zz1 6 1,zzg 7 n_slices_IndexFunc_string_string 5 6,o 8 (.cmp .geq (.sc .int) (.t 7) (.c (.int .i64 0))),zz1 4 8]
abbrev ylp:List AG:=[zzh 4]
abbrev slices_ContainsFunc_string_string:AFun:=⟨(.seq (.reg ylp) (.seq (.reg ylo) .ret)),9,[.tmp 4]⟩
@[simp] theorem c_slices_ContainsFunc_string_string:cfun Tryz.prog n_slices_ContainsFunc_string_string=some slices_ContainsFunc_string_string:=by kernel_rfl
@[simp] theorem e_slices_ContainsFunc_string_string:hasBody Tryz.prog n_slices_ContainsFunc_string_string=true:=by kernel_rfl
abbrev ylq:List AG:=[zz1 4 0,zz2 5 1 1,zzg 6 n_step_fits 4 5,zz1 3 6]
abbrev ylr:List AG:=[zzh 3]
abbrev step_Gate_1_1:AFun:=⟨(.seq (.reg ylr) (.seq (.reg ylq) .ret)),7,[.tmp 3]⟩
@[simp] theorem c_step_Gate_1_1:cfun Tryz.prog n_step_Gate_1_1=some step_Gate_1_1:=by kernel_rfl
@[simp] theorem e_step_Gate_1_1:hasBody Tryz.prog n_step_Gate_1_1=true:=by kernel_rfl
abbrev yls:List AG:=[o 4 (.mv (.c (.bool true)))]
abbrev ylt:List Bool:=[I,O,O,O,O,O,O,I,I,I,O,O,O,O,O,O,O,O,O,O,O,O,O,O,O,O,O]
abbrev ylu:List Bool:=[O,O,O,O,O,O,O,O,O,O,O,O,O,O,O,O,O,O,O,O,O,O,O,O,O,O,O]
abbrev ylv:List AG:=[zz6 26 9 1,zz1 9 26]
abbrev ylw:List AG:=[zzh 4]
abbrev ylx:ACode:=(.seq (.reg ylw) .ret)
abbrev yly:List AG:=[zz1 14 0,zz1 15 5,o 16 (.ixStr (.t 14) (.t 15)),o 17 (.cmp .neq (.sc .int) (.t 16) (.c (.int .u8 45))),zz1 18 17,zze 19 18 0,zze 20 18 5,oy 21 18 (.ixStr (.t 19) (.t 20)),oy 22 18 (.cmp .eql (.sc .int) (.t 21) (.c (.int .u8 49))),zze 23 18 6,oy 24 18 (.cmp .neq (.sc .bool) (.t 22) (.t 23)),zz8 25 18 24]
abbrev ylz:List AG:=[zz1 11 9,zz5 12 1 7 9,zz2 13 1 12,zz1 5 11,zz1 6 13]
abbrev ylA:ACode:=(.seq (.reg ylz) (.seq (.reg yly) (.cond (.t 25) ylx .skip)))
abbrev ylB:List AG:=[zz7 10 9 8]
abbrev ylC:ACode:=(.seq (.reg ylB) (.seq (.cond (.t 10) .skip (.exit 0)) (.seq (.block 1 [] ylA) (.reg ylv))))
abbrev ylD:List AG:=[zz1 7 1,zza 8 7,zz9 9 0]
abbrev ylE:List AG:=[zzh 4]
abbrev step_fits:AFun:=⟨(.seq (.reg ylE) (.seq (.seq (.reg ylD) (.block 0 ylu (.loop ylt ylC))) (.seq (.reg yls) .ret))),27,[.tmp 4]⟩
abbrev ylF:List It:=[.code (.seq (.reg yls) .ret)]
abbrev ylG (x0 x7 x8 x9:AV) (h:List Ob) (e:Cx:=cx):Cfg:=atC n_step_fits (.code ylC::.inLoop ylt ylC::.inBlock 0 ylu::ylF) [x0,U,U,U,U,U,U,x7,x8,x9,U,U,U,U,U,U,U,U,U,U,U,U,U,U,U,U,U] h e
@[simp] theorem c_step_fits:cfun Tryz.prog n_step_fits=some step_fits:=by kernel_rfl
@[simp] theorem e_step_fits:hasBody Tryz.prog n_step_fits=true:=by kernel_rfl
abbrev ylH:List AG:=[zz4 66 1 1,zz2 67 1 66,o 68 (.cmp .geq (.sc .int) (.t 67) (.c (.int .i64 4))),zz1 69 68,oy 70 69 (.off 1 (.t 1)),zzd 71 69 1 70,oy 72 69 (.cmp .leq (.sc .int) (.t 71) (.c (.int .i64 9))),zz8 73 69 72,zz1 74 73,zze 75 74 3,oy 76 74 (.cmp .geq (.sc .int) (.t 75) (.c (.int .i64 2))),zz8 77 74 76,zz1 78 77,zze 79 78 3,oy 80 78 (.cmp .leq (.sc .int) (.t 79) (.c (.int .i64 8))),zz8 81 78 80,zz1 2 81]
abbrev ylI:List AG:=[zz1 64 3,o 65 (.cmp .eql (.sc .int) (.t 64) (.c (.int .i64 1))),zz1 2 65]
abbrev ylJ:ACode:=(.seq (.reg ylI) .ret)
abbrev ylK:List AG:=[zz4 56 1 1,zz2 57 1 56,o 58 (.cmp .eql (.sc .int) (.t 57) (.c (.int .i64 2))),zz1 59 58,on 60 59 (.off 1 (.t 1)),on 61 59 (.load false 1 (.t 60)),on 62 59 (.cmp .eql (.sc .int) (.t 61) (.c (.int .i64 3))),o 63 (.pick (.t 59) (.c (.bool true)) (.t 62))]
abbrev ylL:List AG:=[zz1 54 3,o 55 (.cmp .eql (.sc .int) (.t 54) (.c (.int .i64 0))),zz1 2 55]
abbrev ylM:ACode:=(.seq (.reg ylL) .ret)
abbrev ylN:List AG:=[zz4 46 1 1,zz2 47 1 46,o 48 (.cmp .eql (.sc .int) (.t 47) (.c (.int .i64 0))),zz1 49 48,on 50 49 (.off 1 (.t 1)),on 51 49 (.load false 1 (.t 50)),on 52 49 (.cmp .eql (.sc .int) (.t 51) (.c (.int .i64 1))),o 53 (.pick (.t 49) (.c (.bool true)) (.t 52))]
abbrev ylO:List AG:=[zzh 2]
abbrev ylP:ACode:=(.seq (.reg ylO) .ret)
abbrev ylQ:List AG:=[zz4 38 3 1,zz2 39 1 38,zza 40 39,o 41 (.cmp .gtr (.sc .int) (.t 40) (.c (.int .i64 0))),zz1 42 41,on 43 42 (.off 4 (.t 1)),on 44 42 (.load false 1 (.t 43)),o 45 (.pick (.t 42) (.c (.bool true)) (.t 44))]
abbrev ylR:List AG:=[zz1 30 3,o 31 (.cmp .leq (.sc .int) (.t 30) (.c (.int .i64 8))),zz1 32 31,oy 33 32 (.off 3 (.t 1)),zzd 34 32 1 33,oy 35 32 (.len (.t 34)),oy 36 32 (.cmp .leq (.sc .int) (.t 35) (.c (.int .i64 128))),zz8 37 32 36,zz1 2 37]
abbrev ylS:List Bool:=[O,I,O,I,I,O,O,O,O,O,O,O,O,O,O,O,O,O,O,O,O,O,O,O,O,O,O,O,O,O,O,O,O,O,O,O,O,O,O,O,O,O,O,O,O,O,O,O,O,O,O,O,O,O,O,O,O,O,O,O,O,O,O,O,O,O,O,O,O,O,O,O,O,O,O,O,O,O,O,O,O,O]
abbrev ylT:List Bool:=[O,I,O,I,O,O,O,O,O,O,O,O,O,O,O,O,O,O,O,O,O,O,O,O,O,O,O,O,O,O,O,O,O,O,O,O,O,O,O,O,O,O,O,O,O,O,O,O,O,O,O,O,O,O,O,O,O,O,O,O,O,O,O,O,O,O,O,O,O,O,O,O,O,O,O,O,O,O,O,O,O,O]
abbrev ylU:List AG:=[zz1 20 4,zz6 21 20 1,zz1 4 21]
abbrev ylV:List AG:=[zzh 2]
abbrev ylW:ACode:=(.seq (.reg ylV) .ret)
abbrev ylX:List AG:=[zz4 22 3 1,zz2 23 1 22,zz1 24 4,zz5 25 1 23 24,zz2 26 1 25,zz1 27 3,zzg 28 n_r06_row 26 27,o 29 (.not (.t 28))]
abbrev ylY:ACode:=(.seq (.reg ylX) (.cond (.t 29) ylW .skip))
abbrev ylZ:List AG:=[zz1 11 4,zz4 12 3 1,zz2 13 1 12,zza 14 13,zz7 15 11 14,zz1 16 15,zze 17 16 4,oy 18 16 (.cmp .leq (.sc .int) (.t 17) (.c (.int .i64 128))),zz8 19 16 18]
abbrev yma:ACode:=(.seq (.seq (.reg ylZ) (.cond (.t 19) .skip (.exit 0))) (.seq (.block 1 [] ylY) (.reg ylU)))
abbrev ymb:List AG:=[zz9 4 0]
abbrev ymc:ACode:=(.seq (.seq (.reg ymb) (.block 0 ylT (.loop ylS yma))) (.seq (.reg ylR) .ret))
abbrev ymd:List AG:=[zz4 8 1 1,zz2 9 1 8,o 10 (.cmp .eql (.sc .int) (.t 9) (.c (.int .i64 10)))]
abbrev yme:List AG:=[zz4 5 2 1,zz2 6 1 5,zza 7 6,zz1 3 7]
abbrev ymf:List AG:=[o 1 (.box 5 (.t 0)),zzh 2]
abbrev r06_Gate:AFun:=⟨(.seq (.reg ymf) (.seq (.reg yme) (.seq (.seq (.reg ymd) (.cond (.t 10) ymc .skip)) (.seq (.seq (.reg ylQ) (.cond (.t 45) ylP .skip)) (.seq (.seq (.reg ylN) (.cond (.t 53) ylM .skip)) (.seq (.seq (.reg ylK) (.cond (.t 63) ylJ .skip)) (.seq (.reg ylH) .ret))))))),82,[.tmp 2]⟩
@[simp] theorem c_r06_Gate:cfun Tryz.prog n_r06_Gate=some r06_Gate:=by kernel_rfl
@[simp] theorem e_r06_Gate:hasBody Tryz.prog n_r06_Gate=true:=by kernel_rfl
abbrev ymg:List AG:=[zz1 81 1,o 82 (.call (.f n_r06_odd) [(.t 81),(.c (.int .i64 0))]),zz1 83 0,o 84 (.cmp .eql (.sc .int) (.t 83) (.c (.int .i64 9))),zz1 4 82,zzh 5,zz1 6 84]
abbrev ymh:List AG:=[zz1 79 1,o 80 (.call (.f n_r06_odd) [(.t 79),(.c (.int .i64 1))]),zz1 4 80,zzh 5,o 6 (.mv (.c (.bool true)))]
abbrev ymi:ACode:=(.seq (.reg ymh) .ret)
abbrev ymj:List AG:=[zz1 77 0,o 78 (.cmp .eql (.sc .int) (.t 77) (.c (.int .i64 8)))]
abbrev ymk:List AG:=[o 4 (.nilrow 1 t_string),zzh 5,zzh 6]
abbrev yml:ACode:=(.seq (.reg ymk) .ret)
abbrev ymm:List AG:=[zz1 71 1,o 72 (.cmp .lss (.sc .int) (.t 71) (.c (.int .i64 2))),zz1 73 72,on 74 73 (.mv (.t 1)),on 75 73 (.cmp .gtr (.sc .int) (.t 74) (.c (.int .i64 8))),o 76 (.pick (.t 73) (.c (.bool true)) (.t 75))]
abbrev ymn:List AG:=[zz1 10 1,o 11 (.cmp .eql (.sc .int) (.t 10) (.c (.int .i64 0))),o 4 (.nilrow 1 t_string),zzh 5,zz1 6 11]
abbrev ymo:List AG:=[o 14 (.lit 1 [(.str [])] [(0,(.c (.str [])))]),zz1 15 1,o 16 (.cmp .eql (.sc .int) (.t 15) (.c (.int .i64 0))),zz1 4 14,zzh 5,zz1 6 16]
abbrev ymp:List AG:=[o 19 (.lit 1 [(.str [])] [(0,(.c (.str [49])))]),zz1 20 1,o 21 (.cmp .eql (.sc .int) (.t 20) (.c (.int .i64 1))),zz1 4 19,zzh 5,zz1 6 21]
abbrev ymq:List AG:=[o 24 (.lit 1 [(.str [])] [(0,(.c (.str [48])))]),zz1 25 1,o 26 (.cmp .eql (.sc .int) (.t 25) (.c (.int .i64 1))),zz1 4 24,zzh 5,zz1 6 26]
abbrev ymr:List AG:=[zz1 29 1,o 30 (.call (.f n_r06_all) [(.c (.str [49])),(.t 29)]),o 31 (.lit 1 [(.str [])] [(0,(.t 30))]),zz1 32 1,o 33 (.cmp .geq (.sc .int) (.t 32) (.c (.int .i64 2))),zz1 34 33,zze 35 34 1,oy 36 34 (.cmp .leq (.sc .int) (.t 35) (.c (.int .i64 8))),zz8 37 34 36,zz1 4 31,zzh 5,zz1 6 37]
abbrev yms:List AG:=[zz1 40 1,o 41 (.call (.f n_r06_all) [(.c (.str [49])),(.t 40)]),o 42 (.lit 1 [(.str [])] [(0,(.t 41))]),zz1 43 1,o 44 (.cmp .geq (.sc .int) (.t 43) (.c (.int .i64 2))),zz1 45 44,zze 46 45 1,oy 47 45 (.cmp .leq (.sc .int) (.t 46) (.c (.int .i64 8))),zz8 48 45 47,zz1 4 42,o 5 (.mv (.c (.bool true))),zz1 6 48]
abbrev ymt:List AG:=[zz1 51 1,o 52 (.call (.f n_r06_all) [(.c (.str [48])),(.t 51)]),o 53 (.lit 1 [(.str [])] [(0,(.t 52))]),zz1 54 1,o 55 (.cmp .geq (.sc .int) (.t 54) (.c (.int .i64 2))),zz1 56 55,zze 57 56 1,oy 58 56 (.cmp .leq (.sc .int) (.t 57) (.c (.int .i64 8))),zz8 59 56 58,zz1 4 53,o 5 (.mv (.c (.bool true))),zz1 6 59]
abbrev ymu:List AG:=[zz1 62 1,o 63 (.call (.f n_r06_all) [(.c (.str [48])),(.t 62)]),o 64 (.lit 1 [(.str [])] [(0,(.t 63))]),zz1 65 1,o 66 (.cmp .geq (.sc .int) (.t 65) (.c (.int .i64 2))),zz1 67 66,zze 68 67 1,oy 69 67 (.cmp .leq (.sc .int) (.t 68) (.c (.int .i64 8))),zz8 70 67 69,zz1 4 64,zzh 5,zz1 6 70]
abbrev ymv:ACode:=(.seq (.reg ymu) .ret)
abbrev ymw:List AG:=[o 61 (.cmp .eql (.sc .int) (.t 7) (.c (.int .i64 7))),zz1 60 61]
abbrev ymx:ACode:=(.seq (.reg ymt) .ret)
abbrev ymy:ACode:=(.seq (.reg ymw) (.cond (.t 60) ymv .skip))
abbrev ymz:List AG:=[o 50 (.cmp .eql (.sc .int) (.t 7) (.c (.int .i64 6))),zz1 49 50]
abbrev ymA:ACode:=(.seq (.reg yms) .ret)
abbrev ymB:ACode:=(.seq (.reg ymz) (.cond (.t 49) ymx ymy))
abbrev ymC:List AG:=[o 39 (.cmp .eql (.sc .int) (.t 7) (.c (.int .i64 5))),zz1 38 39]
abbrev ymD:ACode:=(.seq (.reg ymr) .ret)
abbrev ymE:ACode:=(.seq (.reg ymC) (.cond (.t 38) ymA ymB))
abbrev ymF:List AG:=[o 28 (.cmp .eql (.sc .int) (.t 7) (.c (.int .i64 4))),zz1 27 28]
abbrev ymG:ACode:=(.seq (.reg ymq) .ret)
abbrev ymH:ACode:=(.seq (.reg ymF) (.cond (.t 27) ymD ymE))
abbrev ymI:List AG:=[o 23 (.cmp .eql (.sc .int) (.t 7) (.c (.int .i64 3))),zz1 22 23]
abbrev ymJ:ACode:=(.seq (.reg ymp) .ret)
abbrev ymK:ACode:=(.seq (.reg ymI) (.cond (.t 22) ymG ymH))
abbrev ymL:List AG:=[o 18 (.cmp .eql (.sc .int) (.t 7) (.c (.int .i64 2))),zz1 17 18]
abbrev ymM:ACode:=(.seq (.reg ymo) .ret)
abbrev ymN:ACode:=(.seq (.reg ymL) (.cond (.t 17) ymJ ymK))
abbrev ymO:List AG:=[o 13 (.cmp .eql (.sc .int) (.t 7) (.c (.int .i64 1))),zz1 12 13]
abbrev ymP:ACode:=(.seq (.reg ymn) .ret)
abbrev ymQ:ACode:=(.seq (.reg ymO) (.cond (.t 12) ymM ymN))
abbrev ymR:List AG:=[o 9 (.cmp .eql (.sc .int) (.t 7) (.c (.int .i64 0))),zz1 8 9]
abbrev ymS:ACode:=(.seq (.reg ymR) (.cond (.t 8) ymP ymQ))
abbrev ymT:List AG:=[zz1 7 0]
abbrev ymU:List AG:=[o 4 (.nilrow 1 t_string),zzh 5,zzh 6]
abbrev r06_Rows:AFun:=⟨(.seq (.reg ymU) (.seq (.seq (.reg ymT) (.block 0 [] ymS)) (.seq (.seq (.reg ymm) (.cond (.t 76) yml .skip)) (.seq (.seq (.reg ymj) (.cond (.t 78) ymi .skip)) (.seq (.reg ymg) .ret))))),85,[.tmp 4,.tmp 5,.tmp 6]⟩
@[simp] theorem c_r06_Rows:cfun Tryz.prog n_r06_Rows=some r06_Rows:=by kernel_rfl
@[simp] theorem e_r06_Rows:hasBody Tryz.prog n_r06_Rows=true:=by kernel_rfl
abbrev ymV:List AG:=[o 4 (.mv (.c (.bool true)))]
abbrev ymW:List Bool:=[I,I,O,O,O,I,O,O,O,O,O,O,O,O,O,O,O,O,O,O,O,O,O,O,O,O,O,O,O,O,O,O,O,O,O]
abbrev ymX:List Bool:=[O,O,O,O,O,O,O,O,O,O,O,O,O,O,O,O,O,O,O,O,O,O,O,O,O,O,O,O,O,O,O,O,O,O,O]
abbrev ymY:List AG:=[zz1 10 5,zz6 11 10 1,zz1 5 11]
abbrev ymZ:List AG:=[zzh 4]
abbrev yna:ACode:=(.seq (.reg ymZ) .ret)
abbrev ynb:List AG:=[zz1 12 0,zz1 13 5,o 14 (.ixStr (.t 12) (.t 13)),o 15 (.cmp .eql (.sc .int) (.t 14) (.c (.int .u8 49))),zz1 16 15,zze 17 16 1,zze 18 16 5,oy 19 16 (.ixAddr 1 (.t 17) (.t 18)),zzd 20 16 1 19,oy 21 16 (.not (.t 20)),zz8 22 16 21,zz1 23 22,on 24 23 (.mv (.t 0)),on 25 23 (.mv (.t 5)),on 26 23 (.ixStr (.t 24) (.t 25)),on 27 23 (.cmp .eql (.sc .int) (.t 26) (.c (.int .u8 48))),on 28 23 (.mv (.t 27)),zze 29 28 1,zze 30 28 5,oy 31 28 (.ixAddr 1 (.t 29) (.t 30)),zzd 32 28 1 31,on 33 23 (.pick (.t 28) (.t 32) (.c (.bool false))),o 34 (.pick (.t 23) (.c (.bool true)) (.t 33))]
abbrev ync:ACode:=(.seq (.reg ynb) (.cond (.t 34) yna .skip))
abbrev ynd:List AG:=[zz1 6 5,zz1 7 1,zza 8 7,zz7 9 6 8]
abbrev yne:ACode:=(.seq (.seq (.reg ynd) (.cond (.t 9) .skip (.exit 0))) (.seq (.block 1 [] ync) (.reg ymY)))
abbrev ynf:List AG:=[zz9 5 0]
abbrev yng:List AG:=[zzh 4]
abbrev r08_fits:AFun:=⟨(.seq (.reg yng) (.seq (.seq (.reg ynf) (.block 0 ymX (.loop ymW yne))) (.seq (.reg ymV) .ret))),35,[.tmp 4]⟩
@[simp] theorem c_r08_fits:cfun Tryz.prog n_r08_fits=some r08_fits:=by kernel_rfl
@[simp] theorem e_r08_fits:hasBody Tryz.prog n_r08_fits=true:=by kernel_rfl
abbrev ynh:List AG:=[zz1 10 3,o 11 (.cmp .eql (.sc .int) (.t 10) (.c (.int .i64 0))),zz1 2 11]
abbrev yni:List AG:=[zz3 6 4 1,zzf 7 n_order_Check 6,zz1 5 7,zzc 8 5 0,zzc 9 5 1,zz1 3 8,zz1 4 9]
abbrev ynj:List AG:=[o 1 (.box 4 (.t 0)),zzh 2]
abbrev step_right:AFun:=⟨(.seq (.reg ynj) (.seq (.reg yni) (.seq (.reg ynh) .ret))),12,[.tmp 2]⟩
@[simp] theorem c_step_right:cfun Tryz.prog n_step_right=some step_right:=by kernel_rfl
@[simp] theorem e_step_right:hasBody Tryz.prog n_step_right=true:=by kernel_rfl
abbrev ynk:List AG:=[zz1 10 3,o 11 (.cmp .eql (.sc .int) (.t 10) (.c (.int .i64 0))),zz1 2 11]
abbrev ynl:List AG:=[zz3 6 4 1,zzf 7 n_r07_Check 6,zz1 5 7,zzc 8 5 0,zzc 9 5 1,zz1 3 8,zz1 4 9]
abbrev ynm:List AG:=[o 1 (.box 4 (.t 0)),zzh 2]
abbrev r08_right:AFun:=⟨(.seq (.reg ynm) (.seq (.reg ynl) (.seq (.reg ynk) .ret))),12,[.tmp 2]⟩
@[simp] theorem c_r08_right:cfun Tryz.prog n_r08_right=some r08_right:=by kernel_rfl
@[simp] theorem e_r08_right:hasBody Tryz.prog n_r08_right=true:=by kernel_rfl
abbrev ynn:List AG:=[zz3 14 4 1,zz3 15 4 1,zzf 16 n_net_Nets 15,zz1 17 4,o 18 (.build [(.list true 0 []),(.list true 0 []),(.list true 0 []),(.list true 0 []),(.list true 0 []),(.list true 0 [])] [(0,4,(.t 14)),(4,1,(.t 16)),(5,1,(.t 17))]),o 19 (.box 6 (.t 18)),zz1 2 19,zz9 3 0]
abbrev yno:List AG:=[zz3 10 4 1,zzf 11 n_order_Sort 10,zz1 9 11,zzc 12 9 0,zzc 13 9 1,zz1 4 12,zz1 5 13]
abbrev ynp:List AG:=[o 2 (.mv (.c .nilp)),zz9 3 1]
abbrev ynq:ACode:=(.seq (.reg ynp) .ret)
abbrev ynr:List AG:=[zz3 6 4 1,zzf 7 n_step_right 6,o 8 (.not (.t 7))]
abbrev yns:List AG:=[o 1 (.box 4 (.t 0)),o 2 (.mv (.c .nilp)),zz9 3 0]
abbrev step_begin:AFun:=⟨(.seq (.reg yns) (.seq (.seq (.reg ynr) (.cond (.t 8) ynq .skip)) (.seq (.reg yno) (.seq (.dreg [I,O,O,O,O,O,O,O] [6,3,6,6,6,9,9,9] ynn) .ret)))),20,[.tmp 2,.tmp 3]⟩
@[simp] theorem c_step_begin:cfun Tryz.prog n_step_begin=some step_begin:=by kernel_rfl
@[simp] theorem e_step_begin:hasBody Tryz.prog n_step_begin=true:=by kernel_rfl
abbrev ynt:List AG:=[zz1 85 8,zz1 6 85,zz9 7 0]
abbrev ynu:List Bool:=[I,O,O,O,O,O,O,O,I,O,O,O,O,O,O,O,O,O,O,O,O,O,O,O,O,O,O,O,O,O,O,O,O,O,O,O,O,O,O,O,O,O,O,O,O,O,O,O,O,O,O,O,O,O,O,O,O,O,I,I,I,O,O,O,O,O,O,O,O,O,O,O,O,O,O,O,O,O,O,O,O,O,O,O,O,O]
abbrev ynv:List Bool:=[O,O,O,O,O,O,O,O,I,O,O,O,O,O,O,O,O,O,O,O,O,O,O,O,O,O,O,O,O,O,O,O,O,O,O,O,O,O,O,O,O,O,O,O,O,O,O,O,O,O,O,O,O,O,O,O,O,O,O,O,O,O,O,O,O,O,O,O,O,O,O,O,O,O,O,O,O,O,O,O,O,O,O,O,O,O]
abbrev ynw:List AG:=[zz6 84 60 1,zz1 60 84]
abbrev ynx:List AG:=[zz1 73 8,zz4 74 0 13,zz2 75 1 74,zz3 76 5 13,zz1 77 8,zz4 78 2 13,zz2 79 1 78,zzg 80 n_step_pick 77 79,zzg 81 n_step_Gate 76 80,zz1 72 81,zzc 82 72 0,zzc 83 72 1,q (.upd (.sc .str) (.t 73) (.t 75) (.t 82))]
abbrev yny:List AG:=[zz1 64 0,o 65 (.nilck (.t 64)),zz4 66 0 65,zz4 67 3 66,zz2 68 1 67,zz1 69 12,zz5 70 5 68 69,zz3 71 5 70,o 13 (.alloc [(.str []),(.int .i64 0),(.own 1 t_string []),(.own 1 t_string []),(.bool false)]),zzb 5 13 71]
abbrev ynz:List AG:=[zz5 62 1 58 60,zz2 63 1 62,zz1 12 63]
abbrev ynA:ACode:=(.seq (.reg ynz) (.seq (.reg yny) (.dreg [O,O,I,I,O,O,O,O,O,O,O,O,O] [13,13,13,9,8,8,8,9,13,13,13,14,14] ynx)))
abbrev ynB:List AG:=[zz7 61 60 59]
abbrev ynC:ACode:=(.seq (.reg ynB) (.seq (.cond (.t 61) .skip (.exit 2)) (.seq (.block 3 [] ynA) (.reg ynw))))
abbrev ynD:List AG:=[zz1 55 0,o 56 (.nilck (.t 55)),zz4 57 5 56,zz2 58 1 57,zza 59 58,zz9 60 0]
abbrev ynE:List Bool:=[I,O,O,O,O,O,O,O,I,O,O,O,O,O,O,O,O,O,O,O,O,O,O,O,O,O,O,O,O,O,O,O,O,O,O,O,O,O,I,I,I,O,O,O,O,O,O,O,O,O,O,O,O,O,O,O,O,O,O,O,O,O,O,O,O,O,O,O,O,O,O,O,O,O,O,O,O,O,O,O,O,O,O,O,O,O]
abbrev ynF:List Bool:=[I,O,O,O,O,O,O,O,I,O,O,O,O,O,O,O,O,O,O,O,O,O,O,O,O,O,O,O,O,O,O,O,O,O,O,O,O,O,O,O,O,O,O,O,O,O,O,O,O,O,O,O,O,O,O,O,O,O,O,O,O,O,O,O,O,O,O,O,O,O,O,O,O,O,O,O,O,O,O,O,O,O,O,O,O,O]
abbrev ynG:List AG:=[zz6 54 40 1,zz1 40 54]
abbrev ynH:List AG:=[zz1 45 8,zz1 46 0,o 47 (.nilck (.t 46)),zz4 48 4 47,zz2 49 1 48,zz1 50 9,zz5 51 1 49 50,zz2 52 1 51,zz1 53 10,q (.upd (.sc .str) (.t 45) (.t 52) (.t 53))]
abbrev ynI:List AG:=[zz1 42 40,zz5 43 1 38 40,zz2 44 1 43,zz1 9 42,zz1 10 44]
abbrev ynJ:ACode:=(.seq (.reg ynI) (.reg ynH))
abbrev ynK:List AG:=[zz7 41 40 39]
abbrev ynL:ACode:=(.seq (.reg ynK) (.seq (.cond (.t 41) .skip (.exit 0)) (.seq (.block 1 [] ynJ) (.reg ynG))))
abbrev ynM:List AG:=[zz1 35 2,zz1 36 1,o 37 (.lit 1 [(.list true 0 []),(.list true 0 [])] [(0,(.t 35)),(1,(.t 36))]),zzf 38 n_slices_Concat_bool_bool 37,zza 39 38,zz9 40 0]
abbrev ynN:List AG:=[o 34 (.mkMap),zz1 8 34]
abbrev ynO:List AG:=[o 6 (.mv (.c .nilm)),zz9 7 11]
abbrev ynP:ACode:=(.seq (.reg ynO) .ret)
abbrev ynQ:List AG:=[zz1 14 1,zza 15 14,zz1 16 0,o 17 (.nilck (.t 16)),zz4 18 0 17,zz4 19 2 18,zz2 20 1 19,zza 21 20,o 22 (.cmp .neq (.sc .int) (.t 15) (.t 21)),zz1 23 22,on 24 23 (.mv (.t 2)),on 25 23 (.len (.t 24)),on 26 23 (.mv (.t 0)),on 27 23 (.nilck (.t 26)),on 28 23 (.off 0 (.t 27)),on 29 23 (.off 0 (.t 28)),on 30 23 (.load false 1 (.t 29)),on 31 23 (.len (.t 30)),on 32 23 (.cmp .neq (.sc .int) (.t 25) (.t 31)),o 33 (.pick (.t 23) (.c (.bool true)) (.t 32))]
abbrev ynR:List AG:=[o 6 (.mv (.c .nilm)),zz9 7 0]
abbrev step_machine_values:AFun:=⟨(.seq (.reg ynR) (.seq (.seq (.reg ynQ) (.cond (.t 33) ynP .skip)) (.seq (.reg ynN) (.seq (.seq (.reg ynM) (.block 0 ynF (.loop ynE ynL))) (.seq (.seq (.reg ynD) (.block 2 ynv (.loop ynu ynC))) (.seq (.reg ynt) .ret)))))),86,[.tmp 6,.tmp 7]⟩
abbrev ynS:List It:=[.code (.seq (.reg ynt) .ret)]
abbrev ynT (x0 x8 x58 x59 x60:AV) (h:List Ob) (e:Cx:=cx):Cfg:=atC n_step_machine_values (.code ynC::.inLoop ynu ynC::.inBlock 2 ynv::ynS) [x0,U,U,U,U,U,U,U,x8,U,U,U,U,U,U,U,U,U,U,U,U,U,U,U,U,U,U,U,U,U,U,U,U,U,U,U,U,U,U,U,U,U,U,U,U,U,U,U,U,U,U,U,U,U,U,U,U,U,x58,x59,x60,U,U,U,U,U,U,U,U,U,U,U,U,U,U,U,U,U,U,U,U,U,U,U,U,U] h e
abbrev ynU (x8:AV) (h:List Ob) (e:Cx:=cx):Cfg:=atC n_step_machine_values ynS [U,U,U,U,U,U,U,U,x8,U,U,U,U,U,U,U,U,U,U,U,U,U,U,U,U,U,U,U,U,U,U,U,U,U,U,U,U,U,U,U,U,U,U,U,U,U,U,U,U,U,U,U,U,U,U,U,U,U,U,U,U,U,U,U,U,U,U,U,U,U,U,U,U,U,U,U,U,U,U,U,U,U,U,U,U,U] h e
abbrev ynV:List It:=[.code (.seq (.seq (.reg ynD) (.block 2 ynv (.loop ynu ynC))) (.seq (.reg ynt) .ret))]
abbrev ynW (x0 x8 x38 x39 x40:AV) (h:List Ob) (e:Cx:=cx):Cfg:=atC n_step_machine_values (.code ynL::.inLoop ynE ynL::.inBlock 0 ynF::ynV) [x0,U,U,U,U,U,U,U,x8,U,U,U,U,U,U,U,U,U,U,U,U,U,U,U,U,U,U,U,U,U,U,U,U,U,U,U,U,U,x38,x39,x40,U,U,U,U,U,U,U,U,U,U,U,U,U,U,U,U,U,U,U,U,U,U,U,U,U,U,U,U,U,U,U,U,U,U,U,U,U,U,U,U,U,U,U,U,U] h e
abbrev ynX (x0 x8:AV) (h:List Ob) (e:Cx:=cx):Cfg:=atC n_step_machine_values ynV [x0,U,U,U,U,U,U,U,x8,U,U,U,U,U,U,U,U,U,U,U,U,U,U,U,U,U,U,U,U,U,U,U,U,U,U,U,U,U,U,U,U,U,U,U,U,U,U,U,U,U,U,U,U,U,U,U,U,U,U,U,U,U,U,U,U,U,U,U,U,U,U,U,U,U,U,U,U,U,U,U,U,U,U,U,U,U] h e
@[simp] theorem c_step_machine_values:cfun Tryz.prog n_step_machine_values=some step_machine_values:=by kernel_rfl
@[simp] theorem e_step_machine_values:hasBody Tryz.prog n_step_machine_values=true:=by kernel_rfl
abbrev ynY:List AG:=[zz1 21 5,zz1 4 21]
abbrev ynZ:List Bool:=[I,O,O,O,O,I,O,O,I,I,I,O,O,O,O,O,O,O,O,O,O,O]
abbrev yoa:List Bool:=[O,O,O,O,O,I,O,O,O,O,O,O,O,O,O,O,O,O,O,O,O,O]
abbrev yob:List AG:=[zz6 20 10 1,zz1 10 20]
abbrev yoc:List AG:=[zz1 14 5,zz1 15 0,zz1 16 7,o 17 (.lookup (.sc .str) (.bool false) (.t 15) (.t 16) false),o 18 (.lit 1 [(.bool false)] [(0,(.t 17))]),o 19 (.append 1 t_bool 1 (.t 14) (.t 18)),zz1 5 19]
abbrev yod:List AG:=[zz5 12 1 8 10,zz2 13 1 12,zz1 7 13]
abbrev yoe:ACode:=(.seq (.reg yod) (.reg yoc))
abbrev yof:List AG:=[zz7 11 10 9]
abbrev yog:ACode:=(.seq (.reg yof) (.seq (.cond (.t 11) .skip (.exit 0)) (.seq (.block 1 [] yoe) (.reg yob))))
abbrev yoh:List AG:=[zz1 8 1,zza 9 8,zz9 10 0]
abbrev yoi:List AG:=[o 5 (.nilrow 1 t_bool)]
abbrev yoj:List AG:=[o 4 (.nilrow 1 t_bool)]
abbrev step_pick:AFun:=⟨(.seq (.reg yoj) (.seq (.reg yoi) (.seq (.seq (.reg yoh) (.block 0 yoa (.loop ynZ yog))) (.seq (.reg ynY) .ret)))),22,[.tmp 4]⟩
abbrev yok:List It:=[.code (.seq (.reg ynY) .ret)]
abbrev yol (x0 x5 x8 x9 x10:AV) (h:List Ob) (e:Cx:=cx):Cfg:=atC n_step_pick (.code yog::.inLoop ynZ yog::.inBlock 0 yoa::yok) [x0,U,U,U,U,x5,U,U,x8,x9,x10,U,U,U,U,U,U,U,U,U,U,U] h e
@[simp] theorem c_step_pick:cfun Tryz.prog n_step_pick=some step_pick:=by kernel_rfl
@[simp] theorem e_step_pick:hasBody Tryz.prog n_step_pick=true:=by kernel_rfl
abbrev yom:List AG:=[zz1 75 4,zz1 76 5,zz1 2 75,zz1 3 76]
abbrev yon:List Bool:=[O,I,O,O,I,I,I,O,O,I,O,O,O,O,O,O,O,O,O,O,O,O,O,O,O,O,O,O,O,O,O,O,O,O,O,O,O,O,O,O,O,O,O,O,O,O,O,O,O,O,O,O,O,O,O,O,O,O,O,O,O,O,O,O,O,O,O,O,O,O,O,O,O,O,O,O,O]
abbrev yoo:List Bool:=[O,O,O,O,I,I,O,O,O,O,O,O,O,O,O,O,O,O,O,O,O,O,O,O,O,O,O,O,O,O,O,O,O,O,O,O,O,O,O,O,O,O,O,O,O,O,O,O,O,O,O,O,O,O,O,O,O,O,O,O,O,O,O,O,O,O,O,O,O,O,O,O,O,O,O,O,O]
abbrev yop:List AG:=[zz1 59 9,zz6 60 59 1,zz1 9 60]
abbrev yoq:List AG:=[zz1 66 5,zz4 67 3 1,zz2 68 1 67,zz1 69 9,zz5 70 5 68 69,zz4 71 0 70,zz2 72 1 71,o 73 (.lit 1 [(.str [])] [(0,(.t 72))]),o 74 (.append 1 t_string 16 (.t 66) (.t 73)),zz1 5 74]
abbrev yor:List AG:=[zz1 61 6,zz1 62 9,zz5 63 1 61 62,zz2 64 1 63,o 65 (.not (.t 64))]
abbrev yos:ACode:=(.seq (.reg yor) (.cond (.t 65) (.reg yoq) .skip))
abbrev yot:List AG:=[zz1 54 9,zz4 55 3 1,zz2 56 1 55,zza 57 56,zz7 58 54 57]
abbrev you:ACode:=(.seq (.seq (.reg yot) (.cond (.t 58) .skip (.exit 4))) (.seq (.block 5 [] yos) (.reg yop)))
abbrev yov:List AG:=[zz9 9 0]
abbrev yow:List Bool:=[O,I,O,O,I,I,I,I,O,O,O,O,O,O,O,O,O,O,O,O,O,O,O,O,O,O,O,O,O,O,O,O,O,O,O,O,O,O,O,O,O,O,O,O,O,O,O,O,O,O,O,O,O,O,O,O,O,O,O,O,O,O,O,O,O,O,O,O,O,O,O,O,O,O,O,O,O]
abbrev yox:List Bool:=[O,I,O,O,I,I,I,O,O,O,O,O,O,O,O,O,O,O,O,O,O,O,O,O,O,O,O,O,O,O,O,O,O,O,O,O,O,O,O,O,O,O,O,O,O,O,O,O,O,O,O,O,O,O,O,O,O,O,O,O,O,O,O,O,O,O,O,O,O,O,O,O,O,O,O,O,O]
abbrev yoy:List AG:=[zz1 22 7,zz6 23 22 1,zz1 7 23]
abbrev yoz:List Bool:=[O,I,O,O,I,I,I,I,I,O,O,O,O,O,O,O,O,O,O,O,O,O,O,O,O,O,O,O,O,O,O,O,O,O,O,O,O,O,O,O,O,O,O,O,O,O,O,O,O,O,O,O,O,O,O,O,O,O,O,O,O,O,O,O,O,O,O,O,O,O,O,O,O,O,O,O,O]
abbrev yoA:List Bool:=[O,I,O,O,I,I,I,I,O,O,O,O,O,O,O,O,O,O,O,O,O,O,O,O,O,O,O,O,O,O,O,O,O,O,O,O,O,O,O,O,O,O,O,O,O,O,O,O,O,O,O,O,O,O,O,O,O,O,O,O,O,O,O,O,O,O,O,O,O,O,O,O,O,O,O,O,O]
abbrev yoB:List AG:=[zz1 29 8,zz6 30 29 1,zz1 8 30]
abbrev yoC:List AG:=[zz1 50 4,zz1 51 8,o 52 (.lit 1 [(.int .i64 0)] [(0,(.t 51))]),o 53 (.append 1 t_int 8 (.t 50) (.t 52)),zz1 4 53]
abbrev yoD:List AG:=[zz1 47 6,zz1 48 8,zz5 49 1 47 48,q (.store 1 (.t 49) (.c (.bool true)))]
abbrev yoE:ACode:=(.seq (.reg yoD) (.seq (.reg yoC) (.exit 2)))
abbrev yoF:List AG:=[zz1 31 6,zz1 32 8,zz5 33 1 31 32,zz2 34 1 33,o 35 (.not (.t 34)),zz1 36 35,oy 37 36 (.load true 4 (.t 1)),oy 38 36 (.off 3 (.t 1)),zzd 39 36 1 38,zze 40 36 8,oy 41 36 (.ixAddr 5 (.t 39) (.t 40)),oy 42 36 (.load true 5 (.t 41)),zze 43 36 6,oy 44 36 (.call (.f n_r07_waits) [(.t 37),(.t 42),(.t 43)]),oy 45 36 (.not (.t 44)),zz8 46 36 45]
abbrev yoG:ACode:=(.seq (.dreg [O,O,O,O,O,O,O,O,O,O,O,O,O,O,O,O] [14,14,14,14,14,14,14,14,14,14,14,14,14,17,17,17] yoF) (.cond (.t 46) yoE .skip))
abbrev yoH:List AG:=[zz1 24 8,zz4 25 3 1,zz2 26 1 25,zza 27 26,zz7 28 24 27]
abbrev yoI:ACode:=(.seq (.seq (.reg yoH) (.cond (.t 28) .skip (.exit 2))) (.seq (.block 3 [] yoG) (.reg yoB)))
abbrev yoJ:List AG:=[zz9 8 0]
abbrev yoK:ACode:=(.seq (.reg yoJ) (.block 2 yoA (.loop yoz yoI)))
abbrev yoL:List AG:=[zz1 17 7,zz4 18 3 1,zz2 19 1 18,zza 20 19,zz7 21 17 20]
abbrev yoM:ACode:=(.seq (.seq (.reg yoL) (.cond (.t 21) .skip (.exit 0))) (.seq (.block 1 [] yoK) (.reg yoy)))
abbrev yoN:List AG:=[zz9 7 0]
abbrev yoO:List AG:=[zz4 13 3 1,zz2 14 1 13,zza 15 14,o 16 (.mkSlice 1 t_bool 1 (.bool false) (.t 15) (.t 15)),zz1 6 16]
abbrev yoP:List AG:=[o 2 (.nilrow 1 t_int),o 3 (.nilrow 1 t_string)]
abbrev yoQ:ACode:=(.seq (.reg yoP) .ret)
abbrev yoR:List AG:=[zz3 10 4 1,zzf 11 n_r07_right 10,o 12 (.not (.t 11))]
abbrev yoS:List AG:=[o 5 (.nilrow 1 t_string)]
abbrev yoT:List AG:=[o 4 (.nilrow 1 t_int)]
abbrev yoU:List AG:=[o 1 (.box 4 (.t 0)),o 2 (.nilrow 1 t_int),o 3 (.nilrow 1 t_string)]
abbrev r07_Sort:AFun:=⟨(.seq (.reg yoU) (.seq (.reg yoT) (.seq (.reg yoS) (.seq (.seq (.reg yoR) (.cond (.t 12) yoQ .skip)) (.seq (.reg yoO) (.seq (.seq (.reg yoN) (.block 0 yox (.loop yow yoM))) (.seq (.seq (.reg yov) (.block 4 yoo (.loop yon you))) (.seq (.reg yom) .ret)))))))),77,[.tmp 2,.tmp 3]⟩
@[simp] theorem c_r07_Sort:cfun Tryz.prog n_r07_Sort=some r07_Sort:=by kernel_rfl
@[simp] theorem e_r07_Sort:hasBody Tryz.prog n_r07_Sort=true:=by kernel_rfl
abbrev yoV:List AG:=[zz1 42 9,zz1 43 0,o 44 (.nilck (.t 43)),zz4 45 0 44,zz4 46 1 45,zz2 47 1 46,zzg 48 n_step_pick 42 47,zz1 49 11,zz1 6 48,zz1 7 49,zz9 8 0]
abbrev yoW:List Bool:=[I,O,O,O,O,O,O,O,O,I,O,I,O,O,O,O,O,O,O,O,O,O,O,O,O,O,O,O,I,I,I,O,O,O,O,O,O,O,O,O,O,O,O,O,O,O,O,O,O,O]
abbrev yoX:List Bool:=[I,O,O,O,O,O,O,O,O,I,O,I,O,O,O,O,O,O,O,O,O,O,O,O,O,O,O,O,O,O,O,O,O,O,O,O,O,O,O,O,O,O,O,O,O,O,O,O,O,O]
abbrev yoY:List AG:=[zz6 41 30 1,zz1 30 41]
abbrev yoZ:List AG:=[zz1 34 11,zz1 35 9,zz4 36 1 13,zz2 37 1 36,o 38 (.lookup (.sc .str) (.bool false) (.t 35) (.t 37) false),o 39 (.lit 1 [(.bool false)] [(0,(.t 38))]),o 40 (.append 1 t_bool 1 (.t 34) (.t 39)),zz1 11 40]
abbrev ypa:List AG:=[zz5 32 3 28 30,zz3 33 3 32,o 13 (.alloc [(.str []),(.str []),(.int .i64 0)]),zzb 3 13 33]
abbrev ypb:ACode:=(.seq (.reg ypa) (.reg yoZ))
abbrev ypc:List AG:=[zz7 31 30 29]
abbrev ypd:ACode:=(.seq (.reg ypc) (.seq (.cond (.t 31) .skip (.exit 0)) (.seq (.block 1 [] ypb) (.reg yoY))))
abbrev ype:List AG:=[zz1 24 0,o 25 (.nilck (.t 24)),zz4 26 0 25,zz4 27 2 26,zz2 28 1 27,zza 29 28,zz9 30 0]
abbrev ypf:List AG:=[o 11 (.nilrow 1 t_bool)]
abbrev ypg:List AG:=[zz1 23 10,o 6 (.nilrow 1 t_bool),o 7 (.nilrow 1 t_bool),zz1 8 23]
abbrev yph:ACode:=(.seq (.reg ypg) .ret)
abbrev ypi:List AG:=[zz1 21 10,o 22 (.cmp .neq (.sc .int) (.t 21) (.c (.int .i64 0)))]
abbrev ypj:List AG:=[zz1 15 0,zz1 16 1,zz1 17 2,o 18 (.call (.f n_step_machine_values) [(.t 15),(.t 16),(.t 17)]),zz1 14 18,zzc 19 14 0,zzc 20 14 1,zz1 9 19,zz1 10 20]
abbrev ypk:List AG:=[o 6 (.nilrow 1 t_bool),o 7 (.nilrow 1 t_bool),zz9 8 0]
abbrev step_machine_step:AFun:=⟨(.seq (.reg ypk) (.seq (.reg ypj) (.seq (.seq (.reg ypi) (.cond (.t 22) yph .skip)) (.seq (.reg ypf) (.seq (.seq (.reg ype) (.block 0 yoX (.loop yoW ypd))) (.seq (.reg yoV) .ret)))))),50,[.tmp 6,.tmp 7,.tmp 8]⟩
abbrev ypl:List It:=[.code (.seq (.reg yoV) .ret)]
abbrev ypm (x0 x9 x11 x28 x29 x30:AV) (h:List Ob) (e:Cx:=cx):Cfg:=atC n_step_machine_step (.code ypd::.inLoop yoW ypd::.inBlock 0 yoX::ypl) [x0,U,U,U,U,U,U,U,U,x9,U,x11,U,U,U,U,U,U,U,U,U,U,U,U,U,U,U,U,x28,x29,x30,U,U,U,U,U,U,U,U,U,U,U,U,U,U,U,U,U,U,U] h e
abbrev ypn (x0 x9 x11:AV) (h:List Ob) (e:Cx:=cx):Cfg:=atC n_step_machine_step ypl [x0,U,U,U,U,U,U,U,U,x9,U,x11,U,U,U,U,U,U,U,U,U,U,U,U,U,U,U,U,U,U,U,U,U,U,U,U,U,U,U,U,U,U,U,U,U,U,U,U,U,U] h e
@[simp] theorem c_step_machine_step:cfun Tryz.prog n_step_machine_step=some step_machine_step:=by kernel_rfl
@[simp] theorem e_step_machine_step:hasBody Tryz.prog n_step_machine_step=true:=by kernel_rfl
abbrev ypo:List AG:=[o 9 (.mkFunc (.func n_step_machine_steps_1) [] [(.t 6),(.t 4),(.t 5),(.t 7)]),zz1 8 9]
abbrev ypp:List AG:=[o 4 (.box 1 (.t 0)),o 5 (.box 1 (.t 1)),o 6 (.box 1 (.t 2)),o 7 (.box 1 (.t 3)),o 8 (.mv (.c .nilf))]
abbrev step_machine_steps:AFun:=⟨(.seq (.reg ypp) (.seq (.reg ypo) .ret)),10,[.tmp 8]⟩
@[simp] theorem c_step_machine_steps:cfun Tryz.prog n_step_machine_steps=some step_machine_steps:=by kernel_rfl
@[simp] theorem e_step_machine_steps:hasBody Tryz.prog n_step_machine_steps=true:=by kernel_rfl
abbrev ypq:List AG:=[o 5 (.lit 1 [] []),zz1 6 0,o 7 (.append 1 t_bool 1 (.t 5) (.t 6)),zz1 2 7]
abbrev ypr:List AG:=[o 2 (.nilrow 1 t_bool)]
abbrev yps:ACode:=(.seq (.reg ypr) .ret)
abbrev ypt:List AG:=[zz1 3 0,o 4 (.isnil false (.t 3))]
abbrev ypu:List AG:=[o 2 (.nilrow 1 t_bool)]
abbrev slices_Clone_bool_bool:AFun:=⟨(.seq (.reg ypu) (.seq (.seq (.reg ypt) (.cond (.t 4) yps .skip)) (.seq (.reg ypq) .ret))),8,[.tmp 2]⟩
@[simp] theorem c_slices_Clone_bool_bool:cfun Tryz.prog n_slices_Clone_bool_bool=some slices_Clone_bool_bool:=by kernel_rfl
@[simp] theorem e_slices_Clone_bool_bool:hasBody Tryz.prog n_slices_Clone_bool_bool=true:=by kernel_rfl
abbrev ypv:List AG:=[zz1 10 3,o 11 (.cmp .eql (.sc .int) (.t 10) (.c (.int .i64 0))),zz1 2 11]
abbrev ypw:List AG:=[zz3 6 4 1,zzf 7 n_net_Check 6,zz1 5 7,zzc 8 5 0,zzc 9 5 1,zz1 3 8,zz1 4 9]
abbrev ypx:List AG:=[o 1 (.box 4 (.t 0)),zzh 2]
abbrev order_right:AFun:=⟨(.seq (.reg ypx) (.seq (.reg ypw) (.seq (.reg ypv) .ret))),12,[.tmp 2]⟩
@[simp] theorem c_order_right:cfun Tryz.prog n_order_right=some order_right:=by kernel_rfl
@[simp] theorem e_order_right:hasBody Tryz.prog n_order_right=true:=by kernel_rfl
abbrev ypy:List AG:=[zz1 84 13,zz1 4 84]
abbrev ypz:List Bool:=[O,O,O,O,O,O,O,O,O,O,I,O,O,I,O,O,O,O,O,O,O,O,O,O,O,O,O,O,O,O,O,O,O,O,O,O,O,O,O,O,O,O,O,O,O,O,O,O,O,O,O,O,O,O,O,O,O,O,O,O,O,O,O,O,O,O,O,O,O,O,I,I,I,O,O,O,O,O,O,O,O,O,O,O,O]
abbrev ypA:List Bool:=[O,O,O,O,O,O,O,O,O,O,O,O,O,I,O,O,O,O,O,O,O,O,O,O,O,O,O,O,O,O,O,O,O,O,O,O,O,O,O,O,O,O,O,O,O,O,O,O,O,O,O,O,O,O,O,O,O,O,O,O,O,O,O,O,O,O,O,O,O,O,O,O,O,O,O,O,O,O,O,O,O,O,O,O,O]
abbrev ypB:List AG:=[zz6 83 72 1,zz1 72 83]
abbrev ypC:List AG:=[zz1 79 13,zz1 80 15,o 81 (.lit 1 [(.str [])] [(0,(.t 80))]),o 82 (.append 1 t_string 16 (.t 79) (.t 81)),zz1 13 82]
abbrev ypD:List AG:=[zz1 76 10,zz1 77 15,o 78 (.lookup (.sc .str) (.bool false) (.t 76) (.t 77) false)]
abbrev ypE:List AG:=[zz5 74 1 70 72,zz2 75 1 74,zz1 15 75]
abbrev ypF:ACode:=(.seq (.reg ypE) (.seq (.reg ypD) (.cond (.t 78) (.reg ypC) .skip)))
abbrev ypG:List AG:=[zz7 73 72 71]
abbrev ypH:ACode:=(.seq (.reg ypG) (.seq (.cond (.t 73) .skip (.exit 6)) (.seq (.block 7 [] ypF) (.reg ypB))))
abbrev ypI:List AG:=[zz3 69 4 2,zzf 70 n_net_Nets 69,zza 71 70,zz9 72 0]
abbrev ypJ:List AG:=[o 13 (.nilrow 1 t_string)]
abbrev ypK:List Bool:=[O,O,I,O,O,I,O,O,O,O,I,I,O,O,O,O,O,O,O,O,O,O,O,O,O,O,O,O,O,O,O,O,O,O,O,O,O,O,O,O,O,O,O,O,O,O,O,O,O,O,O,O,O,O,O,O,O,O,O,O,O,O,O,O,O,O,O,O,O,O,O,O,O,O,O,O,O,O,O,O,O,O,O,O,O]
abbrev ypL:List Bool:=[O,O,I,O,O,O,O,O,O,O,I,O,O,O,O,O,O,O,O,O,O,O,O,O,O,O,O,O,O,O,O,O,O,O,O,O,O,O,O,O,O,O,O,O,O,O,O,O,O,O,O,O,O,O,O,O,O,O,O,O,O,O,O,O,O,O,O,O,O,O,O,O,O,O,O,O,O,O,O,O,O,O,O,O,O]
abbrev ypM:List AG:=[zz1 64 11,zz1 65 5,zz1 66 12,o 67 (.lookup (.sc .str) (.list true 0 []) (.t 65) (.t 66) false),o 68 (.append 1 t_string 16 (.t 64) (.t 67)),zz1 11 68]
abbrev ypN:List AG:=[zz1 62 10,zz1 63 12,q (.upd (.sc .str) (.t 62) (.t 63) (.c (.bool true)))]
abbrev ypO:ACode:=(.seq (.reg ypN) (.reg ypM))
abbrev ypP:List AG:=[zz1 58 10,zz1 59 12,o 60 (.lookup (.sc .str) (.bool false) (.t 58) (.t 59) false),o 61 (.not (.t 60))]
abbrev ypQ:List AG:=[zz1 56 11,o 57 (.slice 1 (.t 56) (some (.c (.int .i64 1))) none),zz1 11 57]
abbrev ypR:List AG:=[zz1 53 11,o 54 (.ixAddr 1 (.t 53) (.c (.int .i64 0))),zz2 55 1 54,zz1 12 55]
abbrev ypS:ACode:=(.seq (.reg ypR) (.seq (.reg ypQ) (.seq (.reg ypP) (.cond (.t 61) ypO .skip))))
abbrev ypT:List AG:=[zz1 50 11,zza 51 50,o 52 (.cmp .gtr (.sc .int) (.t 51) (.c (.int .i64 0)))]
abbrev ypU:ACode:=(.seq (.seq (.reg ypT) (.cond (.t 52) .skip (.exit 4))) (.block 5 [] ypS))
abbrev ypV:List AG:=[zz1 48 1,zzf 49 n_slices_Clone_string_string 48,zz1 11 49]
abbrev ypW:List AG:=[o 47 (.mkMap),zz1 10 47]
abbrev ypX:List Bool:=[O,I,I,O,O,I,O,O,O,O,O,O,O,O,O,O,O,O,O,O,O,O,O,O,O,O,O,O,O,O,O,O,O,O,O,I,I,I,O,O,O,O,O,O,O,O,O,O,O,O,O,O,O,O,O,O,O,O,O,O,O,O,O,O,O,O,O,O,O,O,O,O,O,O,O,O,O,O,O,O,O,O,O,O,O]
abbrev ypY:List Bool:=[O,I,I,O,O,I,O,O,O,O,O,O,O,O,O,O,O,O,O,O,O,O,O,O,O,O,O,O,O,O,O,O,O,O,O,O,O,O,O,O,O,O,O,O,O,O,O,O,O,O,O,O,O,O,O,O,O,O,O,O,O,O,O,O,O,O,O,O,O,O,O,O,O,O,O,O,O,O,O,O,O,O,O,O,O]
abbrev ypZ:List AG:=[zz6 46 37 1,zz1 37 46]
abbrev yqa:List AG:=[zz1 41 5,zz4 42 0 9,zz2 43 1 42,zz4 44 2 9,zz2 45 1 44,q (.upd (.sc .str) (.t 41) (.t 43) (.t 45))]
abbrev yqb:List AG:=[zz5 39 5 35 37,zz3 40 5 39,o 9 (.alloc [(.str []),(.int .i64 0),(.own 1 t_string []),(.own 1 t_string []),(.bool false)]),zzb 5 9 40]
abbrev yqc:ACode:=(.seq (.reg yqb) (.reg yqa))
abbrev yqd:List AG:=[zz7 38 37 36]
abbrev yqe:ACode:=(.seq (.reg yqd) (.seq (.cond (.t 38) .skip (.exit 2)) (.seq (.block 3 [] yqc) (.reg ypZ))))
abbrev yqf:List AG:=[zz4 34 3 2,zz2 35 1 34,zza 36 35,zz9 37 0]
abbrev yqg:List Bool:=[O,I,I,O,O,I,O,O,O,O,O,O,O,O,O,O,O,O,O,O,O,I,I,I,O,O,O,O,O,O,O,O,O,O,O,O,O,O,O,O,O,O,O,O,O,O,O,O,O,O,O,O,O,O,O,O,O,O,O,O,O,O,O,O,O,O,O,O,O,O,O,O,O,O,O,O,O,O,O,O,O,O,O,O,O]
abbrev yqh:List Bool:=[O,I,I,O,O,I,O,O,O,O,O,O,O,O,O,O,O,O,O,O,O,O,O,O,O,O,O,O,O,O,O,O,O,O,O,O,O,O,O,O,O,O,O,O,O,O,O,O,O,O,O,O,O,O,O,O,O,O,O,O,O,O,O,O,O,O,O,O,O,O,O,O,O,O,O,O,O,O,O,O,O,O,O,O,O]
abbrev yqi:List AG:=[zz6 33 23 1,zz1 23 33]
abbrev yqj:List AG:=[zz1 27 5,zz4 28 0 7,zz2 29 1 28,zz4 30 1 7,zz2 31 1 30,o 32 (.lit 1 [(.str [])] [(0,(.t 31))]),q (.upd (.sc .str) (.t 27) (.t 29) (.t 32))]
abbrev yqk:List AG:=[zz5 25 3 21 23,zz3 26 3 25,o 7 (.alloc [(.str []),(.str []),(.int .i64 0)]),zzb 3 7 26]
abbrev yql:ACode:=(.seq (.reg yqk) (.reg yqj))
abbrev yqm:List AG:=[zz7 24 23 22]
abbrev yqn:ACode:=(.seq (.reg yqm) (.seq (.cond (.t 24) .skip (.exit 0)) (.seq (.block 1 [] yql) (.reg yqi))))
abbrev yqo:List AG:=[zz4 20 2 2,zz2 21 1 20,zza 22 21,zz9 23 0]
abbrev yqp:List AG:=[o 19 (.mkMap),zz1 5 19]
abbrev yqq:List AG:=[o 4 (.nilrow 1 t_string)]
abbrev yqr:ACode:=(.seq (.reg yqq) .ret)
abbrev yqs:List AG:=[zz3 16 4 2,zzf 17 n_order_right 16,o 18 (.not (.t 17))]
abbrev yqt:List AG:=[o 2 (.box 4 (.t 0)),o 4 (.nilrow 1 t_string)]
abbrev order_Cone:AFun:=⟨(.seq (.reg yqt) (.seq (.seq (.reg yqs) (.cond (.t 18) yqr .skip)) (.seq (.reg yqp) (.seq (.seq (.reg yqo) (.block 0 yqh (.loop yqg yqn))) (.seq (.seq (.reg yqf) (.block 2 ypY (.loop ypX yqe))) (.seq (.reg ypW) (.seq (.seq (.reg ypV) (.block 4 ypL (.loop ypK ypU))) (.seq (.reg ypJ) (.seq (.seq (.reg ypI) (.block 6 ypA (.loop ypz ypH))) (.seq (.reg ypy) .ret)))))))))),85,[.tmp 4]⟩
abbrev yqu:List It:=[.code (.seq (.reg ypy) .ret)]
abbrev yqv (x10 x13 x70 x71 x72:AV) (h:List Ob) (e:Cx:=cx):Cfg:=atC n_order_Cone (.code ypH::.inLoop ypz ypH::.inBlock 6 ypA::yqu) [U,U,U,U,U,U,U,U,U,U,x10,U,U,x13,U,U,U,U,U,U,U,U,U,U,U,U,U,U,U,U,U,U,U,U,U,U,U,U,U,U,U,U,U,U,U,U,U,U,U,U,U,U,U,U,U,U,U,U,U,U,U,U,U,U,U,U,U,U,U,U,x70,x71,x72,U,U,U,U,U,U,U,U,U,U,U,U] h e
abbrev yqw:List It:=[.code (.seq (.reg ypJ) (.seq (.seq (.reg ypI) (.block 6 ypA (.loop ypz ypH))) (.seq (.reg ypy) .ret)))]
abbrev yqx (x2 x5 x10 x11:AV) (h:List Ob) (e:Cx:=cx):Cfg:=atC n_order_Cone (.code ypU::.inLoop ypK ypU::.inBlock 4 ypL::yqw) [U,U,x2,U,U,x5,U,U,U,U,x10,x11,U,U,U,U,U,U,U,U,U,U,U,U,U,U,U,U,U,U,U,U,U,U,U,U,U,U,U,U,U,U,U,U,U,U,U,U,U,U,U,U,U,U,U,U,U,U,U,U,U,U,U,U,U,U,U,U,U,U,U,U,U,U,U,U,U,U,U,U,U,U,U,U,U] h e
abbrev yqy:List It:=[.code (.seq (.reg ypW) (.seq (.seq (.reg ypV) (.block 4 ypL (.loop ypK ypU))) (.seq (.reg ypJ) (.seq (.seq (.reg ypI) (.block 6 ypA (.loop ypz ypH))) (.seq (.reg ypy) .ret)))))]
abbrev yqz (x1 x2 x5 x35 x36 x37:AV) (h:List Ob) (e:Cx:=cx):Cfg:=atC n_order_Cone (.code yqe::.inLoop ypX yqe::.inBlock 2 ypY::yqy) [U,x1,x2,U,U,x5,U,U,U,U,U,U,U,U,U,U,U,U,U,U,U,U,U,U,U,U,U,U,U,U,U,U,U,U,U,x35,x36,x37,U,U,U,U,U,U,U,U,U,U,U,U,U,U,U,U,U,U,U,U,U,U,U,U,U,U,U,U,U,U,U,U,U,U,U,U,U,U,U,U,U,U,U,U,U,U,U] h e
abbrev yqA:List It:=[.code (.seq (.seq (.reg yqf) (.block 2 ypY (.loop ypX yqe))) (.seq (.reg ypW) (.seq (.seq (.reg ypV) (.block 4 ypL (.loop ypK ypU))) (.seq (.reg ypJ) (.seq (.seq (.reg ypI) (.block 6 ypA (.loop ypz ypH))) (.seq (.reg ypy) .ret))))))]
abbrev yqB (x1 x2 x5 x21 x22 x23:AV) (h:List Ob) (e:Cx:=cx):Cfg:=atC n_order_Cone (.code yqn::.inLoop yqg yqn::.inBlock 0 yqh::yqA) [U,x1,x2,U,U,x5,U,U,U,U,U,U,U,U,U,U,U,U,U,U,U,x21,x22,x23,U,U,U,U,U,U,U,U,U,U,U,U,U,U,U,U,U,U,U,U,U,U,U,U,U,U,U,U,U,U,U,U,U,U,U,U,U,U,U,U,U,U,U,U,U,U,U,U,U,U,U,U,U,U,U,U,U,U,U,U,U] h e
@[simp] theorem c_order_Cone:cfun Tryz.prog n_order_Cone=some order_Cone:=by kernel_rfl
@[simp] theorem e_order_Cone:hasBody Tryz.prog n_order_Cone=true:=by kernel_rfl
abbrev yqC:List AG:=[o 5 (.lit 1 [] []),zz1 6 0,o 7 (.append 1 t_string 16 (.t 5) (.t 6)),zz1 2 7]
abbrev yqD:List AG:=[o 2 (.nilrow 1 t_string)]
abbrev yqE:ACode:=(.seq (.reg yqD) .ret)
abbrev yqF:List AG:=[zz1 3 0,o 4 (.isnil false (.t 3))]
abbrev yqG:List AG:=[o 2 (.nilrow 1 t_string)]
abbrev slices_Clone_string_string:AFun:=⟨(.seq (.reg yqG) (.seq (.seq (.reg yqF) (.cond (.t 4) yqE .skip)) (.seq (.reg yqC) .ret))),8,[.tmp 2]⟩
@[simp] theorem c_slices_Clone_string_string:cfun Tryz.prog n_slices_Clone_string_string=some slices_Clone_string_string:=by kernel_rfl
@[simp] theorem e_slices_Clone_string_string:hasBody Tryz.prog n_slices_Clone_string_string=true:=by kernel_rfl
abbrev yqH:List AG:=[zz1 5 0,zz1 6 1,zzg 7 n_slices_Index_string_string 5 6,o 8 (.cmp .geq (.sc .int) (.t 7) (.c (.int .i64 0))),zz1 4 8]
abbrev yqI:List AG:=[zzh 4]
abbrev slices_Contains_string_string:AFun:=⟨(.seq (.reg yqI) (.seq (.reg yqH) .ret)),9,[.tmp 4]⟩
@[simp] theorem c_slices_Contains_string_string:cfun Tryz.prog n_slices_Contains_string_string=some slices_Contains_string_string:=by kernel_rfl
@[simp] theorem e_slices_Contains_string_string:hasBody Tryz.prog n_slices_Contains_string_string=true:=by kernel_rfl
abbrev yqJ:List AG:=[zz1 42 3,zz1 2 42]
abbrev yqK:List Bool:=[O,I,O,I,O,I,O,O,O,O,O,O,O,O,O,O,O,O,O,O,O,O,O,O,O,O,O,O,O,O,O,O,O,O,O,O,O,O,O,O,O,O,O]
abbrev yqL:List Bool:=[O,O,O,I,O,O,O,O,O,O,O,O,O,O,O,O,O,O,O,O,O,O,O,O,O,O,O,O,O,O,O,O,O,O,O,O,O,O,O,O,O,O,O]
abbrev yqM:List AG:=[zz1 31 5,zz6 32 31 1,zz1 5 32]
abbrev yqN:List AG:=[zz1 33 3,zz4 34 3 1,zz2 35 1 34,zz1 36 5,zz5 37 5 35 36,zz4 38 0 37,zz2 39 1 38,o 40 (.lit 1 [(.str [])] [(0,(.t 39))]),o 41 (.append 1 t_string 16 (.t 33) (.t 40)),zz1 3 41]
abbrev yqO:List AG:=[zz1 26 5,zz4 27 3 1,zz2 28 1 27,zza 29 28,zz7 30 26 29]
abbrev yqP:ACode:=(.seq (.seq (.reg yqO) (.cond (.t 30) .skip (.exit 2))) (.seq (.block 3 [] (.reg yqN)) (.reg yqM)))
abbrev yqQ:List AG:=[zz9 5 0]
abbrev yqR:List Bool:=[O,I,O,I,I,O,O,O,O,O,O,O,O,O,O,O,O,O,O,O,O,O,O,O,O,O,O,O,O,O,O,O,O,O,O,O,O,O,O,O,O,O,O]
abbrev yqS:List Bool:=[O,I,O,I,O,O,O,O,O,O,O,O,O,O,O,O,O,O,O,O,O,O,O,O,O,O,O,O,O,O,O,O,O,O,O,O,O,O,O,O,O,O,O]
abbrev yqT:List AG:=[zz1 15 4,zz6 16 15 1,zz1 4 16]
abbrev yqU:List AG:=[zz1 17 3,zz4 18 2 1,zz2 19 1 18,zz1 20 4,zz5 21 3 19 20,zz4 22 0 21,zz2 23 1 22,o 24 (.lit 1 [(.str [])] [(0,(.t 23))]),o 25 (.append 1 t_string 16 (.t 17) (.t 24)),zz1 3 25]
abbrev yqV:List AG:=[zz1 10 4,zz4 11 2 1,zz2 12 1 11,zza 13 12,zz7 14 10 13]
abbrev yqW:ACode:=(.seq (.seq (.reg yqV) (.cond (.t 14) .skip (.exit 0))) (.seq (.block 1 [] (.reg yqU)) (.reg yqT)))
abbrev yqX:List AG:=[zz9 4 0]
abbrev yqY:List AG:=[zz1 6 3,zz4 7 0 1,zz2 8 1 7,o 9 (.append 1 t_string 16 (.t 6) (.t 8)),zz1 3 9]
abbrev yqZ:List AG:=[o 3 (.nilrow 1 t_string)]
abbrev yra:List AG:=[o 1 (.box 4 (.t 0)),o 2 (.nilrow 1 t_string)]
abbrev r06_Nets:AFun:=⟨(.seq (.reg yra) (.seq (.reg yqZ) (.seq (.reg yqY) (.seq (.seq (.reg yqX) (.block 0 yqS (.loop yqR yqW))) (.seq (.seq (.reg yqQ) (.block 2 yqL (.loop yqK yqP))) (.seq (.reg yqJ) .ret)))))),43,[.tmp 2]⟩
abbrev yrb:List It:=[.code (.seq (.reg yqJ) .ret)]
abbrev yrc (x1 x3 x5:AV) (h:List Ob) (e:Cx:=cx):Cfg:=atC n_r06_Nets (.code yqP::.inLoop yqK yqP::.inBlock 2 yqL::yrb) [U,x1,U,x3,U,x5,U,U,U,U,U,U,U,U,U,U,U,U,U,U,U,U,U,U,U,U,U,U,U,U,U,U,U,U,U,U,U,U,U,U,U,U,U] h e
abbrev yrd:List It:=[.code (.seq (.seq (.reg yqQ) (.block 2 yqL (.loop yqK yqP))) (.seq (.reg yqJ) .ret))]
abbrev yre (x1 x3 x4:AV) (h:List Ob) (e:Cx:=cx):Cfg:=atC n_r06_Nets (.code yqW::.inLoop yqR yqW::.inBlock 0 yqS::yrd) [U,x1,U,x3,x4,U,U,U,U,U,U,U,U,U,U,U,U,U,U,U,U,U,U,U,U,U,U,U,U,U,U,U,U,U,U,U,U,U,U,U,U,U,U] h e
@[simp] theorem c_r06_Nets:cfun Tryz.prog n_r06_Nets=some r06_Nets:=by kernel_rfl
@[simp] theorem e_r06_Nets:hasBody Tryz.prog n_r06_Nets=true:=by kernel_rfl
abbrev yrf:List AG:=[zz1 13 6,zz1 14 13,zze 15 14 1,oy 16 14 (.arrAddr 2 1 (.t 5) (.c (.int .i64 0))),zzd 17 14 1 16,oy 18 14 (.cmp .geq (.sc .int) (.t 15) (.t 17)),zz8 19 14 18,zz1 20 19,zze 21 20 1,oy 22 20 (.arrAddr 2 1 (.t 5) (.c (.int .i64 1))),zzd 23 20 1 22,oy 24 20 (.cmp .leq (.sc .int) (.t 21) (.t 23)),zz8 25 20 24,zz1 4 25]
abbrev yrg:List AG:=[o 8 (.load false 1 (.g 0)),zz1 9 0,o 10 (.lookup (.sc .int) (.agg [(.int .i64 0),(.int .i64 0)]) (.t 8) (.t 9) true),zz1 7 10,zzc 11 7 0,zzc 12 7 1,o 5 (.alloc [(.int .i64 0),(.int .i64 0)]),zzb 2 5 11,zz1 6 12]
abbrev yrh:List AG:=[zzh 4]
abbrev net_has:AFun:=⟨(.seq (.reg yrh) (.seq (.reg yrg) (.seq (.reg yrf) .ret))),26,[.tmp 4]⟩
@[simp] theorem c_net_has:cfun Tryz.prog n_net_has=some net_has:=by kernel_rfl
@[simp] theorem e_net_has:hasBody Tryz.prog n_net_has=true:=by kernel_rfl
abbrev yri:List AG:=[zz2 45 1 8,zz1 4 45,zzh 5]
abbrev yrj:List AG:=[zz1 9 40]
abbrev yrk:List AG:=[zz2 41 1 8,zz1 42 9,o 43 (.lit 1 [(.str [])] [(0,(.t 42))]),o 44 (.append 1 t_string 16 (.t 41) (.t 43)),zzb 1 8 44]
abbrev yrl:ACode:=(.block 2 [] (.reg yrk))
abbrev yrm:ACode:=(.rangeFunc (.t 39) [40] [O,O,O,O,I,I,O,O,I,O,O,O,O,O,O,O,O,O,O,O,O,O,O,O,O,O,O,O,O,O,O,O,O,O,O,O,O,O,O,O,O,O,O,O,O,O] (.reg yrj) yrl)
abbrev yrn:List AG:=[zz1 36 1,zz1 37 0,o 38 (.cmp .eql (.sc .int) (.t 37) (.c (.int .i64 8))),zzg 39 n_net_parity 36 38]
abbrev yro:List AG:=[o 8 (.alloc [(.own 1 t_string [])])]
abbrev yrp:List AG:=[o 4 (.nilrow 1 t_string),zzh 5]
abbrev yrq:List AG:=[zz1 21 6,o 22 (.lit 1 [(.str [])] [(0,(.t 21))]),zz1 4 22,zzh 5]
abbrev yrr:List AG:=[zz1 26 7,o 27 (.lit 1 [(.str [])] [(0,(.t 26))]),zz1 4 27,zzh 5]
abbrev yrs:List AG:=[zz1 30 6,o 31 (.lit 1 [(.str [])] [(0,(.t 30))]),zz1 4 31,o 5 (.mv (.c (.bool true)))]
abbrev yrt:List AG:=[zz1 34 7,o 35 (.lit 1 [(.str [])] [(0,(.t 34))]),zz1 4 35,o 5 (.mv (.c (.bool true)))]
abbrev yru:ACode:=(.seq (.reg yrt) .ret)
abbrev yrv:List AG:=[o 33 (.cmp .eql (.sc .int) (.t 14) (.c (.int .i64 6))),zz1 32 33]
abbrev yrw:ACode:=(.seq (.reg yrs) .ret)
abbrev yrx:ACode:=(.seq (.reg yrv) (.cond (.t 32) yru .skip))
abbrev yry:List AG:=[o 29 (.cmp .eql (.sc .int) (.t 14) (.c (.int .i64 5))),zz1 28 29]
abbrev yrz:ACode:=(.seq (.reg yrr) .ret)
abbrev yrA:ACode:=(.seq (.reg yry) (.cond (.t 28) yrw yrx))
abbrev yrB:List AG:=[o 25 (.cmp .eql (.sc .int) (.t 14) (.c (.int .i64 7))),zz1 23 25]
abbrev yrC:List AG:=[o 24 (.cmp .eql (.sc .int) (.t 14) (.c (.int .i64 3))),zz1 23 24]
abbrev yrD:ACode:=(.seq (.reg yrq) .ret)
abbrev yrE:ACode:=(.seq (.seq (.reg yrC) (.cond (.t 23) .skip (.reg yrB))) (.cond (.t 23) yrz yrA))
abbrev yrF:List AG:=[o 20 (.cmp .eql (.sc .int) (.t 14) (.c (.int .i64 4))),zz1 17 20]
abbrev yrG:List AG:=[o 19 (.cmp .eql (.sc .int) (.t 14) (.c (.int .i64 2))),zz1 17 19]
abbrev yrH:ACode:=(.seq (.reg yrG) (.cond (.t 17) .skip (.reg yrF)))
abbrev yrI:List AG:=[o 18 (.cmp .eql (.sc .int) (.t 14) (.c (.int .i64 1))),zz1 17 18]
abbrev yrJ:ACode:=(.seq (.reg yrp) .ret)
abbrev yrK:ACode:=(.seq (.seq (.reg yrI) (.cond (.t 17) .skip yrH)) (.cond (.t 17) yrD yrE))
abbrev yrL:List AG:=[o 16 (.cmp .eql (.sc .int) (.t 14) (.c (.int .i64 0))),zz1 15 16]
abbrev yrM:ACode:=(.seq (.reg yrL) (.cond (.t 15) yrJ yrK))
abbrev yrN:List AG:=[zz1 14 0]
abbrev yrO:List AG:=[zz1 10 1,o 11 (.call (.f n_strings_Repeat) [(.c (.str [49])),(.t 10)]),zz1 12 1,o 13 (.call (.f n_strings_Repeat) [(.c (.str [48])),(.t 12)]),zz1 6 11,zz1 7 13]
abbrev yrP:List AG:=[o 4 (.nilrow 1 t_string),zzh 5]
abbrev net_rows:AFun:=⟨(.seq (.reg yrP) (.seq (.reg yrO) (.seq (.seq (.reg yrN) (.block 0 [] yrM)) (.seq (.reg yro) (.seq (.seq (.reg yrn) (.block 1 [] yrm)) (.seq (.reg yri) .ret)))))),46,[.tmp 4,.tmp 5]⟩
@[simp] theorem c_net_rows:cfun Tryz.prog n_net_rows=some net_rows:=by kernel_rfl
@[simp] theorem e_net_rows:hasBody Tryz.prog n_net_rows=true:=by kernel_rfl
abbrev yrQ:List AG:=[o 4 (.mv (.c (.bool true)))]
abbrev yrR:List Bool:=[I,I,O,O,O,O,O,O,O,O,O,O,I,I,O,O,O,O,O,O,O,O,O,O,O,O]
abbrev yrS:List Bool:=[O,O,O,O,O,O,O,O,O,O,O,O,O,O,O,O,O,O,O,O,O,O,O,O,O,O]
abbrev yrT:List AG:=[zz6 25 13 1,zz1 13 25]
abbrev yrU:List AG:=[zzh 4]
abbrev yrV:ACode:=(.seq (.reg yrU) .ret)
abbrev yrW:List AG:=[zz1 16 0,zz1 17 5,zz5 18 1 16 17,zz2 19 1 18,zz1 20 1,zz1 21 5,zz5 22 1 20 21,zz2 23 1 22,o 24 (.cmp .neq (.sc .str) (.t 19) (.t 23))]
abbrev yrX:List AG:=[zz1 15 13,zz1 5 15]
abbrev yrY:ACode:=(.seq (.reg yrX) (.seq (.dreg [O,O,O,O,O,O,O,O,O] [10,10,10,10,10,10,10,10,10] yrW) (.cond (.t 24) yrV .skip)))
abbrev yrZ:List AG:=[zz7 14 13 12]
abbrev ysa:ACode:=(.seq (.reg yrZ) (.seq (.cond (.t 14) .skip (.exit 0)) (.seq (.block 1 [] yrY) (.reg yrT))))
abbrev ysb:List AG:=[zz1 11 0,zza 12 11,zz9 13 0]
abbrev ysc:List AG:=[zzh 4]
abbrev ysd:ACode:=(.seq (.reg ysc) .ret)
abbrev yse:List AG:=[zz1 6 0,zza 7 6,zz1 8 1,zza 9 8,o 10 (.cmp .neq (.sc .int) (.t 7) (.t 9))]
abbrev ysf:List AG:=[zzh 4]
abbrev slices_Equal_string_string:AFun:=⟨(.seq (.reg ysf) (.seq (.seq (.reg yse) (.cond (.t 10) ysd .skip)) (.seq (.seq (.reg ysb) (.block 0 yrS (.loop yrR ysa))) (.seq (.reg yrQ) .ret)))),26,[.tmp 4]⟩
@[simp] theorem c_slices_Equal_string_string:cfun Tryz.prog n_slices_Equal_string_string=some slices_Equal_string_string:=by kernel_rfl
@[simp] theorem e_slices_Equal_string_string:hasBody Tryz.prog n_slices_Equal_string_string=true:=by kernel_rfl
abbrev ysg:List AG:=[zz1 4 0,zz4 5 2 1,zz2 6 1 5,zza 7 6,zzg 8 n_net_row 4 7,o 9 (.not (.t 8)),zz1 3 9]
abbrev ysh:List AG:=[zzh 3]
abbrev net_Gate_1:AFun:=⟨(.seq (.reg ysh) (.seq (.reg ysg) .ret)),10,[.tmp 3]⟩
@[simp] theorem c_net_Gate_1:cfun Tryz.prog n_net_Gate_1=some net_Gate_1:=by kernel_rfl
@[simp] theorem e_net_Gate_1:hasBody Tryz.prog n_net_Gate_1=true:=by kernel_rfl
abbrev ysi:List AG:=[zz1 5 0,o 6 (.lenStr (.t 5)),zz1 7 1,o 8 (.cmp .eql (.sc .int) (.t 6) (.t 7)),zz1 9 8,zze 10 9 0,oy 11 9 (.call (.f n_strings_Trim) [(.t 10),(.c (.str [48,49,45]))]),oy 12 9 (.cmp .eql (.sc .str) (.t 11) (.c (.str []))),zz8 13 9 12,zz1 4 13]
abbrev ysj:List AG:=[zzh 4]
abbrev net_row:AFun:=⟨(.seq (.reg ysj) (.seq (.reg ysi) .ret)),14,[.tmp 4]⟩
@[simp] theorem c_net_row:cfun Tryz.prog n_net_row=some net_row:=by kernel_rfl
@[simp] theorem e_net_row:hasBody Tryz.prog n_net_row=true:=by kernel_rfl
abbrev ysk:List AG:=[zzh 2]
abbrev ysl:List AG:=[zzh 2]
abbrev step_of_1:AFun:=⟨(.seq (.reg ysl) (.seq (.reg ysk) .ret)),3,[.tmp 2]⟩
@[simp] theorem c_step_of_1:cfun Tryz.prog n_step_of_1=some step_of_1:=by kernel_rfl
@[simp] theorem e_step_of_1:hasBody Tryz.prog n_step_of_1=true:=by kernel_rfl
abbrev ysm:List AG:=[zz1 3 0,zzf 4 n_step_count 3,zz1 5 0,zza 6 5,o 7 (.cmp .eql (.sc .int) (.t 4) (.t 6)),zz1 2 7]
abbrev ysn:List AG:=[zzh 2]
abbrev step_of_2:AFun:=⟨(.seq (.reg ysn) (.seq (.reg ysm) .ret)),8,[.tmp 2]⟩
@[simp] theorem c_step_of_2:cfun Tryz.prog n_step_of_2=some step_of_2:=by kernel_rfl
@[simp] theorem e_step_of_2:hasBody Tryz.prog n_step_of_2=true:=by kernel_rfl
abbrev yso:List AG:=[zz1 16 3,zz1 2 16]
abbrev ysp:List Bool:=[O,O,O,I,O,O,I,I,I,O,O,O,O,O,O,O,O]
abbrev ysq:List Bool:=[O,O,O,I,O,O,O,O,O,O,O,O,O,O,O,O,O]
abbrev ysr:List AG:=[zz6 15 8 1,zz1 8 15]
abbrev yss:List AG:=[zz1 13 3,zz6 14 13 1,zz1 3 14]
abbrev yst:List AG:=[zz1 12 5]
abbrev ysu:List AG:=[zz5 10 1 6 8,zz2 11 1 10,zz1 5 11]
abbrev ysv:ACode:=(.seq (.reg ysu) (.seq (.reg yst) (.cond (.t 12) (.reg yss) .skip)))
abbrev ysw:List AG:=[zz7 9 8 7]
abbrev ysx:ACode:=(.seq (.reg ysw) (.seq (.cond (.t 9) .skip (.exit 0)) (.seq (.block 1 [] ysv) (.reg ysr))))
abbrev ysy:List AG:=[zz1 6 0,zza 7 6,zz9 8 0]
abbrev ysz:List AG:=[zz9 3 0]
abbrev ysA:List AG:=[zz9 2 0]
abbrev step_count:AFun:=⟨(.seq (.reg ysA) (.seq (.reg ysz) (.seq (.seq (.reg ysy) (.block 0 ysq (.loop ysp ysx))) (.seq (.reg yso) .ret)))),17,[.tmp 2]⟩
abbrev ysB:List It:=[.code (.seq (.reg yso) .ret)]
abbrev ysC (x3 x6 x7 x8:AV) (h:List Ob) (e:Cx:=cx):Cfg:=atC n_step_count (.code ysx::.inLoop ysp ysx::.inBlock 0 ysq::ysB) [U,U,U,x3,U,U,x6,x7,x8,U,U,U,U,U,U,U,U] h e
@[simp] theorem c_step_count:cfun Tryz.prog n_step_count=some step_count:=by kernel_rfl
@[simp] theorem e_step_count:hasBody Tryz.prog n_step_count=true:=by kernel_rfl
abbrev ysD:List AG:=[zz1 3 0,zzf 4 n_step_count 3,o 5 (.cmp .gtr (.sc .int) (.t 4) (.c (.int .i64 0))),zz1 2 5]
abbrev ysE:List AG:=[zzh 2]
abbrev step_of_3:AFun:=⟨(.seq (.reg ysE) (.seq (.reg ysD) .ret)),6,[.tmp 2]⟩
@[simp] theorem c_step_of_3:cfun Tryz.prog n_step_of_3=some step_of_3:=by kernel_rfl
@[simp] theorem e_step_of_3:hasBody Tryz.prog n_step_of_3=true:=by kernel_rfl
abbrev ysF:List AG:=[zz1 3 0,zzf 4 n_step_count 3,o 5 (.ibin .rem (.t 4) (.c (.int .i64 2))),o 6 (.cmp .eql (.sc .int) (.t 5) (.c (.int .i64 1))),zz1 2 6]
abbrev ysG:List AG:=[zzh 2]
abbrev step_of_4:AFun:=⟨(.seq (.reg ysG) (.seq (.reg ysF) .ret)),7,[.tmp 2]⟩
@[simp] theorem c_step_of_4:cfun Tryz.prog n_step_of_4=some step_of_4:=by kernel_rfl
@[simp] theorem e_step_of_4:hasBody Tryz.prog n_step_of_4=true:=by kernel_rfl
abbrev ysH:List AG:=[o 4 (.mv (.c (.int .i64 (-1))))]
abbrev ysI:List Bool:=[I,I,O,O,O,O,O,I,I,O,O,O,O,O,O,O,O,O,O]
abbrev ysJ:List Bool:=[O,O,O,O,O,O,O,O,O,O,O,O,O,O,O,O,O,O,O]
abbrev ysK:List AG:=[zz6 18 8 1,zz1 8 18]
abbrev ysL:List AG:=[zz1 17 5,zz1 4 17]
abbrev ysM:ACode:=(.seq (.reg ysL) .ret)
abbrev ysN:List AG:=[zz1 11 1,zz1 12 0,zz1 13 5,zz5 14 1 12 13,zz2 15 1 14,o 16 (.call (.t 11) [(.t 15)])]
abbrev ysO:List AG:=[zz1 10 8,zz1 5 10]
abbrev ysP:ACode:=(.seq (.reg ysO) (.seq (.reg ysN) (.cond (.t 16) ysM .skip)))
abbrev ysQ:List AG:=[zz7 9 8 7]
abbrev ysR:ACode:=(.seq (.reg ysQ) (.seq (.cond (.t 9) .skip (.exit 0)) (.seq (.block 1 [] ysP) (.reg ysK))))
abbrev ysS:List AG:=[zz1 6 0,zza 7 6,zz9 8 0]
abbrev ysT:List AG:=[zz9 4 0]
abbrev slices_IndexFunc_string_string:AFun:=⟨(.seq (.reg ysT) (.seq (.seq (.reg ysS) (.block 0 ysJ (.loop ysI ysR))) (.seq (.reg ysH) .ret))),19,[.tmp 4]⟩
abbrev ysU:List It:=[.code (.seq (.reg ysH) .ret)]
abbrev ysV (x0 x1 x7 x8:AV) (h:List Ob) (e:Cx:=cx):Cfg:=atC n_slices_IndexFunc_string_string (.code ysR::.inLoop ysI ysR::.inBlock 0 ysJ::ysU) [x0,x1,U,U,U,U,U,x7,x8,U,U,U,U,U,U,U,U,U,U] h e
@[simp] theorem c_slices_IndexFunc_string_string:cfun Tryz.prog n_slices_IndexFunc_string_string=some slices_IndexFunc_string_string:=by kernel_rfl
@[simp] theorem e_slices_IndexFunc_string_string:hasBody Tryz.prog n_slices_IndexFunc_string_string=true:=by kernel_rfl
abbrev ysW:List AG:=[zz1 28 0,o 29 (.lenStr (.t 28)),zz1 30 1,o 31 (.cmp .eql (.sc .int) (.t 29) (.t 30)),zz1 4 31]
abbrev ysX:List Bool:=[I,I,O,O,O,I,O,O,O,O,O,O,O,O,O,O,O,O,O,O,O,O,O,O,O,O,O,O,O,O,O,O]
abbrev ysY:List Bool:=[I,I,O,O,O,O,O,O,O,O,O,O,O,O,O,O,O,O,O,O,O,O,O,O,O,O,O,O,O,O,O,O]
abbrev ysZ:List AG:=[zz1 10 5,zz6 11 10 1,zz1 5 11]
abbrev yta:List AG:=[zzh 4]
abbrev ytb:ACode:=(.seq (.reg yta) .ret)
abbrev ytc:List AG:=[zz1 12 0,zz1 13 5,o 14 (.ixStr (.t 12) (.t 13)),o 15 (.cmp .neq (.sc .int) (.t 14) (.c (.int .u8 48))),zz1 16 15,zze 17 16 0,zze 18 16 5,oy 19 16 (.ixStr (.t 17) (.t 18)),oy 20 16 (.cmp .neq (.sc .int) (.t 19) (.c (.int .u8 49))),zz8 21 16 20,zz1 22 21,zze 23 22 0,zze 24 22 5,oy 25 22 (.ixStr (.t 23) (.t 24)),oy 26 22 (.cmp .neq (.sc .int) (.t 25) (.c (.int .u8 45))),zz8 27 22 26]
abbrev ytd:ACode:=(.seq (.reg ytc) (.cond (.t 27) ytb .skip))
abbrev yte:List AG:=[zz1 6 5,zz1 7 0,o 8 (.lenStr (.t 7)),zz7 9 6 8]
abbrev ytf:ACode:=(.seq (.seq (.reg yte) (.cond (.t 9) .skip (.exit 0))) (.seq (.block 1 [] ytd) (.reg ysZ)))
abbrev ytg:List AG:=[zz9 5 0]
abbrev yth:List AG:=[zzh 4]
abbrev r06_row:AFun:=⟨(.seq (.reg yth) (.seq (.seq (.reg ytg) (.block 0 ysY (.loop ysX ytf))) (.seq (.reg ysW) .ret))),32,[.tmp 4]⟩
@[simp] theorem c_r06_row:cfun Tryz.prog n_r06_row=some r06_row:=by kernel_rfl
@[simp] theorem e_r06_row:hasBody Tryz.prog n_r06_row=true:=by kernel_rfl
abbrev yti:List AG:=[zz1 15 5,zz1 4 15]
abbrev ytj:List Bool:=[I,I,O,O,O,I,I,O,O,O,O,O,O,O,O,O]
abbrev ytk:List Bool:=[O,O,O,O,O,I,O,O,O,O,O,O,O,O,O,O]
abbrev ytl:List AG:=[zz1 10 6,zz6 11 10 1,zz1 6 11]
abbrev ytm:List AG:=[zz1 12 5,zz1 13 0,o 14 (.concat (.t 12) (.t 13)),zz1 5 14]
abbrev ytn:List AG:=[zz1 7 6,zz1 8 1,zz7 9 7 8]
abbrev yto:ACode:=(.seq (.seq (.reg ytn) (.cond (.t 9) .skip (.exit 0))) (.seq (.block 1 [] (.reg ytm)) (.reg ytl)))
abbrev ytp:List AG:=[zz9 6 0]
abbrev ytq:List AG:=[o 5 (.mv (.c (.str [])))]
abbrev ytr:List AG:=[o 4 (.mv (.c (.str [])))]
abbrev r06_all:AFun:=⟨(.seq (.reg ytr) (.seq (.reg ytq) (.seq (.seq (.reg ytp) (.block 0 ytk (.loop ytj yto))) (.seq (.reg yti) .ret)))),16,[.tmp 4]⟩
@[simp] theorem c_r06_all:cfun Tryz.prog n_r06_all=some r06_all:=by kernel_rfl
@[simp] theorem e_r06_all:hasBody Tryz.prog n_r06_all=true:=by kernel_rfl
abbrev yts:List AG:=[zz1 43 5,zz1 4 43]
abbrev ytt:List Bool:=[I,I,O,O,O,I,I,O,O,O,O,O,O,O,O,O,O,O,O,O,O,O,O,O,O,O,O,O,O,O,O,O,O,O,O,O,O,O,O,O,O,O,O,O]
abbrev ytu:List Bool:=[O,O,O,O,O,I,O,O,O,O,O,O,O,O,O,O,O,O,O,O,O,O,O,O,O,O,O,O,O,O,O,O,O,O,O,O,O,O,O,O,O,O,O,O]
abbrev ytv:List AG:=[zz1 15 6,zz6 16 15 1,zz1 6 16]
abbrev ytw:List AG:=[zz1 39 5,zz1 40 7,o 41 (.lit 1 [(.str [])] [(0,(.t 40))]),o 42 (.append 1 t_string 16 (.t 39) (.t 41)),zz1 5 42]
abbrev ytx:List AG:=[zz1 35 8,o 36 (.ibin .rem (.t 35) (.c (.int .i64 2))),zz1 37 1,o 38 (.cmp .eql (.sc .int) (.t 36) (.t 37))]
abbrev yty:List Bool:=[I,I,O,O,O,I,I,I,I,I,O,O,O,O,O,O,O,O,O,O,O,O,O,O,O,O,O,O,O,O,O,O,O,O,O,O,O,O,O,O,O,O,O,O]
abbrev ytz:List Bool:=[I,I,O,O,O,I,I,I,I,O,O,O,O,O,O,O,O,O,O,O,O,O,O,O,O,O,O,O,O,O,O,O,O,O,O,O,O,O,O,O,O,O,O,O]
abbrev ytA:List AG:=[zz1 21 9,o 22 (.ibin .sub (.t 21) (.c (.int .i64 1))),zz1 9 22]
abbrev ytB:List AG:=[zz1 31 8,zz6 32 31 1,zz1 8 32]
abbrev ytC:List AG:=[zz1 29 7,o 30 (.concat (.t 29) (.c (.str [49]))),zz1 7 30]
abbrev ytD:List AG:=[zz1 33 7,o 34 (.concat (.t 33) (.c (.str [48]))),zz1 7 34]
abbrev ytE:ACode:=(.seq (.reg ytC) (.reg ytB))
abbrev ytF:List AG:=[zz1 23 6,zz1 24 9,o 25 (.conv .u64 (.t 24)),o 26 (.ibin .shr (.t 23) (.t 25)),o 27 (.ibin .rem (.t 26) (.c (.int .i64 2))),o 28 (.cmp .eql (.sc .int) (.t 27) (.c (.int .i64 1)))]
abbrev ytG:ACode:=(.seq (.reg ytF) (.cond (.t 28) ytE (.reg ytD)))
abbrev ytH:List AG:=[zz1 19 9,o 20 (.cmp .geq (.sc .int) (.t 19) (.c (.int .i64 0)))]
abbrev ytI:ACode:=(.seq (.seq (.reg ytH) (.cond (.t 20) .skip (.exit 2))) (.seq (.block 3 [] ytG) (.reg ytA)))
abbrev ytJ:List AG:=[zz1 17 0,o 18 (.ibin .sub (.t 17) (.c (.int .i64 1))),zz1 9 18]
abbrev ytK:List AG:=[zz9 8 0]
abbrev ytL:List AG:=[o 7 (.mv (.c (.str [])))]
abbrev ytM:ACode:=(.seq (.reg ytL) (.seq (.reg ytK) (.seq (.seq (.reg ytJ) (.block 2 ytz (.loop yty ytI))) (.seq (.reg ytx) (.cond (.t 38) (.reg ytw) .skip)))))
abbrev ytN:List AG:=[zz1 10 6,zz1 11 0,o 12 (.conv .u64 (.t 11)),o 13 (.ibin .shl (.c (.int .i64 1)) (.t 12)),zz7 14 10 13]
abbrev ytO:ACode:=(.seq (.seq (.reg ytN) (.cond (.t 14) .skip (.exit 0))) (.seq (.block 1 [] ytM) (.reg ytv)))
abbrev ytP:List AG:=[zz9 6 0]
abbrev ytQ:List AG:=[o 5 (.nilrow 1 t_string)]
abbrev ytR:List AG:=[o 4 (.nilrow 1 t_string)]
abbrev r06_odd:AFun:=⟨(.seq (.reg ytR) (.seq (.reg ytQ) (.seq (.seq (.reg ytP) (.block 0 ytu (.loop ytt ytO))) (.seq (.reg yts) .ret)))),44,[.tmp 4]⟩
@[simp] theorem c_r06_odd:cfun Tryz.prog n_r06_odd=some r06_odd:=by kernel_rfl
@[simp] theorem e_r06_odd:hasBody Tryz.prog n_r06_odd=true:=by kernel_rfl
abbrev ytS:List AG:=[zz9 2 0,o 3 (.mv (.c (.str [])))]
abbrev ytT:List AG:=[zz1 25 7,o 26 (.ixAddr 1 (.t 25) (.c (.int .i64 0))),zz2 27 1 26,zz9 2 7,zz1 3 27]
abbrev ytU:ACode:=(.seq (.dreg [O,O,O,O,O] [6,6,6,6,6] ytT) .ret)
abbrev ytV:List AG:=[zz1 22 7,zza 23 22,o 24 (.cmp .gtr (.sc .int) (.t 23) (.c (.int .i64 0)))]
abbrev ytW:List AG:=[zz3 18 4 1,zzf 19 n_order_Sort 18,zz1 17 19,zzc 20 17 0,zzc 21 17 1,zz1 6 20,zz1 7 21]
abbrev ytX:List AG:=[zz1 15 4,zz1 16 5,zz1 2 15,zz1 3 16]
abbrev ytY:ACode:=(.seq (.reg ytX) .ret)
abbrev ytZ:List AG:=[zz1 13 4,o 14 (.cmp .neq (.sc .int) (.t 13) (.c (.int .i64 0)))]
abbrev yua:List AG:=[zz3 9 4 1,zzf 10 n_net_Check 9,zz1 8 10,zzc 11 8 0,zzc 12 8 1,zz1 4 11,zz1 5 12]
abbrev yub:List AG:=[o 1 (.box 4 (.t 0)),zz9 2 0,o 3 (.mv (.c (.str [])))]
abbrev order_Check:AFun:=⟨(.seq (.reg yub) (.seq (.seq (.reg yua) (.seq (.reg ytZ) (.cond (.t 14) ytY .skip))) (.seq (.seq (.reg ytW) (.seq (.reg ytV) (.cond (.t 24) ytU .skip))) (.seq (.reg ytS) .ret)))),28,[.tmp 2,.tmp 3]⟩
@[simp] theorem c_order_Check:cfun Tryz.prog n_order_Check=some order_Check:=by kernel_rfl
@[simp] theorem e_order_Check:hasBody Tryz.prog n_order_Check=true:=by kernel_rfl
abbrev yuc:List AG:=[zz9 2 0,o 3 (.mv (.c (.str [])))]
abbrev yud:List AG:=[zz1 25 7,o 26 (.ixAddr 1 (.t 25) (.c (.int .i64 0))),zz2 27 1 26,zz9 2 7,zz1 3 27]
abbrev yue:ACode:=(.seq (.dreg [O,O,O,O,O] [6,6,6,6,6] yud) .ret)
abbrev yuf:List AG:=[zz1 22 7,zza 23 22,o 24 (.cmp .gtr (.sc .int) (.t 23) (.c (.int .i64 0)))]
abbrev yug:List AG:=[zz3 18 4 1,zzf 19 n_r07_Sort 18,zz1 17 19,zzc 20 17 0,zzc 21 17 1,zz1 6 20,zz1 7 21]
abbrev yuh:List AG:=[zz1 15 4,zz1 16 5,zz1 2 15,zz1 3 16]
abbrev yui:ACode:=(.seq (.reg yuh) .ret)
abbrev yuj:List AG:=[zz1 13 4,o 14 (.cmp .neq (.sc .int) (.t 13) (.c (.int .i64 0)))]
abbrev yuk:List AG:=[zz3 9 4 1,zzf 10 n_r06_Check 9,zz1 8 10,zzc 11 8 0,zzc 12 8 1,zz1 4 11,zz1 5 12]
abbrev yul:List AG:=[o 1 (.box 4 (.t 0)),zz9 2 0,o 3 (.mv (.c (.str [])))]
abbrev r07_Check:AFun:=⟨(.seq (.reg yul) (.seq (.reg yuk) (.seq (.seq (.reg yuj) (.cond (.t 14) yui .skip)) (.seq (.reg yug) (.seq (.seq (.reg yuf) (.cond (.t 24) yue .skip)) (.seq (.reg yuc) .ret)))))),28,[.tmp 2,.tmp 3]⟩
@[simp] theorem c_r07_Check:cfun Tryz.prog n_r07_Check=some r07_Check:=by kernel_rfl
@[simp] theorem e_r07_Check:hasBody Tryz.prog n_r07_Check=true:=by kernel_rfl
abbrev yum:List AG:=[zz2 52 1 4,zz1 53 7,zz1 2 52,zz1 3 53]
abbrev yun:List Bool:=[O,O,O,O,I,I,O,I,O,O,O,O,O,O,O,O,O,O,O,O,O,O,O,O,O,O,O,O,O,O,O,O,I,I,I,O,O,O,O,O,O,O,O,O,O,O,O,O,O,O,O,O,O,O]
abbrev yuo:List Bool:=[O,O,O,O,I,O,O,I,O,O,O,O,O,O,O,O,O,O,O,O,O,O,O,O,O,O,O,O,O,O,O,O,O,O,O,O,O,O,O,O,O,O,O,O,O,O,O,O,O,O,O,O,O,O]
abbrev yup:List AG:=[zz6 51 34 1,zz1 34 51]
abbrev yuq:List AG:=[zz1 46 7,zz4 47 0 9,zz2 48 1 47,o 49 (.lit 1 [(.str [])] [(0,(.t 48))]),o 50 (.append 1 t_string 16 (.t 46) (.t 49)),zz1 7 50]
abbrev yur:List AG:=[zz1 45 11]
abbrev yus:List AG:=[zz2 39 1 5,zz4 40 0 9,zz2 41 1 40,o 42 (.lookup (.sc .str) (.int .i64 0) (.t 39) (.t 41) true),zz1 38 42,zzc 43 38 0,zzc 44 38 1,zz1 10 43,zz1 11 44]
abbrev yut:List AG:=[zz5 36 5 32 34,zz3 37 5 36,o 9 (.alloc [(.str []),(.int .i64 0),(.own 1 t_string []),(.own 1 t_string []),(.bool false)]),zzb 5 9 37]
abbrev yuu:ACode:=(.seq (.reg yut) (.seq (.reg yus) (.seq (.reg yur) (.cond (.t 45) (.reg yuq) .skip))))
abbrev yuv:List AG:=[zz7 35 34 33]
abbrev yuw:ACode:=(.seq (.reg yuv) (.seq (.cond (.t 35) .skip (.exit 2)) (.seq (.block 3 [] yuu) (.reg yup))))
abbrev yux:List AG:=[zz4 31 3 1,zz2 32 1 31,zza 33 32,zz9 34 0]
abbrev yuy:List AG:=[o 7 (.nilrow 1 t_string)]
abbrev yuz:List AG:=[zz1 6 19]
abbrev yuA:List AG:=[zz2 24 1 5,zz4 25 3 1,zz2 26 1 25,zz1 27 6,zz5 28 5 26 27,zz4 29 0 28,zz2 30 1 29,q (.delete (.sc .str) (.t 24) (.t 30))]
abbrev yuB:List AG:=[zz2 20 1 4,zz1 21 6,o 22 (.lit 1 [(.int .i64 0)] [(0,(.t 21))]),o 23 (.append 1 t_int 8 (.t 20) (.t 22)),zzb 1 4 23]
abbrev yuC:ACode:=(.seq (.reg yuB) (.dreg [O,O,O,O,O,O,O,O] [8,8,8,8,8,8,8,9] yuA))
abbrev yuD:ACode:=(.block 1 [] yuC)
abbrev yuE:ACode:=(.rangeFunc (.t 18) [19] [O,I,I,I,I,I,O,O,O,O,O,O,O,O,O,O,O,O,O,O,O,O,O,O,O,O,O,O,O,O,O,O,O,O,O,O,O,O,O,O,O,O,O,O,O,O,O,O,O,O,O,O,O,O] (.reg yuz) yuD)
abbrev yuF:List AG:=[zz3 17 4 1,zzf 18 n_order_coming 17]
abbrev yuG:List AG:=[zz3 15 4 1,zzf 16 n_order_places 15,o 5 (.alloc [.nilm]),zzb 1 5 16]
abbrev yuH:List AG:=[o 4 (.alloc [(.own 1 t_int [])])]
abbrev yuI:List AG:=[o 2 (.nilrow 1 t_int),o 3 (.nilrow 1 t_string)]
abbrev yuJ:ACode:=(.seq (.reg yuI) .ret)
abbrev yuK:List AG:=[zz3 12 4 1,zzf 13 n_order_right 12,o 14 (.not (.t 13))]
abbrev yuL:List AG:=[o 1 (.box 4 (.t 0)),o 2 (.nilrow 1 t_int),o 3 (.nilrow 1 t_string)]
abbrev order_Sort:AFun:=⟨(.seq (.reg yuL) (.seq (.seq (.reg yuK) (.cond (.t 14) yuJ .skip)) (.seq (.reg yuH) (.seq (.reg yuG) (.seq (.seq (.reg yuF) (.block 0 [] yuE)) (.seq (.reg yuy) (.seq (.seq (.reg yux) (.block 2 yuo (.loop yun yuw))) (.seq (.reg yum) .ret)))))))),54,[.tmp 2,.tmp 3]⟩
abbrev yuM:List It:=[.code (.seq (.reg yum) .ret)]
abbrev yuN (x4 x5 x7 x32 x33 x34:AV) (h:List Ob) (e:Cx:=cx):Cfg:=atC n_order_Sort (.code yuw::.inLoop yun yuw::.inBlock 2 yuo::yuM) [U,U,U,U,x4,x5,U,x7,U,U,U,U,U,U,U,U,U,U,U,U,U,U,U,U,U,U,U,U,U,U,U,U,x32,x33,x34,U,U,U,U,U,U,U,U,U,U,U,U,U,U,U,U,U,U,U] h e
@[simp] theorem c_order_Sort:cfun Tryz.prog n_order_Sort=some order_Sort:=by kernel_rfl
@[simp] theorem e_order_Sort:hasBody Tryz.prog n_order_Sort=true:=by kernel_rfl
abbrev yuO:List AG:=[zz1 37 3,zz1 2 37]
abbrev yuP:List Bool:=[O,O,O,I,O,O,O,O,O,O,O,O,O,O,O,O,O,O,O,O,O,O,O,O,O,I,I,I,O,O,O,O,O,O,O,O,O,O]
abbrev yuQ:List Bool:=[O,O,O,I,O,O,O,O,O,O,O,O,O,O,O,O,O,O,O,O,O,O,O,O,O,O,O,O,O,O,O,O,O,O,O,O,O,O]
abbrev yuR:List AG:=[zz6 36 27 1,zz1 27 36]
abbrev yuS:List AG:=[zz1 31 3,zz4 32 0 7,zz2 33 1 32,o 34 (.lit 1 [(.str [])] [(0,(.t 33))]),o 35 (.append 1 t_string 16 (.t 31) (.t 34)),zz1 3 35]
abbrev yuT:List AG:=[zz5 29 5 25 27,zz3 30 5 29,o 7 (.alloc [(.str []),(.int .i64 0),(.own 1 t_string []),(.own 1 t_string []),(.bool false)]),zzb 5 7 30]
abbrev yuU:ACode:=(.seq (.reg yuT) (.reg yuS))
abbrev yuV:List AG:=[zz7 28 27 26]
abbrev yuW:ACode:=(.seq (.reg yuV) (.seq (.cond (.t 28) .skip (.exit 2)) (.seq (.block 3 [] yuU) (.reg yuR))))
abbrev yuX:List AG:=[zz4 24 3 1,zz2 25 1 24,zza 26 25,zz9 27 0]
abbrev yuY:List Bool:=[O,I,O,I,O,O,O,O,O,O,O,O,I,I,I,O,O,O,O,O,O,O,O,O,O,O,O,O,O,O,O,O,O,O,O,O,O,O]
abbrev yuZ:List Bool:=[O,I,O,I,O,O,O,O,O,O,O,O,O,O,O,O,O,O,O,O,O,O,O,O,O,O,O,O,O,O,O,O,O,O,O,O,O,O]
abbrev yva:List AG:=[zz6 23 14 1,zz1 14 23]
abbrev yvb:List AG:=[zz1 18 3,zz4 19 0 5,zz2 20 1 19,o 21 (.lit 1 [(.str [])] [(0,(.t 20))]),o 22 (.append 1 t_string 16 (.t 18) (.t 21)),zz1 3 22]
abbrev yvc:List AG:=[zz5 16 3 12 14,zz3 17 3 16,o 5 (.alloc [(.str []),(.str []),(.int .i64 0)]),zzb 3 5 17]
abbrev yvd:ACode:=(.seq (.reg yvc) (.reg yvb))
abbrev yve:List AG:=[zz7 15 14 13]
abbrev yvf:ACode:=(.seq (.reg yve) (.seq (.cond (.t 15) .skip (.exit 0)) (.seq (.block 1 [] yvd) (.reg yva))))
abbrev yvg:List AG:=[zz4 11 2 1,zz2 12 1 11,zza 13 12,zz9 14 0]
abbrev yvh:List AG:=[zz4 8 0 1,zz2 9 1 8,zzf 10 n_slices_Clone_string_string 9,zz1 3 10]
abbrev yvi:List AG:=[o 1 (.box 4 (.t 0)),o 2 (.nilrow 1 t_string)]
abbrev net_Nets:AFun:=⟨(.seq (.reg yvi) (.seq (.reg yvh) (.seq (.seq (.reg yvg) (.block 0 yuZ (.loop yuY yvf))) (.seq (.seq (.reg yuX) (.block 2 yuQ (.loop yuP yuW))) (.seq (.reg yuO) .ret))))),38,[.tmp 2]⟩
abbrev yvj:List It:=[.code (.seq (.reg yuO) .ret)]
abbrev yvk (x3 x25 x26 x27:AV) (h:List Ob) (e:Cx:=cx):Cfg:=atC n_net_Nets (.code yuW::.inLoop yuP yuW::.inBlock 2 yuQ::yvj) [U,U,U,x3,U,U,U,U,U,U,U,U,U,U,U,U,U,U,U,U,U,U,U,U,U,x25,x26,x27,U,U,U,U,U,U,U,U,U,U] h e
abbrev yvl:List It:=[.code (.seq (.seq (.reg yuX) (.block 2 yuQ (.loop yuP yuW))) (.seq (.reg yuO) .ret))]
abbrev yvm (x1 x3 x12 x13 x14:AV) (h:List Ob) (e:Cx:=cx):Cfg:=atC n_net_Nets (.code yvf::.inLoop yuY yvf::.inBlock 0 yuZ::yvl) [U,x1,U,x3,U,U,U,U,U,U,U,U,x12,x13,x14,U,U,U,U,U,U,U,U,U,U,U,U,U,U,U,U,U,U,U,U,U,U,U] h e
@[simp] theorem c_net_Nets:cfun Tryz.prog n_net_Nets=some net_Nets:=by kernel_rfl
@[simp] theorem e_net_Nets:hasBody Tryz.prog n_net_Nets=true:=by kernel_rfl
abbrev yvn:List AG:=[zz1 35 6,zz1 2 35]
abbrev yvo:List Bool:=[O,O,O,O,O,O,I,O,O,O,O,O,O,O,O,O,O,O,O,O,O,O,O,O,O,I,I,I,O,O,O,O,O,O,O,O]
abbrev yvp:List Bool:=[O,O,O,O,O,O,I,O,O,O,O,O,O,O,O,O,O,O,O,O,O,O,O,O,O,O,O,O,O,O,O,O,O,O,O,O]
abbrev yvq:List AG:=[zz6 34 27 1,zz1 27 34]
abbrev yvr:List AG:=[zz1 31 6,zz1 32 8,o 33 (.append 1 t_bool 1 (.t 31) (.t 32)),zz1 6 33]
abbrev yvs:List AG:=[zz5 29 1 25 27,zz2 30 1 29,zz1 8 30]
abbrev yvt:ACode:=(.seq (.reg yvs) (.reg yvr))
abbrev yvu:List AG:=[zz7 28 27 26]
abbrev yvv:ACode:=(.seq (.reg yvu) (.seq (.cond (.t 28) .skip (.exit 2)) (.seq (.block 3 [] yvt) (.reg yvq))))
abbrev yvw:List AG:=[zz1 25 0,zza 26 25,zz9 27 0]
abbrev yvx:List AG:=[zz1 23 3,o 24 (.call (.f n_slices_Grow_bool_bool) [(.c (.list true 0 [])),(.t 23)]),zz1 6 24]
abbrev yvy:List Bool:=[I,O,O,I,O,O,O,O,O,I,I,I,O,O,O,O,O,O,O,O,O,O,O,O,O,O,O,O,O,O,O,O,O,O,O,O]
abbrev yvz:List Bool:=[I,O,O,I,O,O,O,O,O,O,O,O,O,O,O,O,O,O,O,O,O,O,O,O,O,O,O,O,O,O,O,O,O,O,O,O]
abbrev yvA:List AG:=[zz6 22 11 1,zz1 11 22]
abbrev yvB:List AG:=[o 21 (.mkIface t_string (.c (.str [108,101,110,32,111,117,116,32,111,102,32,114,97,110,103,101]))),q (.panic (.t 21))]
abbrev yvC:List AG:=[zz1 19 3,o 20 (.cmp .lss (.sc .int) (.t 19) (.c (.int .i64 0)))]
abbrev yvD:List AG:=[zz1 15 3,zz1 16 5,zza 17 16,o 18 (.ibin .add (.t 15) (.t 17)),zz1 3 18]
abbrev yvE:List AG:=[zz5 13 1 9 11,zz2 14 1 13,zz1 5 14]
abbrev yvF:ACode:=(.seq (.reg yvE) (.seq (.reg yvD) (.seq (.reg yvC) (.cond (.t 20) (.reg yvB) .skip))))
abbrev yvG:List AG:=[zz7 12 11 10]
abbrev yvH:ACode:=(.seq (.reg yvG) (.seq (.cond (.t 12) .skip (.exit 0)) (.seq (.block 1 [] yvF) (.reg yvA))))
abbrev yvI:List AG:=[zz1 9 0,zza 10 9,zz9 11 0]
abbrev yvJ:List AG:=[zz9 3 0]
abbrev yvK:List AG:=[o 2 (.nilrow 1 t_bool)]
abbrev slices_Concat_bool_bool:AFun:=⟨(.seq (.reg yvK) (.seq (.reg yvJ) (.seq (.seq (.reg yvI) (.block 0 yvz (.loop yvy yvH))) (.seq (.reg yvx) (.seq (.seq (.reg yvw) (.block 2 yvp (.loop yvo yvv))) (.seq (.reg yvn) .ret)))))),36,[.tmp 2]⟩
abbrev yvL:List It:=[.code (.seq (.reg yvn) .ret)]
abbrev yvM (x6 x25 x26 x27:AV) (h:List Ob) (e:Cx:=cx):Cfg:=atC n_slices_Concat_bool_bool (.code yvv::.inLoop yvo yvv::.inBlock 2 yvp::yvL) [U,U,U,U,U,U,x6,U,U,U,U,U,U,U,U,U,U,U,U,U,U,U,U,U,U,x25,x26,x27,U,U,U,U,U,U,U,U] h e
abbrev yvN:List It:=[.code (.seq (.reg yvx) (.seq (.seq (.reg yvw) (.block 2 yvp (.loop yvo yvv))) (.seq (.reg yvn) .ret)))]
abbrev yvO (x0 x3 x9 x10 x11:AV) (h:List Ob) (e:Cx:=cx):Cfg:=atC n_slices_Concat_bool_bool (.code yvH::.inLoop yvy yvH::.inBlock 0 yvz::yvN) [x0,U,U,x3,U,U,U,U,U,x9,x10,x11,U,U,U,U,U,U,U,U,U,U,U,U,U,U,U,U,U,U,U,U,U,U,U,U] h e
@[simp] theorem c_slices_Concat_bool_bool:cfun Tryz.prog n_slices_Concat_bool_bool=some slices_Concat_bool_bool:=by kernel_rfl
@[simp] theorem e_slices_Concat_bool_bool:hasBody Tryz.prog n_slices_Concat_bool_bool=true:=by kernel_rfl
abbrev yvP:List AG:=[zz1 10 3,o 11 (.cmp .eql (.sc .int) (.t 10) (.c (.int .i64 0))),zz1 2 11]
abbrev yvQ:List AG:=[zz3 6 4 1,zzf 7 n_r06_Check 6,zz1 5 7,zzc 8 5 0,zzc 9 5 1,zz1 3 8,zz1 4 9]
abbrev yvR:List AG:=[o 1 (.box 4 (.t 0)),zzh 2]
abbrev r07_right:AFun:=⟨(.seq (.reg yvR) (.seq (.reg yvQ) (.seq (.reg yvP) .ret))),12,[.tmp 2]⟩
@[simp] theorem c_r07_right:cfun Tryz.prog n_r07_right=some r07_right:=by kernel_rfl
@[simp] theorem e_r07_right:hasBody Tryz.prog n_r07_right=true:=by kernel_rfl
abbrev yvS:List AG:=[zzh 6]
abbrev yvT:List Bool:=[O,O,I,I,I,O,O,I,O,O,O,O,O,O,O,O,O,O,O,O,O,O,O,O,O,O,O,O,O,O,O,O,O,O,O,O,O,O,O,O,O,O]
abbrev yvU:List Bool:=[O,O,O,O,O,O,O,O,O,O,O,O,O,O,O,O,O,O,O,O,O,O,O,O,O,O,O,O,O,O,O,O,O,O,O,O,O,O,O,O,O,O]
abbrev yvV:List AG:=[zz1 14 7,zz6 15 14 1,zz1 7 15]
abbrev yvW:List Bool:=[O,O,I,I,I,O,O,I,I,O,O,O,O,O,O,O,O,O,O,O,O,O,O,O,O,O,O,O,O,O,O,O,O,O,O,O,O,O,O,O,O,O]
abbrev yvX:List Bool:=[O,O,I,I,I,O,O,I,O,O,O,O,O,O,O,O,O,O,O,O,O,O,O,O,O,O,O,O,O,O,O,O,O,O,O,O,O,O,O,O,O,O]
abbrev yvY:List AG:=[zz1 21 8,zz6 22 21 1,zz1 8 22]
abbrev yvZ:List AG:=[o 6 (.mv (.c (.bool true)))]
abbrev ywa:ACode:=(.seq (.reg yvZ) .ret)
abbrev ywb:List AG:=[zz4 23 3 3,zz2 24 1 23,zz1 25 8,zz5 26 5 24 25,zz4 27 0 26,zz2 28 1 27,zz4 29 2 4,zz2 30 1 29,zz1 31 7,zz5 32 1 30 31,zz2 33 1 32,o 34 (.cmp .eql (.sc .str) (.t 28) (.t 33)),zz1 35 34,zze 36 35 2,zze 37 35 8,oy 38 35 (.ixAddr 1 (.t 36) (.t 37)),zzd 39 35 1 38,oy 40 35 (.not (.t 39)),zz8 41 35 40]
abbrev ywc:ACode:=(.seq (.dreg [O,O,O,O,O,O,O,O,O,O,O,O,O,O,O,O,O,O,O] [20,20,20,20,20,20,20,20,20,20,20,20,20,20,20,20,20,20,20] ywb) (.cond (.t 41) ywa .skip))
abbrev ywd:List AG:=[zz1 16 8,zz4 17 3 3,zz2 18 1 17,zza 19 18,zz7 20 16 19]
abbrev ywe:ACode:=(.seq (.seq (.reg ywd) (.cond (.t 20) .skip (.exit 2))) (.seq (.block 3 [] ywc) (.reg yvY)))
abbrev ywf:List AG:=[zz9 8 0]
abbrev ywg:ACode:=(.seq (.reg ywf) (.block 2 yvX (.loop yvW ywe)))
abbrev ywh:List AG:=[zz1 9 7,zz4 10 2 4,zz2 11 1 10,zza 12 11,zz7 13 9 12]
abbrev ywi:ACode:=(.seq (.seq (.reg ywh) (.cond (.t 13) .skip (.exit 0))) (.seq (.block 1 [] ywg) (.reg yvV)))
abbrev ywj:List AG:=[zz9 7 0]
abbrev ywk:List AG:=[o 3 (.box 4 (.t 0)),o 4 (.box 5 (.t 1)),zzh 6]
abbrev r07_waits:AFun:=⟨(.seq (.reg ywk) (.seq (.seq (.reg ywj) (.block 0 yvU (.loop yvT ywi))) (.seq (.reg yvS) .ret))),42,[.tmp 6]⟩
@[simp] theorem c_r07_waits:cfun Tryz.prog n_r07_waits=some r07_waits:=by kernel_rfl
@[simp] theorem e_r07_waits:hasBody Tryz.prog n_r07_waits=true:=by kernel_rfl
abbrev ywl:List Bool:=[I,O,I,I,I,O,O,O,O,O,O,I,I,I,O,O,O,O,O,O,O,O,O,O,O,O,O,O,O,O,O,O,O,O,O,O,O,O,O]
abbrev ywm:List Bool:=[O,O,O,O,O,O,O,O,O,O,O,O,O,O,O,O,O,O,O,O,O,O,O,O,O,O,O,O,O,O,O,O,O,O,O,O,O,O,O]
abbrev ywn:List AG:=[zz6 38 13 1,zz1 13 38]
abbrev ywo:List AG:=[zz1 37 9,zzb 1 3 37]
abbrev ywp:List AG:=[zz1 28 10,o 29 (.cmp .neq (.sc .int) (.t 28) (.c (.int .i64 0))),zz1 30 29,on 31 30 (.mv (.t 0)),on 32 30 (.mv (.t 8)),on 33 30 (.mv (.t 9)),on 34 30 (.call (.t 31) [(.t 32),(.t 33)]),on 35 30 (.not (.t 34)),o 36 (.pick (.t 30) (.c (.bool true)) (.t 35))]
abbrev ywq:List AG:=[zz2 25 1 4,zz1 26 10,o 27 (.nilck (.t 25)),zzb 1 27 26]
abbrev ywr:List AG:=[zz2 18 1 2,zz2 19 1 3,zz1 20 7,o 21 (.call (.f n_step_machine_step) [(.t 18),(.t 19),(.t 20)]),zz1 17 21,zzc 22 17 0,zzc 23 17 1,zzc 24 17 2,zz1 8 22,zz1 9 23,zz1 10 24]
abbrev yws:List AG:=[zz5 15 1 11 13,zz2 16 1 15,zz1 7 16]
abbrev ywt:ACode:=(.seq (.reg yws) (.seq (.reg ywr) (.seq (.seq (.reg ywq) (.seq (.reg ywp) (.cond (.t 36) .ret .skip))) (.reg ywo))))
abbrev ywu:List AG:=[zz7 14 13 12]
abbrev ywv:ACode:=(.seq (.reg ywu) (.seq (.cond (.t 14) .skip (.exit 0)) (.seq (.block 1 [] ywt) (.reg ywn))))
abbrev yww:List AG:=[zz2 11 1 1,zza 12 11,zz9 13 0]
abbrev step_machine_steps_1:AFun:=⟨(.seq (.reg yww) (.block 0 ywm (.loop ywl ywv))),39,[]⟩
abbrev ywx:List It:=[]
abbrev ywy (x0 x2 x3 x4 x11 x12 x13:AV) (h:List Ob) (e:Cx:=cx):Cfg:=atC n_step_machine_steps_1 (.code ywv::.inLoop ywl ywv::.inBlock 0 ywm::ywx) [x0,U,x2,x3,x4,U,U,U,U,U,U,x11,x12,x13,U,U,U,U,U,U,U,U,U,U,U,U,U,U,U,U,U,U,U,U,U,U,U,U,U] h e
@[simp] theorem c_step_machine_steps_1:cfun Tryz.prog n_step_machine_steps_1=some step_machine_steps_1:=by kernel_rfl
@[simp] theorem e_step_machine_steps_1:hasBody Tryz.prog n_step_machine_steps_1=true:=by kernel_rfl
abbrev ywz:List AG:=[q (.store 1 (.t 2) (.c (.int .i64 0))),q (.store 1 (.t 3) (.c (.str [])))]
abbrev ywA:List Bool:=[O,O,I,I,O,O,O,I,O,O,O,O,O,O,O,O,O,O,O,O,O,O,O,O,O,O,O,O,O,O,O,O,O,O,O,O,O,O,O,O,O,O,O,O,O,O,O,O,O,O,O,O,O,O,O,O,O,O,O,O,O,O,O,O,O,O,O,O,O,O,O,O,O,O,O,O,O,O,O,O,O,O,O,O,O,O,O,O,O,O,O,O,I,I,I,O,O,O,O,O,O,O,O,O]
abbrev ywB:List Bool:=[O,O,I,I,O,O,O,O,O,O,O,O,O,O,O,O,O,O,O,O,O,O,O,O,O,O,O,O,O,O,O,O,O,O,O,O,O,O,O,O,O,O,O,O,O,O,O,O,O,O,O,O,O,O,O,O,O,O,O,O,O,O,O,O,O,O,O,O,O,O,O,O,O,O,O,O,O,O,O,O,O,O,O,O,O,O,O,O,O,O,O,O,O,O,O,O,O,O,O,O,O,O,O,O]
abbrev ywC:List AG:=[zz6 103 94 1,zz1 94 103]
abbrev ywD:List AG:=[zz1 98 7,zz1 99 13,o 100 (.lookup (.sc .str) (.bool false) (.t 98) (.t 99) false),zz1 101 13,o 102 (.call (.f n_net_need) [(.t 100),(.c (.int .i64 6)),(.t 101)])]
abbrev ywE:List AG:=[zz5 96 1 92 94,zz2 97 1 96,zz1 13 97]
abbrev ywF:ACode:=(.seq (.reg ywE) (.reg ywD))
abbrev ywG:List AG:=[zz7 95 94 93]
abbrev ywH:ACode:=(.seq (.reg ywG) (.seq (.cond (.t 95) .skip (.exit 6)) (.seq (.block 7 [] ywF) (.reg ywC))))
abbrev ywI:List AG:=[zz3 91 4 1,zzf 92 n_net_used 91,zza 93 92,zz9 94 0]
abbrev ywJ:List Bool:=[O,I,I,I,O,O,O,I,O,O,O,O,O,O,O,O,O,O,O,O,O,O,O,O,O,O,O,O,O,O,O,O,O,O,O,O,O,O,O,O,O,O,O,O,O,O,O,O,O,O,O,O,O,O,O,O,O,O,O,O,O,O,O,O,O,O,O,O,O,O,O,O,O,O,O,O,O,O,O,I,I,I,O,O,O,O,O,O,O,O,O,O,O,O,O,O,O,O,O,O,O,O,O,O]
abbrev ywK:List Bool:=[O,I,I,I,O,O,O,I,O,O,O,O,O,O,O,O,O,O,O,O,O,O,O,O,O,O,O,O,O,O,O,O,O,O,O,O,O,O,O,O,O,O,O,O,O,O,O,O,O,O,O,O,O,O,O,O,O,O,O,O,O,O,O,O,O,O,O,O,O,O,O,O,O,O,O,O,O,O,O,O,O,O,O,O,O,O,O,O,O,O,O,O,O,O,O,O,O,O,O,O,O,O,O,O]
abbrev ywL:List AG:=[zz6 90 81 1,zz1 81 90]
abbrev ywM:List AG:=[zz3 85 5 11,zzf 86 n_net_Gate 85,zz4 87 0 11,zz2 88 1 87,o 89 (.call (.f n_net_need) [(.t 86),(.c (.int .i64 1)),(.t 88)])]
abbrev ywN:List AG:=[zz5 83 5 79 81,zz3 84 5 83,o 11 (.alloc [(.str []),(.int .i64 0),(.own 1 t_string []),(.own 1 t_string []),(.bool false)]),zzb 5 11 84]
abbrev ywO:ACode:=(.seq (.reg ywN) (.dreg [O,O,O,I,O] [2,5,5,5,6] ywM))
abbrev ywP:List AG:=[zz7 82 81 80]
abbrev ywQ:ACode:=(.seq (.reg ywP) (.seq (.cond (.t 82) .skip (.exit 4)) (.seq (.block 5 [] ywO) (.reg ywL))))
abbrev ywR:List AG:=[zz4 78 3 1,zz2 79 1 78,zza 80 79,zz9 81 0]
abbrev ywS:List Bool:=[O,I,I,I,O,O,O,I,O,O,O,O,O,O,O,O,O,O,O,O,O,O,O,O,O,O,O,O,O,O,O,O,O,O,O,O,O,O,O,O,O,O,O,O,O,O,O,O,O,O,O,O,O,O,O,O,O,O,O,O,I,I,I,O,O,O,O,O,O,O,O,O,O,O,O,O,O,O,O,O,O,O,O,O,O,O,O,O,O,O,O,O,O,O,O,O,O,O,O,O,O,O,O,O]
abbrev ywT:List Bool:=[O,I,I,I,O,O,O,I,O,O,O,O,O,O,O,O,O,O,O,O,O,O,O,O,O,O,O,O,O,O,O,O,O,O,O,O,O,O,O,O,O,O,O,O,O,O,O,O,O,O,O,O,O,O,O,O,O,O,O,O,O,O,O,O,O,O,O,O,O,O,O,O,O,O,O,O,O,O,O,O,O,O,O,O,O,O,O,O,O,O,O,O,O,O,O,O,O,O,O,O,O,O,O,O]
abbrev ywU:List AG:=[zz6 77 62 1,zz1 62 77]
abbrev ywV:List AG:=[zz4 66 2 9,zz2 67 1 66,o 68 (.cmp .geq (.sc .int) (.t 67) (.c (.int .i64 0))),zz1 69 68,oy 70 69 (.off 2 (.t 9)),zzd 71 69 1 70,oy 72 69 (.cmp .leq (.sc .int) (.t 71) (.c (.int .i64 2))),zz8 73 69 72,zz4 74 0 9,zz2 75 1 74,o 76 (.call (.f n_net_need) [(.t 73),(.c (.int .i64 1)),(.t 75)])]
abbrev ywW:List AG:=[zz5 64 3 60 62,zz3 65 3 64,o 9 (.alloc [(.str []),(.str []),(.int .i64 0)]),zzb 3 9 65]
abbrev ywX:ACode:=(.seq (.reg ywW) (.reg ywV))
abbrev ywY:List AG:=[zz7 63 62 61]
abbrev ywZ:ACode:=(.seq (.reg ywY) (.seq (.cond (.t 63) .skip (.exit 2)) (.seq (.block 3 [] ywX) (.reg ywU))))
abbrev yxa:List AG:=[zz4 59 2 1,zz2 60 1 59,zza 61 60,zz9 62 0]
abbrev yxb:List AG:=[zz4 56 1 1,zz2 57 1 56,zzf 58 n_net_once 57]
abbrev yxc:List AG:=[zz3 53 4 1,zzf 54 n_net_Nets 53,zzf 55 n_net_once 54,zz1 7 55]
abbrev yxd:List Bool:=[O,I,I,I,O,O,O,O,O,O,O,O,O,O,O,O,O,O,O,O,O,O,O,O,O,O,O,O,O,O,O,O,O,O,O,O,O,O,O,O,O,O,I,I,I,O,O,O,O,O,O,O,O,O,O,O,O,O,O,O,O,O,O,O,O,O,O,O,O,O,O,O,O,O,O,O,O,O,O,O,O,O,O,O,O,O,O,O,O,O,O,O,O,O,O,O,O,O,O,O,O,O,O,O]
abbrev yxe:List Bool:=[O,I,I,I,O,O,O,O,O,O,O,O,O,O,O,O,O,O,O,O,O,O,O,O,O,O,O,O,O,O,O,O,O,O,O,O,O,O,O,O,O,O,O,O,O,O,O,O,O,O,O,O,O,O,O,O,O,O,O,O,O,O,O,O,O,O,O,O,O,O,O,O,O,O,O,O,O,O,O,O,O,O,O,O,O,O,O,O,O,O,O,O,O,O,O,O,O,O,O,O,O,O,O,O]
abbrev yxf:List AG:=[zz6 52 44 1,zz1 44 52]
abbrev yxg:List AG:=[zz1 48 6,zzf 49 n_ident_Name 48,zz1 50 6,o 51 (.call (.f n_net_need) [(.t 49),(.c (.int .i64 4)),(.t 50)])]
abbrev yxh:List AG:=[zz5 46 1 42 44,zz2 47 1 46,zz1 6 47]
abbrev yxi:ACode:=(.seq (.reg yxh) (.reg yxg))
abbrev yxj:List AG:=[zz7 45 44 43]
abbrev yxk:ACode:=(.seq (.reg yxj) (.seq (.cond (.t 45) .skip (.exit 0)) (.seq (.block 1 [] yxi) (.reg yxf))))
abbrev yxl:List AG:=[zz3 41 4 1,zzf 42 n_net_told 41,zza 43 42,zz9 44 0]
abbrev yxm:List AG:=[zz4 15 0 1,zz2 16 1 15,zza 17 16,zz4 18 2 1,zz2 19 1 18,zza 20 19,o 21 (.ibin .add (.t 17) (.t 20)),zz4 22 3 1,zz2 23 1 22,zza 24 23,o 25 (.ibin .add (.t 21) (.t 24)),o 26 (.cmp .leq (.sc .int) (.t 25) (.c (.int .i64 200))),zz1 27 26,oy 28 27 (.off 1 (.t 1)),zzd 29 27 1 28,oy 30 27 (.len (.t 29)),oy 31 27 (.cmp .leq (.sc .int) (.t 30) (.c (.int .i64 200))),zz8 32 27 31,zz1 33 32,oy 34 33 (.off 3 (.t 1)),zzd 35 33 1 34,zze 36 33 4,oy 37 33 (.call (.f n_slices_ContainsFunc_api_Gate_api_Gate) [(.t 35),(.t 36)]),oy 38 33 (.not (.t 37)),zz8 39 33 38,o 40 (.call (.f n_net_need) [(.t 39),(.c (.int .i64 8)),(.c (.str []))])]
abbrev yxn:List AG:=[o 4 (.mv (.f n_net_Check_2))]
abbrev yxo:List AG:=[o 14 (.mkFunc (.func n_net_Check_1) [] [(.t 2),(.t 3)]),q (.defer (.t 14) [])]
abbrev yxp:List AG:=[o 1 (.box 4 (.t 0)),o 2 (.alloc [(.int .i64 0)]),o 3 (.alloc [(.str [])])]
abbrev net_Check:AFun:=⟨(.seq (.reg yxp) (.seq (.reg yxo) (.seq (.reg yxn) (.seq (.reg yxm) (.seq (.seq (.reg yxl) (.block 0 yxe (.loop yxd yxk))) (.seq (.reg yxc) (.seq (.reg yxb) (.seq (.seq (.reg yxa) (.block 2 ywT (.loop ywS ywZ))) (.seq (.seq (.reg ywR) (.block 4 ywK (.loop ywJ ywQ))) (.seq (.seq (.reg ywI) (.block 6 ywB (.loop ywA ywH))) (.seq (.reg ywz) .ret))))))))))),104,[.cell 2 false 1,.cell 3 false 1]⟩
abbrev yxq:List It:=[.code (.seq (.reg ywz) .ret)]
abbrev yxr (x2 x3 x7 x92 x93 x94:AV) (h:List Ob) (e:Cx:=cx):Cfg:=atC n_net_Check (.code ywH::.inLoop ywA ywH::.inBlock 6 ywB::yxq) [U,U,x2,x3,U,U,U,x7,U,U,U,U,U,U,U,U,U,U,U,U,U,U,U,U,U,U,U,U,U,U,U,U,U,U,U,U,U,U,U,U,U,U,U,U,U,U,U,U,U,U,U,U,U,U,U,U,U,U,U,U,U,U,U,U,U,U,U,U,U,U,U,U,U,U,U,U,U,U,U,U,U,U,U,U,U,U,U,U,U,U,U,U,x92,x93,x94,U,U,U,U,U,U,U,U,U] h e
abbrev yxs:List It:=[.code (.seq (.seq (.reg ywI) (.block 6 ywB (.loop ywA ywH))) (.seq (.reg ywz) .ret))]
abbrev yxt (x1 x2 x3 x7 x79 x80 x81:AV) (h:List Ob) (e:Cx:=cx):Cfg:=atC n_net_Check (.code ywQ::.inLoop ywJ ywQ::.inBlock 4 ywK::yxs) [U,x1,x2,x3,U,U,U,x7,U,U,U,U,U,U,U,U,U,U,U,U,U,U,U,U,U,U,U,U,U,U,U,U,U,U,U,U,U,U,U,U,U,U,U,U,U,U,U,U,U,U,U,U,U,U,U,U,U,U,U,U,U,U,U,U,U,U,U,U,U,U,U,U,U,U,U,U,U,U,U,x79,x80,x81,U,U,U,U,U,U,U,U,U,U,U,U,U,U,U,U,U,U,U,U,U,U] h e
abbrev yxu:List It:=[.code (.seq (.seq (.reg ywR) (.block 4 ywK (.loop ywJ ywQ))) (.seq (.seq (.reg ywI) (.block 6 ywB (.loop ywA ywH))) (.seq (.reg ywz) .ret)))]
abbrev yxv (x1 x2 x3 x7 x60 x61 x62:AV) (h:List Ob) (e:Cx:=cx):Cfg:=atC n_net_Check (.code ywZ::.inLoop ywS ywZ::.inBlock 2 ywT::yxu) [U,x1,x2,x3,U,U,U,x7,U,U,U,U,U,U,U,U,U,U,U,U,U,U,U,U,U,U,U,U,U,U,U,U,U,U,U,U,U,U,U,U,U,U,U,U,U,U,U,U,U,U,U,U,U,U,U,U,U,U,U,U,x60,x61,x62,U,U,U,U,U,U,U,U,U,U,U,U,U,U,U,U,U,U,U,U,U,U,U,U,U,U,U,U,U,U,U,U,U,U,U,U,U,U,U,U,U] h e
abbrev yxw:List It:=[.code (.seq (.reg yxc) (.seq (.reg yxb) (.seq (.seq (.reg yxa) (.block 2 ywT (.loop ywS ywZ))) (.seq (.seq (.reg ywR) (.block 4 ywK (.loop ywJ ywQ))) (.seq (.seq (.reg ywI) (.block 6 ywB (.loop ywA ywH))) (.seq (.reg ywz) .ret))))))]
abbrev yxx (x1 x2 x3 x42 x43 x44:AV) (h:List Ob) (e:Cx:=cx):Cfg:=atC n_net_Check (.code yxk::.inLoop yxd yxk::.inBlock 0 yxe::yxw) [U,x1,x2,x3,U,U,U,U,U,U,U,U,U,U,U,U,U,U,U,U,U,U,U,U,U,U,U,U,U,U,U,U,U,U,U,U,U,U,U,U,U,U,x42,x43,x44,U,U,U,U,U,U,U,U,U,U,U,U,U,U,U,U,U,U,U,U,U,U,U,U,U,U,U,U,U,U,U,U,U,U,U,U,U,U,U,U,U,U,U,U,U,U,U,U,U,U,U,U,U,U,U,U,U,U,U] h e
@[simp] theorem c_net_Check:cfun Tryz.prog n_net_Check=some net_Check:=by kernel_rfl
@[simp] theorem e_net_Check:hasBody Tryz.prog n_net_Check=true:=by kernel_rfl
abbrev yxy:List AG:=[o 4 (.mv (.c (.int .i64 (-1))))]
abbrev yxz:List Bool:=[I,I,O,O,O,O,O,I,I,O,O,O,O,O,O,O,O,O,O]
abbrev yxA:List Bool:=[O,O,O,O,O,O,O,O,O,O,O,O,O,O,O,O,O,O,O]
abbrev yxB:List AG:=[zz6 18 8 1,zz1 8 18]
abbrev yxC:List AG:=[zz1 17 5,zz1 4 17]
abbrev yxD:ACode:=(.seq (.reg yxC) .ret)
abbrev yxE:List AG:=[zz1 11 1,zz1 12 0,zz1 13 5,zz5 14 1 12 13,zz2 15 1 14,o 16 (.cmp .eql (.sc .str) (.t 11) (.t 15))]
abbrev yxF:List AG:=[zz1 10 8,zz1 5 10]
abbrev yxG:ACode:=(.seq (.reg yxF) (.seq (.reg yxE) (.cond (.t 16) yxD .skip)))
abbrev yxH:List AG:=[zz7 9 8 7]
abbrev yxI:ACode:=(.seq (.reg yxH) (.seq (.cond (.t 9) .skip (.exit 0)) (.seq (.block 1 [] yxG) (.reg yxB))))
abbrev yxJ:List AG:=[zz1 6 0,zza 7 6,zz9 8 0]
abbrev yxK:List AG:=[zz9 4 0]
abbrev slices_Index_string_string:AFun:=⟨(.seq (.reg yxK) (.seq (.seq (.reg yxJ) (.block 0 yxA (.loop yxz yxI))) (.seq (.reg yxy) .ret))),19,[.tmp 4]⟩
abbrev yxL:List It:=[.code (.seq (.reg yxy) .ret)]
abbrev yxM (x0 x1 x7 x8:AV) (h:List Ob) (e:Cx:=cx):Cfg:=atC n_slices_Index_string_string (.code yxI::.inLoop yxz yxI::.inBlock 0 yxA::yxL) [x0,x1,U,U,U,U,U,x7,x8,U,U,U,U,U,U,U,U,U,U] h e
@[simp] theorem c_slices_Index_string_string:cfun Tryz.prog n_slices_Index_string_string=some slices_Index_string_string:=by kernel_rfl
@[simp] theorem e_slices_Index_string_string:hasBody Tryz.prog n_slices_Index_string_string=true:=by kernel_rfl
@[simp] theorem e_strings_Repeat:hasBody Tryz.prog n_strings_Repeat=true:=by kernel_rfl
abbrev yxN:List AG:=[o 5 (.mkFunc (.func n_net_parity_1) [] [(.t 2),(.t 3)]),zz1 4 5]
abbrev yxO:List AG:=[o 2 (.box 1 (.t 0)),o 3 (.box 1 (.t 1)),o 4 (.mv (.c .nilf))]
abbrev net_parity:AFun:=⟨(.seq (.reg yxO) (.seq (.reg yxN) .ret)),6,[.tmp 4]⟩
@[simp] theorem c_net_parity:cfun Tryz.prog n_net_parity=some net_parity:=by kernel_rfl
@[simp] theorem e_net_parity:hasBody Tryz.prog n_net_parity=true:=by kernel_rfl
@[simp] theorem e_strings_Trim:hasBody Tryz.prog n_strings_Trim=true:=by kernel_rfl
abbrev yxP:List AG:=[zz9 2 0,o 3 (.mv (.c (.str [])))]
abbrev yxQ:List Bool:=[O,O,O,O,O,O,I,O,O,O,O,O,O,I,I,O,O,O,O,O,O,O,O,O,O,O,O,O,O,O,O,O,O,O,O,O,O,O,O,O,O,O,O,O,O,O,O,O,O,O,O,O,O,O,O,O,O,O,O,O,O,O,O,O,O,O,O,O,O,O,O,O,O,O,O,O,O,O,O,O,O,O,O,O,O,O,O,O,O,O,O,O,O,O,O,O,O,O,O,O,O,O,O,O,O,O,O,O,O,O,O,O,O,O,O,O,O,O,O,O]
abbrev yxR:List Bool:=[O,O,O,O,O,O,O,O,O,O,O,O,O,O,O,O,O,O,O,O,O,O,O,O,O,O,O,O,O,O,O,O,O,O,O,O,O,O,O,O,O,O,O,O,O,O,O,O,O,O,O,O,O,O,O,O,O,O,O,O,O,O,O,O,O,O,O,O,O,O,O,O,O,O,O,O,O,O,O,O,O,O,O,O,O,O,O,O,O,O,O,O,O,O,O,O,O,O,O,O,O,O,O,O,O,O,O,O,O,O,O,O,O,O,O,O,O,O,O,O]
abbrev yxS:List AG:=[zz1 107 14,zz6 108 107 1,zz1 14 108]
abbrev yxT:List AG:=[zz1 116 13,zz1 117 14,zz5 118 1 116 117,zz2 119 1 118,zz9 2 6,zz1 3 119]
abbrev yxU:ACode:=(.seq (.dreg [O,O,O,O,O,O] [7,7,7,7,7,7] yxT) .ret)
abbrev yxV:List AG:=[zz1 109 6,zz1 110 13,zz1 111 14,zz5 112 1 110 111,zz2 113 1 112,zzg 114 n_r01_Has 109 113,o 115 (.not (.t 114))]
abbrev yxW:ACode:=(.seq (.reg yxV) (.cond (.t 115) yxU .skip))
abbrev yxX:List AG:=[zz1 103 14,zz1 104 13,zza 105 104,zz7 106 103 105]
abbrev yxY:ACode:=(.seq (.seq (.reg yxX) (.cond (.t 106) .skip (.exit 6))) (.seq (.block 7 [] yxW) (.reg yxS)))
abbrev yxZ:List AG:=[zz9 14 0]
abbrev yya:List AG:=[zz3 101 4 1,zzf 102 n_r06_Used 101,zz1 13 102]
abbrev yyb:List Bool:=[O,I,O,O,O,O,I,O,O,O,O,O,I,O,O,O,O,O,O,O,O,O,O,O,O,O,O,O,O,O,O,O,O,O,O,O,O,O,O,O,O,O,O,O,O,O,O,O,O,O,O,O,O,O,O,O,O,O,O,O,O,O,O,O,O,O,O,O,O,O,O,O,O,O,O,O,O,O,O,O,O,O,O,O,O,O,O,O,O,O,O,O,O,O,O,O,O,O,O,O,O,O,O,O,O,O,O,O,O,O,O,O,O,O,O,O,O,O,O,O]
abbrev yyc:List Bool:=[O,I,O,O,O,O,I,O,O,O,O,O,O,O,O,O,O,O,O,O,O,O,O,O,O,O,O,O,O,O,O,O,O,O,O,O,O,O,O,O,O,O,O,O,O,O,O,O,O,O,O,O,O,O,O,O,O,O,O,O,O,O,O,O,O,O,O,O,O,O,O,O,O,O,O,O,O,O,O,O,O,O,O,O,O,O,O,O,O,O,O,O,O,O,O,O,O,O,O,O,O,O,O,O,O,O,O,O,O,O,O,O,O,O,O,O,O,O,O,O]
abbrev yyd:List AG:=[zz1 86 12,zz6 87 86 1,zz1 12 87]
abbrev yye:List AG:=[zz4 95 3 1,zz2 96 1 95,zz1 97 12,zz5 98 5 96 97,zz4 99 0 98,zz2 100 1 99,zz9 2 1,zz1 3 100]
abbrev yyf:ACode:=(.seq (.dreg [O,O,O,O,O,O,O,O] [9,9,9,9,9,9,9,9] yye) .ret)
abbrev yyg:List AG:=[zz4 88 3 1,zz2 89 1 88,zz1 90 12,zz5 91 5 89 90,zz3 92 5 91,zzf 93 n_r06_Gate 92,o 94 (.not (.t 93))]
abbrev yyh:ACode:=(.seq (.reg yyg) (.cond (.t 94) yyf .skip))
abbrev yyi:List AG:=[zz1 81 12,zz4 82 3 1,zz2 83 1 82,zza 84 83,zz7 85 81 84]
abbrev yyj:ACode:=(.seq (.seq (.reg yyi) (.cond (.t 85) .skip (.exit 4))) (.seq (.block 5 [] yyh) (.reg yyd)))
abbrev yyk:List AG:=[zz9 12 0]
abbrev yyl:List Bool:=[O,I,O,O,O,O,I,O,O,O,O,I,O,O,O,O,O,O,O,O,O,O,O,O,O,O,O,O,O,O,O,O,O,O,O,O,O,O,O,O,O,O,O,O,O,O,O,O,O,O,O,O,O,O,O,O,O,O,O,O,O,O,O,O,O,O,O,O,O,O,O,O,O,O,O,O,O,O,O,O,O,O,O,O,O,O,O,O,O,O,O,O,O,O,O,O,O,O,O,O,O,O,O,O,O,O,O,O,O,O,O,O,O,O,O,O,O,O,O,O]
abbrev yym:List Bool:=[O,I,O,O,O,O,I,O,O,O,O,O,O,O,O,O,O,O,O,O,O,O,O,O,O,O,O,O,O,O,O,O,O,O,O,O,O,O,O,O,O,O,O,O,O,O,O,O,O,O,O,O,O,O,O,O,O,O,O,O,O,O,O,O,O,O,O,O,O,O,O,O,O,O,O,O,O,O,O,O,O,O,O,O,O,O,O,O,O,O,O,O,O,O,O,O,O,O,O,O,O,O,O,O,O,O,O,O,O,O,O,O,O,O,O,O,O,O,O,O]
abbrev yyn:List AG:=[zz1 57 11,zz6 58 57 1,zz1 11 58]
abbrev yyo:List AG:=[zz4 75 2 1,zz2 76 1 75,zz1 77 11,zz5 78 3 76 77,zz4 79 0 78,zz2 80 1 79,zz9 2 1,zz1 3 80]
abbrev yyp:ACode:=(.seq (.dreg [O,O,O,O,O,O,O,O] [9,9,9,9,9,9,9,9] yyo) .ret)
abbrev yyq:List AG:=[zz4 59 2 1,zz2 60 1 59,zz1 61 11,zz5 62 3 60 61,zz4 63 2 62,zz2 64 1 63,o 65 (.cmp .lss (.sc .int) (.t 64) (.c (.int .i64 0))),zz1 66 65,on 67 66 (.off 2 (.t 1)),on 68 66 (.load false 1 (.t 67)),on 69 66 (.mv (.t 11)),on 70 66 (.ixAddr 3 (.t 68) (.t 69)),on 71 66 (.off 2 (.t 70)),on 72 66 (.load false 1 (.t 71)),on 73 66 (.cmp .gtr (.sc .int) (.t 72) (.c (.int .i64 2))),o 74 (.pick (.t 66) (.c (.bool true)) (.t 73))]
abbrev yyr:ACode:=(.seq (.reg yyq) (.cond (.t 74) yyp .skip))
abbrev yys:List AG:=[zz1 52 11,zz4 53 2 1,zz2 54 1 53,zza 55 54,zz7 56 52 55]
abbrev yyt:ACode:=(.seq (.seq (.reg yys) (.cond (.t 56) .skip (.exit 2))) (.seq (.block 3 [] yyr) (.reg yyn)))
abbrev yyu:List AG:=[zz9 11 0]
abbrev yyv:List AG:=[zz1 51 9,zz9 2 5,zz1 3 51]
abbrev yyw:ACode:=(.seq (.reg yyv) .ret)
abbrev yyx:List AG:=[zz1 50 10]
abbrev yyy:List AG:=[zz4 45 1 1,zz2 46 1 45,zzf 47 n_r06_twice 46,zz1 44 47,zzc 48 44 0,zzc 49 44 1,zz1 9 48,zz1 10 49]
abbrev yyz:List AG:=[zz1 43 7,zz9 2 5,zz1 3 43]
abbrev yyA:ACode:=(.seq (.reg yyz) .ret)
abbrev yyB:List AG:=[zz1 42 8]
abbrev yyC:List AG:=[zz1 38 6,zzf 39 n_r06_twice 38,zz1 37 39,zzc 40 37 0,zzc 41 37 1,zz1 7 40,zz1 8 41]
abbrev yyD:List AG:=[zz3 35 4 1,zzf 36 n_r06_Nets 35,zz1 6 36]
abbrev yyE:List Bool:=[O,I,O,O,I,I,O,O,O,O,O,O,O,O,O,O,O,O,O,O,O,O,O,O,O,O,O,O,O,O,O,O,O,O,O,O,O,O,O,O,O,O,O,O,O,O,O,O,O,O,O,O,O,O,O,O,O,O,O,O,O,O,O,O,O,O,O,O,O,O,O,O,O,O,O,O,O,O,O,O,O,O,O,O,O,O,O,O,O,O,O,O,O,O,O,O,O,O,O,O,O,O,O,O,O,O,O,O,O,O,O,O,O,O,O,O,O,O,O,O]
abbrev yyF:List Bool:=[O,I,O,O,O,O,O,O,O,O,O,O,O,O,O,O,O,O,O,O,O,O,O,O,O,O,O,O,O,O,O,O,O,O,O,O,O,O,O,O,O,O,O,O,O,O,O,O,O,O,O,O,O,O,O,O,O,O,O,O,O,O,O,O,O,O,O,O,O,O,O,O,O,O,O,O,O,O,O,O,O,O,O,O,O,O,O,O,O,O,O,O,O,O,O,O,O,O,O,O,O,O,O,O,O,O,O,O,O,O,O,O,O,O,O,O,O,O,O,O]
abbrev yyG:List AG:=[zz1 23 5,zz6 24 23 1,zz1 5 24]
abbrev yyH:List AG:=[zz1 31 4,zz1 32 5,zz5 33 1 31 32,zz2 34 1 33,zz9 2 4,zz1 3 34]
abbrev yyI:ACode:=(.seq (.dreg [O,O,O,O,O,O] [7,7,7,7,7,7] yyH) .ret)
abbrev yyJ:List AG:=[zz1 25 4,zz1 26 5,zz5 27 1 25 26,zz2 28 1 27,zzf 29 n_r04_Name 28,o 30 (.not (.t 29))]
abbrev yyK:ACode:=(.seq (.reg yyJ) (.cond (.t 30) yyI .skip))
abbrev yyL:List AG:=[zz1 19 5,zz1 20 4,zza 21 20,zz7 22 19 21]
abbrev yyM:ACode:=(.seq (.seq (.reg yyL) (.cond (.t 22) .skip (.exit 0))) (.seq (.block 1 [] yyK) (.reg yyG)))
abbrev yyN:List AG:=[zz9 5 0]
abbrev yyO:List AG:=[zz3 17 4 1,zzf 18 n_r06_Told 17,zz1 4 18]
abbrev yyP:List AG:=[zz9 2 8,o 3 (.mv (.c (.str [])))]
abbrev yyQ:ACode:=(.seq (.reg yyP) .ret)
abbrev yyR:List AG:=[zz3 15 4 1,zzf 16 n_r06_limit 15]
abbrev yyS:List AG:=[o 1 (.box 4 (.t 0)),zz9 2 0,o 3 (.mv (.c (.str [])))]
abbrev r06_Check:AFun:=⟨(.seq (.reg yyS) (.seq (.seq (.reg yyR) (.cond (.t 16) yyQ .skip)) (.seq (.reg yyO) (.seq (.seq (.reg yyN) (.block 0 yyF (.loop yyE yyM))) (.seq (.reg yyD) (.seq (.reg yyC) (.seq (.seq (.reg yyB) (.cond (.t 42) yyA .skip)) (.seq (.reg yyy) (.seq (.seq (.reg yyx) (.cond (.t 50) yyw .skip)) (.seq (.seq (.reg yyu) (.block 2 yym (.loop yyl yyt))) (.seq (.seq (.reg yyk) (.block 4 yyc (.loop yyb yyj))) (.seq (.reg yya) (.seq (.seq (.reg yxZ) (.block 6 yxR (.loop yxQ yxY))) (.seq (.reg yxP) .ret)))))))))))))),120,[.tmp 2,.tmp 3]⟩
@[simp] theorem c_r06_Check:cfun Tryz.prog n_r06_Check=some r06_Check:=by kernel_rfl
@[simp] theorem e_r06_Check:hasBody Tryz.prog n_r06_Check=true:=by kernel_rfl
abbrev yyT:List AG:=[zz1 20 3,zz1 2 20]
abbrev yyU:List Bool:=[O,O,O,I,O,O,O,O,I,I,I,O,O,O,O,O,O,O,O,O,O]
abbrev yyV:List Bool:=[O,O,O,I,O,O,O,O,O,O,O,O,O,O,O,O,O,O,O,O,O]
abbrev yyW:List AG:=[zz6 19 10 1,zz1 10 19]
abbrev yyX:List AG:=[zz1 15 3,zz4 16 0 5,zz2 17 1 16,zz1 18 4,q (.upd (.sc .str) (.t 15) (.t 17) (.t 18))]
abbrev yyY:List AG:=[zz1 12 10,zz5 13 5 8 10,zz3 14 5 13,o 5 (.alloc [(.str []),(.int .i64 0),(.own 1 t_string []),(.own 1 t_string []),(.bool false)]),zz1 4 12,zzb 5 5 14]
abbrev yyZ:ACode:=(.seq (.reg yyY) (.reg yyX))
abbrev yza:List AG:=[zz7 11 10 9]
abbrev yzb:ACode:=(.seq (.reg yza) (.seq (.cond (.t 11) .skip (.exit 0)) (.seq (.block 1 [] yyZ) (.reg yyW))))
abbrev yzc:List AG:=[zz4 7 3 1,zz2 8 1 7,zza 9 8,zz9 10 0]
abbrev yzd:List AG:=[o 6 (.mkMap),zz1 3 6]
abbrev yze:List AG:=[o 1 (.box 4 (.t 0)),o 2 (.mv (.c .nilm))]
abbrev order_places:AFun:=⟨(.seq (.reg yze) (.seq (.reg yzd) (.seq (.seq (.reg yzc) (.block 0 yyV (.loop yyU yzb))) (.seq (.reg yyT) .ret)))),21,[.tmp 2]⟩
abbrev yzf:List It:=[.code (.seq (.reg yyT) .ret)]
abbrev yzg (x3 x8 x9 x10:AV) (h:List Ob) (e:Cx:=cx):Cfg:=atC n_order_places (.code yzb::.inLoop yyU yzb::.inBlock 0 yyV::yzf) [U,U,U,x3,U,U,U,U,x8,x9,x10,U,U,U,U,U,U,U,U,U,U] h e
@[simp] theorem c_order_places:cfun Tryz.prog n_order_places=some order_places:=by kernel_rfl
@[simp] theorem e_order_places:hasBody Tryz.prog n_order_places=true:=by kernel_rfl
abbrev yzh:List AG:=[o 3 (.mkFunc (.func n_order_coming_1) [] [(.t 1)]),zz1 2 3]
abbrev yzi:List AG:=[o 1 (.box 4 (.t 0)),o 2 (.mv (.c .nilf))]
abbrev order_coming:AFun:=⟨(.seq (.reg yzi) (.seq (.reg yzh) .ret)),4,[.tmp 2]⟩
@[simp] theorem c_order_coming:cfun Tryz.prog n_order_coming=some order_coming:=by kernel_rfl
@[simp] theorem e_order_coming:hasBody Tryz.prog n_order_coming=true:=by kernel_rfl
abbrev yzj:List AG:=[zz1 26 0,zz1 4 26]
abbrev yzk:List AG:=[zz1 17 0,zz1 18 0,o 19 (.cap (.t 18)),o 20 (.slice 1 (.t 17) none (some (.t 19))),zz1 21 1,o 22 (.appendZ 1 t_bool 1 (.bool false) (.t 20) (.t 21)),zz1 23 0,zza 24 23,o 25 (.slice 1 (.t 22) none (some (.t 24))),zz1 0 25]
abbrev yzl:List AG:=[zz1 15 1,o 16 (.cmp .gtr (.sc .int) (.t 15) (.c (.int .i64 0)))]
abbrev yzm:List AG:=[zz1 8 1,zz1 9 0,o 10 (.cap (.t 9)),zz1 11 0,zza 12 11,o 13 (.ibin .sub (.t 10) (.t 12)),o 14 (.ibin .sub (.t 8) (.t 13)),zz1 1 14]
abbrev yzn:List AG:=[o 7 (.mkIface t_string (.c (.str [99,97,110,110,111,116,32,98,101,32,110,101,103,97,116,105,118,101]))),q (.panic (.t 7))]
abbrev yzo:List AG:=[zz1 5 1,o 6 (.cmp .lss (.sc .int) (.t 5) (.c (.int .i64 0)))]
abbrev yzp:List AG:=[o 4 (.nilrow 1 t_bool)]
abbrev slices_Grow_bool_bool:AFun:=⟨(.seq (.reg yzp) (.seq (.seq (.reg yzo) (.cond (.t 6) (.reg yzn) .skip)) (.seq (.seq (.reg yzm) (.seq (.reg yzl) (.cond (.t 16) (.reg yzk) .skip))) (.seq (.reg yzj) .ret)))),27,[.tmp 4]⟩
@[simp] theorem c_slices_Grow_bool_bool:cfun Tryz.prog n_slices_Grow_bool_bool=some slices_Grow_bool_bool:=by kernel_rfl
@[simp] theorem e_slices_Grow_bool_bool:hasBody Tryz.prog n_slices_Grow_bool_bool=true:=by kernel_rfl
abbrev yzq:List AG:=[zz4 10 0 2,zz2 11 1 10,zz4 12 1 2,zz2 13 1 12,zzb 1 0 11,zzb 1 1 13]
abbrev yzr:List AG:=[zz1 9 3]
abbrev yzs:List AG:=[o 5 (.recover),o 6 (.tassert (.t 5) t_net_wrong (.agg [(.int .i64 0),(.str [])]) true),zz1 4 6,zzc 7 4 0,zzc 8 4 1,o 2 (.alloc [(.int .i64 0),(.str [])]),zzb 2 2 7,zz1 3 8]
abbrev net_Check_1:AFun:=⟨(.seq (.reg yzs) (.seq (.reg yzr) (.cond (.t 9) (.dreg [O,O,O,I,O,O] [5,5,6,6,6,7] yzq) .skip))),14,[]⟩
@[simp] theorem c_net_Check_1:cfun Tryz.prog n_net_Check_1=some net_Check_1:=by kernel_rfl
@[simp] theorem e_net_Check_1:hasBody Tryz.prog n_net_Check_1=true:=by kernel_rfl
abbrev yzt:List AG:=[zz4 3 2 1,zz2 4 1 3,zza 5 4,o 6 (.cmp .gtr (.sc .int) (.t 5) (.c (.int .i64 8))),zz1 7 6,on 8 7 (.off 3 (.t 1)),on 9 7 (.load false 1 (.t 8)),on 10 7 (.len (.t 9)),on 11 7 (.cmp .gtr (.sc .int) (.t 10) (.c (.int .i64 128))),o 12 (.pick (.t 7) (.c (.bool true)) (.t 11)),zz1 2 12]
abbrev yzu:List AG:=[o 1 (.box 5 (.t 0)),zzh 2]
abbrev net_Check_2:AFun:=⟨(.seq (.reg yzu) (.seq (.reg yzt) .ret)),13,[.tmp 2]⟩
@[simp] theorem c_net_Check_2:cfun Tryz.prog n_net_Check_2=some net_Check_2:=by kernel_rfl
@[simp] theorem e_net_Check_2:hasBody Tryz.prog n_net_Check_2=true:=by kernel_rfl
abbrev yzv:List AG:=[zz1 8 1,zz1 9 2,o 10 (.build [(.int .i64 0),(.str [])] [(0,1,(.t 8)),(1,1,(.t 9))]),o 11 (.mkIface t_net_wrong (.t 10)),q (.panic (.t 11))]
abbrev yzw:List AG:=[zz1 6 0,o 7 (.not (.t 6))]
abbrev net_need:AFun:=⟨(.seq (.reg yzw) (.cond (.t 7) (.reg yzv) .skip)),12,[]⟩
@[simp] theorem c_net_need:cfun Tryz.prog n_net_need=some net_need:=by kernel_rfl
@[simp] theorem e_net_need:hasBody Tryz.prog n_net_need=true:=by kernel_rfl
abbrev yzx:List AG:=[zz1 5 0,zz1 6 1,zzg 7 n_slices_IndexFunc_api_Gate_api_Gate 5 6,o 8 (.cmp .geq (.sc .int) (.t 7) (.c (.int .i64 0))),zz1 4 8]
abbrev yzy:List AG:=[zzh 4]
abbrev slices_ContainsFunc_api_Gate_api_Gate:AFun:=⟨(.seq (.reg yzy) (.seq (.reg yzx) .ret)),9,[.tmp 4]⟩
@[simp] theorem c_slices_ContainsFunc_api_Gate_api_Gate:cfun Tryz.prog n_slices_ContainsFunc_api_Gate_api_Gate=some slices_ContainsFunc_api_Gate_api_Gate:=by kernel_rfl
@[simp] theorem e_slices_ContainsFunc_api_Gate_api_Gate:hasBody Tryz.prog n_slices_ContainsFunc_api_Gate_api_Gate=true:=by kernel_rfl
abbrev yzz:List AG:=[zz1 45 3,zz1 2 45]
abbrev yzA:List Bool:=[O,O,O,I,O,O,O,O,O,O,O,O,O,O,O,O,O,O,O,O,O,O,O,O,O,O,O,O,O,O,I,I,I,O,O,O,O,O,O,O,O,O,O,O,O,O]
abbrev yzB:List Bool:=[O,O,O,I,O,O,O,O,O,O,O,O,O,O,O,O,O,O,O,O,O,O,O,O,O,O,O,O,O,O,O,O,O,O,O,O,O,O,O,O,O,O,O,O,O,O]
abbrev yzC:List AG:=[zz6 44 32 1,zz1 32 44]
abbrev yzD:List AG:=[zz1 36 3,zz4 37 0 7,zz2 38 1 37,o 39 (.lit 1 [(.str [])] [(0,(.t 38))]),o 40 (.append 1 t_string 16 (.t 36) (.t 39)),zz4 41 2 7,zz2 42 1 41,o 43 (.append 1 t_string 16 (.t 40) (.t 42)),zz1 3 43]
abbrev yzE:List AG:=[zz5 34 5 30 32,zz3 35 5 34,o 7 (.alloc [(.str []),(.int .i64 0),(.own 1 t_string []),(.own 1 t_string []),(.bool false)]),zzb 5 7 35]
abbrev yzF:ACode:=(.seq (.reg yzE) (.dreg [O,O,O,O,O,O,I,O,O] [5,4,4,5,8,8,8,10,10] yzD))
abbrev yzG:List AG:=[zz7 33 32 31]
abbrev yzH:ACode:=(.seq (.reg yzG) (.seq (.cond (.t 33) .skip (.exit 2)) (.seq (.block 3 [] yzF) (.reg yzC))))
abbrev yzI:List AG:=[zz4 29 3 1,zz2 30 1 29,zza 31 30,zz9 32 0]
abbrev yzJ:List Bool:=[O,I,O,I,O,O,O,O,O,O,O,O,O,O,O,I,I,I,O,O,O,O,O,O,O,O,O,O,O,O,O,O,O,O,O,O,O,O,O,O,O,O,O,O,O,O]
abbrev yzK:List Bool:=[O,I,O,I,O,O,O,O,O,O,O,O,O,O,O,O,O,O,O,O,O,O,O,O,O,O,O,O,O,O,O,O,O,O,O,O,O,O,O,O,O,O,O,O,O,O]
abbrev yzL:List AG:=[zz6 28 17 1,zz1 17 28]
abbrev yzM:List AG:=[zz1 21 3,zz4 22 0 5,zz2 23 1 22,zz4 24 1 5,zz2 25 1 24,o 26 (.lit 1 [(.str []),(.str [])] [(0,(.t 23)),(1,(.t 25))]),o 27 (.append 1 t_string 16 (.t 21) (.t 26)),zz1 3 27]
abbrev yzN:List AG:=[zz5 19 3 15 17,zz3 20 3 19,o 5 (.alloc [(.str []),(.str []),(.int .i64 0)]),zzb 3 5 20]
abbrev yzO:ACode:=(.seq (.reg yzN) (.reg yzM))
abbrev yzP:List AG:=[zz7 18 17 16]
abbrev yzQ:ACode:=(.seq (.reg yzP) (.seq (.cond (.t 18) .skip (.exit 0)) (.seq (.block 1 [] yzO) (.reg yzL))))
abbrev yzR:List AG:=[zz4 14 2 1,zz2 15 1 14,zza 16 15,zz9 17 0]
abbrev yzS:List AG:=[zz4 8 0 1,zz2 9 1 8,zz4 10 1 1,zz2 11 1 10,o 12 (.lit 1 [(.list true 0 []),(.list true 0 [])] [(0,(.t 9)),(1,(.t 11))]),zzf 13 n_slices_Concat_string_string 12,zz1 3 13]
abbrev yzT:List AG:=[o 1 (.box 4 (.t 0)),o 2 (.nilrow 1 t_string)]
abbrev net_told:AFun:=⟨(.seq (.reg yzT) (.seq (.reg yzS) (.seq (.seq (.reg yzR) (.block 0 yzK (.loop yzJ yzQ))) (.seq (.seq (.reg yzI) (.block 2 yzB (.loop yzA yzH))) (.seq (.reg yzz) .ret))))),46,[.tmp 2]⟩
abbrev yzU:List It:=[.code (.seq (.reg yzz) .ret)]
abbrev yzV (x3 x30 x31 x32:AV) (h:List Ob) (e:Cx:=cx):Cfg:=atC n_net_told (.code yzH::.inLoop yzA yzH::.inBlock 2 yzB::yzU) [U,U,U,x3,U,U,U,U,U,U,U,U,U,U,U,U,U,U,U,U,U,U,U,U,U,U,U,U,U,U,x30,x31,x32,U,U,U,U,U,U,U,U,U,U,U,U,U] h e
abbrev yzW:List It:=[.code (.seq (.seq (.reg yzI) (.block 2 yzB (.loop yzA yzH))) (.seq (.reg yzz) .ret))]
abbrev yzX (x1 x3 x15 x16 x17:AV) (h:List Ob) (e:Cx:=cx):Cfg:=atC n_net_told (.code yzQ::.inLoop yzJ yzQ::.inBlock 0 yzK::yzW) [U,x1,U,x3,U,U,U,U,U,U,U,U,U,U,U,x15,x16,x17,U,U,U,U,U,U,U,U,U,U,U,U,U,U,U,U,U,U,U,U,U,U,U,U,U,U,U,U] h e
@[simp] theorem c_net_told:cfun Tryz.prog n_net_told=some net_told:=by kernel_rfl
@[simp] theorem e_net_told:hasBody Tryz.prog n_net_told=true:=by kernel_rfl
abbrev yzY:List AG:=[zz1 3 0,zzf 4 n_ident_name_plain 3,zz1 2 4]
abbrev yzZ:List AG:=[zzh 2]
abbrev ident_Name:AFun:=⟨(.seq (.reg yzZ) (.seq (.reg yzY) .ret)),5,[.tmp 2]⟩
@[simp] theorem c_ident_Name:cfun Tryz.prog n_ident_Name=some ident_Name:=by kernel_rfl
@[simp] theorem e_ident_Name:hasBody Tryz.prog n_ident_Name=true:=by kernel_rfl
abbrev yAa:List AG:=[zz1 22 3,zz1 2 22]
abbrev yAb:List Bool:=[O,O,O,I,O,O,O,I,I,I,O,O,O,O,O,O,O,O,O,O,O,O,O]
abbrev yAc:List Bool:=[O,O,O,I,O,O,O,O,O,O,O,O,O,O,O,O,O,O,O,O,O,O,O]
abbrev yAd:List AG:=[zz6 21 9 1,zz1 9 21]
abbrev yAe:List AG:=[zz1 19 3,zz1 20 5,q (.upd (.sc .str) (.t 19) (.t 20) (.c (.bool true)))]
abbrev yAf:List AG:=[zz1 13 3,zz1 14 5,o 15 (.lookup (.sc .str) (.bool false) (.t 13) (.t 14) false),o 16 (.not (.t 15)),zz1 17 5,o 18 (.call (.f n_net_need) [(.t 16),(.c (.int .i64 5)),(.t 17)])]
abbrev yAg:List AG:=[zz5 11 1 7 9,zz2 12 1 11,zz1 5 12]
abbrev yAh:ACode:=(.seq (.reg yAg) (.seq (.reg yAf) (.reg yAe)))
abbrev yAi:List AG:=[zz7 10 9 8]
abbrev yAj:ACode:=(.seq (.reg yAi) (.seq (.cond (.t 10) .skip (.exit 0)) (.seq (.block 1 [] yAh) (.reg yAd))))
abbrev yAk:List AG:=[zz1 7 0,zza 8 7,zz9 9 0]
abbrev yAl:List AG:=[o 6 (.mkMap),zz1 3 6]
abbrev yAm:List AG:=[o 2 (.mv (.c .nilm))]
abbrev net_once:AFun:=⟨(.seq (.reg yAm) (.seq (.reg yAl) (.seq (.seq (.reg yAk) (.block 0 yAc (.loop yAb yAj))) (.seq (.reg yAa) .ret)))),23,[.tmp 2]⟩
abbrev yAn:List It:=[.code (.seq (.reg yAa) .ret)]
abbrev yAo (x3 x7 x8 x9:AV) (h:List Ob) (e:Cx:=cx):Cfg:=atC n_net_once (.code yAj::.inLoop yAb yAj::.inBlock 0 yAc::yAn) [U,U,U,x3,U,U,U,x7,x8,x9,U,U,U,U,U,U,U,U,U,U,U,U,U] h e
@[simp] theorem c_net_once:cfun Tryz.prog n_net_once=some net_once:=by kernel_rfl
@[simp] theorem e_net_once:hasBody Tryz.prog n_net_once=true:=by kernel_rfl
abbrev yAp:List AG:=[zz1 36 3,zz1 2 36]
abbrev yAq:List Bool:=[O,O,O,I,O,O,O,O,O,O,O,O,O,O,O,O,O,O,O,O,O,O,O,O,O,I,I,I,O,O,O,O,O,O,O,O,O]
abbrev yAr:List Bool:=[O,O,O,I,O,O,O,O,O,O,O,O,O,O,O,O,O,O,O,O,O,O,O,O,O,O,O,O,O,O,O,O,O,O,O,O,O]
abbrev yAs:List AG:=[zz6 35 27 1,zz1 27 35]
abbrev yAt:List AG:=[zz1 31 3,zz4 32 2 7,zz2 33 1 32,o 34 (.append 1 t_string 16 (.t 31) (.t 33)),zz1 3 34]
abbrev yAu:List AG:=[zz5 29 5 25 27,zz3 30 5 29,o 7 (.alloc [(.str []),(.int .i64 0),(.own 1 t_string []),(.own 1 t_string []),(.bool false)]),zzb 5 7 30]
abbrev yAv:ACode:=(.seq (.reg yAu) (.reg yAt))
abbrev yAw:List AG:=[zz7 28 27 26]
abbrev yAx:ACode:=(.seq (.reg yAw) (.seq (.cond (.t 28) .skip (.exit 2)) (.seq (.block 3 [] yAv) (.reg yAs))))
abbrev yAy:List AG:=[zz4 24 3 1,zz2 25 1 24,zza 26 25,zz9 27 0]
abbrev yAz:List Bool:=[O,I,O,I,O,O,O,O,O,O,O,O,I,I,I,O,O,O,O,O,O,O,O,O,O,O,O,O,O,O,O,O,O,O,O,O,O]
abbrev yAA:List Bool:=[O,I,O,I,O,O,O,O,O,O,O,O,O,O,O,O,O,O,O,O,O,O,O,O,O,O,O,O,O,O,O,O,O,O,O,O,O]
abbrev yAB:List AG:=[zz6 23 14 1,zz1 14 23]
abbrev yAC:List AG:=[zz1 18 3,zz4 19 1 5,zz2 20 1 19,o 21 (.lit 1 [(.str [])] [(0,(.t 20))]),o 22 (.append 1 t_string 16 (.t 18) (.t 21)),zz1 3 22]
abbrev yAD:List AG:=[zz5 16 3 12 14,zz3 17 3 16,o 5 (.alloc [(.str []),(.str []),(.int .i64 0)]),zzb 3 5 17]
abbrev yAE:ACode:=(.seq (.reg yAD) (.reg yAC))
abbrev yAF:List AG:=[zz7 15 14 13]
abbrev yAG:ACode:=(.seq (.reg yAF) (.seq (.cond (.t 15) .skip (.exit 0)) (.seq (.block 1 [] yAE) (.reg yAB))))
abbrev yAH:List AG:=[zz4 11 2 1,zz2 12 1 11,zza 13 12,zz9 14 0]
abbrev yAI:List AG:=[zz4 8 1 1,zz2 9 1 8,zzf 10 n_slices_Clone_string_string 9,zz1 3 10]
abbrev yAJ:List AG:=[o 1 (.box 4 (.t 0)),o 2 (.nilrow 1 t_string)]
abbrev net_used:AFun:=⟨(.seq (.reg yAJ) (.seq (.reg yAI) (.seq (.seq (.reg yAH) (.block 0 yAA (.loop yAz yAG))) (.seq (.seq (.reg yAy) (.block 2 yAr (.loop yAq yAx))) (.seq (.reg yAp) .ret))))),37,[.tmp 2]⟩
abbrev yAK:List It:=[.code (.seq (.reg yAp) .ret)]
abbrev yAL (x3 x25 x26 x27:AV) (h:List Ob) (e:Cx:=cx):Cfg:=atC n_net_used (.code yAx::.inLoop yAq yAx::.inBlock 2 yAr::yAK) [U,U,U,x3,U,U,U,U,U,U,U,U,U,U,U,U,U,U,U,U,U,U,U,U,U,x25,x26,x27,U,U,U,U,U,U,U,U,U] h e
abbrev yAM:List It:=[.code (.seq (.seq (.reg yAy) (.block 2 yAr (.loop yAq yAx))) (.seq (.reg yAp) .ret))]
abbrev yAN (x1 x3 x12 x13 x14:AV) (h:List Ob) (e:Cx:=cx):Cfg:=atC n_net_used (.code yAG::.inLoop yAz yAG::.inBlock 0 yAA::yAM) [U,x1,U,x3,U,U,U,U,U,U,U,U,x12,x13,x14,U,U,U,U,U,U,U,U,U,U,U,U,U,U,U,U,U,U,U,U,U,U] h e
@[simp] theorem c_net_used:cfun Tryz.prog n_net_used=some net_used:=by kernel_rfl
@[simp] theorem e_net_used:hasBody Tryz.prog n_net_used=true:=by kernel_rfl
abbrev yAO:List Bool:=[I,I,I,O,O,O,O,O,I,I,O,O,O,O,O,O,O,O,O,O,O,O,O,O,O,O,O,O,O,O,O,O,O,O,O,O,O,O,O,O,O,O,O,O,O]
abbrev yAP:List Bool:=[O,O,O,O,O,O,O,O,O,O,O,O,O,O,O,O,O,O,O,O,O,O,O,O,O,O,O,O,O,O,O,O,O,O,O,O,O,O,O,O,O,O,O,O,O]
abbrev yAQ:List AG:=[zz6 44 9 1,zz1 9 44]
abbrev yAR:List AG:=[zz1 39 0,zz1 40 5,o 41 (.toStr (.t 40)),o 42 (.call (.t 39) [(.t 41)]),o 43 (.not (.t 42))]
abbrev yAS:List Bool:=[I,I,I,O,I,I,O,O,I,I,O,O,O,O,O,O,O,O,O,O,O,O,I,I,O,O,O,O,O,O,O,O,O,O,O,O,O,O,O,O,O,O,O,O,O]
abbrev yAT:List Bool:=[I,I,I,O,O,I,O,O,I,I,O,O,O,O,O,O,O,O,O,O,O,O,O,O,O,O,O,O,O,O,O,O,O,O,O,O,O,O,O,O,O,O,O,O,O]
abbrev yAU:List AG:=[zz6 38 23 1,zz1 23 38]
abbrev yAV:List AG:=[zz1 26 5,zz1 27 6,zz1 28 4,zz2 29 1 1,o 30 (.ibin .sub (.t 29) (.c (.int .i64 1))),zz1 31 6,o 32 (.ibin .sub (.t 30) (.t 31)),o 33 (.ibin .shr (.t 28) (.t 32)),o 34 (.ibin .and (.t 33) (.c (.int .i64 1))),o 35 (.conv .u8 (.t 34)),o 36 (.ibin .add (.c (.int .u8 48)) (.t 35)),zz5 37 1 26 27,zzb 1 37 36]
abbrev yAW:List AG:=[zz1 25 23,zz1 6 25]
abbrev yAX:ACode:=(.seq (.reg yAW) (.reg yAV))
abbrev yAY:List AG:=[zz7 24 23 22]
abbrev yAZ:ACode:=(.seq (.reg yAY) (.seq (.cond (.t 24) .skip (.exit 2)) (.seq (.block 3 [] yAX) (.reg yAU))))
abbrev yBa:List AG:=[zz1 21 5,zza 22 21,zz9 23 0]
abbrev yBb:List AG:=[zz2 19 1 1,o 20 (.mkSlice 1 t_uint8 1 (.int .u8 0) (.t 19) (.t 19)),zz1 5 20]
abbrev yBc:List AG:=[zz1 12 4,o 13 (.conv .u64 (.t 12)),zzf 14 n_math_bits_OnesCount 13,o 15 (.ibin .rem (.t 14) (.c (.int .i64 2))),o 16 (.cmp .eql (.sc .int) (.t 15) (.c (.int .i64 1))),zz2 17 1 2,o 18 (.cmp .neq (.sc .bool) (.t 16) (.t 17))]
abbrev yBd:List AG:=[zz1 11 9,zz1 4 11]
abbrev yBe:ACode:=(.seq (.reg yBd) (.seq (.seq (.dreg [O,O,O,O,O,I,O] [3,3,8,8,8,8,8] yBc) (.cond (.t 18) (.exit 1) .skip)) (.seq (.reg yBb) (.seq (.seq (.reg yBa) (.block 2 yAT (.loop yAS yAZ))) (.seq (.reg yAR) (.cond (.t 43) .ret .skip))))))
abbrev yBf:List AG:=[zz7 10 9 8]
abbrev yBg:ACode:=(.seq (.reg yBf) (.seq (.cond (.t 10) .skip (.exit 0)) (.seq (.block 1 [] yBe) (.reg yAQ))))
abbrev yBh:List AG:=[zz2 7 1 1,o 8 (.ibin .shl (.c (.int .i64 1)) (.t 7)),zz9 9 0]
abbrev net_parity_1:AFun:=⟨(.seq (.reg yBh) (.block 0 yAP (.loop yAO yBg))),45,[]⟩
@[simp] theorem c_net_parity_1:cfun Tryz.prog n_net_parity_1=some net_parity_1:=by kernel_rfl
@[simp] theorem e_net_parity_1:hasBody Tryz.prog n_net_parity_1=true:=by kernel_rfl
abbrev yBi:List AG:=[zz1 6 0,zzf 7 n_math_bits_OnesCount64 6,zz1 2 7]
abbrev yBj:List AG:=[zz1 3 0,o 4 (.conv .u32 (.t 3)),zzf 5 n_math_bits_OnesCount32 4,zz1 2 5]
abbrev yBk:ACode:=(.seq (.reg yBj) .ret)
abbrev yBl:List AG:=[zz9 2 0]
abbrev math_bits_OnesCount:AFun:=⟨(.seq (.reg yBl) (.seq (.cond (.c (.bool false)) yBk .skip) (.seq (.reg yBi) .ret))),8,[.tmp 2]⟩
@[simp] theorem c_math_bits_OnesCount:cfun Tryz.prog n_math_bits_OnesCount=some math_bits_OnesCount:=by kernel_rfl
@[simp] theorem e_math_bits_OnesCount:hasBody Tryz.prog n_math_bits_OnesCount=true:=by kernel_rfl
abbrev yBm:List AG:=[zz4 29 0 1,zz2 30 1 29,zza 31 30,zz4 32 2 1,zz2 33 1 32,zza 34 33,o 35 (.ibin .add (.t 31) (.t 34)),zz4 36 3 1,zz2 37 1 36,zza 38 37,o 39 (.ibin .add (.t 35) (.t 38)),o 40 (.cmp .gtr (.sc .int) (.t 39) (.c (.int .i64 200))),zz1 41 40,on 42 41 (.off 1 (.t 1)),on 43 41 (.load false 1 (.t 42)),on 44 41 (.len (.t 43)),on 45 41 (.cmp .gtr (.sc .int) (.t 44) (.c (.int .i64 200))),o 46 (.pick (.t 41) (.c (.bool true)) (.t 45)),zz1 2 46]
abbrev yBn:List Bool:=[O,I,O,I,O,O,O,O,O,O,O,O,O,O,O,O,O,O,O,O,O,O,O,O,O,O,O,O,O,O,O,O,O,O,O,O,O,O,O,O,O,O,O,O,O,O,O]
abbrev yBo:List Bool:=[O,I,O,O,O,O,O,O,O,O,O,O,O,O,O,O,O,O,O,O,O,O,O,O,O,O,O,O,O,O,O,O,O,O,O,O,O,O,O,O,O,O,O,O,O,O,O]
abbrev yBp:List AG:=[zz1 9 3,zz6 10 9 1,zz1 3 10]
abbrev yBq:List AG:=[o 2 (.mv (.c (.bool true)))]
abbrev yBr:ACode:=(.seq (.reg yBq) .ret)
abbrev yBs:List AG:=[zz4 11 3 1,zz2 12 1 11,zz1 13 3,zz5 14 5 12 13,zz4 15 2 14,zz2 16 1 15,zza 17 16,o 18 (.cmp .gtr (.sc .int) (.t 17) (.c (.int .i64 8))),zz1 19 18,on 20 19 (.off 3 (.t 1)),on 21 19 (.load false 1 (.t 20)),on 22 19 (.mv (.t 3)),on 23 19 (.ixAddr 5 (.t 21) (.t 22)),on 24 19 (.off 3 (.t 23)),on 25 19 (.load false 1 (.t 24)),on 26 19 (.len (.t 25)),on 27 19 (.cmp .gtr (.sc .int) (.t 26) (.c (.int .i64 128))),o 28 (.pick (.t 19) (.c (.bool true)) (.t 27))]
abbrev yBt:ACode:=(.seq (.reg yBs) (.cond (.t 28) yBr .skip))
abbrev yBu:List AG:=[zz1 4 3,zz4 5 3 1,zz2 6 1 5,zza 7 6,zz7 8 4 7]
abbrev yBv:ACode:=(.seq (.seq (.reg yBu) (.cond (.t 8) .skip (.exit 0))) (.seq (.block 1 [] yBt) (.reg yBp)))
abbrev yBw:List AG:=[zz9 3 0]
abbrev yBx:List AG:=[o 1 (.box 4 (.t 0)),zzh 2]
abbrev r06_limit:AFun:=⟨(.seq (.reg yBx) (.seq (.seq (.reg yBw) (.block 0 yBo (.loop yBn yBv))) (.seq (.reg yBm) .ret))),47,[.tmp 2]⟩
@[simp] theorem c_r06_limit:cfun Tryz.prog n_r06_limit=some r06_limit:=by kernel_rfl
@[simp] theorem e_r06_limit:hasBody Tryz.prog n_r06_limit=true:=by kernel_rfl
abbrev yBy:List AG:=[zz1 60 3,zz1 2 60]
abbrev yBz:List Bool:=[O,I,O,I,O,I,O,O,O,O,O,O,O,O,O,O,O,O,O,O,O,O,O,O,O,O,O,O,O,O,O,O,O,O,O,O,O,O,O,O,O,O,O,O,O,O,O,O,O,O,O,O,O,O,O,O,O,O,O,O,O]
abbrev yBA:List Bool:=[O,O,O,I,O,O,O,O,O,O,O,O,O,O,O,O,O,O,O,O,O,O,O,O,O,O,O,O,O,O,O,O,O,O,O,O,O,O,O,O,O,O,O,O,O,O,O,O,O,O,O,O,O,O,O,O,O,O,O,O,O]
abbrev yBB:List AG:=[zz1 41 5,zz6 42 41 1,zz1 5 42]
abbrev yBC:List AG:=[zz1 52 3,zz4 53 3 1,zz2 54 1 53,zz1 55 5,zz5 56 5 54 55,zz4 57 2 56,zz2 58 1 57,o 59 (.append 1 t_string 16 (.t 52) (.t 58)),zz1 3 59]
abbrev yBD:List AG:=[zz1 43 3,zz4 44 3 1,zz2 45 1 44,zz1 46 5,zz5 47 5 45 46,zz4 48 0 47,zz2 49 1 48,o 50 (.lit 1 [(.str [])] [(0,(.t 49))]),o 51 (.append 1 t_string 16 (.t 43) (.t 50)),zz1 3 51]
abbrev yBE:ACode:=(.seq (.reg yBD) (.reg yBC))
abbrev yBF:List AG:=[zz1 36 5,zz4 37 3 1,zz2 38 1 37,zza 39 38,zz7 40 36 39]
abbrev yBG:ACode:=(.seq (.seq (.reg yBF) (.cond (.t 40) .skip (.exit 2))) (.seq (.block 3 [] yBE) (.reg yBB)))
abbrev yBH:List AG:=[zz9 5 0]
abbrev yBI:List Bool:=[O,I,O,I,I,O,O,O,O,O,O,O,O,O,O,O,O,O,O,O,O,O,O,O,O,O,O,O,O,O,O,O,O,O,O,O,O,O,O,O,O,O,O,O,O,O,O,O,O,O,O,O,O,O,O,O,O,O,O,O,O]
abbrev yBJ:List Bool:=[O,I,O,I,O,O,O,O,O,O,O,O,O,O,O,O,O,O,O,O,O,O,O,O,O,O,O,O,O,O,O,O,O,O,O,O,O,O,O,O,O,O,O,O,O,O,O,O,O,O,O,O,O,O,O,O,O,O,O,O,O]
abbrev yBK:List AG:=[zz1 19 4,zz6 20 19 1,zz1 4 20]
abbrev yBL:List AG:=[zz1 21 3,zz4 22 2 1,zz2 23 1 22,zz1 24 4,zz5 25 3 23 24,zz4 26 0 25,zz2 27 1 26,zz4 28 2 1,zz2 29 1 28,zz1 30 4,zz5 31 3 29 30,zz4 32 1 31,zz2 33 1 32,o 34 (.lit 1 [(.str []),(.str [])] [(0,(.t 27)),(1,(.t 33))]),o 35 (.append 1 t_string 16 (.t 21) (.t 34)),zz1 3 35]
abbrev yBM:List AG:=[zz1 14 4,zz4 15 2 1,zz2 16 1 15,zza 17 16,zz7 18 14 17]
abbrev yBN:ACode:=(.seq (.seq (.reg yBM) (.cond (.t 18) .skip (.exit 0))) (.seq (.block 1 [] (.dreg [O,O,O,O,O,O,O,O,O,O,O,O,O,O,O,O] [15,14,14,14,14,14,14,14,14,14,14,14,14,15,17,17] yBL)) (.reg yBK)))
abbrev yBO:List AG:=[zz9 4 0]
abbrev yBP:List AG:=[zz1 10 3,zz4 11 1 1,zz2 12 1 11,o 13 (.append 1 t_string 16 (.t 10) (.t 12)),zz1 3 13]
abbrev yBQ:List AG:=[zz1 6 3,zz4 7 0 1,zz2 8 1 7,o 9 (.append 1 t_string 16 (.t 6) (.t 8)),zz1 3 9]
abbrev yBR:List AG:=[o 3 (.nilrow 1 t_string)]
abbrev yBS:List AG:=[o 1 (.box 4 (.t 0)),o 2 (.nilrow 1 t_string)]
abbrev r06_Told:AFun:=⟨(.seq (.reg yBS) (.seq (.reg yBR) (.seq (.reg yBQ) (.seq (.reg yBP) (.seq (.seq (.reg yBO) (.block 0 yBJ (.loop yBI yBN))) (.seq (.seq (.reg yBH) (.block 2 yBA (.loop yBz yBG))) (.seq (.reg yBy) .ret))))))),61,[.tmp 2]⟩
@[simp] theorem c_r06_Told:cfun Tryz.prog n_r06_Told=some r06_Told:=by kernel_rfl
@[simp] theorem e_r06_Told:hasBody Tryz.prog n_r06_Told=true:=by kernel_rfl
abbrev yBT:List AG:=[zz1 20 0,o 21 (.lenStr (.t 20)),o 22 (.cmp .geq (.sc .int) (.t 21) (.c (.int .i64 1))),zz1 23 22,zze 24 23 0,oy 25 23 (.lenStr (.t 24)),oy 26 23 (.cmp .leq (.sc .int) (.t 25) (.c (.int .i64 40))),zz8 27 23 26,zz1 2 27]
abbrev yBU:List Bool:=[I,O,O,I,O,O,O,O,O,O,O,O,O,O,O,O,O,O,O,O,O,O,O,O,O,O,O,O]
abbrev yBV:List Bool:=[I,O,O,O,O,O,O,O,O,O,O,O,O,O,O,O,O,O,O,O,O,O,O,O,O,O,O,O]
abbrev yBW:List AG:=[zz1 8 3,zz6 9 8 1,zz1 3 9]
abbrev yBX:List AG:=[zzh 2]
abbrev yBY:ACode:=(.seq (.reg yBX) .ret)
abbrev yBZ:List AG:=[zz1 10 0,zz1 11 3,o 12 (.ixStr (.t 10) (.t 11)),o 13 (.cmp .lss (.sc .int) (.t 12) (.c (.int .u8 33))),zz1 14 13,on 15 14 (.mv (.t 0)),on 16 14 (.mv (.t 3)),on 17 14 (.ixStr (.t 15) (.t 16)),on 18 14 (.cmp .gtr (.sc .int) (.t 17) (.c (.int .u8 126))),o 19 (.pick (.t 14) (.c (.bool true)) (.t 18))]
abbrev yCa:ACode:=(.seq (.reg yBZ) (.cond (.t 19) yBY .skip))
abbrev yCb:List AG:=[zz1 4 3,zz1 5 0,o 6 (.lenStr (.t 5)),zz7 7 4 6]
abbrev yCc:ACode:=(.seq (.seq (.reg yCb) (.cond (.t 7) .skip (.exit 0))) (.seq (.block 1 [] yCa) (.reg yBW)))
abbrev yCd:List AG:=[zz9 3 0]
abbrev yCe:List AG:=[zzh 2]
abbrev r04_Name:AFun:=⟨(.seq (.reg yCe) (.seq (.seq (.reg yCd) (.block 0 yBV (.loop yBU yCc))) (.seq (.reg yBT) .ret))),28,[.tmp 2]⟩
@[simp] theorem c_r04_Name:cfun Tryz.prog n_r04_Name=some r04_Name:=by kernel_rfl
@[simp] theorem e_r04_Name:hasBody Tryz.prog n_r04_Name=true:=by kernel_rfl
abbrev yCf:List AG:=[o 2 (.mv (.c (.str []))),zzh 3]
abbrev yCg:List Bool:=[I,O,O,O,I,O,O,O,O,O,O,O,O,O,O,O,O,O,O,O,O,O,O]
abbrev yCh:List Bool:=[O,O,O,O,O,O,O,O,O,O,O,O,O,O,O,O,O,O,O,O,O,O,O]
abbrev yCi:List AG:=[zz1 9 4,zz6 10 9 1,zz1 4 10]
abbrev yCj:List AG:=[zz1 19 0,zz1 20 4,zz5 21 1 19 20,zz2 22 1 21,zz1 2 22,o 3 (.mv (.c (.bool true)))]
abbrev yCk:ACode:=(.seq (.reg yCj) .ret)
abbrev yCl:List AG:=[zz1 11 0,zz1 12 4,o 13 (.slice 1 (.t 11) none (some (.t 12))),zz1 14 0,zz1 15 4,zz5 16 1 14 15,zz2 17 1 16,zzg 18 n_r01_Has 13 17]
abbrev yCm:ACode:=(.seq (.dreg [O,O,O,O,O,O,O,O] [8,8,8,8,8,8,8,9] yCl) (.cond (.t 18) yCk .skip))
abbrev yCn:List AG:=[zz1 5 4,zz1 6 0,zza 7 6,zz7 8 5 7]
abbrev yCo:ACode:=(.seq (.seq (.reg yCn) (.cond (.t 8) .skip (.exit 0))) (.seq (.block 1 [] yCm) (.reg yCi)))
abbrev yCp:List AG:=[zz9 4 0]
abbrev yCq:List AG:=[o 2 (.mv (.c (.str []))),zzh 3]
abbrev r06_twice:AFun:=⟨(.seq (.reg yCq) (.seq (.seq (.reg yCp) (.block 0 yCh (.loop yCg yCo))) (.seq (.reg yCf) .ret))),23,[.tmp 2,.tmp 3]⟩
@[simp] theorem c_r06_twice:cfun Tryz.prog n_r06_twice=some r06_twice:=by kernel_rfl
@[simp] theorem e_r06_twice:hasBody Tryz.prog n_r06_twice=true:=by kernel_rfl
abbrev yCr:List AG:=[zz1 41 3,zz1 2 41]
abbrev yCs:List Bool:=[O,I,O,I,O,I,O,O,O,O,O,O,O,O,O,O,O,O,O,O,O,O,O,O,O,O,O,O,O,O,O,O,O,O,O,O,O,O,O,O,O,O]
abbrev yCt:List Bool:=[O,O,O,I,O,O,O,O,O,O,O,O,O,O,O,O,O,O,O,O,O,O,O,O,O,O,O,O,O,O,O,O,O,O,O,O,O,O,O,O,O,O]
abbrev yCu:List AG:=[zz1 31 5,zz6 32 31 1,zz1 5 32]
abbrev yCv:List AG:=[zz1 33 3,zz4 34 3 1,zz2 35 1 34,zz1 36 5,zz5 37 5 35 36,zz4 38 2 37,zz2 39 1 38,o 40 (.append 1 t_string 16 (.t 33) (.t 39)),zz1 3 40]
abbrev yCw:List AG:=[zz1 26 5,zz4 27 3 1,zz2 28 1 27,zza 29 28,zz7 30 26 29]
abbrev yCx:ACode:=(.seq (.seq (.reg yCw) (.cond (.t 30) .skip (.exit 2))) (.seq (.block 3 [] (.reg yCv)) (.reg yCu)))
abbrev yCy:List AG:=[zz9 5 0]
abbrev yCz:List Bool:=[O,I,O,I,I,O,O,O,O,O,O,O,O,O,O,O,O,O,O,O,O,O,O,O,O,O,O,O,O,O,O,O,O,O,O,O,O,O,O,O,O,O]
abbrev yCA:List Bool:=[O,I,O,I,O,O,O,O,O,O,O,O,O,O,O,O,O,O,O,O,O,O,O,O,O,O,O,O,O,O,O,O,O,O,O,O,O,O,O,O,O,O]
abbrev yCB:List AG:=[zz1 15 4,zz6 16 15 1,zz1 4 16]
abbrev yCC:List AG:=[zz1 17 3,zz4 18 2 1,zz2 19 1 18,zz1 20 4,zz5 21 3 19 20,zz4 22 1 21,zz2 23 1 22,o 24 (.lit 1 [(.str [])] [(0,(.t 23))]),o 25 (.append 1 t_string 16 (.t 17) (.t 24)),zz1 3 25]
abbrev yCD:List AG:=[zz1 10 4,zz4 11 2 1,zz2 12 1 11,zza 13 12,zz7 14 10 13]
abbrev yCE:ACode:=(.seq (.seq (.reg yCD) (.cond (.t 14) .skip (.exit 0))) (.seq (.block 1 [] (.reg yCC)) (.reg yCB)))
abbrev yCF:List AG:=[zz9 4 0]
abbrev yCG:List AG:=[zz1 6 3,zz4 7 1 1,zz2 8 1 7,o 9 (.append 1 t_string 16 (.t 6) (.t 8)),zz1 3 9]
abbrev yCH:List AG:=[o 3 (.nilrow 1 t_string)]
abbrev yCI:List AG:=[o 1 (.box 4 (.t 0)),o 2 (.nilrow 1 t_string)]
abbrev r06_Used:AFun:=⟨(.seq (.reg yCI) (.seq (.reg yCH) (.seq (.reg yCG) (.seq (.seq (.reg yCF) (.block 0 yCA (.loop yCz yCE))) (.seq (.seq (.reg yCy) (.block 2 yCt (.loop yCs yCx))) (.seq (.reg yCr) .ret)))))),42,[.tmp 2]⟩
@[simp] theorem c_r06_Used:cfun Tryz.prog n_r06_Used=some r06_Used:=by kernel_rfl
@[simp] theorem e_r06_Used:hasBody Tryz.prog n_r06_Used=true:=by kernel_rfl
abbrev yCJ:List AG:=[zzh 4]
abbrev yCK:List Bool:=[I,I,O,O,O,I,O,O,O,O,O,O,O,O,O,O,O,O]
abbrev yCL:List Bool:=[O,O,O,O,O,O,O,O,O,O,O,O,O,O,O,O,O,O]
abbrev yCM:List AG:=[zz1 10 5,zz6 11 10 1,zz1 5 11]
abbrev yCN:List AG:=[o 4 (.mv (.c (.bool true)))]
abbrev yCO:ACode:=(.seq (.reg yCN) .ret)
abbrev yCP:List AG:=[zz1 12 0,zz1 13 5,zz5 14 1 12 13,zz2 15 1 14,zz1 16 1,o 17 (.cmp .eql (.sc .str) (.t 15) (.t 16))]
abbrev yCQ:ACode:=(.seq (.reg yCP) (.cond (.t 17) yCO .skip))
abbrev yCR:List AG:=[zz1 6 5,zz1 7 0,zza 8 7,zz7 9 6 8]
abbrev yCS:ACode:=(.seq (.seq (.reg yCR) (.cond (.t 9) .skip (.exit 0))) (.seq (.block 1 [] yCQ) (.reg yCM)))
abbrev yCT:List AG:=[zz9 5 0]
abbrev yCU:List AG:=[zzh 4]
abbrev r01_Has:AFun:=⟨(.seq (.reg yCU) (.seq (.seq (.reg yCT) (.block 0 yCL (.loop yCK yCS))) (.seq (.reg yCJ) .ret))),18,[.tmp 4]⟩
@[simp] theorem c_r01_Has:cfun Tryz.prog n_r01_Has=some r01_Has:=by kernel_rfl
@[simp] theorem e_r01_Has:hasBody Tryz.prog n_r01_Has=true:=by kernel_rfl
abbrev yCV:List Bool:=[I,O,O,I,I,O,O,O,O,O,O,O,O,O,O,O,O,O,O,O,O,O,O,O,O,O,O,O,O,O,O,O,O,O,O,O,O,O,O,O,O,O,O,O,O,O,O,O,O,O,O,O,O,O,O,O,O,O,O,O,O,O,O,O,O,O,O,O,O,O,O,O,O,O]
abbrev yCW:List Bool:=[O,O,O,O,O,O,O,O,O,O,O,O,O,O,O,O,O,O,O,O,O,O,O,O,O,O,O,O,O,O,O,O,O,O,O,O,O,O,O,O,O,O,O,O,O,O,O,O,O,O,O,O,O,O,O,O,O,O,O,O,O,O,O,O,O,O,O,O,O,O,O,O,O,O]
abbrev yCX:List Bool:=[I,O,O,I,I,O,I,O,O,O,O,O,O,O,O,O,O,O,O,O,O,O,O,O,O,O,O,O,O,O,O,O,O,O,O,O,O,O,O,O,O,O,O,O,O,O,O,O,O,I,I,I,O,O,O,O,O,O,O,O,O,O,O,O,O,O,O,O,O,O,O,O,O,O]
abbrev yCY:List Bool:=[I,O,O,I,I,O,O,O,O,O,O,O,O,O,O,O,O,O,O,O,O,O,O,O,O,O,O,O,O,O,O,O,O,O,O,O,O,O,O,O,O,O,O,O,O,O,O,O,O,O,O,O,O,O,O,O,O,O,O,O,O,O,O,O,O,O,O,O,O,O,O,O,O,O]
abbrev yCZ:List AG:=[zz6 73 51 1,zz1 51 73]
abbrev yDa:List AG:=[zz1 68 4,o 69 (.mkIface t_order_pile (.t 68)),zz1 70 8,o 71 (.mkIface t_int (.t 70)),zzg 72 n_container_heap_Push 69 71]
abbrev yDb:List AG:=[zz4 61 0 3,zz2 62 1 61,zz1 63 8,zz5 64 1 62 63,zz2 65 1 64,o 66 (.lenMap (.t 65)),o 67 (.cmp .eql (.sc .int) (.t 66) (.c (.int .i64 0)))]
abbrev yDc:List AG:=[zz4 55 0 3,zz2 56 1 55,zz1 57 8,zz5 58 1 56 57,zz2 59 1 58,zz1 60 6,q (.delete (.sc .int) (.t 59) (.t 60))]
abbrev yDd:List AG:=[zz5 53 1 49 51,zz2 54 1 53,zz1 8 54]
abbrev yDe:ACode:=(.seq (.reg yDd) (.seq (.reg yDc) (.seq (.reg yDb) (.cond (.t 67) (.reg yDa) .skip))))
abbrev yDf:List AG:=[zz7 52 51 50]
abbrev yDg:ACode:=(.seq (.reg yDf) (.seq (.cond (.t 52) .skip (.exit 4)) (.seq (.block 5 [] yDe) (.reg yCZ))))
abbrev yDh:List AG:=[zz4 45 1 3,zz2 46 1 45,zz1 47 6,zz5 48 1 46 47,zz2 49 1 48,zza 50 49,zz9 51 0]
abbrev yDi:List AG:=[zz1 41 0,zz1 42 6,o 43 (.call (.t 41) [(.t 42)]),o 44 (.not (.t 43))]
abbrev yDj:List AG:=[zz1 37 4,o 38 (.mkIface t_order_pile (.t 37)),zzf 39 n_container_heap_Pop 38,o 40 (.tassert (.t 39) t_int (.int .i64 0) false),zz1 6 40]
abbrev yDk:ACode:=(.seq (.reg yDj) (.seq (.seq (.reg yDi) (.cond (.t 44) .ret .skip)) (.seq (.reg yDh) (.block 4 yCY (.loop yCX yDg)))))
abbrev yDl:List AG:=[zz1 32 4,o 33 (.nilck (.t 32)),zz2 34 1 33,zzf 35 n_order_pile_Len 34,o 36 (.cmp .gtr (.sc .int) (.t 35) (.c (.int .i64 0)))]
abbrev yDm:ACode:=(.seq (.seq (.reg yDl) (.cond (.t 36) .skip (.exit 2))) (.block 3 [] yDk))
abbrev yDn:List Bool:=[I,O,O,I,I,O,O,O,O,O,O,O,O,O,O,I,I,O,O,O,O,O,O,O,O,O,O,O,O,O,O,O,O,O,O,O,O,O,O,O,O,O,O,O,O,O,O,O,O,O,O,O,O,O,O,O,O,O,O,O,O,O,O,O,O,O,O,O,O,O,O,O,O,O]
abbrev yDo:List Bool:=[I,O,O,I,I,O,O,O,O,O,O,O,O,O,O,O,O,O,O,O,O,O,O,O,O,O,O,O,O,O,O,O,O,O,O,O,O,O,O,O,O,O,O,O,O,O,O,O,O,O,O,O,O,O,O,O,O,O,O,O,O,O,O,O,O,O,O,O,O,O,O,O,O,O]
abbrev yDp:List AG:=[zz6 31 16 1,zz1 16 31]
abbrev yDq:List AG:=[zz1 26 4,o 27 (.mkIface t_order_pile (.t 26)),zz1 28 5,o 29 (.mkIface t_int (.t 28)),zzg 30 n_container_heap_Push 27 29]
abbrev yDr:List AG:=[zz4 19 0 3,zz2 20 1 19,zz1 21 5,zz5 22 1 20 21,zz2 23 1 22,o 24 (.lenMap (.t 23)),o 25 (.cmp .eql (.sc .int) (.t 24) (.c (.int .i64 0)))]
abbrev yDs:List AG:=[zz1 18 16,zz1 5 18]
abbrev yDt:ACode:=(.seq (.reg yDs) (.seq (.reg yDr) (.cond (.t 25) (.reg yDq) .skip)))
abbrev yDu:List AG:=[zz7 17 16 15]
abbrev yDv:ACode:=(.seq (.reg yDu) (.seq (.cond (.t 17) .skip (.exit 0)) (.seq (.block 1 [] yDt) (.reg yDp))))
abbrev yDw:List AG:=[zz4 13 3 1,zz2 14 1 13,zza 15 14,zz9 16 0]
abbrev yDx:List AG:=[o 11 (.lit 1 [] []),o 12 (.box 1 (.t 11)),zz1 4 12]
abbrev yDy:List AG:=[zz3 9 4 1,zzf 10 n_order_wait 9,o 3 (.alloc [(.own 1 t_map_int_bool_2 []),(.own 1 t_int_2 [])]),zzb 2 3 10]
abbrev order_coming_1:AFun:=⟨(.seq (.reg yDy) (.seq (.reg yDx) (.seq (.seq (.reg yDw) (.block 0 yDo (.loop yDn yDv))) (.block 2 yCW (.loop yCV yDm))))),74,[]⟩
abbrev yDz:List It:=[.inBlock 3 [],.inLoop yCV yDm,.inBlock 2 yCW]
abbrev yDA (x0 x3 x4 x6 x49 x50 x51:AV) (h:List Ob) (e:Cx:=cx):Cfg:=atC n_order_coming_1 (.code yDg::.inLoop yCX yDg::.inBlock 4 yCY::yDz) [x0,U,U,x3,x4,U,x6,U,U,U,U,U,U,U,U,U,U,U,U,U,U,U,U,U,U,U,U,U,U,U,U,U,U,U,U,U,U,U,U,U,U,U,U,U,U,U,U,U,U,x49,x50,x51,U,U,U,U,U,U,U,U,U,U,U,U,U,U,U,U,U,U,U,U,U,U] h e
abbrev yDB (x0 x3 x4:AV) (h:List Ob) (e:Cx:=cx):Cfg:=atC n_order_coming_1 yDz [x0,U,U,x3,x4,U,U,U,U,U,U,U,U,U,U,U,U,U,U,U,U,U,U,U,U,U,U,U,U,U,U,U,U,U,U,U,U,U,U,U,U,U,U,U,U,U,U,U,U,U,U,U,U,U,U,U,U,U,U,U,U,U,U,U,U,U,U,U,U,U,U,U,U,U] h e
abbrev yDC:List It:=[]
abbrev yDD (x0 x3 x4:AV) (h:List Ob) (e:Cx:=cx):Cfg:=atC n_order_coming_1 (.code yDm::.inLoop yCV yDm::.inBlock 2 yCW::yDC) [x0,U,U,x3,x4,U,U,U,U,U,U,U,U,U,U,U,U,U,U,U,U,U,U,U,U,U,U,U,U,U,U,U,U,U,U,U,U,U,U,U,U,U,U,U,U,U,U,U,U,U,U,U,U,U,U,U,U,U,U,U,U,U,U,U,U,U,U,U,U,U,U,U,U,U] h e
abbrev yDE:List It:=[.code (.block 2 yCW (.loop yCV yDm))]
abbrev yDF (x0 x3 x4 x15 x16:AV) (h:List Ob) (e:Cx:=cx):Cfg:=atC n_order_coming_1 (.code yDv::.inLoop yDn yDv::.inBlock 0 yDo::yDE) [x0,U,U,x3,x4,U,U,U,U,U,U,U,U,U,U,x15,x16,U,U,U,U,U,U,U,U,U,U,U,U,U,U,U,U,U,U,U,U,U,U,U,U,U,U,U,U,U,U,U,U,U,U,U,U,U,U,U,U,U,U,U,U,U,U,U,U,U,U,U,U,U,U,U,U,U] h e
abbrev yDG (x0 x3 x4:AV) (h:List Ob) (e:Cx:=cx):Cfg:=atC n_order_coming_1 yDE [x0,U,U,x3,x4,U,U,U,U,U,U,U,U,U,U,U,U,U,U,U,U,U,U,U,U,U,U,U,U,U,U,U,U,U,U,U,U,U,U,U,U,U,U,U,U,U,U,U,U,U,U,U,U,U,U,U,U,U,U,U,U,U,U,U,U,U,U,U,U,U,U,U,U,U] h e
@[simp] theorem c_order_coming_1:cfun Tryz.prog n_order_coming_1=some order_coming_1:=by kernel_rfl
@[simp] theorem e_order_coming_1:hasBody Tryz.prog n_order_coming_1=true:=by kernel_rfl
abbrev yDH:List AG:=[zz3 79 2 4,zzb 2 2 79]
abbrev yDI:List Bool:=[O,O,I,I,I,O,O,O,O,O,O,O,O,O,O,O,O,O,O,O,O,O,O,I,I,I,O,O,O,O,O,O,O,O,O,O,O,O,O,O,O,O,O,O,O,O,O,O,O,O,O,O,O,O,O,O,O,O,O,O,O,O,O,O,O,O,O,O,O,O,O,O,O,O,O,O,O,O,O,O]
abbrev yDJ:List Bool:=[O,O,I,O,I,O,O,O,O,O,O,O,O,O,O,O,O,O,O,O,O,O,O,O,O,O,O,O,O,O,O,O,O,O,O,O,O,O,O,O,O,O,O,O,O,O,O,O,O,O,O,O,O,O,O,O,O,O,O,O,O,O,O,O,O,O,O,O,O,O,O,O,O,O,O,O,O,O,O,O]
abbrev yDK:List AG:=[zz6 78 25 1,zz1 25 78]
abbrev yDL:List Bool:=[O,O,I,I,I,I,O,O,O,O,O,O,O,O,O,O,O,O,O,O,O,O,O,I,I,I,O,O,O,O,O,O,O,O,O,O,I,I,I,O,O,O,O,O,O,O,O,O,O,O,O,O,O,O,O,O,O,O,O,O,O,O,O,O,O,O,O,O,O,O,O,O,O,O,O,O,O,O,O,O]
abbrev yDM:List Bool:=[O,O,I,I,I,O,O,O,O,O,O,O,O,O,O,O,O,O,O,O,O,O,O,I,I,I,O,O,O,O,O,O,O,O,O,O,O,O,O,O,O,O,O,O,O,O,O,O,O,O,O,O,O,O,O,O,O,O,O,O,O,O,O,O,O,O,O,O,O,O,O,O,O,O,O,O,O,O,O,O]
abbrev yDN:List AG:=[zz6 77 38 1,zz1 38 77]
abbrev yDO:List AG:=[zz4 65 1 4,zz2 66 1 65,zz1 67 9,zz4 68 1 4,zz2 69 1 68,zz1 70 9,zz5 71 1 69 70,zz2 72 1 71,zz1 73 5,o 74 (.lit 1 [(.int .i64 0)] [(0,(.t 73))]),o 75 (.append 1 t_int 8 (.t 72) (.t 74)),zz5 76 1 66 67,zzb 1 76 75]
abbrev yDP:List AG:=[zz4 59 0 4,zz2 60 1 59,zz1 61 5,zz5 62 1 60 61,zz2 63 1 62,zz1 64 9,q (.upd (.sc .int) (.t 63) (.t 64) (.c (.bool true)))]
abbrev yDQ:ACode:=(.seq (.reg yDP) (.dreg [O,I,O,O,I,O,O,I,O,O,O,O,O] [13,13,13,11,11,11,11,11,10,11,13,13,14] yDO))
abbrev yDR:List AG:=[zz1 48 10,zz1 49 48,oy 50 49 (.off 0 (.t 4)),zzd 51 49 1 50,zze 52 49 5,oy 53 49 (.ixAddr 1 (.t 51) (.t 52)),zzd 54 49 1 53,zze 55 49 9,oy 56 49 (.lookup (.sc .int) (.bool false) (.t 54) (.t 55) false),oy 57 49 (.not (.t 56)),zz8 58 49 57]
abbrev yDS:List AG:=[zz1 43 3,zz1 44 8,o 45 (.lookup (.sc .str) (.int .i64 0) (.t 43) (.t 44) true),zz1 42 45,zzc 46 42 0,zzc 47 42 1,zz1 9 46,zz1 10 47]
abbrev yDT:List AG:=[zz5 40 1 36 38,zz2 41 1 40,zz1 8 41]
abbrev yDU:ACode:=(.seq (.reg yDT) (.seq (.reg yDS) (.seq (.reg yDR) (.cond (.t 58) yDQ .skip))))
abbrev yDV:List AG:=[zz7 39 38 37]
abbrev yDW:ACode:=(.seq (.reg yDV) (.seq (.cond (.t 39) .skip (.exit 2)) (.seq (.block 3 [] yDU) (.reg yDN))))
abbrev yDX:List AG:=[zz4 35 2 6,zz2 36 1 35,zza 37 36,zz9 38 0]
abbrev yDY:List AG:=[zz4 30 0 4,zz2 31 1 30,zz1 32 5,o 33 (.mkMap),zz5 34 1 31 32,zzb 1 34 33]
abbrev yDZ:List AG:=[zz1 27 25,zz5 28 5 23 25,zz3 29 5 28,o 6 (.alloc [(.str []),(.int .i64 0),(.own 1 t_string []),(.own 1 t_string []),(.bool false)]),zz1 5 27,zzb 5 6 29]
abbrev yEa:ACode:=(.seq (.reg yDZ) (.seq (.reg yDY) (.seq (.reg yDX) (.block 2 yDM (.loop yDL yDW)))))
abbrev yEb:List AG:=[zz7 26 25 24]
abbrev yEc:ACode:=(.seq (.reg yEb) (.seq (.cond (.t 26) .skip (.exit 0)) (.seq (.block 1 [] yEa) (.reg yDK))))
abbrev yEd:List AG:=[zz4 22 3 1,zz2 23 1 22,zza 24 23,zz9 25 0]
abbrev yEe:List AG:=[zz4 13 3 1,zz2 14 1 13,zza 15 14,o 16 (.mkSlice 1 t_map_int_bool_2 8 .nilm (.t 15) (.t 15)),zz4 17 3 1,zz2 18 1 17,zza 19 18,o 20 (.mkSlice 1 t_int_2 24 (.list true 0 []) (.t 19) (.t 19)),o 21 (.build [(.list true 0 []),(.list true 0 [])] [(0,1,(.t 16)),(1,1,(.t 20))]),o 4 (.alloc [(.own 1 t_map_int_bool_2 []),(.own 1 t_int_2 [])]),zzb 2 4 21]
abbrev yEf:List AG:=[zz3 11 4 1,zzf 12 n_order_places 11,zz1 3 12]
abbrev yEg:List AG:=[o 1 (.box 4 (.t 0)),o 2 (.alloc [(.own 1 t_map_int_bool_2 []),(.own 1 t_int_2 [])])]
abbrev order_wait:AFun:=⟨(.seq (.reg yEg) (.seq (.reg yEf) (.seq (.oreg [[],[0],[1],[2,2],[],[4],[5],[6,6],[3,7],[],[9,8,0,1,2,3,4,5,6,7,8,9]] yEe) (.seq (.seq (.reg yEd) (.block 0 yDJ (.loop yDI yEc))) (.seq (.reg yDH) .ret))))),80,[.cell 2 true 2]⟩
abbrev yEh:List It:=[.inBlock 1 [],.code (.reg yDK),.inLoop yDI yEc,.inBlock 0 yDJ,.code (.seq (.reg yDH) .ret)]
abbrev yEi (x2 x3 x4 x5 x23 x24 x25 x36 x37 x38:AV) (h:List Ob) (e:Cx:=cx):Cfg:=atC n_order_wait (.code yDW::.inLoop yDL yDW::.inBlock 2 yDM::yEh) [U,U,x2,x3,x4,x5,U,U,U,U,U,U,U,U,U,U,U,U,U,U,U,U,U,x23,x24,x25,U,U,U,U,U,U,U,U,U,U,x36,x37,x38,U,U,U,U,U,U,U,U,U,U,U,U,U,U,U,U,U,U,U,U,U,U,U,U,U,U,U,U,U,U,U,U,U,U,U,U,U,U,U,U,U] h e
abbrev yEj (x2 x3 x4 x23 x24 x25:AV) (h:List Ob) (e:Cx:=cx):Cfg:=atC n_order_wait yEh [U,U,x2,x3,x4,U,U,U,U,U,U,U,U,U,U,U,U,U,U,U,U,U,U,x23,x24,x25,U,U,U,U,U,U,U,U,U,U,U,U,U,U,U,U,U,U,U,U,U,U,U,U,U,U,U,U,U,U,U,U,U,U,U,U,U,U,U,U,U,U,U,U,U,U,U,U,U,U,U,U,U,U] h e
abbrev yEk:List It:=[.code (.seq (.reg yDH) .ret)]
abbrev yEl (x2 x3 x4 x23 x24 x25:AV) (h:List Ob) (e:Cx:=cx):Cfg:=atC n_order_wait (.code yEc::.inLoop yDI yEc::.inBlock 0 yDJ::yEk) [U,U,x2,x3,x4,U,U,U,U,U,U,U,U,U,U,U,U,U,U,U,U,U,U,x23,x24,x25,U,U,U,U,U,U,U,U,U,U,U,U,U,U,U,U,U,U,U,U,U,U,U,U,U,U,U,U,U,U,U,U,U,U,U,U,U,U,U,U,U,U,U,U,U,U,U,U,U,U,U,U,U,U] h e
@[simp] theorem c_order_wait:cfun Tryz.prog n_order_wait=some order_wait:=by kernel_rfl
@[simp] theorem e_order_wait:hasBody Tryz.prog n_order_wait=true:=by kernel_rfl
abbrev yEm:List AG:=[zz1 7 0,zz1 8 0,o 9 (.invoke (.t 8) "Len" []),o 10 (.ibin .sub (.t 9) (.c (.int .i64 1))),zzg 11 n_container_heap_up 7 10]
abbrev yEn:List AG:=[zz1 4 0,zz1 5 1,o 6 (.invoke (.t 4) "Push" [(.t 5)])]
abbrev container_heap_Push:AFun:=⟨(.seq (.reg yEn) (.reg yEm)),12,[]⟩
@[simp] theorem c_container_heap_Push:cfun Tryz.prog n_container_heap_Push=some container_heap_Push:=by kernel_rfl
@[simp] theorem e_container_heap_Push:hasBody Tryz.prog n_container_heap_Push=true:=by kernel_rfl
abbrev yEo:List AG:=[zz1 3 0,zza 4 3,zz1 2 4]
abbrev yEp:List AG:=[zz9 2 0]
abbrev order_pile_Len:AFun:=⟨(.seq (.reg yEp) (.seq (.reg yEo) .ret)),5,[.tmp 2]⟩
@[simp] theorem c_order_pile_Len:cfun Tryz.prog n_order_pile_Len=some order_pile_Len:=by kernel_rfl
@[simp] theorem e_order_pile_Len:hasBody Tryz.prog n_order_pile_Len=true:=by kernel_rfl
abbrev yEq:List AG:=[zz1 13 0,o 14 (.invoke (.t 13) "Pop" []),zz1 2 14]
abbrev yEr:List AG:=[zz1 10 0,zz1 11 3,o 12 (.call (.f n_container_heap_down) [(.t 10),(.c (.int .i64 0)),(.t 11)])]
abbrev yEs:List AG:=[zz1 7 0,zz1 8 3,o 9 (.invoke (.t 7) "Swap" [(.c (.int .i64 0)),(.t 8)])]
abbrev yEt:List AG:=[zz1 4 0,o 5 (.invoke (.t 4) "Len" []),o 6 (.ibin .sub (.t 5) (.c (.int .i64 1))),zz1 3 6]
abbrev yEu:List AG:=[o 2 (.mv (.c .nili))]
abbrev container_heap_Pop:AFun:=⟨(.seq (.reg yEu) (.seq (.reg yEt) (.seq (.reg yEs) (.seq (.reg yEr) (.seq (.reg yEq) .ret))))),15,[.tmp 2]⟩
@[simp] theorem c_container_heap_Pop:cfun Tryz.prog n_container_heap_Pop=some container_heap_Pop:=by kernel_rfl
@[simp] theorem e_container_heap_Pop:hasBody Tryz.prog n_container_heap_Pop=true:=by kernel_rfl
abbrev yEv:List AG:=[o 4 (.mv (.c (.int .i64 (-1))))]
abbrev yEw:List Bool:=[I,I,O,O,O,O,O,I,I,O,O,O,O,O,O,O,O,O,O]
abbrev yEx:List Bool:=[O,O,O,O,O,O,O,O,O,O,O,O,O,O,O,O,O,O,O]
abbrev yEy:List AG:=[zz6 18 8 1,zz1 8 18]
abbrev yEz:List AG:=[zz1 17 5,zz1 4 17]
abbrev yEA:ACode:=(.seq (.reg yEz) .ret)
abbrev yEB:List AG:=[zz1 11 1,zz1 12 0,zz1 13 5,zz5 14 5 12 13,zz3 15 5 14,o 16 (.call (.t 11) [(.t 15)])]
abbrev yEC:List AG:=[zz1 10 8,zz1 5 10]
abbrev yED:ACode:=(.seq (.reg yEC) (.seq (.reg yEB) (.cond (.t 16) yEA .skip)))
abbrev yEE:List AG:=[zz7 9 8 7]
abbrev yEF:ACode:=(.seq (.reg yEE) (.seq (.cond (.t 9) .skip (.exit 0)) (.seq (.block 1 [] yED) (.reg yEy))))
abbrev yEG:List AG:=[zz1 6 0,zza 7 6,zz9 8 0]
abbrev yEH:List AG:=[zz9 4 0]
abbrev slices_IndexFunc_api_Gate_api_Gate:AFun:=⟨(.seq (.reg yEH) (.seq (.seq (.reg yEG) (.block 0 yEx (.loop yEw yEF))) (.seq (.reg yEv) .ret))),19,[.tmp 4]⟩
abbrev yEI:List It:=[.code (.seq (.reg yEv) .ret)]
abbrev yEJ (x0 x1 x7 x8:AV) (h:List Ob) (e:Cx:=cx):Cfg:=atC n_slices_IndexFunc_api_Gate_api_Gate (.code yEF::.inLoop yEw yEF::.inBlock 0 yEx::yEI) [x0,x1,U,U,U,U,U,x7,x8,U,U,U,U,U,U,U,U,U,U] h e
@[simp] theorem c_slices_IndexFunc_api_Gate_api_Gate:cfun Tryz.prog n_slices_IndexFunc_api_Gate_api_Gate=some slices_IndexFunc_api_Gate_api_Gate:=by kernel_rfl
@[simp] theorem e_slices_IndexFunc_api_Gate_api_Gate:hasBody Tryz.prog n_slices_IndexFunc_api_Gate_api_Gate=true:=by kernel_rfl
abbrev yEK:List AG:=[zz1 35 6,zz1 2 35]
abbrev yEL:List Bool:=[O,O,O,O,O,O,I,O,O,O,O,O,O,O,O,O,O,O,O,O,O,O,O,O,O,I,I,I,O,O,O,O,O,O,O,O]
abbrev yEM:List Bool:=[O,O,O,O,O,O,I,O,O,O,O,O,O,O,O,O,O,O,O,O,O,O,O,O,O,O,O,O,O,O,O,O,O,O,O,O]
abbrev yEN:List AG:=[zz6 34 27 1,zz1 27 34]
abbrev yEO:List AG:=[zz1 31 6,zz1 32 8,o 33 (.append 1 t_string 16 (.t 31) (.t 32)),zz1 6 33]
abbrev yEP:List AG:=[zz5 29 1 25 27,zz2 30 1 29,zz1 8 30]
abbrev yEQ:ACode:=(.seq (.reg yEP) (.reg yEO))
abbrev yER:List AG:=[zz7 28 27 26]
abbrev yES:ACode:=(.seq (.reg yER) (.seq (.cond (.t 28) .skip (.exit 2)) (.seq (.block 3 [] yEQ) (.reg yEN))))
abbrev yET:List AG:=[zz1 25 0,zza 26 25,zz9 27 0]
abbrev yEU:List AG:=[zz1 23 3,o 24 (.call (.f n_slices_Grow_string_string) [(.c (.list true 0 [])),(.t 23)]),zz1 6 24]
abbrev yEV:List Bool:=[I,O,O,I,O,O,O,O,O,I,I,I,O,O,O,O,O,O,O,O,O,O,O,O,O,O,O,O,O,O,O,O,O,O,O,O]
abbrev yEW:List Bool:=[I,O,O,I,O,O,O,O,O,O,O,O,O,O,O,O,O,O,O,O,O,O,O,O,O,O,O,O,O,O,O,O,O,O,O,O]
abbrev yEX:List AG:=[zz6 22 11 1,zz1 11 22]
abbrev yEY:List AG:=[o 21 (.mkIface t_string (.c (.str [108,101,110,32,111,117,116,32,111,102,32,114,97,110,103,101]))),q (.panic (.t 21))]
abbrev yEZ:List AG:=[zz1 19 3,o 20 (.cmp .lss (.sc .int) (.t 19) (.c (.int .i64 0)))]
abbrev yFa:List AG:=[zz1 15 3,zz1 16 5,zza 17 16,o 18 (.ibin .add (.t 15) (.t 17)),zz1 3 18]
abbrev yFb:List AG:=[zz5 13 1 9 11,zz2 14 1 13,zz1 5 14]
abbrev yFc:ACode:=(.seq (.reg yFb) (.seq (.reg yFa) (.seq (.reg yEZ) (.cond (.t 20) (.reg yEY) .skip))))
abbrev yFd:List AG:=[zz7 12 11 10]
abbrev yFe:ACode:=(.seq (.reg yFd) (.seq (.cond (.t 12) .skip (.exit 0)) (.seq (.block 1 [] yFc) (.reg yEX))))
abbrev yFf:List AG:=[zz1 9 0,zza 10 9,zz9 11 0]
abbrev yFg:List AG:=[zz9 3 0]
abbrev yFh:List AG:=[o 2 (.nilrow 1 t_string)]
abbrev slices_Concat_string_string:AFun:=⟨(.seq (.reg yFh) (.seq (.reg yFg) (.seq (.seq (.reg yFf) (.block 0 yEW (.loop yEV yFe))) (.seq (.reg yEU) (.seq (.seq (.reg yET) (.block 2 yEM (.loop yEL yES))) (.seq (.reg yEK) .ret)))))),36,[.tmp 2]⟩
abbrev yFi:List It:=[.code (.seq (.reg yEK) .ret)]
abbrev yFj (x6 x25 x26 x27:AV) (h:List Ob) (e:Cx:=cx):Cfg:=atC n_slices_Concat_string_string (.code yES::.inLoop yEL yES::.inBlock 2 yEM::yFi) [U,U,U,U,U,U,x6,U,U,U,U,U,U,U,U,U,U,U,U,U,U,U,U,U,U,x25,x26,x27,U,U,U,U,U,U,U,U] h e
abbrev yFk:List It:=[.code (.seq (.reg yEU) (.seq (.seq (.reg yET) (.block 2 yEM (.loop yEL yES))) (.seq (.reg yEK) .ret)))]
abbrev yFl (x0 x3 x9 x10 x11:AV) (h:List Ob) (e:Cx:=cx):Cfg:=atC n_slices_Concat_string_string (.code yFe::.inLoop yEV yFe::.inBlock 0 yEW::yFk) [x0,U,U,x3,U,U,U,U,U,x9,x10,x11,U,U,U,U,U,U,U,U,U,U,U,U,U,U,U,U,U,U,U,U,U,U,U,U] h e
@[simp] theorem c_slices_Concat_string_string:cfun Tryz.prog n_slices_Concat_string_string=some slices_Concat_string_string:=by kernel_rfl
@[simp] theorem e_slices_Concat_string_string:hasBody Tryz.prog n_slices_Concat_string_string=true:=by kernel_rfl
abbrev yFm:List AG:=[zz1 4 0,o 5 (.cmp .neq (.sc .str) (.t 4) (.c (.str []))),zz1 6 5,zze 7 6 0,oy 8 6 (.lenStr (.t 7)),oy 9 6 (.cmp .leq (.sc .int) (.t 8) (.c (.int .i64 40))),zz8 10 6 9,zz1 11 10,zze 12 11 0,zze 13 11 3,oy 14 11 (.call (.f n_strings_IndexFunc) [(.t 12),(.t 13)]),oy 15 11 (.cmp .lss (.sc .int) (.t 14) (.c (.int .i64 0))),zz8 16 11 15,zz1 2 16]
abbrev yFn:List AG:=[o 3 (.mv (.f n_ident_name_plain_1))]
abbrev yFo:List AG:=[zzh 2]
abbrev ident_name_plain:AFun:=⟨(.seq (.reg yFo) (.seq (.reg yFn) (.seq (.reg yFm) .ret))),17,[.tmp 2]⟩
@[simp] theorem c_ident_name_plain:cfun Tryz.prog n_ident_name_plain=some ident_name_plain:=by kernel_rfl
@[simp] theorem e_ident_name_plain:hasBody Tryz.prog n_ident_name_plain=true:=by kernel_rfl
@[simp] theorem e_math_bits_OnesCount32:hasBody Tryz.prog n_math_bits_OnesCount32=true:=by kernel_rfl
abbrev yFp:List AG:=[zz1 32 0,o 33 (.conv .i64 (.t 32)),o 34 (.ibin .and (.t 33) (.c (.int .i64 127))),zz1 2 34]
abbrev yFq:List AG:=[zz1 28 0,zz1 29 0,o 30 (.ibin .shr (.t 29) (.c (.int .u64 32))),o 31 (.ibin .add (.t 28) (.t 30)),zz1 0 31]
abbrev yFr:List AG:=[zz1 24 0,zz1 25 0,o 26 (.ibin .shr (.t 25) (.c (.int .u64 16))),o 27 (.ibin .add (.t 24) (.t 26)),zz1 0 27]
abbrev yFs:List AG:=[zz1 20 0,zz1 21 0,o 22 (.ibin .shr (.t 21) (.c (.int .u64 8))),o 23 (.ibin .add (.t 20) (.t 22)),zz1 0 23]
abbrev yFt:List AG:=[zz1 15 0,o 16 (.ibin .shr (.t 15) (.c (.int .u64 4))),zz1 17 0,o 18 (.ibin .add (.t 16) (.t 17)),o 19 (.ibin .and (.t 18) (.c (.int .u64 1085102592571150095))),zz1 0 19]
abbrev yFu:List AG:=[zz1 9 0,o 10 (.ibin .shr (.t 9) (.c (.int .u64 2))),o 11 (.ibin .and (.t 10) (.c (.int .u64 3689348814741910323))),zz1 12 0,o 13 (.ibin .and (.t 12) (.c (.int .u64 3689348814741910323))),o 14 (.ibin .add (.t 11) (.t 13)),zz1 0 14]
abbrev yFv:List AG:=[zz1 3 0,o 4 (.ibin .shr (.t 3) (.c (.int .u64 1))),o 5 (.ibin .and (.t 4) (.c (.int .u64 6148914691236517205))),zz1 6 0,o 7 (.ibin .and (.t 6) (.c (.int .u64 6148914691236517205))),o 8 (.ibin .add (.t 5) (.t 7)),zz1 0 8]
abbrev yFw:List AG:=[zz9 2 0]
abbrev math_bits_OnesCount64:AFun:=⟨(.seq (.reg yFw) (.seq (.reg yFv) (.seq (.reg yFu) (.seq (.reg yFt) (.seq (.reg yFs) (.seq (.reg yFr) (.seq (.reg yFq) (.seq (.reg yFp) .ret)))))))),35,[.tmp 2]⟩
@[simp] theorem c_math_bits_OnesCount64:cfun Tryz.prog n_math_bits_OnesCount64=some math_bits_OnesCount64:=by kernel_rfl
@[simp] theorem e_math_bits_OnesCount64:hasBody Tryz.prog n_math_bits_OnesCount64=true:=by kernel_rfl
abbrev yFx:List Bool:=[I,I,O,O,O,O,O,O,O,O,O,O,O,O,O,O,O,O,O,O,O,O,O]
abbrev yFy:List Bool:=[O,O,O,O,O,O,O,O,O,O,O,O,O,O,O,O,O,O,O,O,O,O,O]
abbrev yFz:List AG:=[zz1 22 4,zz1 1 22]
abbrev yFA:List AG:=[zz1 18 0,zz1 19 4,zz1 20 1,o 21 (.invoke (.t 18) "Swap" [(.t 19),(.t 20)])]
abbrev yFB:List AG:=[zz1 8 4,zz1 9 1,o 10 (.cmp .eql (.sc .int) (.t 8) (.t 9)),zz1 11 10,on 12 11 (.mv (.t 0)),on 13 11 (.mv (.t 1)),on 14 11 (.mv (.t 4)),on 15 11 (.invoke (.t 12) "Less" [(.t 13),(.t 14)]),on 16 11 (.not (.t 15)),o 17 (.pick (.t 11) (.c (.bool true)) (.t 16))]
abbrev yFC:List AG:=[zz1 5 1,o 6 (.ibin .sub (.t 5) (.c (.int .i64 1))),o 7 (.ibin .quo (.t 6) (.c (.int .i64 2))),zz1 4 7]
abbrev yFD:ACode:=(.seq (.reg yFC) (.seq (.seq (.reg yFB) (.cond (.t 17) (.exit 0) .skip)) (.seq (.reg yFA) (.reg yFz))))
abbrev yFE:ACode:=(.block 1 [] yFD)
abbrev container_heap_up:AFun:=⟨(.block 0 yFy (.loop yFx yFE)),23,[]⟩
abbrev yFF:List It:=[]
abbrev yFG (x0 x1:AV) (h:List Ob) (e:Cx:=cx):Cfg:=atC n_container_heap_up (.code yFE::.inLoop yFx yFE::.inBlock 0 yFy::yFF) [x0,x1,U,U,U,U,U,U,U,U,U,U,U,U,U,U,U,U,U,U,U,U,U] h e
@[simp] theorem c_container_heap_up:cfun Tryz.prog n_container_heap_up=some container_heap_up:=by kernel_rfl
@[simp] theorem e_container_heap_up:hasBody Tryz.prog n_container_heap_up=true:=by kernel_rfl
abbrev yFH:List AG:=[zz1 45 7,zz1 46 1,o 47 (.cmp .gtr (.sc .int) (.t 45) (.t 46)),zz1 6 47]
abbrev yFI:List Bool:=[I,I,I,O,O,O,O,I,O,O,O,O,O,O,O,O,O,O,O,O,O,O,O,O,O,O,O,O,O,O,O,O,O,O,O,O,O,O,O,O,O,O,O,O,O,O,O,O]
abbrev yFJ:List Bool:=[O,I,O,O,O,O,O,I,O,O,O,O,O,O,O,O,O,O,O,O,O,O,O,O,O,O,O,O,O,O,O,O,O,O,O,O,O,O,O,O,O,O,O,O,O,O,O,O]
abbrev yFK:List AG:=[zz1 44 9,zz1 7 44]
abbrev yFL:List AG:=[zz1 40 0,zz1 41 7,zz1 42 9,o 43 (.invoke (.t 40) "Swap" [(.t 41),(.t 42)])]
abbrev yFM:List AG:=[zz1 35 0,zz1 36 9,zz1 37 7,o 38 (.invoke (.t 35) "Less" [(.t 36),(.t 37)]),o 39 (.not (.t 38))]
abbrev yFN:List AG:=[zz1 34 10,zz1 9 34]
abbrev yFO:List AG:=[zz1 25 10,zz1 26 2,zz7 27 25 26,zz1 28 27,zze 29 28 0,zze 30 28 10,zze 31 28 8,oy 32 28 (.invoke (.t 29) "Less" [(.t 30),(.t 31)]),zz8 33 28 32]
abbrev yFP:List AG:=[zz1 23 8,zz6 24 23 1,zz1 10 24]
abbrev yFQ:List AG:=[zz1 22 8,zz1 9 22]
abbrev yFR:List AG:=[zz1 15 8,zz1 16 2,o 17 (.cmp .geq (.sc .int) (.t 15) (.t 16)),zz1 18 17,on 19 18 (.mv (.t 8)),on 20 18 (.cmp .lss (.sc .int) (.t 19) (.c (.int .i64 0))),o 21 (.pick (.t 18) (.c (.bool true)) (.t 20))]
abbrev yFS:List AG:=[zz1 12 7,o 13 (.ibin .mul (.c (.int .i64 2)) (.t 12)),zz6 14 13 1,zz1 8 14]
abbrev yFT:ACode:=(.seq (.reg yFS) (.seq (.seq (.reg yFR) (.cond (.t 21) (.exit 0) .skip)) (.seq (.reg yFQ) (.seq (.seq (.reg yFP) (.seq (.reg yFO) (.cond (.t 33) (.reg yFN) .skip))) (.seq (.seq (.reg yFM) (.cond (.t 39) (.exit 0) .skip)) (.seq (.reg yFL) (.reg yFK)))))))
abbrev yFU:ACode:=(.block 1 [] yFT)
abbrev yFV:List AG:=[zz1 11 1,zz1 7 11]
abbrev yFW:List AG:=[zzh 6]
abbrev container_heap_down:AFun:=⟨(.seq (.reg yFW) (.seq (.reg yFV) (.seq (.block 0 yFJ (.loop yFI yFU)) (.seq (.reg yFH) .ret)))),48,[.tmp 6]⟩
abbrev yFX:List It:=[.code (.seq (.reg yFH) .ret)]
abbrev yFY (x0 x1 x2 x7:AV) (h:List Ob) (e:Cx:=cx):Cfg:=atC n_container_heap_down (.code yFU::.inLoop yFI yFU::.inBlock 0 yFJ::yFX) [x0,x1,x2,U,U,U,U,x7,U,U,U,U,U,U,U,U,U,U,U,U,U,U,U,U,U,U,U,U,U,U,U,U,U,U,U,U,U,U,U,U,U,U,U,U,U,U,U,U] h e
@[simp] theorem c_container_heap_down:cfun Tryz.prog n_container_heap_down=some container_heap_down:=by kernel_rfl
@[simp] theorem e_container_heap_down:hasBody Tryz.prog n_container_heap_down=true:=by kernel_rfl
abbrev yFZ:List AG:=[zz1 26 0,zz1 4 26]
abbrev yGa:List AG:=[zz1 17 0,zz1 18 0,o 19 (.cap (.t 18)),o 20 (.slice 1 (.t 17) none (some (.t 19))),zz1 21 1,o 22 (.appendZ 1 t_string 16 (.str []) (.t 20) (.t 21)),zz1 23 0,zza 24 23,o 25 (.slice 1 (.t 22) none (some (.t 24))),zz1 0 25]
abbrev yGb:List AG:=[zz1 15 1,o 16 (.cmp .gtr (.sc .int) (.t 15) (.c (.int .i64 0)))]
abbrev yGc:List AG:=[zz1 8 1,zz1 9 0,o 10 (.cap (.t 9)),zz1 11 0,zza 12 11,o 13 (.ibin .sub (.t 10) (.t 12)),o 14 (.ibin .sub (.t 8) (.t 13)),zz1 1 14]
abbrev yGd:List AG:=[o 7 (.mkIface t_string (.c (.str [99,97,110,110,111,116,32,98,101,32,110,101,103,97,116,105,118,101]))),q (.panic (.t 7))]
abbrev yGe:List AG:=[zz1 5 1,o 6 (.cmp .lss (.sc .int) (.t 5) (.c (.int .i64 0)))]
abbrev yGf:List AG:=[o 4 (.nilrow 1 t_string)]
abbrev slices_Grow_string_string:AFun:=⟨(.seq (.reg yGf) (.seq (.seq (.reg yGe) (.cond (.t 6) (.reg yGd) .skip)) (.seq (.seq (.reg yGc) (.seq (.reg yGb) (.cond (.t 16) (.reg yGa) .skip))) (.seq (.reg yFZ) .ret)))),27,[.tmp 4]⟩
@[simp] theorem c_slices_Grow_string_string:cfun Tryz.prog n_slices_Grow_string_string=some slices_Grow_string_string:=by kernel_rfl
@[simp] theorem e_slices_Grow_string_string:hasBody Tryz.prog n_slices_Grow_string_string=true:=by kernel_rfl
abbrev yGg:List AG:=[zz1 3 0,o 4 (.cmp .leq (.sc .int) (.t 3) (.c (.int .i32 32))),zz1 5 4,on 6 5 (.mv (.t 0)),on 7 5 (.cmp .gtr (.sc .int) (.t 6) (.c (.int .i32 126))),o 8 (.pick (.t 5) (.c (.bool true)) (.t 7)),zz1 2 8]
abbrev yGh:List AG:=[zzh 2]
abbrev ident_name_plain_1:AFun:=⟨(.seq (.reg yGh) (.seq (.reg yGg) .ret)),9,[.tmp 2]⟩
@[simp] theorem c_ident_name_plain_1:cfun Tryz.prog n_ident_name_plain_1=some ident_name_plain_1:=by kernel_rfl
@[simp] theorem e_ident_name_plain_1:hasBody Tryz.prog n_ident_name_plain_1=true:=by kernel_rfl
abbrev yGi:List AG:=[zz1 5 0,zz1 6 1,o 7 (.call (.f n_strings_indexFunc) [(.t 5),(.t 6),(.c (.bool true))]),zz1 4 7]
abbrev yGj:List AG:=[zz9 4 0]
abbrev strings_IndexFunc:AFun:=⟨(.seq (.reg yGj) (.seq (.reg yGi) .ret)),8,[.tmp 4]⟩
@[simp] theorem c_strings_IndexFunc:cfun Tryz.prog n_strings_IndexFunc=some strings_IndexFunc:=by kernel_rfl
@[simp] theorem e_strings_IndexFunc:hasBody Tryz.prog n_strings_IndexFunc=true:=by kernel_rfl
abbrev yGk:List AG:=[o 6 (.mv (.c (.int .i64 (-1))))]
abbrev yGl:List Bool:=[O,I,I,O,O,O,O,O,O,O,I,O,O,O,O,O,O,O,O,O,O]
abbrev yGm:List Bool:=[O,O,O,O,O,O,O,O,O,O,O,O,O,O,O,O,O,O,O,O,O]
abbrev yGn:List AG:=[zz1 20 7,zz1 6 20]
abbrev yGo:ACode:=(.seq (.reg yGn) .ret)
abbrev yGp:List AG:=[zz1 15 1,zz1 16 8,o 17 (.call (.t 15) [(.t 16)]),zz1 18 2,o 19 (.cmp .eql (.sc .bool) (.t 17) (.t 18))]
abbrev yGq:List AG:=[zzc 13 11 1,zzc 14 11 2,zz1 7 13,zz1 8 14]
abbrev yGr:ACode:=(.seq (.reg yGq) (.seq (.reg yGp) (.cond (.t 19) yGo .skip)))
abbrev yGs:List AG:=[o 11 (.next (.t 10)),zzc 12 11 0]
abbrev yGt:ACode:=(.seq (.reg yGs) (.seq (.cond (.t 12) .skip (.exit 0)) (.block 1 [] yGr)))
abbrev yGu:List AG:=[zz1 9 0,o 10 (.range (.t 9))]
abbrev yGv:List AG:=[zz9 6 0]
abbrev strings_indexFunc:AFun:=⟨(.seq (.reg yGv) (.seq (.seq (.reg yGu) (.block 0 yGm (.loop yGl yGt))) (.seq (.reg yGk) .ret))),21,[.tmp 6]⟩
abbrev yGw:List It:=[.code (.seq (.reg yGk) .ret)]
abbrev yGx (x1 x2 x10:AV) (h:List Ob) (e:Cx:=cx):Cfg:=atC n_strings_indexFunc (.code yGt::.inLoop yGl yGt::.inBlock 0 yGm::yGw) [U,x1,x2,U,U,U,U,U,U,U,x10,U,U,U,U,U,U,U,U,U,U] h e
@[simp] theorem c_strings_indexFunc:cfun Tryz.prog n_strings_indexFunc=some strings_indexFunc:=by kernel_rfl
@[simp] theorem e_strings_indexFunc:hasBody Tryz.prog n_strings_indexFunc=true:=by kernel_rfl
abbrev yGy:List AG:=[zz1 7 0,zz1 8 1,zz5 9 1 7 8,zz2 10 1 9,zz1 11 0,zz1 12 2,zz5 13 1 11 12,zz2 14 1 13,zz7 15 10 14,zz1 6 15]
abbrev yGz:List AG:=[zzh 6]
abbrev order_pile_Less:AFun:=⟨(.seq (.reg yGz) (.seq (.dreg [O,O,O,O,O,O,O,O,O,O] [11,11,11,11,11,11,11,11,11,11] yGy) .ret)),16,[.tmp 6]⟩
@[simp] theorem c_order_pile_Less:cfun Tryz.prog n_order_pile_Less=some order_pile_Less:=by kernel_rfl
@[simp] theorem e_order_pile_Less:hasBody Tryz.prog n_order_pile_Less=true:=by kernel_rfl
abbrev yGA:List AG:=[zz1 25 3,o 26 (.mkIface t_int (.t 25)),zz1 2 26]
abbrev yGB:List AG:=[zz1 14 0,zz1 15 0,o 16 (.nilck (.t 15)),zz2 17 1 16,zz1 18 0,o 19 (.nilck (.t 18)),zz2 20 1 19,zza 21 20,o 22 (.ibin .sub (.t 21) (.c (.int .i64 1))),o 23 (.slice 1 (.t 17) none (some (.t 22))),o 24 (.nilck (.t 14)),zzb 1 24 23]
abbrev yGC:List AG:=[zz1 4 0,o 5 (.nilck (.t 4)),zz2 6 1 5,zz1 7 0,o 8 (.nilck (.t 7)),zz2 9 1 8,zza 10 9,o 11 (.ibin .sub (.t 10) (.c (.int .i64 1))),zz5 12 1 6 11,zz2 13 1 12,zz1 3 13]
abbrev yGD:List AG:=[o 2 (.mv (.c .nili))]
abbrev order_pile_Pop:AFun:=⟨(.seq (.reg yGD) (.seq (.dreg [O,O,O,O,O,O,O,O,O,O,O] [12,12,12,12,12,12,12,12,12,12,12] yGC) (.seq (.dreg [O,O,O,O,O,O,O,O,O,O,O,O] [12,12,12,12,12,12,12,12,12,12,12,13] yGB) (.seq (.reg yGA) .ret)))),27,[.tmp 2]⟩
@[simp] theorem c_order_pile_Pop:cfun Tryz.prog n_order_pile_Pop=some order_pile_Pop:=by kernel_rfl
@[simp] theorem e_order_pile_Pop:hasBody Tryz.prog n_order_pile_Pop=true:=by kernel_rfl
abbrev yGE:List AG:=[zz1 4 0,zz1 5 0,o 6 (.nilck (.t 5)),zz2 7 1 6,zz1 8 1,o 9 (.tassert (.t 8) t_int (.int .i64 0) false),o 10 (.lit 1 [(.int .i64 0)] [(0,(.t 9))]),o 11 (.append 1 t_int 8 (.t 7) (.t 10)),o 12 (.nilck (.t 4)),zzb 1 12 11]
abbrev order_pile_Push:AFun:=⟨(.dreg [O,O,O,I,O,O,O,O,O,O] [10,8,8,8,7,7,8,10,10,11] yGE),13,[]⟩
@[simp] theorem c_order_pile_Push:cfun Tryz.prog n_order_pile_Push=some order_pile_Push:=by kernel_rfl
@[simp] theorem e_order_pile_Push:hasBody Tryz.prog n_order_pile_Push=true:=by kernel_rfl
abbrev yGF:List AG:=[zz1 6 0,zz1 7 1,zz1 8 0,zz1 9 2,zz1 10 0,zz1 11 2,zz5 12 1 10 11,zz2 13 1 12,zz1 14 0,zz1 15 1,zz5 16 1 14 15,zz2 17 1 16,zz5 18 1 6 7,zzb 1 18 13,zz5 19 1 8 9,zzb 1 19 17]
abbrev order_pile_Swap:AFun:=⟨(.dreg [O,O,O,O,O,O,O,O,O,O,O,O,O,O,O,O] [14,14,16,16,14,14,14,14,14,14,14,14,14,16,16,17] yGF),20,[]⟩
@[simp] theorem c_order_pile_Swap:cfun Tryz.prog n_order_pile_Swap=some order_pile_Swap:=by kernel_rfl
@[simp] theorem e_order_pile_Swap:hasBody Tryz.prog n_order_pile_Swap=true:=by kernel_rfl
end Go.Proofs.YtpinapmcemimcaaGreatDoor
