/- The functions, as the abstract machine has them. Printed by a program. -/
import Derived.Test.YtpinapmcemimcaaGreatDoorAMd
import Derived.Test.YtpinapmcemimcaaGreatDoorChecked
import Derived.KernelRfl
set_option linter.unusedSimpArgs false
set_option linter.unusedVariables false
namespace Go.Proofs.YtpinapmcemimcaaGreatDoor
open Go.AM Go.Proofs
abbrev zz1 (d i:Nat):AG:=o d (.mv (.t i))
abbrev zz2 (d k i:Nat):AG:=o d (.load false k (.t i))
abbrev zz3 (d k i:Nat):AG:=o d (.load true k (.t i))
abbrev zz4 (d k i:Nat):AG:=o d (.off k (.t i))
abbrev zz5 (d k i j:Nat):AG:=o d (.ixAddr k (.t i) (.t j))
abbrev zz6 (d i:Nat) (n:Int):AG:=o d (.ibin .add (.t i) (.c (.int .i64 n)))
abbrev zz7 (d i j:Nat):AG:=o d (.cmp .lss (.sc .int) (.t i) (.t j))
abbrev zz8 (d i j:Nat):AG:=o d (.pick (.t i) (.t j) (.c (.bool false)))
abbrev zz9 (d:Nat) (n:Int):AG:=o d (.mv (.c (.int .i64 n)))
abbrev zza (d i:Nat):AG:=o d (.len (.t i))
abbrev zzb (k a x:Nat):AG:=q (.store k (.t a) (.t x))
abbrev zzc (d i k:Nat):AG:=o d (.extract (.t i) k)
abbrev zzd (d j k i:Nat):AG:=oy d j (.load false k (.t i))
abbrev zze (d j i:Nat):AG:=oy d j (.mv (.t i))
abbrev zzf (d:Nat) (f:FuncId) (i:Nat):AG:=o d (.call (.f f) [(.t i)])
abbrev zzg (d:Nat) (f:FuncId) (i j:Nat):AG:=o d (.call (.f f) [(.t i),(.t j)])
abbrev zzh (d:Nat):AG:=o d (.mv (.c (.bool false)))
abbrev n_w08_StepTells:FuncId:=4
abbrev n_w08_StepRuns:FuncId:=5
abbrev n_w08_StepTurns:FuncId:=7
abbrev n_w08_works:FuncId:=8
abbrev n_w06_FewGate:FuncId:=9
abbrev n_step_Gate:FuncId:=10
abbrev n_r08_Gate:FuncId:=11
abbrev n_w07_Little:FuncId:=12
abbrev n_step_Start:FuncId:=13
abbrev n_r08_Start:FuncId:=14
abbrev n_step_Values:FuncId:=15
abbrev n_r08_Values:FuncId:=16
abbrev n_step_Step:FuncId:=17
abbrev n_r08_Step:FuncId:=18
abbrev n_r08_Allowed:FuncId:=19
abbrev n_r08_Bools:FuncId:=20
abbrev n_step_Allowed:FuncId:=21
abbrev n_w08_Rows:FuncId:=22
abbrev n_step_Run:FuncId:=23
abbrev n_r08_Run:FuncId:=24
abbrev n_r08_Rows:FuncId:=25
abbrev n_w06_Few:FuncId:=26
abbrev n_r06_Place:FuncId:=28
abbrev n_net_Canon:FuncId:=29
abbrev n_w05_Texts:FuncId:=30
abbrev n_net_Gate:FuncId:=31
abbrev n_step_of:FuncId:=32
abbrev n_step_Gate_1:FuncId:=33
abbrev n_slices_ContainsFunc_string_string:FuncId:=34
abbrev n_step_Gate_1_1:FuncId:=35
abbrev n_step_fits:FuncId:=36
abbrev n_r06_Gate:FuncId:=37
abbrev n_r06_Rows:FuncId:=38
abbrev n_r08_fits:FuncId:=39
abbrev n_step_right:FuncId:=40
abbrev n_r08_right:FuncId:=41
abbrev n_step_begin:FuncId:=42
abbrev n_step_machine_values:FuncId:=43
abbrev n_step_pick:FuncId:=44
abbrev n_r07_Sort:FuncId:=45
abbrev n_step_machine_step:FuncId:=46
abbrev n_step_machine_steps:FuncId:=47
abbrev n_slices_Clone_bool_bool:FuncId:=48
abbrev n_order_right:FuncId:=49
abbrev n_slices_Clone_string_string:FuncId:=51
abbrev n_r06_Nets:FuncId:=53
abbrev n_net_has:FuncId:=54
abbrev n_net_rows:FuncId:=55
abbrev n_slices_Equal_string_string:FuncId:=56
abbrev n_net_Gate_1:FuncId:=57
abbrev n_net_row:FuncId:=58
abbrev n_step_of_1:FuncId:=59
abbrev n_step_of_2:FuncId:=60
abbrev n_step_count:FuncId:=61
abbrev n_step_of_3:FuncId:=62
abbrev n_step_of_4:FuncId:=63
abbrev n_slices_IndexFunc_string_string:FuncId:=64
abbrev n_r06_row:FuncId:=65
abbrev n_r06_all:FuncId:=66
abbrev n_r06_odd:FuncId:=67
abbrev n_order_Check:FuncId:=68
abbrev n_r07_Check:FuncId:=69
abbrev n_order_Sort:FuncId:=70
abbrev n_net_Nets:FuncId:=71
abbrev n_slices_Concat_bool_bool:FuncId:=72
abbrev n_r07_right:FuncId:=73
abbrev n_r07_waits:FuncId:=74
abbrev n_step_machine_steps_1:FuncId:=75
abbrev n_net_Check:FuncId:=76
abbrev n_strings_Repeat:FuncId:=78
abbrev n_net_parity:FuncId:=79
abbrev n_strings_Trim:FuncId:=80
abbrev n_r06_Check:FuncId:=81
abbrev n_order_places:FuncId:=82
abbrev n_order_coming:FuncId:=83
abbrev n_slices_Grow_bool_bool:FuncId:=84
abbrev n_net_Check_1:FuncId:=85
abbrev n_net_Check_2:FuncId:=86
abbrev n_net_need:FuncId:=87
abbrev n_slices_ContainsFunc_api_Gate_api_Gate:FuncId:=88
abbrev n_net_told:FuncId:=89
abbrev n_ident_Name:FuncId:=90
abbrev n_net_once:FuncId:=91
abbrev n_net_used:FuncId:=92
abbrev n_net_parity_1:FuncId:=99
abbrev n_math_bits_OnesCount:FuncId:=100
abbrev n_r06_limit:FuncId:=108
abbrev n_r06_Told:FuncId:=109
abbrev n_r04_Name:FuncId:=110
abbrev n_r06_twice:FuncId:=111
abbrev n_r06_Used:FuncId:=112
abbrev n_r01_Has:FuncId:=113
abbrev n_order_coming_1:FuncId:=114
abbrev n_order_wait:FuncId:=115
abbrev n_container_heap_Push:FuncId:=116
abbrev n_order_pile_Len:FuncId:=117
abbrev n_container_heap_Pop:FuncId:=118
abbrev n_slices_IndexFunc_api_Gate_api_Gate:FuncId:=119
abbrev n_slices_Concat_string_string:FuncId:=120
abbrev n_ident_name_plain:FuncId:=121
abbrev n_math_bits_OnesCount32:FuncId:=127
abbrev n_math_bits_OnesCount64:FuncId:=128
abbrev n_container_heap_up:FuncId:=133
abbrev n_container_heap_down:FuncId:=134
abbrev n_slices_Grow_string_string:FuncId:=135
abbrev n_ident_name_plain_1:FuncId:=136
abbrev n_strings_IndexFunc:FuncId:=137
abbrev n_strings_indexFunc:FuncId:=143
abbrev n_order_pile_Less:FuncId:=168
abbrev n_order_pile_Pop:FuncId:=169
abbrev n_order_pile_Push:FuncId:=170
abbrev n_order_pile_Swap:FuncId:=171
abbrev t_int:TypeId:=3
abbrev t_bool:TypeId:=4
abbrev t_uint8:TypeId:=5
abbrev t_string:TypeId:=9
abbrev t_api_Gate:TypeId:=25
abbrev t_bool_2:TypeId:=26
abbrev t_api_Latch_2:TypeId:=55
abbrev t_int_2:TypeId:=75
abbrev t_net_wrong:TypeId:=118
abbrev t_order_pile:TypeId:=153
@[simp] theorem m_order_pile_Push:cmeth Tryz.prog t_order_pile "Push" = some (n_order_pile_Push,none):=by kernel_rfl
@[simp] theorem m_order_pile_Len:cmeth Tryz.prog t_order_pile "Len" = some (n_order_pile_Len,some (false,1)):=by kernel_rfl
@[simp] theorem m_order_pile_Swap:cmeth Tryz.prog t_order_pile "Swap" = some (n_order_pile_Swap,some (false,1)):=by kernel_rfl
@[simp] theorem m_order_pile_Pop:cmeth Tryz.prog t_order_pile "Pop" = some (n_order_pile_Pop,none):=by kernel_rfl
@[simp] theorem m_order_pile_Less:cmeth Tryz.prog t_order_pile "Less" = some (n_order_pile_Less,some (false,1)):=by kernel_rfl
abbrev t_order_pile_2:TypeId:=154
@[simp] theorem m_order_pile_2_Len:cmeth Tryz.prog t_order_pile_2 "Len" = some (n_order_pile_Len,none):=by kernel_rfl
@[simp] theorem m_order_pile_2_Swap:cmeth Tryz.prog t_order_pile_2 "Swap" = some (n_order_pile_Swap,none):=by kernel_rfl
@[simp] theorem m_order_pile_2_Less:cmeth Tryz.prog t_order_pile_2 "Less" = some (n_order_pile_Less,none):=by kernel_rfl
abbrev t_map_int_bool_2:TypeId:=155
abbrev ya:List AG:=[zz1 94 9,zz1 95 94,zze 96 95 11,zze 97 95 13,oy 98 95 (.call (.f n_r08_Bools) [(.t 96),(.t 97)]),zz8 99 95 98,zz1 100 99,zze 101 100 12,zze 102 100 14,oy 103 100 (.cmp .eql (.sc .int) (.t 101) (.t 102)),zz8 104 100 103,zz1 105 104,zze 106 105 15,zze 107 105 17,oy 108 105 (.call (.f n_r08_Bools) [(.t 106),(.t 107)]),zz8 109 105 108,zz1 110 109,zze 111 110 16,zze 112 110 18,oy 113 110 (.cmp .eql (.sc .int) (.t 111) (.t 112)),zz8 114 110 113,zz1 115 114,zze 116 115 19,zze 117 115 22,oy 118 115 (.call (.f n_r08_Bools) [(.t 116),(.t 117)]),zz8 119 115 118,zz1 120 119,zze 121 120 20,zze 122 120 23,oy 123 120 (.call (.f n_r08_Bools) [(.t 121),(.t 122)]),zz8 124 120 123,zz1 125 124,zze 126 125 21,zze 127 125 24,oy 128 125 (.cmp .eql (.sc .int) (.t 126) (.t 127)),zz8 129 125 128,zz1 130 129,oy 131 130 (.load true 4 (.t 4)),zze 132 130 1,oy 133 130 (.call (.f n_step_Allowed) [(.t 131),(.t 132)]),zze 134 130 25,oy 135 130 (.cmp .eql (.sc .bool) (.t 133) (.t 134)),zz8 136 130 135,zz1 8 136]
abbrev yd:List AG:=[zz3 91 4 4,zz1 92 1,zzg 93 n_r08_Allowed 91 92,zz1 25 93]
abbrev ye:List AG:=[zz3 84 4 4,zz1 85 1,zz1 86 2,o 87 (.call (.f n_r08_Step) [(.t 84),(.t 85),(.t 86)]),zz1 83 87,zzc 88 83 0,zzc 89 83 1,zzc 90 83 2,zz1 22 88,zz1 23 89,zz1 24 90]
abbrev yf:List AG:=[zz3 76 4 4,zz1 77 1,zz1 78 2,o 79 (.call (.f n_step_Step) [(.t 76),(.t 77),(.t 78)]),zz1 75 79,zzc 80 75 0,zzc 81 75 1,zzc 82 75 2,zz1 19 80,zz1 20 81,zz1 21 82]
abbrev yg:List AG:=[zz3 69 4 4,zz1 70 1,zz1 71 2,o 72 (.call (.f n_r08_Values) [(.t 69),(.t 70),(.t 71)]),zz1 68 72,zzc 73 68 0,zzc 74 68 1,zz1 17 73,zz1 18 74]
abbrev yh:List AG:=[zz3 62 4 4,zz1 63 1,zz1 64 2,o 65 (.call (.f n_step_Values) [(.t 62),(.t 63),(.t 64)]),zz1 61 65,zzc 66 61 0,zzc 67 61 1,zz1 15 66,zz1 16 67]
abbrev yi:List AG:=[zz3 56 4 4,zz1 57 3,zzg 58 n_r08_Start 56 57,zz1 55 58,zzc 59 55 0,zzc 60 55 1,zz1 13 59,zz1 14 60]
abbrev yj:List AG:=[zz3 50 4 4,zz1 51 3,zzg 52 n_step_Start 50 51,zz1 49 52,zzc 53 49 0,zzc 54 49 1,zz1 11 53,zz1 12 54]
abbrev yk:List AG:=[zz1 48 9,zz1 8 48]
abbrev ym:ACode:=(.seq (.reg yk) .ret)
abbrev yo:List AG:=[zz1 31 10,o 32 (.not (.t 31)),zz1 33 32,on 34 33 (.mv (.t 1)),on 35 33 (.len (.t 34)),on 36 33 (.cmp .gtr (.sc .int) (.t 35) (.c (.int .i64 60))),o 37 (.pick (.t 33) (.c (.bool true)) (.t 36)),zz1 38 37,on 39 38 (.mv (.t 2)),on 40 38 (.len (.t 39)),on 41 38 (.cmp .gtr (.sc .int) (.t 40) (.c (.int .i64 60))),o 42 (.pick (.t 38) (.c (.bool true)) (.t 41)),zz1 43 42,on 44 43 (.mv (.t 3)),on 45 43 (.len (.t 44)),on 46 43 (.cmp .gtr (.sc .int) (.t 45) (.c (.int .i64 60))),o 47 (.pick (.t 43) (.c (.bool true)) (.t 46))]
abbrev yp:List AG:=[zz3 29 4 4,zzf 30 n_w07_Little 29,zz1 10 30]
abbrev yq:List AG:=[zzh 8]
abbrev yr:ACode:=(.seq (.reg yq) .ret)
abbrev yu:List AG:=[zz1 27 9,o 28 (.not (.t 27))]
abbrev yv:List AG:=[o 26 (.call (.f n_w08_works) []),zz1 9 26]
abbrev yw:List AG:=[o 4 (.box 4 (.t 0)),zzh 8]
abbrev w08_StepTells:AFun:=⟨(.seq (.reg yw) (.seq (.reg yv) (.seq (.seq (.reg yu) (.cond (.t 28) yr .skip)) (.seq (.reg yp) (.seq (.seq (.reg yo) (.cond (.t 47) ym .skip)) (.seq (.reg yj) (.seq (.reg yi) (.seq (.reg yh) (.seq (.reg yg) (.seq (.reg yf) (.seq (.reg ye) (.seq (.reg yd) (.seq (.reg ya) .ret))))))))))))),137,[.tmp 8]⟩
@[simp] theorem c_w08_StepTells:cfun Tryz.prog n_w08_StepTells=some w08_StepTells:=by kernel_rfl
@[simp] theorem e_w08_StepTells:hasBody Tryz.prog n_w08_StepTells=true:=by kernel_rfl
abbrev yx:List AG:=[zz1 59 7,zz1 60 59,zze 61 60 9,zze 62 60 12,oy 63 60 (.call (.f n_r08_Rows) [(.t 61),(.t 62)]),zz8 64 60 63,zz1 65 64,zze 66 65 10,zze 67 65 13,oy 68 65 (.call (.f n_r08_Bools) [(.t 66),(.t 67)]),zz8 69 65 68,zz1 70 69,zze 71 70 11,zze 72 70 14,oy 73 70 (.cmp .eql (.sc .int) (.t 71) (.t 72)),zz8 74 70 73,zz1 6 74]
abbrev yy:List AG:=[zz3 52 4 3,zz1 53 1,zz1 54 2,o 55 (.call (.f n_r08_Run) [(.t 52),(.t 53),(.t 54)]),zz1 51 55,zzc 56 51 0,zzc 57 51 1,zzc 58 51 2,zz1 12 56,zz1 13 57,zz1 14 58]
abbrev yz:List AG:=[zz3 44 4 3,zz1 45 1,zz1 46 2,o 47 (.call (.f n_step_Run) [(.t 44),(.t 45),(.t 46)]),zz1 43 47,zzc 48 43 0,zzc 49 43 1,zzc 50 43 2,zz1 9 48,zz1 10 49,zz1 11 50]
abbrev yA:List AG:=[zz1 42 7,zz1 6 42]
abbrev yB:ACode:=(.seq (.reg yA) .ret)
abbrev yC:List AG:=[zz1 24 8,o 25 (.not (.t 24)),zz1 26 25,on 27 26 (.mv (.t 1)),on 28 26 (.len (.t 27)),on 29 26 (.cmp .gtr (.sc .int) (.t 28) (.c (.int .i64 60))),o 30 (.pick (.t 26) (.c (.bool true)) (.t 29)),zz1 31 30,on 32 31 (.mv (.t 2)),on 33 31 (.len (.t 32)),on 34 31 (.cmp .gtr (.sc .int) (.t 33) (.c (.int .i64 6))),on 35 31 (.mv (.t 34)),oy 36 35 (.off 3 (.t 3)),zzd 37 35 1 36,oy 38 35 (.len (.t 37)),oy 39 35 (.cmp .gtr (.sc .int) (.t 38) (.c (.int .i64 12))),on 40 31 (.pick (.t 35) (.t 39) (.c (.bool false))),o 41 (.pick (.t 31) (.c (.bool true)) (.t 40))]
abbrev yD:List AG:=[zz3 18 4 3,zzf 19 n_w07_Little 18,zz1 20 19,zze 21 20 2,oy 22 20 (.call (.f n_w08_Rows) [(.t 21),(.c (.int .i64 45))]),zz8 23 20 22,zz1 8 23]
abbrev yE:List AG:=[zzh 6]
abbrev yF:ACode:=(.seq (.reg yE) .ret)
abbrev yG:List AG:=[zz1 16 7,o 17 (.not (.t 16))]
abbrev yH:List AG:=[o 15 (.call (.f n_w08_works) []),zz1 7 15]
abbrev yI:List AG:=[o 3 (.box 4 (.t 0)),zzh 6]
abbrev w08_StepRuns:AFun:=⟨(.seq (.reg yI) (.seq (.reg yH) (.seq (.seq (.reg yG) (.cond (.t 17) yF .skip)) (.seq (.reg yD) (.seq (.seq (.reg yC) (.cond (.t 41) yB .skip)) (.seq (.reg yz) (.seq (.reg yy) (.seq (.reg yx) .ret)))))))),75,[.tmp 6]⟩
@[simp] theorem c_w08_StepRuns:cfun Tryz.prog n_w08_StepRuns=some w08_StepRuns:=by kernel_rfl
@[simp] theorem e_w08_StepRuns:hasBody Tryz.prog n_w08_StepRuns=true:=by kernel_rfl
abbrev yJ:List AG:=[zz1 106 5,zz1 107 106,zze 108 107 10,oy 109 107 (.cmp .eql (.sc .int) (.t 108) (.c (.int .i64 0))),zz8 110 107 109,zz1 111 110,zze 112 111 7,zze 113 111 9,oy 114 111 (.cmp .eql (.sc .bool) (.t 112) (.t 113)),zz8 115 111 114,zz1 116 115,zze 117 116 16,oy 118 116 (.cmp .eql (.sc .int) (.t 117) (.c (.int .i64 0))),zz8 119 116 118,zz1 120 119,zze 121 120 15,zze 122 120 7,oy 123 120 (.not (.t 122)),oy 124 120 (.cmp .eql (.sc .bool) (.t 121) (.t 123)),zz8 125 120 124,zz1 4 125]
abbrev yK:List AG:=[zz3 101 5 11,zz1 102 14,zzg 103 n_step_Gate 101 102,zz1 100 103,zzc 104 100 0,zzc 105 100 1,zz1 15 104,zz1 16 105]
abbrev yL:List AG:=[zz4 77 1 11,q (.store 1 (.t 77) (.c (.int .i64 1)))]
abbrev yM:List AG:=[zz4 80 1 11,q (.store 1 (.t 80) (.c (.int .i64 3)))]
abbrev yN:List AG:=[zz1 84 12,zz1 14 84]
abbrev yO:List AG:=[zz4 83 1 11,q (.store 1 (.t 83) (.c (.int .i64 6)))]
abbrev yP:List AG:=[zz4 87 1 11,q (.store 1 (.t 87) (.c (.int .i64 4)))]
abbrev yQ:List AG:=[zz4 90 1 11,q (.store 1 (.t 90) (.c (.int .i64 6)))]
abbrev yR:List AG:=[zz4 93 1 11,q (.store 1 (.t 93) (.c (.int .i64 9)))]
abbrev yS:List AG:=[zz4 96 4 2,zz2 97 1 96,o 98 (.not (.t 97)),zz4 99 4 11,zzb 1 99 98]
abbrev yT:List AG:=[zz1 65 5,zz1 66 65,zze 67 66 10,oy 68 66 (.cmp .eql (.sc .int) (.t 67) (.c (.int .i64 0))),zz8 69 66 68,zz1 70 69,zze 71 70 7,zze 72 70 9,oy 73 70 (.cmp .eql (.sc .bool) (.t 71) (.t 72)),zz8 74 70 73,zz1 4 74]
abbrev yU:ACode:=(.seq (.reg yT) .ret)
abbrev yV:List AG:=[o 95 (.cmp .eql (.sc .int) (.t 64) (.c (.int .i64 10))),zz1 94 95]
abbrev yW:ACode:=(.seq (.reg yV) (.cond (.t 94) (.reg yS) yU))
abbrev yX:List AG:=[o 92 (.cmp .eql (.sc .int) (.t 64) (.c (.int .i64 8))),zz1 91 92]
abbrev yY:ACode:=(.seq (.reg yX) (.cond (.t 91) (.reg yR) yW))
abbrev yZ:List AG:=[o 89 (.cmp .eql (.sc .int) (.t 64) (.c (.int .i64 7))),zz1 88 89]
abbrev yba:ACode:=(.seq (.reg yZ) (.cond (.t 88) (.reg yQ) yY))
abbrev ybb:List AG:=[o 86 (.cmp .eql (.sc .int) (.t 64) (.c (.int .i64 5))),zz1 85 86]
abbrev ybc:ACode:=(.seq (.reg yO) (.reg yN))
abbrev ybd:ACode:=(.seq (.reg ybb) (.cond (.t 85) (.reg yP) yba))
abbrev ybe:List AG:=[o 82 (.cmp .eql (.sc .int) (.t 64) (.c (.int .i64 4))),zz1 81 82]
abbrev ybf:ACode:=(.seq (.reg ybe) (.cond (.t 81) ybc ybd))
abbrev ybg:List AG:=[o 79 (.cmp .eql (.sc .int) (.t 64) (.c (.int .i64 2))),zz1 78 79]
abbrev ybh:ACode:=(.seq (.reg ybg) (.cond (.t 78) (.reg yM) ybf))
abbrev ybi:List AG:=[o 76 (.cmp .eql (.sc .int) (.t 64) (.c (.int .i64 0))),zz1 75 76]
abbrev ybj:ACode:=(.seq (.reg ybi) (.cond (.t 75) (.reg yL) ybh))
abbrev ybk:List AG:=[zz4 63 1 2,zz2 64 1 63]
abbrev ybl:List AG:=[zz1 62 1,zz1 14 62]
abbrev ybm:List Bool:=[O,I,I,O,O,I,O,I,O,I,I,I,I,I,O,O,O,O,O,O,O,O,O,O,O,O,O,O,O,O,O,O,O,O,O,O,O,O,O,O,O,O,O,O,O,O,O,O,O,O,O,O,O,O,O,O,O,O,O,O,O,O,O,O,O,O,O,O,O,O,O,O,O,O,O,O,O,O,O,O,O,O,O,O,O,O,O,O,O,O,O,O,O,O,O,O,O,O,O,O,O,O,O,O,O,O,O,O,O,O,O,O,O,O,O,O,O,O,O,O,O,O,O,O,O,O]
abbrev ybn:List Bool:=[O,I,I,O,O,I,O,I,O,I,I,I,I,O,O,O,O,O,O,O,O,O,O,O,O,O,O,O,O,O,O,O,O,O,O,O,O,O,O,O,O,O,O,O,O,O,O,O,O,O,O,O,O,O,O,O,O,O,O,O,O,O,O,O,O,O,O,O,O,O,O,O,O,O,O,O,O,O,O,O,O,O,O,O,O,O,O,O,O,O,O,O,O,O,O,O,O,O,O,O,O,O,O,O,O,O,O,O,O,O,O,O,O,O,O,O,O,O,O,O,O,O,O,O,O,O]
abbrev ybo:List AG:=[zz1 52 13,zz6 53 52 1,zz1 13 53]
abbrev ybp:List AG:=[zz1 54 12,zz1 55 1,zz1 56 13,zz5 57 1 55 56,zz2 58 1 57,o 59 (.not (.t 58)),o 60 (.lit 1 [(.bool false)] [(0,(.t 59))]),o 61 (.append 1 t_bool 1 (.t 54) (.t 60)),zz1 12 61]
abbrev ybq:List AG:=[zz1 48 13,zz1 49 1,zza 50 49,zz7 51 48 50]
abbrev ybr:ACode:=(.seq (.seq (.reg ybq) (.cond (.t 51) .skip (.exit 0))) (.seq (.block 1 [] (.reg ybp)) (.reg ybo)))
abbrev ybs:List AG:=[zz9 13 0]
abbrev ybt:List AG:=[o 12 (.nilrow 1 t_bool)]
abbrev ybu:List AG:=[zz3 47 5 2,o 11 (.alloc [(.str []),(.int .i64 0),(.own 1 t_string []),(.own 1 t_string []),(.bool false)]),zzb 5 11 47]
abbrev ybv:List AG:=[zz3 41 5 2,zzf 42 n_net_Canon 41,zz1 43 1,zzg 44 n_step_Gate 42 43,zz1 40 44,zzc 45 40 0,zzc 46 40 1,zz1 9 45,zz1 10 46]
abbrev ybw:List AG:=[zz1 39 5,zz1 4 39]
abbrev ybx:ACode:=(.seq (.reg ybw) .ret)
abbrev yby:List AG:=[zz1 28 6,o 29 (.not (.t 28)),zz1 30 29,on 31 30 (.mv (.t 8)),on 32 30 (.cmp .neq (.sc .int) (.t 31) (.c (.int .i64 0))),o 33 (.pick (.t 30) (.c (.bool true)) (.t 32)),zz1 34 33,on 35 34 (.mv (.t 1)),on 36 34 (.len (.t 35)),on 37 34 (.cmp .gtr (.sc .int) (.t 36) (.c (.int .i64 60))),o 38 (.pick (.t 34) (.c (.bool true)) (.t 37))]
abbrev ybz:List AG:=[zz3 23 5 2,zz1 24 1,zzg 25 n_step_Gate 23 24,zz1 22 25,zzc 26 22 0,zzc 27 22 1,zz1 7 26,zz1 8 27]
abbrev ybA:List AG:=[zz3 20 5 2,zzf 21 n_w06_FewGate 20,zz1 6 21]
abbrev ybB:List AG:=[zzh 4]
abbrev ybC:ACode:=(.seq (.reg ybB) .ret)
abbrev ybD:List AG:=[zz1 18 5,o 19 (.not (.t 18))]
abbrev ybE:List AG:=[o 17 (.call (.f n_w08_works) []),zz1 5 17]
abbrev ybF:List AG:=[o 2 (.box 5 (.t 0)),zzh 4]
abbrev w08_StepTurns:AFun:=⟨(.seq (.reg ybF) (.seq (.reg ybE) (.seq (.seq (.reg ybD) (.cond (.t 19) ybC .skip)) (.seq (.reg ybA) (.seq (.reg ybz) (.seq (.seq (.reg yby) (.cond (.t 38) ybx .skip)) (.seq (.reg ybv) (.seq (.reg ybu) (.seq (.reg ybt) (.seq (.seq (.reg ybs) (.block 0 ybn (.loop ybm ybr))) (.seq (.reg ybl) (.seq (.seq (.reg ybk) (.block 2 [] ybj)) (.seq (.reg yK) (.seq (.reg yJ) .ret)))))))))))))),126,[.tmp 4]⟩
abbrev ybG:List It:=[.code (.seq (.reg ybl) (.seq (.seq (.reg ybk) (.block 2 [] ybj)) (.seq (.reg yK) (.seq (.reg yJ) .ret))))]
abbrev ybH (x1 x2 x5 x7 x9 x10 x11 x12 x13:AV) (h:List Ob) (e:Cx:=cx):Cfg:=atC n_w08_StepTurns (.code ybr::.inLoop ybm ybr::.inBlock 0 ybn::ybG) [U,x1,x2,U,U,x5,U,x7,U,x9,x10,x11,x12,x13,U,U,U,U,U,U,U,U,U,U,U,U,U,U,U,U,U,U,U,U,U,U,U,U,U,U,U,U,U,U,U,U,U,U,U,U,U,U,U,U,U,U,U,U,U,U,U,U,U,U,U,U,U,U,U,U,U,U,U,U,U,U,U,U,U,U,U,U,U,U,U,U,U,U,U,U,U,U,U,U,U,U,U,U,U,U,U,U,U,U,U,U,U,U,U,U,U,U,U,U,U,U,U,U,U,U,U,U,U,U,U,U] h e
abbrev ybI (x1 x2 x5 x7 x9 x10 x11 x12:AV) (h:List Ob) (e:Cx:=cx):Cfg:=atC n_w08_StepTurns ybG [U,x1,x2,U,U,x5,U,x7,U,x9,x10,x11,x12,U,U,U,U,U,U,U,U,U,U,U,U,U,U,U,U,U,U,U,U,U,U,U,U,U,U,U,U,U,U,U,U,U,U,U,U,U,U,U,U,U,U,U,U,U,U,U,U,U,U,U,U,U,U,U,U,U,U,U,U,U,U,U,U,U,U,U,U,U,U,U,U,U,U,U,U,U,U,U,U,U,U,U,U,U,U,U,U,U,U,U,U,U,U,U,U,U,U,U,U,U,U,U,U,U,U,U,U,U,U,U,U,U] h e
@[simp] theorem c_w08_StepTurns:cfun Tryz.prog n_w08_StepTurns=some w08_StepTurns:=by kernel_rfl
@[simp] theorem e_w08_StepTurns:hasBody Tryz.prog n_w08_StepTurns=true:=by kernel_rfl
abbrev ybJ:List AG:=[zz1 54 3,o 55 (.cmp .eql (.sc .int) (.t 54) (.c (.int .i64 0))),zz1 56 55,zze 57 56 4,oy 58 56 (.lit 1 [(.bool false)] [(0,(.c (.bool false)))]),oy 59 56 (.lit 1 [(.bool false)] [(0,(.c (.bool true)))]),oy 60 56 (.lit 1 [(.bool false)] [(0,(.c (.bool false)))]),oy 61 56 (.lit 1 [(.list true 0 []),(.list true 0 []),(.list true 0 [])] [(0,(.t 58)),(1,(.t 59)),(2,(.t 60))]),oy 62 56 (.call (.f n_r08_Rows) [(.t 57),(.t 61)]),zz8 63 56 62,zz1 64 63,zze 65 64 5,oy 66 64 (.len (.t 65)),oy 67 64 (.cmp .eql (.sc .int) (.t 66) (.c (.int .i64 1))),zz8 68 64 67,zz1 69 68,zze 70 69 5,oy 71 69 (.ixAddr 1 (.t 70) (.c (.int .i64 0))),zzd 72 69 1 71,zz8 73 69 72,zz1 74 73,zze 75 74 6,oy 76 74 (.cmp .eql (.sc .int) (.t 75) (.c (.int .i64 0))),zz8 77 74 76,zz1 78 77,zze 79 78 7,oy 80 78 (.not (.t 79)),zz8 81 78 80,zz1 82 81,zze 83 82 8,oy 84 82 (.cmp .eql (.sc .int) (.t 83) (.c (.int .i64 0))),zz8 85 82 84,zz1 86 85,zze 87 86 9,oy 88 86 (.lit 1 [(.bool false),(.bool false)] [(0,(.c (.bool false))),(1,(.c (.bool true)))]),oy 89 86 (.call (.f n_r08_Bools) [(.t 87),(.t 88)]),zz8 90 86 89,zz1 91 90,zze 92 91 10,oy 93 91 (.cmp .eql (.sc .int) (.t 92) (.c (.int .i64 0))),zz8 94 91 93,zz1 95 94,zze 96 95 13,oy 97 95 (.cmp .eql (.sc .int) (.t 96) (.c (.int .i64 11))),zz8 98 95 97,zz1 99 98,oy 100 99 (.load true 4 (.t 1)),zze 101 99 2,oy 102 99 (.call (.f n_step_Allowed) [(.t 100),(.t 101)]),zz8 103 99 102,zz1 104 103,oy 105 104 (.load true 4 (.t 1)),zze 106 104 5,oy 107 104 (.call (.f n_step_Allowed) [(.t 105),(.t 106)]),oy 108 104 (.not (.t 107)),zz8 109 104 108,zz1 0 109]
abbrev ybK:List AG:=[zz3 49 4 1,o 50 (.call (.f n_step_Step) [(.t 49),(.c (.list true 0 [])),(.c (.list true 0 []))]),zz1 48 50,zzc 51 48 0,zzc 52 48 1,zzc 53 48 2,zz1 11 51,zz1 12 52,zz1 13 53]
abbrev ybL:List AG:=[zz3 43 4 1,zz1 44 2,o 45 (.call (.f n_step_Values) [(.t 43),(.t 44),(.c (.list true 0 []))]),zz1 42 45,zzc 46 42 0,zzc 47 42 1,zz1 9 46,zz1 10 47]
abbrev ybM:List AG:=[o 35 (.lit 1 [(.str []),(.str [])] [(0,(.c (.str [97]))),(1,(.c (.str [98])))]),o 36 (.lit 1 [(.str [])] [(0,(.c (.str [49,45])))]),o 37 (.build [(.str []),(.int .i64 0),(.list true 0 []),(.list true 0 []),(.bool false)] [(1,1,(.c (.int .i64 10))),(2,1,(.t 35)),(3,1,(.t 36)),(4,1,(.c (.bool true)))]),o 38 (.lit 1 [(.bool false),(.bool false)] [(0,(.c (.bool true))),(1,(.c (.bool false)))]),zzg 39 n_step_Gate 37 38,zz1 34 39,zzc 40 34 0,zzc 41 34 1,zz1 7 40,zz1 8 41]
abbrev ybN:List AG:=[zz3 27 4 1,zz1 28 2,o 29 (.lit 1 [(.list true 0 []),(.list true 0 []),(.list true 0 [])] [(0,(.c (.list true 0 []))),(1,(.c (.list true 0 []))),(2,(.c (.list true 0 [])))]),o 30 (.call (.f n_step_Run) [(.t 27),(.t 28),(.t 29)]),zz1 26 30,zzc 31 26 0,zzc 32 26 1,zzc 33 26 2,zz1 4 31,zz1 5 32,zz1 6 33]
abbrev ybO:List AG:=[zz3 22 4 1,o 23 (.call (.f n_step_Start) [(.t 22),(.c (.list true 0 []))]),zz1 21 23,zzc 24 21 0,zzc 25 21 1,zz1 2 24,zz1 3 25]
abbrev ybP:List AG:=[o 14 (.lit 1 [(.str [])] [(0,(.c (.str [113])))]),o 15 (.build [(.str []),(.str []),(.int .i64 0)] [(0,1,(.c (.str [113]))),(1,1,(.c (.str [122])))]),o 16 (.lit 3 [(.agg [(.str []),(.str []),(.int .i64 0)])] [(0,(.t 15))]),o 17 (.lit 1 [(.str [])] [(0,(.c (.str [113])))]),o 18 (.build [(.str []),(.int .i64 0),(.list true 0 []),(.list true 0 []),(.bool false)] [(0,1,(.c (.str [122]))),(1,1,(.c (.int .i64 3))),(2,1,(.t 17))]),o 19 (.lit 5 [(.agg [(.str []),(.int .i64 0),(.list true 0 []),(.list true 0 []),(.bool false)])] [(0,(.t 18))]),o 20 (.build [(.list true 0 []),(.list true 0 []),(.list true 0 []),(.list true 0 [])] [(1,1,(.t 14)),(2,1,(.t 16)),(3,1,(.t 19))]),o 1 (.alloc [(.own 1 t_string []),(.own 1 t_string []),(.own 3 t_api_Latch_2 []),(.own 5 t_api_Gate [])]),zzb 4 1 20]
abbrev ybQ:List AG:=[zzh 0]
abbrev w08_works:AFun:=⟨(.seq (.reg ybQ) (.seq (.reg ybP) (.seq (.reg ybO) (.seq (.reg ybN) (.seq (.reg ybM) (.seq (.reg ybL) (.seq (.reg ybK) (.seq (.reg ybJ) .ret)))))))),110,[.tmp 0]⟩
@[simp] theorem c_w08_works:cfun Tryz.prog n_w08_works=some w08_works:=by kernel_rfl
@[simp] theorem e_w08_works:hasBody Tryz.prog n_w08_works=true:=by kernel_rfl
abbrev ybR:List AG:=[zz1 11 3,zz1 12 11,zze 13 12 4,zz8 14 12 13,zz1 15 14,oy 16 15 (.off 0 (.t 1)),zzd 17 15 1 16,oy 18 15 (.lenStr (.t 17)),oy 19 15 (.cmp .leq (.sc .int) (.t 18) (.c (.int .i64 60))),zz8 20 15 19,zz1 2 20]
abbrev ybS:List AG:=[zz4 8 3 1,zz2 9 1 8,o 10 (.call (.f n_w05_Texts) [(.t 9),(.c (.int .i64 140))]),zz1 4 10]
abbrev ybT:List AG:=[zz4 5 2 1,zz2 6 1 5,o 7 (.call (.f n_w05_Texts) [(.t 6),(.c (.int .i64 12))]),zz1 3 7]
abbrev ybU:List AG:=[o 1 (.box 5 (.t 0)),zzh 2]
abbrev w06_FewGate:AFun:=⟨(.seq (.reg ybU) (.seq (.reg ybT) (.seq (.reg ybS) (.seq (.reg ybR) .ret)))),21,[.tmp 2]⟩
@[simp] theorem c_w06_FewGate:cfun Tryz.prog n_w06_FewGate=some w06_FewGate:=by kernel_rfl
@[simp] theorem e_w06_FewGate:hasBody Tryz.prog n_w06_FewGate=true:=by kernel_rfl
abbrev ybV:List AG:=[zz4 29 0 6,zz2 30 1 29,zz1 31 1,o 32 (.call (.t 30) [(.t 31)]),zz4 33 1 6,zz2 34 1 33,o 35 (.cmp .neq (.sc .bool) (.t 32) (.t 34)),zz1 4 35,zz9 5 0]
abbrev ybW:List AG:=[o 27 (.mkFunc (.func n_step_Gate_1) [] [(.t 2)]),zz4 28 0 6,zzb 1 28 27]
abbrev ybX:List AG:=[zz4 24 4 2,zz2 25 1 24,zz4 26 1 6,zzb 1 26 25]
abbrev ybY:ACode:=(.seq (.reg ybX) (.reg ybW))
abbrev ybZ:List AG:=[zz4 21 1 2,zz2 22 1 21,o 23 (.cmp .eql (.sc .int) (.t 22) (.c (.int .i64 10)))]
abbrev yca:List AG:=[zz4 18 1 2,zz2 19 1 18,zzf 20 n_step_of 19,o 6 (.alloc [.nilf,(.bool false)]),zzb 2 6 20]
abbrev ycb:List AG:=[zzh 4,zz9 5 1]
abbrev ycc:ACode:=(.seq (.reg ycb) .ret)
abbrev ycd:List AG:=[zz3 7 5 2,zzf 8 n_net_Gate 7,o 9 (.not (.t 8)),zz1 10 9,on 11 10 (.mv (.t 1)),on 12 10 (.len (.t 11)),on 13 10 (.off 2 (.t 2)),on 14 10 (.load false 1 (.t 13)),on 15 10 (.len (.t 14)),on 16 10 (.cmp .neq (.sc .int) (.t 12) (.t 15)),o 17 (.pick (.t 10) (.c (.bool true)) (.t 16))]
abbrev yce:List AG:=[o 2 (.box 5 (.t 0)),zzh 4,zz9 5 0]
abbrev step_Gate:AFun:=⟨(.seq (.reg yce) (.seq (.seq (.reg ycd) (.cond (.t 17) ycc .skip)) (.seq (.reg yca) (.seq (.seq (.reg ybZ) (.cond (.t 23) ybY .skip)) (.seq (.dreg [O,O,O,O,O,I,O,O,O] [4,4,4,10,10,10,10,10,10] ybV) .ret))))),36,[.tmp 4,.tmp 5]⟩
@[simp] theorem c_step_Gate:cfun Tryz.prog n_step_Gate=some step_Gate:=by kernel_rfl
@[simp] theorem e_step_Gate:hasBody Tryz.prog n_step_Gate=true:=by kernel_rfl
abbrev ycf:List AG:=[zz1 57 11,zz1 58 7,o 59 (.cmp .neq (.sc .bool) (.t 57) (.t 58)),zz1 4 59,zz9 5 0]
abbrev ycg:List Bool:=[O,I,O,O,O,O,I,I,O,O,O,I,I,O,O,O,O,O,O,O,O,O,O,O,O,O,O,O,O,O,O,O,O,O,O,O,O,O,O,O,O,O,O,O,O,O,O,O,O,O,O,O,O,O,O,O,O,O,O,O]
abbrev ych:List Bool:=[O,O,O,O,O,O,O,I,O,O,O,I,O,O,O,O,O,O,O,O,O,O,O,O,O,O,O,O,O,O,O,O,O,O,O,O,O,O,O,O,O,O,O,O,O,O,O,O,O,O,O,O,O,O,O,O,O,O,O,O]
abbrev yci:List AG:=[zz1 46 12,zz6 47 46 1,zz1 12 47]
abbrev ycj:List AG:=[zz1 48 11,zz1 49 48,on 50 49 (.mv (.t 6)),on 51 49 (.mv (.t 12)),on 52 49 (.ixAddr 1 (.t 50) (.t 51)),on 53 49 (.load false 1 (.t 52)),on 54 49 (.mv (.t 1)),on 55 49 (.call (.f n_r08_fits) [(.t 53),(.t 54)]),o 56 (.pick (.t 49) (.c (.bool true)) (.t 55)),zz1 11 56]
abbrev yck:List AG:=[zz1 42 12,zz1 43 6,zza 44 43,zz7 45 42 44]
abbrev ycl:ACode:=(.seq (.seq (.reg yck) (.cond (.t 45) .skip (.exit 0))) (.seq (.block 1 [] (.reg ycj)) (.reg yci)))
abbrev ycm:List AG:=[zz9 12 0]
abbrev ycn:List AG:=[zzh 11]
abbrev yco:List AG:=[zz1 41 9,zz1 7 41]
abbrev ycp:List AG:=[zz1 40 8,zz1 6 40]
abbrev ycq:List AG:=[zz4 32 1 2,zz2 33 1 32,zz1 34 1,zza 35 34,zzg 36 n_r06_Rows 33 35,zz1 31 36,zzc 37 31 0,zzc 38 31 1,zzc 39 31 2,zz1 8 37,zz1 9 38,zz1 10 39]
abbrev ycr:ACode:=(.seq (.reg ycq) (.seq (.reg ycp) (.reg yco)))
abbrev ycs:List AG:=[zz4 28 1 2,zz2 29 1 28,o 30 (.cmp .neq (.sc .int) (.t 29) (.c (.int .i64 10)))]
abbrev yct:List AG:=[zz4 26 4 2,zz2 27 1 26,zz1 7 27]
abbrev ycu:List AG:=[zz4 24 3 2,zz2 25 1 24,zz1 6 25]
abbrev ycv:List AG:=[zzh 4,zz9 5 1]
abbrev ycw:ACode:=(.seq (.reg ycv) .ret)
abbrev ycx:List AG:=[zz3 13 5 2,zzf 14 n_r06_Gate 13,o 15 (.not (.t 14)),zz1 16 15,on 17 16 (.mv (.t 1)),on 18 16 (.len (.t 17)),on 19 16 (.off 2 (.t 2)),on 20 16 (.load false 1 (.t 19)),on 21 16 (.len (.t 20)),on 22 16 (.cmp .neq (.sc .int) (.t 18) (.t 21)),o 23 (.pick (.t 16) (.c (.bool true)) (.t 22))]
abbrev ycy:List AG:=[o 2 (.box 5 (.t 0)),zzh 4,zz9 5 0]
abbrev r08_Gate:AFun:=⟨(.seq (.reg ycy) (.seq (.seq (.reg ycx) (.cond (.t 23) ycw .skip)) (.seq (.reg ycu) (.seq (.reg yct) (.seq (.seq (.reg ycs) (.cond (.t 30) ycr .skip)) (.seq (.reg ycn) (.seq (.seq (.reg ycm) (.block 0 ych (.loop ycg ycl))) (.seq (.reg ycf) .ret)))))))),60,[.tmp 4,.tmp 5]⟩
@[simp] theorem c_r08_Gate:cfun Tryz.prog n_r08_Gate=some r08_Gate:=by kernel_rfl
@[simp] theorem e_r08_Gate:hasBody Tryz.prog n_r08_Gate=true:=by kernel_rfl
abbrev ycz:List AG:=[zz1 6 3,zz1 7 6,oy 8 7 (.off 3 (.t 1)),zzd 9 7 1 8,oy 10 7 (.len (.t 9)),oy 11 7 (.cmp .leq (.sc .int) (.t 10) (.c (.int .i64 24))),zz8 12 7 11,zz1 13 12,oy 14 13 (.off 0 (.t 1)),zzd 15 13 1 14,oy 16 13 (.len (.t 15)),oy 17 13 (.cmp .leq (.sc .int) (.t 16) (.c (.int .i64 24))),zz8 18 13 17,zz1 19 18,oy 20 19 (.off 2 (.t 1)),zzd 21 19 1 20,oy 22 19 (.len (.t 21)),oy 23 19 (.cmp .leq (.sc .int) (.t 22) (.c (.int .i64 24))),zz8 24 19 23,zz1 2 24]
abbrev ycA:List AG:=[zz3 4 4 1,zzf 5 n_w06_Few 4,zz1 3 5]
abbrev ycB:List AG:=[o 1 (.box 4 (.t 0)),zzh 2]
abbrev w07_Little:AFun:=⟨(.seq (.reg ycB) (.seq (.reg ycA) (.seq (.reg ycz) .ret))),25,[.tmp 2]⟩
@[simp] theorem c_w07_Little:cfun Tryz.prog n_w07_Little=some w07_Little:=by kernel_rfl
@[simp] theorem e_w07_Little:hasBody Tryz.prog n_w07_Little=true:=by kernel_rfl
abbrev ycC:List AG:=[zz1 41 6,zz1 4 41,zz9 5 0]
abbrev ycD:List Bool:=[O,I,O,O,O,O,I,O,O,O,O,O,O,O,I,I,I,O,O,O,O,O,O,O,O,O,O,O,O,O,O,O,O,O,O,O,O,O,O,O,O,O]
abbrev ycE:List Bool:=[O,O,O,O,O,O,I,O,O,O,O,O,O,O,O,O,O,O,O,O,O,O,O,O,O,O,O,O,O,O,O,O,O,O,O,O,O,O,O,O,O,O]
abbrev ycF:List AG:=[zz6 40 16 1,zz1 16 40]
abbrev ycG:List AG:=[zz1 36 6,zz1 37 9,o 38 (.lit 1 [(.bool false)] [(0,(.t 37))]),o 39 (.append 1 t_bool 1 (.t 36) (.t 38)),zz1 6 39]
abbrev ycH:List AG:=[zz1 31 1,o 32 (.ixAddr 1 (.t 31) (.c (.int .i64 0))),zz2 33 1 32,zz1 34 1,o 35 (.slice 1 (.t 34) (some (.c (.int .i64 1))) none),zz1 9 33,zz1 1 35]
abbrev ycI:List AG:=[zz4 23 2 8,zz2 24 1 23,o 25 (.cmp .eql (.sc .int) (.t 24) (.c (.int .i64 2))),zz1 26 25,zze 27 26 1,oy 28 26 (.len (.t 27)),oy 29 26 (.cmp .gtr (.sc .int) (.t 28) (.c (.int .i64 0))),zz8 30 26 29]
abbrev ycJ:List AG:=[zz4 20 2 8,zz2 21 1 20,o 22 (.cmp .eql (.sc .int) (.t 21) (.c (.int .i64 1))),zz1 9 22]
abbrev ycK:List AG:=[zz5 18 3 14 16,zz3 19 3 18,o 8 (.alloc [(.str []),(.str []),(.int .i64 0)]),zzb 3 8 19]
abbrev ycL:ACode:=(.seq (.reg ycK) (.seq (.reg ycJ) (.seq (.seq (.reg ycI) (.cond (.t 30) (.dreg [O,O,O,O,O,O,O] [8,8,8,8,8,8,8] ycH) .skip)) (.reg ycG))))
abbrev ycM:List AG:=[zz7 17 16 15]
abbrev ycN:ACode:=(.seq (.reg ycM) (.seq (.cond (.t 17) .skip (.exit 0)) (.seq (.block 1 [] ycL) (.reg ycF))))
abbrev ycO:List AG:=[zz4 13 2 2,zz2 14 1 13,zza 15 14,zz9 16 0]
abbrev ycP:List AG:=[o 6 (.nilrow 1 t_bool)]
abbrev ycQ:List AG:=[o 4 (.nilrow 1 t_bool),zz9 5 1]
abbrev ycR:ACode:=(.seq (.reg ycQ) .ret)
abbrev ycS:List AG:=[zz3 10 4 2,zzf 11 n_step_right 10,o 12 (.not (.t 11))]
abbrev ycT:List AG:=[o 2 (.box 4 (.t 0)),o 4 (.nilrow 1 t_bool),zz9 5 0]
abbrev step_Start:AFun:=⟨(.seq (.reg ycT) (.seq (.seq (.reg ycS) (.cond (.t 12) ycR .skip)) (.seq (.reg ycP) (.seq (.seq (.reg ycO) (.block 0 ycE (.loop ycD ycN))) (.seq (.reg ycC) .ret))))),42,[.tmp 4,.tmp 5]⟩
abbrev ycU:List It:=[.code (.seq (.reg ycC) .ret)]
abbrev ycV (x1 x6 x14 x15 x16:AV) (h:List Ob) (e:Cx:=cx):Cfg:=atC n_step_Start (.code ycN::.inLoop ycD ycN::.inBlock 0 ycE::ycU) [U,x1,U,U,U,U,x6,U,U,U,U,U,U,U,x14,x15,x16,U,U,U,U,U,U,U,U,U,U,U,U,U,U,U,U,U,U,U,U,U,U,U,U,U] h e
@[simp] theorem c_step_Start:cfun Tryz.prog n_step_Start=some step_Start:=by kernel_rfl
@[simp] theorem e_step_Start:hasBody Tryz.prog n_step_Start=true:=by kernel_rfl
abbrev ycW:List AG:=[zz1 50 6,zz1 4 50,zz9 5 0]
abbrev ycX:List Bool:=[O,I,I,O,O,O,I,I,I,O,O,O,O,O,O,O,O,O,O,O,O,O,O,O,O,O,O,O,O,O,O,O,O,O,O,O,O,O,O,O,O,O,O,O,O,O,O,O,O,O,O]
abbrev ycY:List Bool:=[O,O,O,O,O,O,I,O,O,O,O,O,O,O,O,O,O,O,O,O,O,O,O,O,O,O,O,O,O,O,O,O,O,O,O,O,O,O,O,O,O,O,O,O,O,O,O,O,O,O,O]
abbrev ycZ:List AG:=[zz1 18 8,zz6 19 18 1,zz1 8 19]
abbrev yda:List AG:=[zz1 46 6,zz1 47 9,o 48 (.lit 1 [(.bool false)] [(0,(.t 47))]),o 49 (.append 1 t_bool 1 (.t 46) (.t 48)),zz1 6 49]
abbrev ydb:List AG:=[zz1 44 7,zz6 45 44 1,zz1 7 45]
abbrev ydc:List AG:=[zz1 34 7,zz1 35 1,zza 36 35,zz7 37 34 36,zz1 38 37,zze 39 38 1,zze 40 38 7,oy 41 38 (.ixAddr 1 (.t 39) (.t 40)),zzd 42 38 1 41,zz8 43 38 42,zz1 9 43]
abbrev ydd:ACode:=(.seq (.reg ydc) (.reg ydb))
abbrev yde:List AG:=[zz4 27 2 2,zz2 28 1 27,zz1 29 8,zz5 30 3 28 29,zz4 31 2 30,zz2 32 1 31,o 33 (.cmp .eql (.sc .int) (.t 32) (.c (.int .i64 2)))]
abbrev ydf:List AG:=[zz4 20 2 2,zz2 21 1 20,zz1 22 8,zz5 23 3 21 22,zz4 24 2 23,zz2 25 1 24,o 26 (.cmp .eql (.sc .int) (.t 25) (.c (.int .i64 1))),zz1 9 26]
abbrev ydg:ACode:=(.seq (.reg ydf) (.seq (.seq (.reg yde) (.cond (.t 33) ydd .skip)) (.reg yda)))
abbrev ydh:List AG:=[zz1 13 8,zz4 14 2 2,zz2 15 1 14,zza 16 15,zz7 17 13 16]
abbrev ydi:ACode:=(.seq (.seq (.reg ydh) (.cond (.t 17) .skip (.exit 0))) (.seq (.block 1 [] ydg) (.reg ycZ)))
abbrev ydj:List AG:=[zz9 8 0]
abbrev ydk:List AG:=[zz9 7 0]
abbrev ydl:List AG:=[o 6 (.nilrow 1 t_bool)]
abbrev ydm:List AG:=[o 4 (.nilrow 1 t_bool),zz9 5 1]
abbrev ydn:ACode:=(.seq (.reg ydm) .ret)
abbrev ydo:List AG:=[zz3 10 4 2,zzf 11 n_r08_right 10,o 12 (.not (.t 11))]
abbrev ydp:List AG:=[o 2 (.box 4 (.t 0)),o 4 (.nilrow 1 t_bool),zz9 5 0]
abbrev r08_Start:AFun:=⟨(.seq (.reg ydp) (.seq (.seq (.reg ydo) (.cond (.t 12) ydn .skip)) (.seq (.reg ydl) (.seq (.reg ydk) (.seq (.seq (.reg ydj) (.block 0 ycY (.loop ycX ydi))) (.seq (.reg ycW) .ret)))))),51,[.tmp 4,.tmp 5]⟩
@[simp] theorem c_r08_Start:cfun Tryz.prog n_r08_Start=some r08_Start:=by kernel_rfl
@[simp] theorem e_r08_Start:hasBody Tryz.prog n_r08_Start=true:=by kernel_rfl
abbrev ydq:List AG:=[zz1 29 10,zz1 30 8,o 31 (.nilck (.t 30)),zz4 32 4 31,zz2 33 1 32,zzg 34 n_step_pick 29 33,zz1 6 34,zz9 7 0]
abbrev ydr:List AG:=[zz1 28 9,o 6 (.nilrow 1 t_bool),zz1 7 28]
abbrev yds:ACode:=(.seq (.reg ydr) .ret)
abbrev ydt:List AG:=[zz1 26 9,o 27 (.cmp .neq (.sc .int) (.t 26) (.c (.int .i64 0)))]
abbrev ydu:List AG:=[zz1 20 8,zz1 21 1,zz1 22 2,o 23 (.call (.f n_step_machine_values) [(.t 20),(.t 21),(.t 22)]),zz1 19 23,zzc 24 19 0,zzc 25 19 1,zz1 10 24,zz1 9 25]
abbrev ydv:List AG:=[zz1 18 9,o 6 (.nilrow 1 t_bool),zz1 7 18]
abbrev ydw:ACode:=(.seq (.reg ydv) .ret)
abbrev ydx:List AG:=[zz1 16 9,o 17 (.cmp .neq (.sc .int) (.t 16) (.c (.int .i64 0)))]
abbrev ydy:List AG:=[zz3 12 4 3,zzf 13 n_step_begin 12,zz1 11 13,zzc 14 11 0,zzc 15 11 1,zz1 8 14,zz1 9 15]
abbrev ydz:List AG:=[o 3 (.box 4 (.t 0)),o 6 (.nilrow 1 t_bool),zz9 7 0]
abbrev step_Values:AFun:=⟨(.seq (.reg ydz) (.seq (.reg ydy) (.seq (.seq (.reg ydx) (.cond (.t 17) ydw .skip)) (.seq (.reg ydu) (.seq (.seq (.reg ydt) (.cond (.t 27) yds .skip)) (.seq (.reg ydq) .ret)))))),35,[.tmp 6,.tmp 7]⟩
@[simp] theorem c_step_Values:cfun Tryz.prog n_step_Values=some step_Values:=by kernel_rfl
@[simp] theorem e_step_Values:hasBody Tryz.prog n_step_Values=true:=by kernel_rfl
abbrev ydA:List AG:=[zz1 108 8,zz1 6 108,zz9 7 0]
abbrev ydB:List Bool:=[O,O,O,I,O,O,O,O,I,I,O,I,O,I,O,O,O,O,O,O,O,O,O,O,O,O,O,O,O,O,O,O,O,O,O,O,O,O,O,O,O,O,O,O,O,O,O,O,O,O,O,O,O,O,O,O,O,O,O,O,O,O,O,O,O,O,O,O,O,O,O,O,O,O,O,O,O,O,O,O,O,O,O,O,O,O,O,O,O,O,O,O,O,O,O,O,O,O,O,O,O,O,O,O,O,O,O,O,O]
abbrev ydC:List Bool:=[O,O,O,O,O,O,O,O,I,O,O,O,O,O,O,O,O,O,O,O,O,O,O,O,O,O,O,O,O,O,O,O,O,O,O,O,O,O,O,O,O,O,O,O,O,O,O,O,O,O,O,O,O,O,O,O,O,O,O,O,O,O,O,O,O,O,O,O,O,O,O,O,O,O,O,O,O,O,O,O,O,O,O,O,O,O,O,O,O,O,O,O,O,O,O,O,O,O,O,O,O,O,O,O,O,O,O,O,O]
abbrev ydD:List AG:=[zz1 63 13,zz6 64 63 1,zz1 13 64]
abbrev ydE:List AG:=[zz1 99 8,zz1 100 9,zz1 101 11,zz1 102 13,zz5 103 1 101 102,zz2 104 1 103,o 105 (.ibin .add (.t 100) (.t 104)),zz1 106 17,zz5 107 1 99 105,zzb 1 107 106]
abbrev ydF:List AG:=[zz3 94 5 14,zz1 95 15,zzg 96 n_r08_Gate 94 95,zz1 93 96,zzc 97 93 0,zzc 98 93 1,zz1 17 97,zz1 18 98]
abbrev ydG:List Bool:=[O,O,O,I,O,O,O,O,I,I,O,I,O,I,I,I,I,O,O,O,O,O,O,O,O,O,O,O,O,O,O,O,O,O,O,O,O,O,O,O,O,O,O,O,O,O,O,O,O,O,O,O,O,O,O,O,O,O,O,O,O,O,O,O,O,O,O,O,O,O,O,O,O,O,O,O,O,O,O,O,O,O,O,O,O,O,O,O,O,O,O,O,O,O,O,O,O,O,O,O,O,O,O,O,O,O,O,O,O]
abbrev ydH:List Bool:=[O,O,O,I,O,O,O,O,I,I,O,I,O,I,I,I,O,O,O,O,O,O,O,O,O,O,O,O,O,O,O,O,O,O,O,O,O,O,O,O,O,O,O,O,O,O,O,O,O,O,O,O,O,O,O,O,O,O,O,O,O,O,O,O,O,O,O,O,O,O,O,O,O,O,O,O,O,O,O,O,O,O,O,O,O,O,O,O,O,O,O,O,O,O,O,O,O,O,O,O,O,O,O,O,O,O,O,O,O]
abbrev ydI:List AG:=[zz1 78 16,zz6 79 78 1,zz1 16 79]
abbrev ydJ:List AG:=[zz1 80 15,zz1 81 8,zz3 82 4 3,zz4 83 2 14,zz2 84 1 83,zz1 85 16,zz5 86 1 84 85,zz2 87 1 86,zzg 88 n_r06_Place 82 87,zz5 89 1 81 88,zz2 90 1 89,o 91 (.lit 1 [(.bool false)] [(0,(.t 90))]),o 92 (.append 1 t_bool 1 (.t 80) (.t 91)),zz1 15 92]
abbrev ydK:List AG:=[zz1 73 16,zz4 74 2 14,zz2 75 1 74,zza 76 75,zz7 77 73 76]
abbrev ydL:ACode:=(.seq (.seq (.reg ydK) (.cond (.t 77) .skip (.exit 4))) (.seq (.block 5 [] (.dreg [O,O,O,O,O,O,O,O,O,O,O,O,O,O] [13,12,9,9,9,9,9,9,12,12,12,13,15,15] ydJ)) (.reg ydI)))
abbrev ydM:List AG:=[zz9 16 0]
abbrev ydN:List AG:=[o 15 (.nilrow 1 t_bool)]
abbrev ydO:List AG:=[zz4 65 3 3,zz2 66 1 65,zz1 67 11,zz1 68 13,zz5 69 1 67 68,zz2 70 1 69,zz5 71 5 66 70,zz3 72 5 71,o 14 (.alloc [(.str []),(.int .i64 0),(.own 1 t_string []),(.own 1 t_string []),(.bool false)]),zzb 5 14 72]
abbrev ydP:ACode:=(.seq (.dreg [O,I,O,O,O,I,O,I,O,O] [10,10,10,10,10,10,10,10,10,11] ydO) (.seq (.reg ydN) (.seq (.seq (.reg ydM) (.block 4 ydH (.loop ydG ydL))) (.seq (.reg ydF) (.reg ydE)))))
abbrev ydQ:List AG:=[zz1 59 13,zz1 60 11,zza 61 60,zz7 62 59 61]
abbrev ydR:ACode:=(.seq (.seq (.reg ydQ) (.cond (.t 62) .skip (.exit 2))) (.seq (.block 3 [] ydP) (.reg ydD)))
abbrev ydS:List AG:=[zz9 13 0]
abbrev ydT:List AG:=[zz3 55 4 3,zzf 56 n_r07_Sort 55,zz1 54 56,zzc 57 54 0,zzc 58 54 1,zz1 11 57,zz1 12 58]
abbrev ydU:List Bool:=[O,O,O,I,O,O,O,O,I,I,I,O,O,O,O,O,O,O,O,O,O,O,O,O,O,O,O,O,O,O,O,O,O,O,O,O,O,O,O,O,O,O,O,O,O,O,O,O,O,O,O,O,O,O,O,O,O,O,O,O,O,O,O,O,O,O,O,O,O,O,O,O,O,O,O,O,O,O,O,O,O,O,O,O,O,O,O,O,O,O,O,O,O,O,O,O,O,O,O,O,O,O,O,O,O,O,O,O,O]
abbrev ydV:List Bool:=[O,O,O,I,O,O,O,O,I,I,O,O,O,O,O,O,O,O,O,O,O,O,O,O,O,O,O,O,O,O,O,O,O,O,O,O,O,O,O,O,O,O,O,O,O,O,O,O,O,O,O,O,O,O,O,O,O,O,O,O,O,O,O,O,O,O,O,O,O,O,O,O,O,O,O,O,O,O,O,O,O,O,O,O,O,O,O,O,O,O,O,O,O,O,O,O,O,O,O,O,O,O,O,O,O,O,O,O,O]
abbrev ydW:List AG:=[zz1 49 10,zz6 50 49 1,zz1 10 50]
abbrev ydX:List AG:=[zz1 51 8,o 52 (.lit 1 [(.bool false)] [(0,(.c (.bool false)))]),o 53 (.append 1 t_bool 1 (.t 51) (.t 52)),zz1 8 53]
abbrev ydY:List AG:=[zz1 44 10,zz4 45 3 3,zz2 46 1 45,zza 47 46,zz7 48 44 47]
abbrev ydZ:ACode:=(.seq (.seq (.reg ydY) (.cond (.t 48) .skip (.exit 0))) (.seq (.block 1 [] (.reg ydX)) (.reg ydW)))
abbrev yea:List AG:=[zz9 10 0]
abbrev yeb:List AG:=[zz1 42 8,zza 43 42,zz1 9 43]
abbrev yec:List AG:=[zz1 39 8,zz1 40 1,o 41 (.append 1 t_bool 1 (.t 39) (.t 40)),zz1 8 41]
abbrev yed:List AG:=[zz1 36 8,zz1 37 2,o 38 (.append 1 t_bool 1 (.t 36) (.t 37)),zz1 8 38]
abbrev yee:List AG:=[o 8 (.nilrow 1 t_bool)]
abbrev yef:List AG:=[o 6 (.nilrow 1 t_bool),zz9 7 11]
abbrev yeg:ACode:=(.seq (.reg yef) .ret)
abbrev yeh:List AG:=[zz1 22 1,zza 23 22,zz4 24 2 3,zz2 25 1 24,zza 26 25,o 27 (.cmp .neq (.sc .int) (.t 23) (.t 26)),zz1 28 27,on 29 28 (.mv (.t 2)),on 30 28 (.len (.t 29)),on 31 28 (.off 0 (.t 3)),on 32 28 (.load false 1 (.t 31)),on 33 28 (.len (.t 32)),on 34 28 (.cmp .neq (.sc .int) (.t 30) (.t 33)),o 35 (.pick (.t 28) (.c (.bool true)) (.t 34))]
abbrev yei:List AG:=[o 6 (.nilrow 1 t_bool),zz9 7 1]
abbrev yej:ACode:=(.seq (.reg yei) .ret)
abbrev yek:List AG:=[zz3 19 4 3,zzf 20 n_r08_right 19,o 21 (.not (.t 20))]
abbrev yel:List AG:=[o 3 (.box 4 (.t 0)),o 6 (.nilrow 1 t_bool),zz9 7 0]
abbrev r08_Values:AFun:=⟨(.seq (.reg yel) (.seq (.seq (.reg yek) (.cond (.t 21) yej .skip)) (.seq (.seq (.reg yeh) (.cond (.t 35) yeg .skip)) (.seq (.reg yee) (.seq (.reg yed) (.seq (.reg yec) (.seq (.reg yeb) (.seq (.seq (.reg yea) (.block 0 ydV (.loop ydU ydZ))) (.seq (.reg ydT) (.seq (.seq (.reg ydS) (.block 2 ydC (.loop ydB ydR))) (.seq (.reg ydA) .ret))))))))))),109,[.tmp 6,.tmp 7]⟩
@[simp] theorem c_r08_Values:cfun Tryz.prog n_r08_Values=some r08_Values:=by kernel_rfl
@[simp] theorem e_r08_Values:hasBody Tryz.prog n_r08_Values=true:=by kernel_rfl
abbrev yem:List AG:=[zz1 19 9,zz1 20 1,zz1 21 2,o 22 (.call (.f n_step_machine_step) [(.t 19),(.t 20),(.t 21)]),zzc 23 22 0,zzc 24 22 1,zzc 25 22 2,zz1 6 23,zz1 7 24,zz1 8 25]
abbrev yen:List AG:=[zz1 18 10,o 6 (.nilrow 1 t_bool),o 7 (.nilrow 1 t_bool),zz1 8 18]
abbrev yeo:ACode:=(.seq (.reg yen) .ret)
abbrev yep:List AG:=[zz1 16 10,o 17 (.cmp .neq (.sc .int) (.t 16) (.c (.int .i64 0)))]
abbrev yeq:List AG:=[zz3 12 4 3,zzf 13 n_step_begin 12,zz1 11 13,zzc 14 11 0,zzc 15 11 1,zz1 9 14,zz1 10 15]
abbrev yer:List AG:=[o 3 (.box 4 (.t 0)),o 6 (.nilrow 1 t_bool),o 7 (.nilrow 1 t_bool),zz9 8 0]
abbrev step_Step:AFun:=⟨(.seq (.reg yer) (.seq (.reg yeq) (.seq (.seq (.reg yep) (.cond (.t 17) yeo .skip)) (.seq (.reg yem) .ret)))),26,[.tmp 6,.tmp 7,.tmp 8]⟩
@[simp] theorem c_step_Step:cfun Tryz.prog n_step_Step=some step_Step:=by kernel_rfl
@[simp] theorem e_step_Step:hasBody Tryz.prog n_step_Step=true:=by kernel_rfl
abbrev yes:List AG:=[zz1 66 11,zz1 67 12,zz1 6 66,zz1 7 67,zz9 8 0]
abbrev yeu:List Bool:=[O,O,O,I,O,O,O,O,O,I,O,I,I,O,I,O,O,O,O,O,O,O,O,O,O,O,O,O,O,O,O,O,O,O,O,O,O,O,O,O,O,O,O,O,O,O,O,O,O,O,O,O,O,O,O,O,O,O,O,O,O,O,O,O,O,O,O,O]
abbrev yev:List Bool:=[O,O,O,O,O,O,O,O,O,O,O,I,I,O,O,O,O,O,O,O,O,O,O,O,O,O,O,O,O,O,O,O,O,O,O,O,O,O,O,O,O,O,O,O,O,O,O,O,O,O,O,O,O,O,O,O,O,O,O,O,O,O,O,O,O,O,O,O]
abbrev yew:List AG:=[zz1 50 14,zz6 51 50 1,zz1 14 51]
abbrev yex:List AG:=[zz1 52 12,zz1 53 9,zz3 54 4 3,zz4 55 2 3,zz2 56 1 55,zz1 57 14,zz5 58 3 56 57,zz4 59 1 58,zz2 60 1 59,zzg 61 n_r06_Place 54 60,zz5 62 1 53 61,zz2 63 1 62,o 64 (.lit 1 [(.bool false)] [(0,(.t 63))]),o 65 (.append 1 t_bool 1 (.t 52) (.t 64)),zz1 12 65]
abbrev yey:List AG:=[zz1 45 14,zz4 46 2 3,zz2 47 1 46,zza 48 47,zz7 49 45 48]
abbrev yez:ACode:=(.seq (.seq (.reg yey) (.cond (.t 49) .skip (.exit 2))) (.seq (.block 3 [] (.dreg [O,O,O,O,O,O,O,O,O,O,O,O,O,O,O] [14,13,10,10,10,10,10,10,10,13,13,13,14,16,16] yex)) (.reg yew)))
abbrev yeA:List AG:=[zz9 14 0]
abbrev yeB:List Bool:=[O,O,O,I,O,O,O,O,O,I,O,I,I,I,O,O,O,O,O,O,O,O,O,O,O,O,O,O,O,O,O,O,O,O,O,O,O,O,O,O,O,O,O,O,O,O,O,O,O,O,O,O,O,O,O,O,O,O,O,O,O,O,O,O,O,O,O,O]
abbrev yeC:List Bool:=[O,O,O,I,O,O,O,O,O,I,O,I,I,O,O,O,O,O,O,O,O,O,O,O,O,O,O,O,O,O,O,O,O,O,O,O,O,O,O,O,O,O,O,O,O,O,O,O,O,O,O,O,O,O,O,O,O,O,O,O,O,O,O,O,O,O,O,O]
abbrev yeD:List AG:=[zz1 30 13,zz6 31 30 1,zz1 13 31]
abbrev yeE:List AG:=[zz1 32 11,zz1 33 9,zz3 34 4 3,zz4 35 1 3,zz2 36 1 35,zz1 37 13,zz5 38 1 36 37,zz2 39 1 38,zzg 40 n_r06_Place 34 39,zz5 41 1 33 40,zz2 42 1 41,o 43 (.lit 1 [(.bool false)] [(0,(.t 42))]),o 44 (.append 1 t_bool 1 (.t 32) (.t 43)),zz1 11 44]
abbrev yeF:List AG:=[zz1 25 13,zz4 26 1 3,zz2 27 1 26,zza 28 27,zz7 29 25 28]
abbrev yeG:ACode:=(.seq (.seq (.reg yeF) (.cond (.t 29) .skip (.exit 0))) (.seq (.block 1 [] (.dreg [O,O,O,O,O,O,O,O,O,O,O,O,O,O] [13,12,9,9,9,9,9,9,12,12,12,13,15,15] yeE)) (.reg yeD)))
abbrev yeH:List AG:=[zz9 13 0]
abbrev yeI:List AG:=[o 12 (.nilrow 1 t_bool)]
abbrev yeJ:List AG:=[o 11 (.nilrow 1 t_bool)]
abbrev yeK:List AG:=[zz1 24 10,o 6 (.nilrow 1 t_bool),o 7 (.nilrow 1 t_bool),zz1 8 24]
abbrev yeL:ACode:=(.seq (.reg yeK) .ret)
abbrev yeM:List AG:=[zz1 22 10,o 23 (.cmp .neq (.sc .int) (.t 22) (.c (.int .i64 0)))]
abbrev yeN:List AG:=[zz3 16 4 3,zz1 17 1,zz1 18 2,o 19 (.call (.f n_r08_Values) [(.t 16),(.t 17),(.t 18)]),zz1 15 19,zzc 20 15 0,zzc 21 15 1,zz1 9 20,zz1 10 21]
abbrev yeO:List AG:=[o 3 (.box 4 (.t 0)),o 6 (.nilrow 1 t_bool),o 7 (.nilrow 1 t_bool),zz9 8 0]
abbrev r08_Step:AFun:=⟨(.seq (.reg yeO) (.seq (.reg yeN) (.seq (.seq (.reg yeM) (.cond (.t 23) yeL .skip)) (.seq (.reg yeJ) (.seq (.reg yeI) (.seq (.seq (.reg yeH) (.block 0 yeC (.loop yeB yeG))) (.seq (.seq (.reg yeA) (.block 2 yev (.loop yeu yez))) (.seq (.reg yes) .ret)))))))),68,[.tmp 6,.tmp 7,.tmp 8]⟩
@[simp] theorem c_r08_Step:cfun Tryz.prog n_r08_Step=some r08_Step:=by kernel_rfl
@[simp] theorem e_r08_Step:hasBody Tryz.prog n_r08_Step=true:=by kernel_rfl
abbrev yeP:List AG:=[o 4 (.mv (.c (.bool true)))]
abbrev yeQ:List Bool:=[O,I,I,O,O,I,O,O,O,O,O,O,O,O,O,O,O,O,O,O,O,O,O,O,O,O,O,O,O,O,O,O,O,O,O,O,O,O,O,O,O,O,O,O,O,O,O,O,O,O,O,O]
abbrev yeR:List Bool:=[O,O,O,O,O,O,O,O,O,O,O,O,O,O,O,O,O,O,O,O,O,O,O,O,O,O,O,O,O,O,O,O,O,O,O,O,O,O,O,O,O,O,O,O,O,O,O,O,O,O,O,O]
abbrev yeS:List AG:=[zz1 21 5,zz6 22 21 1,zz1 5 22]
abbrev yeT:List AG:=[zzh 4]
abbrev yeU:ACode:=(.seq (.reg yeT) .ret)
abbrev yeV:List AG:=[zz4 23 2 2,zz2 24 1 23,zz1 25 5,zz5 26 3 24 25,zz4 27 2 26,zz2 28 1 27,o 29 (.cmp .eql (.sc .int) (.t 28) (.c (.int .i64 0))),zz1 30 29,zze 31 30 1,zze 32 30 5,oy 33 30 (.ixAddr 1 (.t 31) (.t 32)),zzd 34 30 1 33,zz8 35 30 34,zz1 36 35,on 37 36 (.off 2 (.t 2)),on 38 36 (.load false 1 (.t 37)),on 39 36 (.mv (.t 5)),on 40 36 (.ixAddr 3 (.t 38) (.t 39)),on 41 36 (.off 2 (.t 40)),on 42 36 (.load false 1 (.t 41)),on 43 36 (.cmp .eql (.sc .int) (.t 42) (.c (.int .i64 1))),on 44 36 (.mv (.t 43)),zze 45 44 1,zze 46 44 5,oy 47 44 (.ixAddr 1 (.t 45) (.t 46)),zzd 48 44 1 47,oy 49 44 (.not (.t 48)),on 50 36 (.pick (.t 44) (.t 49) (.c (.bool false))),o 51 (.pick (.t 36) (.c (.bool true)) (.t 50))]
abbrev yeW:ACode:=(.seq (.reg yeV) (.cond (.t 51) yeU .skip))
abbrev yeX:List AG:=[zz1 17 5,zz1 18 1,zza 19 18,zz7 20 17 19]
abbrev yeY:ACode:=(.seq (.seq (.reg yeX) (.cond (.t 20) .skip (.exit 0))) (.seq (.block 1 [] yeW) (.reg yeS)))
abbrev yeZ:List AG:=[zz9 5 0]
abbrev yfa:List AG:=[zzh 4]
abbrev yfb:ACode:=(.seq (.reg yfa) .ret)
abbrev yfc:List AG:=[zz3 6 4 2,zzf 7 n_r08_right 6,o 8 (.not (.t 7)),zz1 9 8,on 10 9 (.mv (.t 1)),on 11 9 (.len (.t 10)),on 12 9 (.off 2 (.t 2)),on 13 9 (.load false 1 (.t 12)),on 14 9 (.len (.t 13)),on 15 9 (.cmp .neq (.sc .int) (.t 11) (.t 14)),o 16 (.pick (.t 9) (.c (.bool true)) (.t 15))]
abbrev yfd:List AG:=[o 2 (.box 4 (.t 0)),zzh 4]
abbrev r08_Allowed:AFun:=⟨(.seq (.reg yfd) (.seq (.seq (.reg yfc) (.cond (.t 16) yfb .skip)) (.seq (.seq (.reg yeZ) (.block 0 yeR (.loop yeQ yeY))) (.seq (.reg yeP) .ret)))),52,[.tmp 4]⟩
@[simp] theorem c_r08_Allowed:cfun Tryz.prog n_r08_Allowed=some r08_Allowed:=by kernel_rfl
@[simp] theorem e_r08_Allowed:hasBody Tryz.prog n_r08_Allowed=true:=by kernel_rfl
abbrev yfe:List AG:=[o 4 (.mv (.c (.bool true)))]
abbrev yff:List Bool:=[I,I,O,O,O,I,O,O,O,O,O,O,O,O,O,O,O,O,O,O,O,O,O,O,O,O]
abbrev yfg:List Bool:=[O,O,O,O,O,O,O,O,O,O,O,O,O,O,O,O,O,O,O,O,O,O,O,O,O,O]
abbrev yfh:List AG:=[zz1 15 5,zz6 16 15 1,zz1 5 16]
abbrev yfi:List AG:=[zzh 4]
abbrev yfj:ACode:=(.seq (.reg yfi) .ret)
abbrev yfk:List AG:=[zz1 17 0,zz1 18 5,zz5 19 1 17 18,zz2 20 1 19,zz1 21 1,zz1 22 5,zz5 23 1 21 22,zz2 24 1 23,o 25 (.cmp .neq (.sc .bool) (.t 20) (.t 24))]
abbrev yfl:ACode:=(.seq (.dreg [O,O,O,O,O,O,O,O,O] [10,10,10,10,10,10,10,10,10] yfk) (.cond (.t 25) yfj .skip))
abbrev yfm:List AG:=[zz1 11 5,zz1 12 0,zza 13 12,zz7 14 11 13]
abbrev yfn:ACode:=(.seq (.seq (.reg yfm) (.cond (.t 14) .skip (.exit 0))) (.seq (.block 1 [] yfl) (.reg yfh)))
abbrev yfo:List AG:=[zz9 5 0]
abbrev yfp:List AG:=[zzh 4]
abbrev yfq:ACode:=(.seq (.reg yfp) .ret)
abbrev yfr:List AG:=[zz1 6 0,zza 7 6,zz1 8 1,zza 9 8,o 10 (.cmp .neq (.sc .int) (.t 7) (.t 9))]
abbrev yfs:List AG:=[zzh 4]
abbrev r08_Bools:AFun:=⟨(.seq (.reg yfs) (.seq (.seq (.reg yfr) (.cond (.t 10) yfq .skip)) (.seq (.seq (.reg yfo) (.block 0 yfg (.loop yff yfn))) (.seq (.reg yfe) .ret)))),26,[.tmp 4]⟩
abbrev yft:List It:=[.code (.seq (.reg yfe) .ret)]
abbrev yfu (x0 x1 x5:AV) (h:List Ob) (e:Cx:=cx):Cfg:=atC n_r08_Bools (.code yfn::.inLoop yff yfn::.inBlock 0 yfg::yft) [x0,x1,U,U,U,x5,U,U,U,U,U,U,U,U,U,U,U,U,U,U,U,U,U,U,U,U] h e
@[simp] theorem c_r08_Bools:cfun Tryz.prog n_r08_Bools=some r08_Bools:=by kernel_rfl
@[simp] theorem e_r08_Bools:hasBody Tryz.prog n_r08_Bools=true:=by kernel_rfl
abbrev yfv:List AG:=[o 4 (.mv (.c (.bool true)))]
abbrev yfw:List Bool:=[O,I,O,O,O,O,O,O,O,O,O,O,O,O,O,O,O,O,O,I,I,I,O,O,O,O,O,O,O,O,O,O,O,O,O,O,O,O,O,O]
abbrev yfx:List Bool:=[O,O,O,O,O,O,O,O,O,O,O,O,O,O,O,O,O,O,O,O,O,O,O,O,O,O,O,O,O,O,O,O,O,O,O,O,O,O,O,O]
abbrev yfy:List AG:=[zz6 39 21 1,zz1 21 39]
abbrev yfz:List AG:=[zzh 4]
abbrev yfA:ACode:=(.seq (.reg yfz) .ret)
abbrev yfB:List AG:=[zz4 26 2 6,zz2 27 1 26,o 28 (.cmp .lss (.sc .int) (.t 27) (.c (.int .i64 2))),zz1 29 28,oy 30 29 (.off 2 (.t 6)),zzd 31 29 1 30,oy 32 29 (.cmp .eql (.sc .int) (.t 31) (.c (.int .i64 1))),zze 33 29 1,zze 34 29 5,oy 35 29 (.ixAddr 1 (.t 33) (.t 34)),zzd 36 29 1 35,oy 37 29 (.cmp .neq (.sc .bool) (.t 32) (.t 36)),zz8 38 29 37]
abbrev yfC:List AG:=[zz1 23 21,zz5 24 3 19 21,zz3 25 3 24,o 6 (.alloc [(.str []),(.str []),(.int .i64 0)]),zz1 5 23,zzb 3 6 25]
abbrev yfD:ACode:=(.seq (.reg yfC) (.seq (.dreg [O,O,O,O,O,O,O,O,O,O,O,O,O] [14,14,14,14,14,14,14,14,14,14,14,14,14] yfB) (.cond (.t 38) yfA .skip)))
abbrev yfE:List AG:=[zz7 22 21 20]
abbrev yfF:ACode:=(.seq (.reg yfE) (.seq (.cond (.t 22) .skip (.exit 0)) (.seq (.block 1 [] yfD) (.reg yfy))))
abbrev yfG:List AG:=[zz4 18 2 2,zz2 19 1 18,zza 20 19,zz9 21 0]
abbrev yfH:List AG:=[zzh 4]
abbrev yfI:ACode:=(.seq (.reg yfH) .ret)
abbrev yfJ:List AG:=[zz3 7 4 2,zzf 8 n_step_right 7,o 9 (.not (.t 8)),zz1 10 9,on 11 10 (.mv (.t 1)),on 12 10 (.len (.t 11)),on 13 10 (.off 2 (.t 2)),on 14 10 (.load false 1 (.t 13)),on 15 10 (.len (.t 14)),on 16 10 (.cmp .neq (.sc .int) (.t 12) (.t 15)),o 17 (.pick (.t 10) (.c (.bool true)) (.t 16))]
abbrev yfK:List AG:=[o 2 (.box 4 (.t 0)),zzh 4]
abbrev step_Allowed:AFun:=⟨(.seq (.reg yfK) (.seq (.seq (.reg yfJ) (.cond (.t 17) yfI .skip)) (.seq (.seq (.reg yfG) (.block 0 yfx (.loop yfw yfF))) (.seq (.reg yfv) .ret)))),40,[.tmp 4]⟩
abbrev yfL:List It:=[.code (.seq (.reg yfv) .ret)]
abbrev yfM (x1 x19 x20 x21:AV) (h:List Ob) (e:Cx:=cx):Cfg:=atC n_step_Allowed (.code yfF::.inLoop yfw yfF::.inBlock 0 yfx::yfL) [U,x1,U,U,U,U,U,U,U,U,U,U,U,U,U,U,U,U,U,x19,x20,x21,U,U,U,U,U,U,U,U,U,U,U,U,U,U,U,U,U,U] h e
@[simp] theorem c_step_Allowed:cfun Tryz.prog n_step_Allowed=some step_Allowed:=by kernel_rfl
@[simp] theorem e_step_Allowed:hasBody Tryz.prog n_step_Allowed=true:=by kernel_rfl
abbrev yfN:List AG:=[zz1 23 0,zza 24 23,zz1 25 1,o 26 (.cmp .leq (.sc .int) (.t 24) (.t 25)),zz1 4 26]
abbrev yfO:List Bool:=[I,I,O,O,O,I,O,O,O,O,O,O,O,O,O,O,O,O,O,O,O,O,O,O,O,O,O]
abbrev yfP:List Bool:=[I,I,O,O,O,O,O,O,O,O,O,O,O,O,O,O,O,O,O,O,O,O,O,O,O,O,O]
abbrev yfQ:List AG:=[zz1 15 5,zz6 16 15 1,zz1 5 16]
abbrev yfR:List AG:=[zzh 4]
abbrev yfS:ACode:=(.seq (.reg yfR) .ret)
abbrev yfT:List AG:=[zz1 17 0,zz1 18 5,zz5 19 1 17 18,zz2 20 1 19,zza 21 20,o 22 (.cmp .gtr (.sc .int) (.t 21) (.c (.int .i64 60)))]
abbrev yfU:ACode:=(.seq (.reg yfT) (.cond (.t 22) yfS .skip))
abbrev yfV:List AG:=[zz1 6 5,zz1 7 0,zza 8 7,zz7 9 6 8,zz1 10 9,zze 11 10 5,zze 12 10 1,oy 13 10 (.cmp .leq (.sc .int) (.t 11) (.t 12)),zz8 14 10 13]
abbrev yfW:ACode:=(.seq (.seq (.reg yfV) (.cond (.t 14) .skip (.exit 0))) (.seq (.block 1 [] yfU) (.reg yfQ)))
abbrev yfX:List AG:=[zz9 5 0]
abbrev yfY:List AG:=[zzh 4]
abbrev w08_Rows:AFun:=⟨(.seq (.reg yfY) (.seq (.seq (.reg yfX) (.block 0 yfP (.loop yfO yfW))) (.seq (.reg yfN) .ret))),27,[.tmp 4]⟩
@[simp] theorem c_w08_Rows:cfun Tryz.prog n_w08_Rows=some w08_Rows:=by kernel_rfl
@[simp] theorem e_w08_Rows:hasBody Tryz.prog n_w08_Rows=true:=by kernel_rfl
abbrev yfZ:List AG:=[zz2 48 1 11,zz2 49 1 4,zzf 50 n_slices_Clone_bool_bool 49,zz1 6 48,zz1 7 50,zz9 8 0]
abbrev yga:List AG:=[zz2 47 1 10,o 6 (.nilrow 1 t_bool_2),o 7 (.nilrow 1 t_bool),zz1 8 47]
abbrev ygb:ACode:=(.seq (.dreg [I,O,O,O] [5,3,5,5] yga) .ret)
abbrev ygc:List AG:=[zz2 45 1 10,o 46 (.cmp .neq (.sc .int) (.t 45) (.c (.int .i64 0)))]
abbrev ygd:List AG:=[zz1 13 39]
abbrev yge:List AG:=[zz1 12 38]
abbrev ygf:List AG:=[zz2 40 1 11,zz1 41 12,o 42 (.lit 1 [(.list true 0 [])] [(0,(.t 41))]),o 43 (.append 1 t_bool_2 24 (.t 40) (.t 42)),zz1 44 13,zzb 1 11 43,zzb 1 4 44]
abbrev ygg:ACode:=(.seq (.reg yge) (.reg ygd))
abbrev ygh:ACode:=(.block 2 [] (.reg ygf))
abbrev ygi:ACode:=(.rangeFunc (.t 37) [38,39] [O,O,O,O,I,O,I,I,I,O,O,I,O,O,O,O,O,O,O,O,O,O,O,O,O,O,O,O,O,O,O,O,O,O,O,O,O,O,O,O,O,O,O,O,O,O,O,O,O,O,O] ygg ygh)
abbrev ygj:List AG:=[zz1 34 9,zz2 35 1 4,zz1 36 2,o 37 (.call (.f n_step_machine_steps) [(.t 34),(.t 35),(.t 36),(.t 10)])]
abbrev ygk:List AG:=[o 11 (.alloc [(.own 1 t_bool_2 [])])]
abbrev ygl:List AG:=[zz2 22 1 10,o 6 (.nilrow 1 t_bool_2),o 7 (.nilrow 1 t_bool),zz1 8 22]
abbrev ygm:List AG:=[o 6 (.nilrow 1 t_bool_2),o 7 (.nilrow 1 t_bool),zz9 8 8]
abbrev ygn:List AG:=[o 6 (.nilrow 1 t_bool_2),o 7 (.nilrow 1 t_bool),zz9 8 11]
abbrev ygo:ACode:=(.seq (.reg ygn) .ret)
abbrev ygp:List AG:=[zz2 28 1 4,zza 29 28,zz4 30 2 3,zz2 31 1 30,zza 32 31,o 33 (.cmp .neq (.sc .int) (.t 29) (.t 32)),zz1 27 33]
abbrev ygq:ACode:=(.seq (.reg ygm) .ret)
abbrev ygr:ACode:=(.seq (.reg ygp) (.cond (.t 27) ygo .skip))
abbrev ygs:List AG:=[zz1 24 2,zza 25 24,o 26 (.cmp .gtr (.sc .int) (.t 25) (.c (.int .i64 40))),zz1 23 26]
abbrev ygt:ACode:=(.seq (.dreg [I,O,O,O] [5,3,5,5] ygl) .ret)
abbrev ygu:ACode:=(.seq (.reg ygs) (.cond (.t 23) ygq ygr))
abbrev ygv:List AG:=[zz2 20 1 10,o 21 (.cmp .neq (.sc .int) (.t 20) (.c (.int .i64 0))),zz1 19 21]
abbrev ygw:ACode:=(.seq (.reg ygv) (.cond (.t 19) ygt ygu))
abbrev ygx:List AG:=[zz3 15 4 3,zzf 16 n_step_begin 15,zz1 14 16,zzc 17 14 0,zzc 18 14 1,o 10 (.alloc [(.int .i64 0)]),zz1 9 17,zzb 1 10 18]
abbrev ygy:List AG:=[o 3 (.box 4 (.t 0)),o 4 (.box 1 (.t 1)),o 6 (.nilrow 1 t_bool_2),o 7 (.nilrow 1 t_bool),zz9 8 0]
abbrev step_Run:AFun:=⟨(.seq (.reg ygy) (.seq (.reg ygx) (.seq (.block 0 [] ygw) (.seq (.reg ygk) (.seq (.seq (.reg ygj) (.block 1 [] ygi)) (.seq (.seq (.reg ygc) (.cond (.t 46) ygb .skip)) (.seq (.dreg [I,O,O,O,O,O] [7,3,7,7,7,7] yfZ) .ret))))))),51,[.tmp 6,.tmp 7,.tmp 8]⟩
@[simp] theorem c_step_Run:cfun Tryz.prog n_step_Run=some step_Run:=by kernel_rfl
@[simp] theorem e_step_Run:hasBody Tryz.prog n_step_Run=true:=by kernel_rfl
abbrev ygz:List AG:=[zz1 51 9,zz1 52 1,zz1 6 51,zz1 7 52,zz9 8 0]
abbrev ygA:List Bool:=[O,I,I,I,O,O,O,O,O,I,I,O,O,O,O,O,O,O,O,O,O,O,O,O,O,O,O,O,O,O,O,O,O,O,O,O,O,O,O,O,O,O,O,O,O,O,O,O,O,O,O,O,O]
abbrev ygB:List Bool:=[O,I,O,O,O,O,O,O,O,I,O,O,O,O,O,O,O,O,O,O,O,O,O,O,O,O,O,O,O,O,O,O,O,O,O,O,O,O,O,O,O,O,O,O,O,O,O,O,O,O,O,O,O]
abbrev ygC:List AG:=[zz1 30 10,zz6 31 30 1,zz1 10 31]
abbrev ygD:List AG:=[zz1 50 12,zz1 1 50]
abbrev ygE:List AG:=[zz1 46 9,zz1 47 11,o 48 (.lit 1 [(.list true 0 [])] [(0,(.t 47))]),o 49 (.append 1 t_bool_2 24 (.t 46) (.t 48)),zz1 9 49]
abbrev ygF:List AG:=[zz1 45 13,o 6 (.nilrow 1 t_bool_2),o 7 (.nilrow 1 t_bool),zz1 8 45]
abbrev ygG:ACode:=(.seq (.reg ygF) .ret)
abbrev ygH:List AG:=[zz1 43 13,o 44 (.cmp .neq (.sc .int) (.t 43) (.c (.int .i64 0)))]
abbrev ygI:List AG:=[zz3 33 4 3,zz1 34 1,zz1 35 2,zz1 36 10,zz5 37 1 35 36,zz2 38 1 37,o 39 (.call (.f n_r08_Step) [(.t 33),(.t 34),(.t 38)]),zz1 32 39,zzc 40 32 0,zzc 41 32 1,zzc 42 32 2,zz1 11 40,zz1 12 41,zz1 13 42]
abbrev ygJ:ACode:=(.seq (.dreg [O,O,O,O,O,O,O,O,O,O,O,O,O,O] [7,7,7,7,7,7,15,15,15,15,15,15,15,15] ygI) (.seq (.seq (.reg ygH) (.cond (.t 44) ygG .skip)) (.seq (.reg ygE) (.reg ygD))))
abbrev ygK:List AG:=[zz1 26 10,zz1 27 2,zza 28 27,zz7 29 26 28]
abbrev ygL:ACode:=(.seq (.seq (.reg ygK) (.cond (.t 29) .skip (.exit 0))) (.seq (.block 1 [] ygJ) (.reg ygC)))
abbrev ygM:List AG:=[zz9 10 0]
abbrev ygN:List AG:=[o 9 (.nilrow 1 t_bool_2)]
abbrev ygO:List AG:=[o 6 (.nilrow 1 t_bool_2),o 7 (.nilrow 1 t_bool),zz9 8 11]
abbrev ygP:ACode:=(.seq (.reg ygO) .ret)
abbrev ygQ:List AG:=[zz1 20 1,zza 21 20,zz4 22 2 3,zz2 23 1 22,zza 24 23,o 25 (.cmp .neq (.sc .int) (.t 21) (.t 24))]
abbrev ygR:List AG:=[o 6 (.nilrow 1 t_bool_2),o 7 (.nilrow 1 t_bool),zz9 8 8]
abbrev ygS:ACode:=(.seq (.reg ygR) .ret)
abbrev ygT:List AG:=[zz1 17 2,zza 18 17,o 19 (.cmp .gtr (.sc .int) (.t 18) (.c (.int .i64 40)))]
abbrev ygU:List AG:=[o 6 (.nilrow 1 t_bool_2),o 7 (.nilrow 1 t_bool),zz9 8 1]
abbrev ygV:ACode:=(.seq (.reg ygU) .ret)
abbrev ygW:List AG:=[zz3 14 4 3,zzf 15 n_r08_right 14,o 16 (.not (.t 15))]
abbrev ygX:List AG:=[o 3 (.box 4 (.t 0)),o 6 (.nilrow 1 t_bool_2),o 7 (.nilrow 1 t_bool),zz9 8 0]
abbrev r08_Run:AFun:=⟨(.seq (.reg ygX) (.seq (.seq (.reg ygW) (.cond (.t 16) ygV .skip)) (.seq (.seq (.reg ygT) (.cond (.t 19) ygS .skip)) (.seq (.seq (.reg ygQ) (.cond (.t 25) ygP .skip)) (.seq (.reg ygN) (.seq (.seq (.reg ygM) (.block 0 ygB (.loop ygA ygL))) (.seq (.reg ygz) .ret))))))),53,[.tmp 6,.tmp 7,.tmp 8]⟩
@[simp] theorem c_r08_Run:cfun Tryz.prog n_r08_Run=some r08_Run:=by kernel_rfl
@[simp] theorem e_r08_Run:hasBody Tryz.prog n_r08_Run=true:=by kernel_rfl
abbrev ygY:List AG:=[o 4 (.mv (.c (.bool true)))]
abbrev ygZ:List Bool:=[I,I,O,O,O,I,O,O,O,O,O,O,O,O,O,O,O,O,O,O,O,O,O,O,O,O,O]
abbrev yha:List Bool:=[O,O,O,O,O,O,O,O,O,O,O,O,O,O,O,O,O,O,O,O,O,O,O,O,O,O,O]
abbrev yhb:List AG:=[zz1 15 5,zz6 16 15 1,zz1 5 16]
abbrev yhc:List AG:=[zzh 4]
abbrev yhd:ACode:=(.seq (.reg yhc) .ret)
abbrev yhe:List AG:=[zz1 17 0,zz1 18 5,zz5 19 1 17 18,zz2 20 1 19,zz1 21 1,zz1 22 5,zz5 23 1 21 22,zz2 24 1 23,zzg 25 n_r08_Bools 20 24,o 26 (.not (.t 25))]
abbrev yhf:ACode:=(.seq (.dreg [O,O,O,O,O,O,O,O,O,O] [9,9,9,9,9,9,9,9,11,11] yhe) (.cond (.t 26) yhd .skip))
abbrev yhg:List AG:=[zz1 11 5,zz1 12 0,zza 13 12,zz7 14 11 13]
abbrev yhh:ACode:=(.seq (.seq (.reg yhg) (.cond (.t 14) .skip (.exit 0))) (.seq (.block 1 [] yhf) (.reg yhb)))
abbrev yhi:List AG:=[zz9 5 0]
abbrev yhj:List AG:=[zzh 4]
abbrev yhk:ACode:=(.seq (.reg yhj) .ret)
abbrev yhl:List AG:=[zz1 6 0,zza 7 6,zz1 8 1,zza 9 8,o 10 (.cmp .neq (.sc .int) (.t 7) (.t 9))]
abbrev yhm:List AG:=[zzh 4]
abbrev r08_Rows:AFun:=⟨(.seq (.reg yhm) (.seq (.seq (.reg yhl) (.cond (.t 10) yhk .skip)) (.seq (.seq (.reg yhi) (.block 0 yha (.loop ygZ yhh))) (.seq (.reg ygY) .ret)))),27,[.tmp 4]⟩
abbrev yhn:List It:=[.code (.seq (.reg ygY) .ret)]
abbrev yho (x0 x1 x5:AV) (h:List Ob) (e:Cx:=cx):Cfg:=atC n_r08_Rows (.code yhh::.inLoop ygZ yhh::.inBlock 0 yha::yhn) [x0,x1,U,U,U,x5,U,U,U,U,U,U,U,U,U,U,U,U,U,U,U,U,U,U,U,U,U] h e
@[simp] theorem c_r08_Rows:cfun Tryz.prog n_r08_Rows=some r08_Rows:=by kernel_rfl
@[simp] theorem e_r08_Rows:hasBody Tryz.prog n_r08_Rows=true:=by kernel_rfl
abbrev yhp:List AG:=[zz1 62 6,zz1 63 62,zze 64 63 7,zz8 65 63 64,zz1 66 65,oy 67 66 (.off 3 (.t 1)),zzd 68 66 1 67,oy 69 66 (.len (.t 68)),oy 70 66 (.cmp .leq (.sc .int) (.t 69) (.c (.int .i64 210))),zz8 71 66 70,zz1 72 71,oy 73 72 (.off 2 (.t 1)),zzd 74 72 1 73,oy 75 72 (.len (.t 74)),oy 76 72 (.cmp .leq (.sc .int) (.t 75) (.c (.int .i64 210))),zz8 77 72 76,zz1 2 77]
abbrev yhq:List AG:=[zz4 59 1 1,zz2 60 1 59,o 61 (.call (.f n_w05_Texts) [(.t 60),(.c (.int .i64 210))]),zz1 7 61]
abbrev yhr:List AG:=[zz4 56 0 1,zz2 57 1 56,o 58 (.call (.f n_w05_Texts) [(.t 57),(.c (.int .i64 210))]),zz1 6 58]
abbrev yhs:List Bool:=[O,I,O,O,O,I,O,O,O,O,O,O,O,O,O,O,O,O,O,O,O,O,O,O,O,O,O,O,O,O,O,O,O,O,O,O,O,O,O,O,O,O,O,O,O,O,O,O,O,O,O,O,O,O,O,O,O,O,O,O,O,O,O,O,O,O,O,O,O,O,O,O,O,O,O,O,O,O]
abbrev yht:List Bool:=[O,I,O,O,O,O,O,O,O,O,O,O,O,O,O,O,O,O,O,O,O,O,O,O,O,O,O,O,O,O,O,O,O,O,O,O,O,O,O,O,O,O,O,O,O,O,O,O,O,O,O,O,O,O,O,O,O,O,O,O,O,O,O,O,O,O,O,O,O,O,O,O,O,O,O,O,O,O]
abbrev yhu:List AG:=[zz1 36 5,zz6 37 36 1,zz1 5 37]
abbrev yhv:List AG:=[zzh 2]
abbrev yhw:ACode:=(.seq (.reg yhv) .ret)
abbrev yhx:List AG:=[zz4 38 2 1,zz2 39 1 38,zz1 40 5,zz5 41 3 39 40,zz4 42 0 41,zz2 43 1 42,o 44 (.lenStr (.t 43)),o 45 (.cmp .gtr (.sc .int) (.t 44) (.c (.int .i64 60))),zz1 46 45,on 47 46 (.off 2 (.t 1)),on 48 46 (.load false 1 (.t 47)),on 49 46 (.mv (.t 5)),on 50 46 (.ixAddr 3 (.t 48) (.t 49)),on 51 46 (.off 1 (.t 50)),on 52 46 (.load false 1 (.t 51)),on 53 46 (.lenStr (.t 52)),on 54 46 (.cmp .gtr (.sc .int) (.t 53) (.c (.int .i64 60))),o 55 (.pick (.t 46) (.c (.bool true)) (.t 54))]
abbrev yhy:ACode:=(.seq (.reg yhx) (.cond (.t 55) yhw .skip))
abbrev yhz:List AG:=[zz1 27 5,zz4 28 2 1,zz2 29 1 28,zza 30 29,zz7 31 27 30,zz1 32 31,zze 33 32 5,oy 34 32 (.cmp .leq (.sc .int) (.t 33) (.c (.int .i64 210))),zz8 35 32 34]
abbrev yhA:ACode:=(.seq (.seq (.reg yhz) (.cond (.t 35) .skip (.exit 2))) (.seq (.block 3 [] yhy) (.reg yhu)))
abbrev yhB:List AG:=[zz9 5 0]
abbrev yhC:List Bool:=[O,I,O,I,O,O,O,O,O,O,O,O,O,O,O,O,O,O,O,O,O,O,O,O,O,O,O,O,O,O,O,O,O,O,O,O,O,O,O,O,O,O,O,O,O,O,O,O,O,O,O,O,O,O,O,O,O,O,O,O,O,O,O,O,O,O,O,O,O,O,O,O,O,O,O,O,O,O]
abbrev yhD:List Bool:=[O,I,O,O,O,O,O,O,O,O,O,O,O,O,O,O,O,O,O,O,O,O,O,O,O,O,O,O,O,O,O,O,O,O,O,O,O,O,O,O,O,O,O,O,O,O,O,O,O,O,O,O,O,O,O,O,O,O,O,O,O,O,O,O,O,O,O,O,O,O,O,O,O,O,O,O,O,O]
abbrev yhE:List AG:=[zz1 17 3,zz6 18 17 1,zz1 3 18]
abbrev yhF:List AG:=[zzh 2]
abbrev yhG:ACode:=(.seq (.reg yhF) .ret)
abbrev yhH:List AG:=[zz1 25 4,o 26 (.not (.t 25))]
abbrev yhI:List AG:=[zz4 19 3 1,zz2 20 1 19,zz1 21 3,zz5 22 5 20 21,zz3 23 5 22,zzf 24 n_w06_FewGate 23,zz1 4 24]
abbrev yhJ:ACode:=(.seq (.reg yhI) (.seq (.reg yhH) (.cond (.t 26) yhG .skip)))
abbrev yhK:List AG:=[zz1 8 3,zz4 9 3 1,zz2 10 1 9,zza 11 10,zz7 12 8 11,zz1 13 12,zze 14 13 3,oy 15 13 (.cmp .leq (.sc .int) (.t 14) (.c (.int .i64 210))),zz8 16 13 15]
abbrev yhL:ACode:=(.seq (.seq (.reg yhK) (.cond (.t 16) .skip (.exit 0))) (.seq (.block 1 [] yhJ) (.reg yhE)))
abbrev yhM:List AG:=[zz9 3 0]
abbrev yhN:List AG:=[o 1 (.box 4 (.t 0)),zzh 2]
abbrev w06_Few:AFun:=⟨(.seq (.reg yhN) (.seq (.seq (.reg yhM) (.block 0 yhD (.loop yhC yhL))) (.seq (.seq (.reg yhB) (.block 2 yht (.loop yhs yhA))) (.seq (.reg yhr) (.seq (.reg yhq) (.seq (.reg yhp) .ret)))))),78,[.tmp 2]⟩
@[simp] theorem c_w06_Few:cfun Tryz.prog n_w06_Few=some w06_Few:=by kernel_rfl
@[simp] theorem e_w06_Few:hasBody Tryz.prog n_w06_Few=true:=by kernel_rfl
abbrev yhO:List AG:=[o 4 (.mv (.c (.int .i64 (-1))))]
abbrev yhP:List Bool:=[O,I,O,O,O,I,I,O,O,O,O,O,O,O,O,O,O,O,O,O,O,O]
abbrev yhQ:List Bool:=[O,O,O,O,O,O,O,O,O,O,O,O,O,O,O,O,O,O,O,O,O,O]
abbrev yhR:List AG:=[zz1 13 6,zz6 14 13 1,zz1 6 14]
abbrev yhS:List AG:=[zz1 21 6,zz1 4 21]
abbrev yhT:ACode:=(.seq (.reg yhS) .ret)
abbrev yhU:List AG:=[zz1 15 5,zz1 16 6,zz5 17 1 15 16,zz2 18 1 17,zz1 19 1,o 20 (.cmp .eql (.sc .str) (.t 18) (.t 19))]
abbrev yhV:ACode:=(.seq (.reg yhU) (.cond (.t 20) yhT .skip))
abbrev yhW:List AG:=[zz1 9 6,zz1 10 5,zza 11 10,zz7 12 9 11]
abbrev yhX:ACode:=(.seq (.seq (.reg yhW) (.cond (.t 12) .skip (.exit 0))) (.seq (.block 1 [] yhV) (.reg yhR)))
abbrev yhY:List AG:=[zz9 6 0]
abbrev yhZ:List AG:=[zz3 7 4 2,zzf 8 n_r06_Nets 7,zz1 5 8]
abbrev yia:List AG:=[o 2 (.box 4 (.t 0)),zz9 4 0]
abbrev r06_Place:AFun:=⟨(.seq (.reg yia) (.seq (.reg yhZ) (.seq (.seq (.reg yhY) (.block 0 yhQ (.loop yhP yhX))) (.seq (.reg yhO) .ret)))),22,[.tmp 4]⟩
@[simp] theorem c_r06_Place:cfun Tryz.prog n_r06_Place=some r06_Place:=by kernel_rfl
@[simp] theorem e_r06_Place:hasBody Tryz.prog n_r06_Place=true:=by kernel_rfl
abbrev yib:List AG:=[zz3 71 5 1,zzb 5 2 71]
abbrev yic:List Bool:=[O,I,I,I,O,O,O,O,O,O,O,O,O,O,O,O,O,O,O,O,O,O,O,O,O,O,O,O,O,O,O,O,O,O,O,O,O,O,O,O,O,O,O,O,O,O,O,O,O,O,O,O,O,O,O,O,O,O,O,O,O,O,O,O,O,O,O,O,O,O,O,O]
abbrev yid:List Bool:=[O,I,I,O,O,O,O,O,O,O,O,O,O,O,O,O,O,O,O,O,O,O,O,O,O,O,O,O,O,O,O,O,O,O,O,O,O,O,O,O,O,O,O,O,O,O,O,O,O,O,O,O,O,O,O,O,O,O,O,O,O,O,O,O,O,O,O,O,O,O,O,O]
abbrev yie:List AG:=[zz1 39 3,zz6 40 39 1,zz1 3 40]
abbrev yif:List AG:=[zz4 65 0 1,zz2 66 1 65,zz1 67 3,zz4 68 2 1,zz2 69 1 68,o 70 (.build [(.str []),(.int .i64 0),(.list true 0 []),(.list true 0 []),(.bool false)] [(0,1,(.t 66)),(1,1,(.t 67)),(2,1,(.t 69))]),zzb 5 2 70]
abbrev yig:ACode:=(.seq (.reg yif) .ret)
abbrev yih:List AG:=[zz1 55 5,zz4 56 4 1,zz2 57 1 56,o 58 (.cmp .eql (.sc .bool) (.t 55) (.t 57)),zz1 59 58,zze 60 59 4,oy 61 59 (.off 3 (.t 1)),zzd 62 59 1 61,oy 63 59 (.call (.f n_slices_Equal_string_string) [(.t 60),(.t 62)]),zz8 64 59 63]
abbrev yii:List AG:=[zz1 48 3,zz4 49 2 1,zz2 50 1 49,zza 51 50,zzg 52 n_net_rows 48 51,zz1 47 52,zzc 53 47 0,zzc 54 47 1,zz1 4 53,zz1 5 54]
abbrev yij:List AG:=[zz1 41 3,zz4 42 2 1,zz2 43 1 42,zza 44 43,zzg 45 n_net_has 41 44,o 46 (.not (.t 45))]
abbrev yik:ACode:=(.seq (.seq (.reg yij) (.cond (.t 46) (.exit 2) .skip)) (.seq (.reg yii) (.seq (.reg yih) (.cond (.t 64) yig .skip))))
abbrev yil:List AG:=[zz1 37 3,o 38 (.cmp .lss (.sc .int) (.t 37) (.c (.int .i64 10)))]
abbrev yim:ACode:=(.seq (.seq (.reg yil) (.cond (.t 38) .skip (.exit 1))) (.seq (.block 2 [] yik) (.reg yie)))
abbrev yin:List AG:=[zz9 3 0]
abbrev yio:List AG:=[zz3 36 5 1,zzb 5 2 36]
abbrev yip:ACode:=(.seq (.reg yio) .ret)
abbrev yiq:List AG:=[zz4 33 1 1,zz2 34 1 33,o 35 (.cmp .neq (.sc .int) (.t 34) (.c (.int .i64 10)))]
abbrev yir:List AG:=[zz4 27 1 1,q (.store 1 (.t 27) (.c (.int .i64 2)))]
abbrev yis:List AG:=[zz4 32 1 1,q (.store 1 (.t 32) (.c (.int .i64 3)))]
abbrev yit:List AG:=[o 31 (.cmp .eql (.sc .int) (.t 22) (.c (.int .i64 9))),zz1 28 31]
abbrev yiu:List AG:=[o 30 (.cmp .eql (.sc .int) (.t 22) (.c (.int .i64 7))),zz1 28 30]
abbrev yiv:ACode:=(.seq (.reg yiu) (.cond (.t 28) .skip (.reg yit)))
abbrev yiw:List AG:=[o 29 (.cmp .eql (.sc .int) (.t 22) (.c (.int .i64 5))),zz1 28 29]
abbrev yix:ACode:=(.seq (.seq (.reg yiw) (.cond (.t 28) .skip yiv)) (.cond (.t 28) (.reg yis) .skip))
abbrev yiy:List AG:=[o 26 (.cmp .eql (.sc .int) (.t 22) (.c (.int .i64 8))),zz1 23 26]
abbrev yiz:List AG:=[o 25 (.cmp .eql (.sc .int) (.t 22) (.c (.int .i64 6))),zz1 23 25]
abbrev yiA:ACode:=(.seq (.reg yiz) (.cond (.t 23) .skip (.reg yiy)))
abbrev yiB:List AG:=[o 24 (.cmp .eql (.sc .int) (.t 22) (.c (.int .i64 4))),zz1 23 24]
abbrev yiC:ACode:=(.seq (.seq (.reg yiB) (.cond (.t 23) .skip yiA)) (.cond (.t 23) (.reg yir) yix))
abbrev yiD:List AG:=[zz4 21 1 1,zz2 22 1 21]
abbrev yiE:ACode:=(.seq (.reg yiD) (.block 0 [] yiC))
abbrev yiF:List AG:=[zz4 6 2 1,zz2 7 1 6,zza 8 7,o 9 (.cmp .eql (.sc .int) (.t 8) (.c (.int .i64 1))),zz1 10 9,oy 11 10 (.off 3 (.t 1)),zzd 12 10 1 11,oy 13 10 (.len (.t 12)),oy 14 10 (.cmp .eql (.sc .int) (.t 13) (.c (.int .i64 0))),zz8 15 10 14,zz1 16 15,oy 17 16 (.off 4 (.t 1)),zzd 18 16 1 17,oy 19 16 (.not (.t 18)),zz8 20 16 19]
abbrev yiG:List AG:=[o 1 (.box 5 (.t 0)),o 2 (.alloc [(.str []),(.int .i64 0),(.own 1 t_string []),(.own 1 t_string []),(.bool false)])]
abbrev net_Canon:AFun:=⟨(.seq (.reg yiG) (.seq (.seq (.reg yiF) (.cond (.t 20) yiE .skip)) (.seq (.seq (.reg yiq) (.cond (.t 35) yip .skip)) (.seq (.seq (.reg yin) (.block 1 yid (.loop yic yim))) (.seq (.reg yib) .ret))))),72,[.cell 2 true 5]⟩
abbrev yiH:List It:=[.code (.seq (.reg yib) .ret)]
abbrev yiI (x1 x2 x3:AV) (h:List Ob) (e:Cx:=cx):Cfg:=atC n_net_Canon (.code yim::.inLoop yic yim::.inBlock 1 yid::yiH) [U,x1,x2,x3,U,U,U,U,U,U,U,U,U,U,U,U,U,U,U,U,U,U,U,U,U,U,U,U,U,U,U,U,U,U,U,U,U,U,U,U,U,U,U,U,U,U,U,U,U,U,U,U,U,U,U,U,U,U,U,U,U,U,U,U,U,U,U,U,U,U,U,U] h e
@[simp] theorem c_net_Canon:cfun Tryz.prog n_net_Canon=some net_Canon:=by kernel_rfl
@[simp] theorem e_net_Canon:hasBody Tryz.prog n_net_Canon=true:=by kernel_rfl
abbrev yiJ:List AG:=[zz1 23 0,zza 24 23,zz1 25 1,o 26 (.cmp .leq (.sc .int) (.t 24) (.t 25)),zz1 4 26]
abbrev yiK:List Bool:=[I,I,O,O,O,I,O,O,O,O,O,O,O,O,O,O,O,O,O,O,O,O,O,O,O,O,O]
abbrev yiL:List Bool:=[I,I,O,O,O,O,O,O,O,O,O,O,O,O,O,O,O,O,O,O,O,O,O,O,O,O,O]
abbrev yiM:List AG:=[zz1 15 5,zz6 16 15 1,zz1 5 16]
abbrev yiN:List AG:=[zzh 4]
abbrev yiO:ACode:=(.seq (.reg yiN) .ret)
abbrev yiP:List AG:=[zz1 17 0,zz1 18 5,zz5 19 1 17 18,zz2 20 1 19,o 21 (.lenStr (.t 20)),o 22 (.cmp .gtr (.sc .int) (.t 21) (.c (.int .i64 60)))]
abbrev yiQ:ACode:=(.seq (.reg yiP) (.cond (.t 22) yiO .skip))
abbrev yiR:List AG:=[zz1 6 5,zz1 7 0,zza 8 7,zz7 9 6 8,zz1 10 9,zze 11 10 5,zze 12 10 1,oy 13 10 (.cmp .leq (.sc .int) (.t 11) (.t 12)),zz8 14 10 13]
abbrev yiS:ACode:=(.seq (.seq (.reg yiR) (.cond (.t 14) .skip (.exit 0))) (.seq (.block 1 [] yiQ) (.reg yiM)))
abbrev yiT:List AG:=[zz9 5 0]
abbrev yiU:List AG:=[zzh 4]
abbrev w05_Texts:AFun:=⟨(.seq (.reg yiU) (.seq (.seq (.reg yiT) (.block 0 yiL (.loop yiK yiS))) (.seq (.reg yiJ) .ret))),27,[.tmp 4]⟩
abbrev yiV:List It:=[.code (.seq (.reg yiJ) .ret)]
abbrev yiW (x0 x1 x5:AV) (h:List Ob) (e:Cx:=cx):Cfg:=atC n_w05_Texts (.code yiS::.inLoop yiK yiS::.inBlock 0 yiL::yiV) [x0,x1,U,U,U,x5,U,U,U,U,U,U,U,U,U,U,U,U,U,U,U,U,U,U,U,U,U] h e
@[simp] theorem c_w05_Texts:cfun Tryz.prog n_w05_Texts=some w05_Texts:=by kernel_rfl
@[simp] theorem e_w05_Texts:hasBody Tryz.prog n_w05_Texts=true:=by kernel_rfl
abbrev yiX:List AG:=[zz4 18 1 1,zz2 19 1 18,zz4 20 2 1,zz2 21 1 20,zza 22 21,zzg 23 n_net_has 19 22,zz1 24 23,oy 25 24 (.off 3 (.t 1)),zzd 26 24 1 25,oy 27 24 (.len (.t 26)),oy 28 24 (.cmp .leq (.sc .int) (.t 27) (.c (.int .i64 128))),zz8 29 24 28,zz1 30 29,oy 31 30 (.off 3 (.t 1)),zzd 32 30 1 31,zze 33 30 3,oy 34 30 (.call (.f n_slices_ContainsFunc_string_string) [(.t 32),(.t 33)]),oy 35 30 (.not (.t 34)),zz8 36 30 35,zz1 2 36]
abbrev yiY:List AG:=[zzh 2]
abbrev yiZ:ACode:=(.seq (.reg yiY) .ret)
abbrev yja:List AG:=[zz4 5 1 1,zz2 6 1 5,o 7 (.cmp .neq (.sc .int) (.t 6) (.c (.int .i64 10))),zz1 8 7,oy 9 8 (.off 3 (.t 1)),zzd 10 8 1 9,oy 11 8 (.len (.t 10)),oy 12 8 (.cmp .gtr (.sc .int) (.t 11) (.c (.int .i64 0))),zze 13 8 12,on 14 13 (.off 4 (.t 1)),on 15 13 (.load false 1 (.t 14)),oy 16 8 (.pick (.t 13) (.c (.bool true)) (.t 15)),zz8 17 8 16]
abbrev yjb:List AG:=[o 4 (.mkFunc (.func n_net_Gate_1) [] [(.t 1)]),zz1 3 4]
abbrev yjc:List AG:=[o 1 (.box 5 (.t 0)),zzh 2]
abbrev net_Gate:AFun:=⟨(.seq (.reg yjc) (.seq (.reg yjb) (.seq (.seq (.reg yja) (.cond (.t 17) yiZ .skip)) (.seq (.reg yiX) .ret)))),37,[.tmp 2]⟩
@[simp] theorem c_net_Gate:cfun Tryz.prog n_net_Gate=some net_Gate:=by kernel_rfl
@[simp] theorem e_net_Gate:hasBody Tryz.prog n_net_Gate=true:=by kernel_rfl
abbrev yjd:List AG:=[zz3 35 2 3,zzb 2 2 35]
abbrev yje:List AG:=[zz4 34 0 3,q (.store 1 (.t 34) (.f n_step_of_4))]
abbrev yjf:List AG:=[zz4 33 0 3,q (.store 1 (.t 33) (.f n_step_of_3))]
abbrev yjg:List AG:=[zz4 32 0 3,q (.store 1 (.t 32) (.f n_step_of_2))]
abbrev yjh:List AG:=[zz4 31 0 3,q (.store 1 (.t 31) (.f n_step_of_1))]
abbrev yji:List AG:=[o 30 (.cmp .eql (.sc .int) (.t 13) (.c (.int .i64 9))),zz1 28 30]
abbrev yjj:List AG:=[o 29 (.cmp .eql (.sc .int) (.t 13) (.c (.int .i64 8))),zz1 28 29]
abbrev yjk:List AG:=[o 27 (.cmp .eql (.sc .int) (.t 13) (.c (.int .i64 7))),zz1 25 27]
abbrev yjl:List AG:=[o 26 (.cmp .eql (.sc .int) (.t 13) (.c (.int .i64 6))),zz1 25 26]
abbrev yjm:List AG:=[o 24 (.cmp .eql (.sc .int) (.t 13) (.c (.int .i64 5))),zz1 22 24]
abbrev yjn:List AG:=[o 23 (.cmp .eql (.sc .int) (.t 13) (.c (.int .i64 4))),zz1 22 23]
abbrev yjo:List AG:=[o 21 (.cmp .eql (.sc .int) (.t 13) (.c (.int .i64 3))),zz1 20 21]
abbrev yjp:List AG:=[o 19 (.cmp .eql (.sc .int) (.t 13) (.c (.int .i64 2))),zz1 18 19]
abbrev yjq:List AG:=[o 17 (.cmp .eql (.sc .int) (.t 13) (.c (.int .i64 1))),zz1 16 17]
abbrev yjr:List AG:=[o 15 (.cmp .eql (.sc .int) (.t 13) (.c (.int .i64 0))),zz1 14 15]
abbrev yjs:ACode:=(.seq (.seq (.seq (.reg yjr) (.cond (.t 14) (.exit 2) .skip)) (.seq (.seq (.reg yjq) (.cond (.t 16) (.exit 3) .skip)) (.seq (.seq (.reg yjp) (.cond (.t 18) (.exit 4) .skip)) (.seq (.seq (.reg yjo) (.cond (.t 20) (.exit 5) .skip)) (.seq (.seq (.seq (.reg yjn) (.cond (.t 22) .skip (.reg yjm))) (.cond (.t 22) (.exit 6) .skip)) (.seq (.seq (.seq (.reg yjl) (.cond (.t 25) .skip (.reg yjk))) (.cond (.t 25) (.exit 7) .skip)) (.seq (.seq (.reg yjj) (.cond (.t 28) .skip (.reg yji))) (.cond (.t 28) (.exit 8) .skip)))))))) (.exit 1))
abbrev yjt:ACode:=(.block 2 [] yjs)
abbrev yju:ACode:=(.seq (.block 3 [] yjt) (.seq (.reg yjh) (.exit 1)))
abbrev yjv:ACode:=(.block 4 [] yju)
abbrev yjw:ACode:=(.block 5 [] yjv)
abbrev yjx:ACode:=(.seq (.block 6 [] yjw) (.seq (.reg yjg) (.exit 1)))
abbrev yjy:ACode:=(.seq (.block 7 [] yjx) (.seq (.reg yjf) (.exit 1)))
abbrev yjz:ACode:=(.seq (.block 8 [] yjy) (.seq (.reg yje) (.exit 1)))
abbrev yjA:List AG:=[zz1 13 0]
abbrev yjB:List AG:=[zz4 12 1 3,q (.store 1 (.t 12) (.c (.bool true)))]
abbrev yjC:List AG:=[o 11 (.cmp .eql (.sc .int) (.t 5) (.c (.int .i64 9))),zz1 6 11]
abbrev yjD:List AG:=[o 10 (.cmp .eql (.sc .int) (.t 5) (.c (.int .i64 7))),zz1 6 10]
abbrev yjE:ACode:=(.seq (.reg yjD) (.cond (.t 6) .skip (.reg yjC)))
abbrev yjF:List AG:=[o 9 (.cmp .eql (.sc .int) (.t 5) (.c (.int .i64 5))),zz1 6 9]
abbrev yjG:ACode:=(.seq (.reg yjF) (.cond (.t 6) .skip yjE))
abbrev yjH:List AG:=[o 8 (.cmp .eql (.sc .int) (.t 5) (.c (.int .i64 3))),zz1 6 8]
abbrev yjI:ACode:=(.seq (.reg yjH) (.cond (.t 6) .skip yjG))
abbrev yjJ:List AG:=[o 7 (.cmp .eql (.sc .int) (.t 5) (.c (.int .i64 1))),zz1 6 7]
abbrev yjK:ACode:=(.seq (.seq (.reg yjJ) (.cond (.t 6) .skip yjI)) (.cond (.t 6) (.reg yjB) .skip))
abbrev yjL:List AG:=[zz1 5 0]
abbrev yjM:List AG:=[o 4 (.build [.nilf,(.bool false)] []),o 3 (.alloc [.nilf,(.bool false)]),zzb 2 3 4]
abbrev yjN:List AG:=[o 2 (.alloc [.nilf,(.bool false)])]
abbrev step_of:AFun:=⟨(.seq (.reg yjN) (.seq (.reg yjM) (.seq (.seq (.reg yjL) (.block 0 [] yjK)) (.seq (.seq (.reg yjA) (.block 1 [] yjz)) (.seq (.reg yjd) .ret))))),36,[.cell 2 true 2]⟩
@[simp] theorem c_step_of:cfun Tryz.prog n_step_of=some step_of:=by kernel_rfl
@[simp] theorem e_step_of:hasBody Tryz.prog n_step_of=true:=by kernel_rfl
abbrev yjO:List AG:=[zz4 4 3 1,zz2 5 1 4,o 6 (.mkFunc (.func n_step_Gate_1_1) [] [(.t 2)]),zzg 7 n_slices_ContainsFunc_string_string 5 6,zz1 3 7]
abbrev yjP:List AG:=[o 2 (.box 1 (.t 0)),zzh 3]
abbrev step_Gate_1:AFun:=⟨(.seq (.reg yjP) (.seq (.reg yjO) .ret)),8,[.tmp 3]⟩
@[simp] theorem c_step_Gate_1:cfun Tryz.prog n_step_Gate_1=some step_Gate_1:=by kernel_rfl
@[simp] theorem e_step_Gate_1:hasBody Tryz.prog n_step_Gate_1=true:=by kernel_rfl
abbrev yjQ:List AG:=[zz1 5 0,zz1 6 1,zzg 7 n_slices_IndexFunc_string_string 5 6,o 8 (.cmp .geq (.sc .int) (.t 7) (.c (.int .i64 0))),zz1 4 8]
abbrev yjR:List AG:=[zzh 4]
abbrev slices_ContainsFunc_string_string:AFun:=⟨(.seq (.reg yjR) (.seq (.reg yjQ) .ret)),9,[.tmp 4]⟩
@[simp] theorem c_slices_ContainsFunc_string_string:cfun Tryz.prog n_slices_ContainsFunc_string_string=some slices_ContainsFunc_string_string:=by kernel_rfl
@[simp] theorem e_slices_ContainsFunc_string_string:hasBody Tryz.prog n_slices_ContainsFunc_string_string=true:=by kernel_rfl
abbrev yjS:List AG:=[zz1 4 0,zz2 5 1 1,zzg 6 n_step_fits 4 5,zz1 3 6]
abbrev yjT:List AG:=[zzh 3]
abbrev step_Gate_1_1:AFun:=⟨(.seq (.reg yjT) (.seq (.reg yjS) .ret)),7,[.tmp 3]⟩
@[simp] theorem c_step_Gate_1_1:cfun Tryz.prog n_step_Gate_1_1=some step_Gate_1_1:=by kernel_rfl
@[simp] theorem e_step_Gate_1_1:hasBody Tryz.prog n_step_Gate_1_1=true:=by kernel_rfl
abbrev yjU:List AG:=[o 4 (.mv (.c (.bool true)))]
abbrev yjV:List Bool:=[I,O,O,O,O,O,O,I,I,I,O,O,O,O,O,O,O,O,O,O,O,O,O,O,O,O,O]
abbrev yjW:List Bool:=[O,O,O,O,O,O,O,O,O,O,O,O,O,O,O,O,O,O,O,O,O,O,O,O,O,O,O]
abbrev yjX:List AG:=[zz6 26 9 1,zz1 9 26]
abbrev yjY:List AG:=[zzh 4]
abbrev yjZ:ACode:=(.seq (.reg yjY) .ret)
abbrev yka:List AG:=[zz1 14 0,zz1 15 5,o 16 (.ixStr (.t 14) (.t 15)),o 17 (.cmp .neq (.sc .int) (.t 16) (.c (.int .u8 45))),zz1 18 17,zze 19 18 0,zze 20 18 5,oy 21 18 (.ixStr (.t 19) (.t 20)),oy 22 18 (.cmp .eql (.sc .int) (.t 21) (.c (.int .u8 49))),zze 23 18 6,oy 24 18 (.cmp .neq (.sc .bool) (.t 22) (.t 23)),zz8 25 18 24]
abbrev ykb:List AG:=[zz1 11 9,zz5 12 1 7 9,zz2 13 1 12,zz1 5 11,zz1 6 13]
abbrev ykc:ACode:=(.seq (.reg ykb) (.seq (.reg yka) (.cond (.t 25) yjZ .skip)))
abbrev ykd:List AG:=[zz7 10 9 8]
abbrev yke:ACode:=(.seq (.reg ykd) (.seq (.cond (.t 10) .skip (.exit 0)) (.seq (.block 1 [] ykc) (.reg yjX))))
abbrev ykf:List AG:=[zz1 7 1,zza 8 7,zz9 9 0]
abbrev ykg:List AG:=[zzh 4]
abbrev step_fits:AFun:=⟨(.seq (.reg ykg) (.seq (.seq (.reg ykf) (.block 0 yjW (.loop yjV yke))) (.seq (.reg yjU) .ret))),27,[.tmp 4]⟩
abbrev ykh:List It:=[.code (.seq (.reg yjU) .ret)]
abbrev yki (x0 x7 x8 x9:AV) (h:List Ob) (e:Cx:=cx):Cfg:=atC n_step_fits (.code yke::.inLoop yjV yke::.inBlock 0 yjW::ykh) [x0,U,U,U,U,U,U,x7,x8,x9,U,U,U,U,U,U,U,U,U,U,U,U,U,U,U,U,U] h e
@[simp] theorem c_step_fits:cfun Tryz.prog n_step_fits=some step_fits:=by kernel_rfl
@[simp] theorem e_step_fits:hasBody Tryz.prog n_step_fits=true:=by kernel_rfl
abbrev ykj:List AG:=[zz4 66 1 1,zz2 67 1 66,o 68 (.cmp .geq (.sc .int) (.t 67) (.c (.int .i64 4))),zz1 69 68,oy 70 69 (.off 1 (.t 1)),zzd 71 69 1 70,oy 72 69 (.cmp .leq (.sc .int) (.t 71) (.c (.int .i64 9))),zz8 73 69 72,zz1 74 73,zze 75 74 3,oy 76 74 (.cmp .geq (.sc .int) (.t 75) (.c (.int .i64 2))),zz8 77 74 76,zz1 78 77,zze 79 78 3,oy 80 78 (.cmp .leq (.sc .int) (.t 79) (.c (.int .i64 8))),zz8 81 78 80,zz1 2 81]
abbrev ykk:List AG:=[zz1 64 3,o 65 (.cmp .eql (.sc .int) (.t 64) (.c (.int .i64 1))),zz1 2 65]
abbrev ykl:ACode:=(.seq (.reg ykk) .ret)
abbrev ykm:List AG:=[zz4 56 1 1,zz2 57 1 56,o 58 (.cmp .eql (.sc .int) (.t 57) (.c (.int .i64 2))),zz1 59 58,on 60 59 (.off 1 (.t 1)),on 61 59 (.load false 1 (.t 60)),on 62 59 (.cmp .eql (.sc .int) (.t 61) (.c (.int .i64 3))),o 63 (.pick (.t 59) (.c (.bool true)) (.t 62))]
abbrev ykn:List AG:=[zz1 54 3,o 55 (.cmp .eql (.sc .int) (.t 54) (.c (.int .i64 0))),zz1 2 55]
abbrev yko:ACode:=(.seq (.reg ykn) .ret)
abbrev ykp:List AG:=[zz4 46 1 1,zz2 47 1 46,o 48 (.cmp .eql (.sc .int) (.t 47) (.c (.int .i64 0))),zz1 49 48,on 50 49 (.off 1 (.t 1)),on 51 49 (.load false 1 (.t 50)),on 52 49 (.cmp .eql (.sc .int) (.t 51) (.c (.int .i64 1))),o 53 (.pick (.t 49) (.c (.bool true)) (.t 52))]
abbrev ykq:List AG:=[zzh 2]
abbrev ykr:ACode:=(.seq (.reg ykq) .ret)
abbrev yks:List AG:=[zz4 38 3 1,zz2 39 1 38,zza 40 39,o 41 (.cmp .gtr (.sc .int) (.t 40) (.c (.int .i64 0))),zz1 42 41,on 43 42 (.off 4 (.t 1)),on 44 42 (.load false 1 (.t 43)),o 45 (.pick (.t 42) (.c (.bool true)) (.t 44))]
abbrev ykt:List AG:=[zz1 30 3,o 31 (.cmp .leq (.sc .int) (.t 30) (.c (.int .i64 8))),zz1 32 31,oy 33 32 (.off 3 (.t 1)),zzd 34 32 1 33,oy 35 32 (.len (.t 34)),oy 36 32 (.cmp .leq (.sc .int) (.t 35) (.c (.int .i64 128))),zz8 37 32 36,zz1 2 37]
abbrev yku:List Bool:=[O,I,O,I,I,O,O,O,O,O,O,O,O,O,O,O,O,O,O,O,O,O,O,O,O,O,O,O,O,O,O,O,O,O,O,O,O,O,O,O,O,O,O,O,O,O,O,O,O,O,O,O,O,O,O,O,O,O,O,O,O,O,O,O,O,O,O,O,O,O,O,O,O,O,O,O,O,O,O,O,O,O]
abbrev ykv:List Bool:=[O,I,O,I,O,O,O,O,O,O,O,O,O,O,O,O,O,O,O,O,O,O,O,O,O,O,O,O,O,O,O,O,O,O,O,O,O,O,O,O,O,O,O,O,O,O,O,O,O,O,O,O,O,O,O,O,O,O,O,O,O,O,O,O,O,O,O,O,O,O,O,O,O,O,O,O,O,O,O,O,O,O]
abbrev ykw:List AG:=[zz1 20 4,zz6 21 20 1,zz1 4 21]
abbrev ykx:List AG:=[zzh 2]
abbrev yky:ACode:=(.seq (.reg ykx) .ret)
abbrev ykz:List AG:=[zz4 22 3 1,zz2 23 1 22,zz1 24 4,zz5 25 1 23 24,zz2 26 1 25,zz1 27 3,zzg 28 n_r06_row 26 27,o 29 (.not (.t 28))]
abbrev ykA:ACode:=(.seq (.reg ykz) (.cond (.t 29) yky .skip))
abbrev ykB:List AG:=[zz1 11 4,zz4 12 3 1,zz2 13 1 12,zza 14 13,zz7 15 11 14,zz1 16 15,zze 17 16 4,oy 18 16 (.cmp .leq (.sc .int) (.t 17) (.c (.int .i64 128))),zz8 19 16 18]
abbrev ykC:ACode:=(.seq (.seq (.reg ykB) (.cond (.t 19) .skip (.exit 0))) (.seq (.block 1 [] ykA) (.reg ykw)))
abbrev ykD:List AG:=[zz9 4 0]
abbrev ykE:ACode:=(.seq (.seq (.reg ykD) (.block 0 ykv (.loop yku ykC))) (.seq (.reg ykt) .ret))
abbrev ykF:List AG:=[zz4 8 1 1,zz2 9 1 8,o 10 (.cmp .eql (.sc .int) (.t 9) (.c (.int .i64 10)))]
abbrev ykG:List AG:=[zz4 5 2 1,zz2 6 1 5,zza 7 6,zz1 3 7]
abbrev ykH:List AG:=[o 1 (.box 5 (.t 0)),zzh 2]
abbrev r06_Gate:AFun:=⟨(.seq (.reg ykH) (.seq (.reg ykG) (.seq (.seq (.reg ykF) (.cond (.t 10) ykE .skip)) (.seq (.seq (.reg yks) (.cond (.t 45) ykr .skip)) (.seq (.seq (.reg ykp) (.cond (.t 53) yko .skip)) (.seq (.seq (.reg ykm) (.cond (.t 63) ykl .skip)) (.seq (.reg ykj) .ret))))))),82,[.tmp 2]⟩
@[simp] theorem c_r06_Gate:cfun Tryz.prog n_r06_Gate=some r06_Gate:=by kernel_rfl
@[simp] theorem e_r06_Gate:hasBody Tryz.prog n_r06_Gate=true:=by kernel_rfl
abbrev ykI:List AG:=[zz1 81 1,o 82 (.call (.f n_r06_odd) [(.t 81),(.c (.int .i64 0))]),zz1 83 0,o 84 (.cmp .eql (.sc .int) (.t 83) (.c (.int .i64 9))),zz1 4 82,zzh 5,zz1 6 84]
abbrev ykJ:List AG:=[zz1 79 1,o 80 (.call (.f n_r06_odd) [(.t 79),(.c (.int .i64 1))]),zz1 4 80,zzh 5,o 6 (.mv (.c (.bool true)))]
abbrev ykK:ACode:=(.seq (.reg ykJ) .ret)
abbrev ykL:List AG:=[zz1 77 0,o 78 (.cmp .eql (.sc .int) (.t 77) (.c (.int .i64 8)))]
abbrev ykM:List AG:=[o 4 (.nilrow 1 t_string),zzh 5,zzh 6]
abbrev ykN:ACode:=(.seq (.reg ykM) .ret)
abbrev ykO:List AG:=[zz1 71 1,o 72 (.cmp .lss (.sc .int) (.t 71) (.c (.int .i64 2))),zz1 73 72,on 74 73 (.mv (.t 1)),on 75 73 (.cmp .gtr (.sc .int) (.t 74) (.c (.int .i64 8))),o 76 (.pick (.t 73) (.c (.bool true)) (.t 75))]
abbrev ykP:List AG:=[zz1 10 1,o 11 (.cmp .eql (.sc .int) (.t 10) (.c (.int .i64 0))),o 4 (.nilrow 1 t_string),zzh 5,zz1 6 11]
abbrev ykQ:List AG:=[o 14 (.lit 1 [(.str [])] [(0,(.c (.str [])))]),zz1 15 1,o 16 (.cmp .eql (.sc .int) (.t 15) (.c (.int .i64 0))),zz1 4 14,zzh 5,zz1 6 16]
abbrev ykR:List AG:=[o 19 (.lit 1 [(.str [])] [(0,(.c (.str [49])))]),zz1 20 1,o 21 (.cmp .eql (.sc .int) (.t 20) (.c (.int .i64 1))),zz1 4 19,zzh 5,zz1 6 21]
abbrev ykS:List AG:=[o 24 (.lit 1 [(.str [])] [(0,(.c (.str [48])))]),zz1 25 1,o 26 (.cmp .eql (.sc .int) (.t 25) (.c (.int .i64 1))),zz1 4 24,zzh 5,zz1 6 26]
abbrev ykT:List AG:=[zz1 29 1,o 30 (.call (.f n_r06_all) [(.c (.str [49])),(.t 29)]),o 31 (.lit 1 [(.str [])] [(0,(.t 30))]),zz1 32 1,o 33 (.cmp .geq (.sc .int) (.t 32) (.c (.int .i64 2))),zz1 34 33,zze 35 34 1,oy 36 34 (.cmp .leq (.sc .int) (.t 35) (.c (.int .i64 8))),zz8 37 34 36,zz1 4 31,zzh 5,zz1 6 37]
abbrev ykU:List AG:=[zz1 40 1,o 41 (.call (.f n_r06_all) [(.c (.str [49])),(.t 40)]),o 42 (.lit 1 [(.str [])] [(0,(.t 41))]),zz1 43 1,o 44 (.cmp .geq (.sc .int) (.t 43) (.c (.int .i64 2))),zz1 45 44,zze 46 45 1,oy 47 45 (.cmp .leq (.sc .int) (.t 46) (.c (.int .i64 8))),zz8 48 45 47,zz1 4 42,o 5 (.mv (.c (.bool true))),zz1 6 48]
abbrev ykV:List AG:=[zz1 51 1,o 52 (.call (.f n_r06_all) [(.c (.str [48])),(.t 51)]),o 53 (.lit 1 [(.str [])] [(0,(.t 52))]),zz1 54 1,o 55 (.cmp .geq (.sc .int) (.t 54) (.c (.int .i64 2))),zz1 56 55,zze 57 56 1,oy 58 56 (.cmp .leq (.sc .int) (.t 57) (.c (.int .i64 8))),zz8 59 56 58,zz1 4 53,o 5 (.mv (.c (.bool true))),zz1 6 59]
abbrev ykW:List AG:=[zz1 62 1,o 63 (.call (.f n_r06_all) [(.c (.str [48])),(.t 62)]),o 64 (.lit 1 [(.str [])] [(0,(.t 63))]),zz1 65 1,o 66 (.cmp .geq (.sc .int) (.t 65) (.c (.int .i64 2))),zz1 67 66,zze 68 67 1,oy 69 67 (.cmp .leq (.sc .int) (.t 68) (.c (.int .i64 8))),zz8 70 67 69,zz1 4 64,zzh 5,zz1 6 70]
abbrev ykX:ACode:=(.seq (.reg ykW) .ret)
abbrev ykY:List AG:=[o 61 (.cmp .eql (.sc .int) (.t 7) (.c (.int .i64 7))),zz1 60 61]
abbrev ykZ:ACode:=(.seq (.reg ykV) .ret)
abbrev yla:ACode:=(.seq (.reg ykY) (.cond (.t 60) ykX .skip))
abbrev ylb:List AG:=[o 50 (.cmp .eql (.sc .int) (.t 7) (.c (.int .i64 6))),zz1 49 50]
abbrev ylc:ACode:=(.seq (.reg ykU) .ret)
abbrev yle:ACode:=(.seq (.reg ylb) (.cond (.t 49) ykZ yla))
abbrev ylf:List AG:=[o 39 (.cmp .eql (.sc .int) (.t 7) (.c (.int .i64 5))),zz1 38 39]
abbrev ylg:ACode:=(.seq (.reg ykT) .ret)
abbrev ylh:ACode:=(.seq (.reg ylf) (.cond (.t 38) ylc yle))
abbrev yli:List AG:=[o 28 (.cmp .eql (.sc .int) (.t 7) (.c (.int .i64 4))),zz1 27 28]
abbrev ylj:ACode:=(.seq (.reg ykS) .ret)
abbrev ylk:ACode:=(.seq (.reg yli) (.cond (.t 27) ylg ylh))
abbrev yll:List AG:=[o 23 (.cmp .eql (.sc .int) (.t 7) (.c (.int .i64 3))),zz1 22 23]
abbrev ylm:ACode:=(.seq (.reg ykR) .ret)
abbrev yln:ACode:=(.seq (.reg yll) (.cond (.t 22) ylj ylk))
abbrev ylo:List AG:=[o 18 (.cmp .eql (.sc .int) (.t 7) (.c (.int .i64 2))),zz1 17 18]
abbrev ylp:ACode:=(.seq (.reg ykQ) .ret)
abbrev ylq:ACode:=(.seq (.reg ylo) (.cond (.t 17) ylm yln))
abbrev ylr:List AG:=[o 13 (.cmp .eql (.sc .int) (.t 7) (.c (.int .i64 1))),zz1 12 13]
abbrev yls:ACode:=(.seq (.reg ykP) .ret)
abbrev ylt:ACode:=(.seq (.reg ylr) (.cond (.t 12) ylp ylq))
abbrev ylu:List AG:=[o 9 (.cmp .eql (.sc .int) (.t 7) (.c (.int .i64 0))),zz1 8 9]
abbrev ylv:ACode:=(.seq (.reg ylu) (.cond (.t 8) yls ylt))
abbrev ylw:List AG:=[zz1 7 0]
abbrev ylx:List AG:=[o 4 (.nilrow 1 t_string),zzh 5,zzh 6]
abbrev r06_Rows:AFun:=⟨(.seq (.reg ylx) (.seq (.seq (.reg ylw) (.block 0 [] ylv)) (.seq (.seq (.reg ykO) (.cond (.t 76) ykN .skip)) (.seq (.seq (.reg ykL) (.cond (.t 78) ykK .skip)) (.seq (.reg ykI) .ret))))),85,[.tmp 4,.tmp 5,.tmp 6]⟩
@[simp] theorem c_r06_Rows:cfun Tryz.prog n_r06_Rows=some r06_Rows:=by kernel_rfl
@[simp] theorem e_r06_Rows:hasBody Tryz.prog n_r06_Rows=true:=by kernel_rfl
abbrev yly:List AG:=[o 4 (.mv (.c (.bool true)))]
abbrev ylz:List Bool:=[I,I,O,O,O,I,O,O,O,O,O,O,O,O,O,O,O,O,O,O,O,O,O,O,O,O,O,O,O,O,O,O,O,O,O]
abbrev ylA:List Bool:=[O,O,O,O,O,O,O,O,O,O,O,O,O,O,O,O,O,O,O,O,O,O,O,O,O,O,O,O,O,O,O,O,O,O,O]
abbrev ylB:List AG:=[zz1 10 5,zz6 11 10 1,zz1 5 11]
abbrev ylC:List AG:=[zzh 4]
abbrev ylD:ACode:=(.seq (.reg ylC) .ret)
abbrev ylE:List AG:=[zz1 12 0,zz1 13 5,o 14 (.ixStr (.t 12) (.t 13)),o 15 (.cmp .eql (.sc .int) (.t 14) (.c (.int .u8 49))),zz1 16 15,zze 17 16 1,zze 18 16 5,oy 19 16 (.ixAddr 1 (.t 17) (.t 18)),zzd 20 16 1 19,oy 21 16 (.not (.t 20)),zz8 22 16 21,zz1 23 22,on 24 23 (.mv (.t 0)),on 25 23 (.mv (.t 5)),on 26 23 (.ixStr (.t 24) (.t 25)),on 27 23 (.cmp .eql (.sc .int) (.t 26) (.c (.int .u8 48))),on 28 23 (.mv (.t 27)),zze 29 28 1,zze 30 28 5,oy 31 28 (.ixAddr 1 (.t 29) (.t 30)),zzd 32 28 1 31,on 33 23 (.pick (.t 28) (.t 32) (.c (.bool false))),o 34 (.pick (.t 23) (.c (.bool true)) (.t 33))]
abbrev ylF:ACode:=(.seq (.reg ylE) (.cond (.t 34) ylD .skip))
abbrev ylG:List AG:=[zz1 6 5,zz1 7 1,zza 8 7,zz7 9 6 8]
abbrev ylH:ACode:=(.seq (.seq (.reg ylG) (.cond (.t 9) .skip (.exit 0))) (.seq (.block 1 [] ylF) (.reg ylB)))
abbrev ylI:List AG:=[zz9 5 0]
abbrev ylJ:List AG:=[zzh 4]
abbrev r08_fits:AFun:=⟨(.seq (.reg ylJ) (.seq (.seq (.reg ylI) (.block 0 ylA (.loop ylz ylH))) (.seq (.reg yly) .ret))),35,[.tmp 4]⟩
@[simp] theorem c_r08_fits:cfun Tryz.prog n_r08_fits=some r08_fits:=by kernel_rfl
@[simp] theorem e_r08_fits:hasBody Tryz.prog n_r08_fits=true:=by kernel_rfl
abbrev ylK:List AG:=[zz1 10 3,o 11 (.cmp .eql (.sc .int) (.t 10) (.c (.int .i64 0))),zz1 2 11]
abbrev ylL:List AG:=[zz3 6 4 1,zzf 7 n_order_Check 6,zz1 5 7,zzc 8 5 0,zzc 9 5 1,zz1 3 8,zz1 4 9]
abbrev ylM:List AG:=[o 1 (.box 4 (.t 0)),zzh 2]
abbrev step_right:AFun:=⟨(.seq (.reg ylM) (.seq (.reg ylL) (.seq (.reg ylK) .ret))),12,[.tmp 2]⟩
@[simp] theorem c_step_right:cfun Tryz.prog n_step_right=some step_right:=by kernel_rfl
@[simp] theorem e_step_right:hasBody Tryz.prog n_step_right=true:=by kernel_rfl
abbrev ylN:List AG:=[zz1 10 3,o 11 (.cmp .eql (.sc .int) (.t 10) (.c (.int .i64 0))),zz1 2 11]
abbrev ylO:List AG:=[zz3 6 4 1,zzf 7 n_r07_Check 6,zz1 5 7,zzc 8 5 0,zzc 9 5 1,zz1 3 8,zz1 4 9]
abbrev ylP:List AG:=[o 1 (.box 4 (.t 0)),zzh 2]
abbrev r08_right:AFun:=⟨(.seq (.reg ylP) (.seq (.reg ylO) (.seq (.reg ylN) .ret))),12,[.tmp 2]⟩
@[simp] theorem c_r08_right:cfun Tryz.prog n_r08_right=some r08_right:=by kernel_rfl
@[simp] theorem e_r08_right:hasBody Tryz.prog n_r08_right=true:=by kernel_rfl
abbrev ylQ:List AG:=[zz3 14 4 1,zz3 15 4 1,zzf 16 n_net_Nets 15,zz1 17 4,o 18 (.build [(.list true 0 []),(.list true 0 []),(.list true 0 []),(.list true 0 []),(.list true 0 []),(.list true 0 [])] [(0,4,(.t 14)),(4,1,(.t 16)),(5,1,(.t 17))]),o 19 (.box 6 (.t 18)),zz1 2 19,zz9 3 0]
abbrev ylR:List AG:=[zz3 10 4 1,zzf 11 n_order_Sort 10,zz1 9 11,zzc 12 9 0,zzc 13 9 1,zz1 4 12,zz1 5 13]
abbrev ylS:List AG:=[o 2 (.mv (.c .nilp)),zz9 3 1]
abbrev ylT:ACode:=(.seq (.reg ylS) .ret)
abbrev ylU:List AG:=[zz3 6 4 1,zzf 7 n_step_right 6,o 8 (.not (.t 7))]
abbrev ylV:List AG:=[o 1 (.box 4 (.t 0)),o 2 (.mv (.c .nilp)),zz9 3 0]
abbrev step_begin:AFun:=⟨(.seq (.reg ylV) (.seq (.seq (.reg ylU) (.cond (.t 8) ylT .skip)) (.seq (.reg ylR) (.seq (.dreg [I,O,O,O,O,O,O,O] [6,3,6,6,6,9,9,9] ylQ) .ret)))),20,[.tmp 2,.tmp 3]⟩
@[simp] theorem c_step_begin:cfun Tryz.prog n_step_begin=some step_begin:=by kernel_rfl
@[simp] theorem e_step_begin:hasBody Tryz.prog n_step_begin=true:=by kernel_rfl
abbrev ylW:List AG:=[zz1 85 8,zz1 6 85,zz9 7 0]
abbrev ylX:List Bool:=[I,O,O,O,O,O,O,O,I,O,O,O,O,O,O,O,O,O,O,O,O,O,O,O,O,O,O,O,O,O,O,O,O,O,O,O,O,O,O,O,O,O,O,O,O,O,O,O,O,O,O,O,O,O,O,O,O,O,I,I,I,O,O,O,O,O,O,O,O,O,O,O,O,O,O,O,O,O,O,O,O,O,O,O,O,O]
abbrev ylY:List Bool:=[O,O,O,O,O,O,O,O,I,O,O,O,O,O,O,O,O,O,O,O,O,O,O,O,O,O,O,O,O,O,O,O,O,O,O,O,O,O,O,O,O,O,O,O,O,O,O,O,O,O,O,O,O,O,O,O,O,O,O,O,O,O,O,O,O,O,O,O,O,O,O,O,O,O,O,O,O,O,O,O,O,O,O,O,O,O]
abbrev ylZ:List AG:=[zz6 84 60 1,zz1 60 84]
abbrev yma:List AG:=[zz1 73 8,zz4 74 0 13,zz2 75 1 74,zz3 76 5 13,zz1 77 8,zz4 78 2 13,zz2 79 1 78,zzg 80 n_step_pick 77 79,zzg 81 n_step_Gate 76 80,zz1 72 81,zzc 82 72 0,zzc 83 72 1,q (.upd (.sc .str) (.t 73) (.t 75) (.t 82))]
abbrev ymb:List AG:=[zz1 64 0,o 65 (.nilck (.t 64)),zz4 66 0 65,zz4 67 3 66,zz2 68 1 67,zz1 69 12,zz5 70 5 68 69,zz3 71 5 70,o 13 (.alloc [(.str []),(.int .i64 0),(.own 1 t_string []),(.own 1 t_string []),(.bool false)]),zzb 5 13 71]
abbrev ymc:List AG:=[zz5 62 1 58 60,zz2 63 1 62,zz1 12 63]
abbrev ymd:ACode:=(.seq (.reg ymc) (.seq (.reg ymb) (.dreg [O,O,I,I,O,O,O,O,O,O,O,O,O] [13,13,13,9,8,8,8,9,13,13,13,14,14] yma)))
abbrev yme:List AG:=[zz7 61 60 59]
abbrev ymf:ACode:=(.seq (.reg yme) (.seq (.cond (.t 61) .skip (.exit 2)) (.seq (.block 3 [] ymd) (.reg ylZ))))
abbrev ymg:List AG:=[zz1 55 0,o 56 (.nilck (.t 55)),zz4 57 5 56,zz2 58 1 57,zza 59 58,zz9 60 0]
abbrev ymh:List Bool:=[I,O,O,O,O,O,O,O,I,O,O,O,O,O,O,O,O,O,O,O,O,O,O,O,O,O,O,O,O,O,O,O,O,O,O,O,O,O,I,I,I,O,O,O,O,O,O,O,O,O,O,O,O,O,O,O,O,O,O,O,O,O,O,O,O,O,O,O,O,O,O,O,O,O,O,O,O,O,O,O,O,O,O,O,O,O]
abbrev ymi:List Bool:=[I,O,O,O,O,O,O,O,I,O,O,O,O,O,O,O,O,O,O,O,O,O,O,O,O,O,O,O,O,O,O,O,O,O,O,O,O,O,O,O,O,O,O,O,O,O,O,O,O,O,O,O,O,O,O,O,O,O,O,O,O,O,O,O,O,O,O,O,O,O,O,O,O,O,O,O,O,O,O,O,O,O,O,O,O,O]
abbrev ymj:List AG:=[zz6 54 40 1,zz1 40 54]
abbrev ymk:List AG:=[zz1 45 8,zz1 46 0,o 47 (.nilck (.t 46)),zz4 48 4 47,zz2 49 1 48,zz1 50 9,zz5 51 1 49 50,zz2 52 1 51,zz1 53 10,q (.upd (.sc .str) (.t 45) (.t 52) (.t 53))]
abbrev yml:List AG:=[zz1 42 40,zz5 43 1 38 40,zz2 44 1 43,zz1 9 42,zz1 10 44]
abbrev ymm:ACode:=(.seq (.reg yml) (.reg ymk))
abbrev ymn:List AG:=[zz7 41 40 39]
abbrev ymo:ACode:=(.seq (.reg ymn) (.seq (.cond (.t 41) .skip (.exit 0)) (.seq (.block 1 [] ymm) (.reg ymj))))
abbrev ymp:List AG:=[zz1 35 2,zz1 36 1,o 37 (.lit 1 [(.list true 0 []),(.list true 0 [])] [(0,(.t 35)),(1,(.t 36))]),zzf 38 n_slices_Concat_bool_bool 37,zza 39 38,zz9 40 0]
abbrev ymq:List AG:=[o 34 (.mkMap),zz1 8 34]
abbrev ymr:List AG:=[o 6 (.mv (.c .nilm)),zz9 7 11]
abbrev yms:ACode:=(.seq (.reg ymr) .ret)
abbrev ymt:List AG:=[zz1 14 1,zza 15 14,zz1 16 0,o 17 (.nilck (.t 16)),zz4 18 0 17,zz4 19 2 18,zz2 20 1 19,zza 21 20,o 22 (.cmp .neq (.sc .int) (.t 15) (.t 21)),zz1 23 22,on 24 23 (.mv (.t 2)),on 25 23 (.len (.t 24)),on 26 23 (.mv (.t 0)),on 27 23 (.nilck (.t 26)),on 28 23 (.off 0 (.t 27)),on 29 23 (.off 0 (.t 28)),on 30 23 (.load false 1 (.t 29)),on 31 23 (.len (.t 30)),on 32 23 (.cmp .neq (.sc .int) (.t 25) (.t 31)),o 33 (.pick (.t 23) (.c (.bool true)) (.t 32))]
abbrev ymu:List AG:=[o 6 (.mv (.c .nilm)),zz9 7 0]
abbrev step_machine_values:AFun:=⟨(.seq (.reg ymu) (.seq (.seq (.reg ymt) (.cond (.t 33) yms .skip)) (.seq (.reg ymq) (.seq (.seq (.reg ymp) (.block 0 ymi (.loop ymh ymo))) (.seq (.seq (.reg ymg) (.block 2 ylY (.loop ylX ymf))) (.seq (.reg ylW) .ret)))))),86,[.tmp 6,.tmp 7]⟩
abbrev ymv:List It:=[.code (.seq (.reg ylW) .ret)]
abbrev ymw (x0 x8 x58 x59 x60:AV) (h:List Ob) (e:Cx:=cx):Cfg:=atC n_step_machine_values (.code ymf::.inLoop ylX ymf::.inBlock 2 ylY::ymv) [x0,U,U,U,U,U,U,U,x8,U,U,U,U,U,U,U,U,U,U,U,U,U,U,U,U,U,U,U,U,U,U,U,U,U,U,U,U,U,U,U,U,U,U,U,U,U,U,U,U,U,U,U,U,U,U,U,U,U,x58,x59,x60,U,U,U,U,U,U,U,U,U,U,U,U,U,U,U,U,U,U,U,U,U,U,U,U,U] h e
abbrev ymx (x8:AV) (h:List Ob) (e:Cx:=cx):Cfg:=atC n_step_machine_values ymv [U,U,U,U,U,U,U,U,x8,U,U,U,U,U,U,U,U,U,U,U,U,U,U,U,U,U,U,U,U,U,U,U,U,U,U,U,U,U,U,U,U,U,U,U,U,U,U,U,U,U,U,U,U,U,U,U,U,U,U,U,U,U,U,U,U,U,U,U,U,U,U,U,U,U,U,U,U,U,U,U,U,U,U,U,U,U] h e
abbrev ymy:List It:=[.code (.seq (.seq (.reg ymg) (.block 2 ylY (.loop ylX ymf))) (.seq (.reg ylW) .ret))]
abbrev ymz (x0 x8 x38 x39 x40:AV) (h:List Ob) (e:Cx:=cx):Cfg:=atC n_step_machine_values (.code ymo::.inLoop ymh ymo::.inBlock 0 ymi::ymy) [x0,U,U,U,U,U,U,U,x8,U,U,U,U,U,U,U,U,U,U,U,U,U,U,U,U,U,U,U,U,U,U,U,U,U,U,U,U,U,x38,x39,x40,U,U,U,U,U,U,U,U,U,U,U,U,U,U,U,U,U,U,U,U,U,U,U,U,U,U,U,U,U,U,U,U,U,U,U,U,U,U,U,U,U,U,U,U,U] h e
abbrev ymA (x0 x8:AV) (h:List Ob) (e:Cx:=cx):Cfg:=atC n_step_machine_values ymy [x0,U,U,U,U,U,U,U,x8,U,U,U,U,U,U,U,U,U,U,U,U,U,U,U,U,U,U,U,U,U,U,U,U,U,U,U,U,U,U,U,U,U,U,U,U,U,U,U,U,U,U,U,U,U,U,U,U,U,U,U,U,U,U,U,U,U,U,U,U,U,U,U,U,U,U,U,U,U,U,U,U,U,U,U,U,U] h e
@[simp] theorem c_step_machine_values:cfun Tryz.prog n_step_machine_values=some step_machine_values:=by kernel_rfl
@[simp] theorem e_step_machine_values:hasBody Tryz.prog n_step_machine_values=true:=by kernel_rfl
abbrev ymB:List AG:=[zz1 21 5,zz1 4 21]
abbrev ymC:List Bool:=[I,O,O,O,O,I,O,O,I,I,I,O,O,O,O,O,O,O,O,O,O,O]
abbrev ymD:List Bool:=[O,O,O,O,O,I,O,O,O,O,O,O,O,O,O,O,O,O,O,O,O,O]
abbrev ymE:List AG:=[zz6 20 10 1,zz1 10 20]
abbrev ymF:List AG:=[zz1 14 5,zz1 15 0,zz1 16 7,o 17 (.lookup (.sc .str) (.bool false) (.t 15) (.t 16) false),o 18 (.lit 1 [(.bool false)] [(0,(.t 17))]),o 19 (.append 1 t_bool 1 (.t 14) (.t 18)),zz1 5 19]
abbrev ymG:List AG:=[zz5 12 1 8 10,zz2 13 1 12,zz1 7 13]
abbrev ymH:ACode:=(.seq (.reg ymG) (.reg ymF))
abbrev ymI:List AG:=[zz7 11 10 9]
abbrev ymJ:ACode:=(.seq (.reg ymI) (.seq (.cond (.t 11) .skip (.exit 0)) (.seq (.block 1 [] ymH) (.reg ymE))))
abbrev ymK:List AG:=[zz1 8 1,zza 9 8,zz9 10 0]
abbrev ymL:List AG:=[o 5 (.nilrow 1 t_bool)]
abbrev ymM:List AG:=[o 4 (.nilrow 1 t_bool)]
abbrev step_pick:AFun:=⟨(.seq (.reg ymM) (.seq (.reg ymL) (.seq (.seq (.reg ymK) (.block 0 ymD (.loop ymC ymJ))) (.seq (.reg ymB) .ret)))),22,[.tmp 4]⟩
abbrev ymN:List It:=[.code (.seq (.reg ymB) .ret)]
abbrev ymO (x0 x5 x8 x9 x10:AV) (h:List Ob) (e:Cx:=cx):Cfg:=atC n_step_pick (.code ymJ::.inLoop ymC ymJ::.inBlock 0 ymD::ymN) [x0,U,U,U,U,x5,U,U,x8,x9,x10,U,U,U,U,U,U,U,U,U,U,U] h e
@[simp] theorem c_step_pick:cfun Tryz.prog n_step_pick=some step_pick:=by kernel_rfl
@[simp] theorem e_step_pick:hasBody Tryz.prog n_step_pick=true:=by kernel_rfl
abbrev ymP:List AG:=[zz1 75 4,zz1 76 5,zz1 2 75,zz1 3 76]
abbrev ymQ:List Bool:=[O,I,O,O,I,I,I,O,O,I,O,O,O,O,O,O,O,O,O,O,O,O,O,O,O,O,O,O,O,O,O,O,O,O,O,O,O,O,O,O,O,O,O,O,O,O,O,O,O,O,O,O,O,O,O,O,O,O,O,O,O,O,O,O,O,O,O,O,O,O,O,O,O,O,O,O,O]
abbrev ymR:List Bool:=[O,O,O,O,I,I,O,O,O,O,O,O,O,O,O,O,O,O,O,O,O,O,O,O,O,O,O,O,O,O,O,O,O,O,O,O,O,O,O,O,O,O,O,O,O,O,O,O,O,O,O,O,O,O,O,O,O,O,O,O,O,O,O,O,O,O,O,O,O,O,O,O,O,O,O,O,O]
abbrev ymS:List AG:=[zz1 59 9,zz6 60 59 1,zz1 9 60]
abbrev ymT:List AG:=[zz1 66 5,zz4 67 3 1,zz2 68 1 67,zz1 69 9,zz5 70 5 68 69,zz4 71 0 70,zz2 72 1 71,o 73 (.lit 1 [(.str [])] [(0,(.t 72))]),o 74 (.append 1 t_string 16 (.t 66) (.t 73)),zz1 5 74]
abbrev ymU:List AG:=[zz1 61 6,zz1 62 9,zz5 63 1 61 62,zz2 64 1 63,o 65 (.not (.t 64))]
abbrev ymV:ACode:=(.seq (.reg ymU) (.cond (.t 65) (.reg ymT) .skip))
abbrev ymW:List AG:=[zz1 54 9,zz4 55 3 1,zz2 56 1 55,zza 57 56,zz7 58 54 57]
abbrev ymX:ACode:=(.seq (.seq (.reg ymW) (.cond (.t 58) .skip (.exit 4))) (.seq (.block 5 [] ymV) (.reg ymS)))
abbrev ymY:List AG:=[zz9 9 0]
abbrev ymZ:List Bool:=[O,I,O,O,I,I,I,I,O,O,O,O,O,O,O,O,O,O,O,O,O,O,O,O,O,O,O,O,O,O,O,O,O,O,O,O,O,O,O,O,O,O,O,O,O,O,O,O,O,O,O,O,O,O,O,O,O,O,O,O,O,O,O,O,O,O,O,O,O,O,O,O,O,O,O,O,O]
abbrev yna:List Bool:=[O,I,O,O,I,I,I,O,O,O,O,O,O,O,O,O,O,O,O,O,O,O,O,O,O,O,O,O,O,O,O,O,O,O,O,O,O,O,O,O,O,O,O,O,O,O,O,O,O,O,O,O,O,O,O,O,O,O,O,O,O,O,O,O,O,O,O,O,O,O,O,O,O,O,O,O,O]
abbrev ynb:List AG:=[zz1 22 7,zz6 23 22 1,zz1 7 23]
abbrev ync:List Bool:=[O,I,O,O,I,I,I,I,I,O,O,O,O,O,O,O,O,O,O,O,O,O,O,O,O,O,O,O,O,O,O,O,O,O,O,O,O,O,O,O,O,O,O,O,O,O,O,O,O,O,O,O,O,O,O,O,O,O,O,O,O,O,O,O,O,O,O,O,O,O,O,O,O,O,O,O,O]
abbrev ynd:List Bool:=[O,I,O,O,I,I,I,I,O,O,O,O,O,O,O,O,O,O,O,O,O,O,O,O,O,O,O,O,O,O,O,O,O,O,O,O,O,O,O,O,O,O,O,O,O,O,O,O,O,O,O,O,O,O,O,O,O,O,O,O,O,O,O,O,O,O,O,O,O,O,O,O,O,O,O,O,O]
abbrev yne:List AG:=[zz1 29 8,zz6 30 29 1,zz1 8 30]
abbrev ynf:List AG:=[zz1 50 4,zz1 51 8,o 52 (.lit 1 [(.int .i64 0)] [(0,(.t 51))]),o 53 (.append 1 t_int 8 (.t 50) (.t 52)),zz1 4 53]
abbrev yng:List AG:=[zz1 47 6,zz1 48 8,zz5 49 1 47 48,q (.store 1 (.t 49) (.c (.bool true)))]
abbrev ynh:ACode:=(.seq (.reg yng) (.seq (.reg ynf) (.exit 2)))
abbrev yni:List AG:=[zz1 31 6,zz1 32 8,zz5 33 1 31 32,zz2 34 1 33,o 35 (.not (.t 34)),zz1 36 35,oy 37 36 (.load true 4 (.t 1)),oy 38 36 (.off 3 (.t 1)),zzd 39 36 1 38,zze 40 36 8,oy 41 36 (.ixAddr 5 (.t 39) (.t 40)),oy 42 36 (.load true 5 (.t 41)),zze 43 36 6,oy 44 36 (.call (.f n_r07_waits) [(.t 37),(.t 42),(.t 43)]),oy 45 36 (.not (.t 44)),zz8 46 36 45]
abbrev ynj:ACode:=(.seq (.dreg [O,O,O,O,O,O,O,O,O,O,O,O,O,O,O,O] [14,14,14,14,14,14,14,14,14,14,14,14,14,17,17,17] yni) (.cond (.t 46) ynh .skip))
abbrev ynk:List AG:=[zz1 24 8,zz4 25 3 1,zz2 26 1 25,zza 27 26,zz7 28 24 27]
abbrev ynl:ACode:=(.seq (.seq (.reg ynk) (.cond (.t 28) .skip (.exit 2))) (.seq (.block 3 [] ynj) (.reg yne)))
abbrev ynm:List AG:=[zz9 8 0]
abbrev ynn:ACode:=(.seq (.reg ynm) (.block 2 ynd (.loop ync ynl)))
abbrev yno:List AG:=[zz1 17 7,zz4 18 3 1,zz2 19 1 18,zza 20 19,zz7 21 17 20]
abbrev ynp:ACode:=(.seq (.seq (.reg yno) (.cond (.t 21) .skip (.exit 0))) (.seq (.block 1 [] ynn) (.reg ynb)))
abbrev ynq:List AG:=[zz9 7 0]
abbrev ynr:List AG:=[zz4 13 3 1,zz2 14 1 13,zza 15 14,o 16 (.mkSlice 1 t_bool 1 (.bool false) (.t 15) (.t 15)),zz1 6 16]
abbrev yns:List AG:=[o 2 (.nilrow 1 t_int),o 3 (.nilrow 1 t_string)]
abbrev ynt:ACode:=(.seq (.reg yns) .ret)
abbrev ynu:List AG:=[zz3 10 4 1,zzf 11 n_r07_right 10,o 12 (.not (.t 11))]
abbrev ynv:List AG:=[o 5 (.nilrow 1 t_string)]
abbrev ynw:List AG:=[o 4 (.nilrow 1 t_int)]
abbrev ynx:List AG:=[o 1 (.box 4 (.t 0)),o 2 (.nilrow 1 t_int),o 3 (.nilrow 1 t_string)]
abbrev r07_Sort:AFun:=⟨(.seq (.reg ynx) (.seq (.reg ynw) (.seq (.reg ynv) (.seq (.seq (.reg ynu) (.cond (.t 12) ynt .skip)) (.seq (.reg ynr) (.seq (.seq (.reg ynq) (.block 0 yna (.loop ymZ ynp))) (.seq (.seq (.reg ymY) (.block 4 ymR (.loop ymQ ymX))) (.seq (.reg ymP) .ret)))))))),77,[.tmp 2,.tmp 3]⟩
@[simp] theorem c_r07_Sort:cfun Tryz.prog n_r07_Sort=some r07_Sort:=by kernel_rfl
@[simp] theorem e_r07_Sort:hasBody Tryz.prog n_r07_Sort=true:=by kernel_rfl
abbrev yny:List AG:=[zz1 42 9,zz1 43 0,o 44 (.nilck (.t 43)),zz4 45 0 44,zz4 46 1 45,zz2 47 1 46,zzg 48 n_step_pick 42 47,zz1 49 11,zz1 6 48,zz1 7 49,zz9 8 0]
abbrev ynz:List Bool:=[I,O,O,O,O,O,O,O,O,I,O,I,O,O,O,O,O,O,O,O,O,O,O,O,O,O,O,O,I,I,I,O,O,O,O,O,O,O,O,O,O,O,O,O,O,O,O,O,O,O]
abbrev ynA:List Bool:=[I,O,O,O,O,O,O,O,O,I,O,I,O,O,O,O,O,O,O,O,O,O,O,O,O,O,O,O,O,O,O,O,O,O,O,O,O,O,O,O,O,O,O,O,O,O,O,O,O,O]
abbrev ynB:List AG:=[zz6 41 30 1,zz1 30 41]
abbrev ynC:List AG:=[zz1 34 11,zz1 35 9,zz4 36 1 13,zz2 37 1 36,o 38 (.lookup (.sc .str) (.bool false) (.t 35) (.t 37) false),o 39 (.lit 1 [(.bool false)] [(0,(.t 38))]),o 40 (.append 1 t_bool 1 (.t 34) (.t 39)),zz1 11 40]
abbrev ynD:List AG:=[zz5 32 3 28 30,zz3 33 3 32,o 13 (.alloc [(.str []),(.str []),(.int .i64 0)]),zzb 3 13 33]
abbrev ynE:ACode:=(.seq (.reg ynD) (.reg ynC))
abbrev ynF:List AG:=[zz7 31 30 29]
abbrev ynG:ACode:=(.seq (.reg ynF) (.seq (.cond (.t 31) .skip (.exit 0)) (.seq (.block 1 [] ynE) (.reg ynB))))
abbrev ynH:List AG:=[zz1 24 0,o 25 (.nilck (.t 24)),zz4 26 0 25,zz4 27 2 26,zz2 28 1 27,zza 29 28,zz9 30 0]
abbrev ynI:List AG:=[o 11 (.nilrow 1 t_bool)]
abbrev ynJ:List AG:=[zz1 23 10,o 6 (.nilrow 1 t_bool),o 7 (.nilrow 1 t_bool),zz1 8 23]
abbrev ynK:ACode:=(.seq (.reg ynJ) .ret)
abbrev ynL:List AG:=[zz1 21 10,o 22 (.cmp .neq (.sc .int) (.t 21) (.c (.int .i64 0)))]
abbrev ynM:List AG:=[zz1 15 0,zz1 16 1,zz1 17 2,o 18 (.call (.f n_step_machine_values) [(.t 15),(.t 16),(.t 17)]),zz1 14 18,zzc 19 14 0,zzc 20 14 1,zz1 9 19,zz1 10 20]
abbrev ynN:List AG:=[o 6 (.nilrow 1 t_bool),o 7 (.nilrow 1 t_bool),zz9 8 0]
abbrev step_machine_step:AFun:=⟨(.seq (.reg ynN) (.seq (.reg ynM) (.seq (.seq (.reg ynL) (.cond (.t 22) ynK .skip)) (.seq (.reg ynI) (.seq (.seq (.reg ynH) (.block 0 ynA (.loop ynz ynG))) (.seq (.reg yny) .ret)))))),50,[.tmp 6,.tmp 7,.tmp 8]⟩
abbrev ynO:List It:=[.code (.seq (.reg yny) .ret)]
abbrev ynP (x0 x9 x11 x28 x29 x30:AV) (h:List Ob) (e:Cx:=cx):Cfg:=atC n_step_machine_step (.code ynG::.inLoop ynz ynG::.inBlock 0 ynA::ynO) [x0,U,U,U,U,U,U,U,U,x9,U,x11,U,U,U,U,U,U,U,U,U,U,U,U,U,U,U,U,x28,x29,x30,U,U,U,U,U,U,U,U,U,U,U,U,U,U,U,U,U,U,U] h e
abbrev ynQ (x0 x9 x11:AV) (h:List Ob) (e:Cx:=cx):Cfg:=atC n_step_machine_step ynO [x0,U,U,U,U,U,U,U,U,x9,U,x11,U,U,U,U,U,U,U,U,U,U,U,U,U,U,U,U,U,U,U,U,U,U,U,U,U,U,U,U,U,U,U,U,U,U,U,U,U,U] h e
@[simp] theorem c_step_machine_step:cfun Tryz.prog n_step_machine_step=some step_machine_step:=by kernel_rfl
@[simp] theorem e_step_machine_step:hasBody Tryz.prog n_step_machine_step=true:=by kernel_rfl
abbrev ynR:List AG:=[o 9 (.mkFunc (.func n_step_machine_steps_1) [] [(.t 6),(.t 4),(.t 5),(.t 7)]),zz1 8 9]
abbrev ynS:List AG:=[o 4 (.box 1 (.t 0)),o 5 (.box 1 (.t 1)),o 6 (.box 1 (.t 2)),o 7 (.box 1 (.t 3)),o 8 (.mv (.c .nilf))]
abbrev step_machine_steps:AFun:=⟨(.seq (.reg ynS) (.seq (.reg ynR) .ret)),10,[.tmp 8]⟩
@[simp] theorem c_step_machine_steps:cfun Tryz.prog n_step_machine_steps=some step_machine_steps:=by kernel_rfl
@[simp] theorem e_step_machine_steps:hasBody Tryz.prog n_step_machine_steps=true:=by kernel_rfl
abbrev ynT:List AG:=[o 5 (.lit 1 [] []),zz1 6 0,o 7 (.append 1 t_bool 1 (.t 5) (.t 6)),zz1 2 7]
abbrev ynU:List AG:=[o 2 (.nilrow 1 t_bool)]
abbrev ynV:ACode:=(.seq (.reg ynU) .ret)
abbrev ynW:List AG:=[zz1 3 0,o 4 (.isnil false (.t 3))]
abbrev ynX:List AG:=[o 2 (.nilrow 1 t_bool)]
abbrev slices_Clone_bool_bool:AFun:=⟨(.seq (.reg ynX) (.seq (.seq (.reg ynW) (.cond (.t 4) ynV .skip)) (.seq (.reg ynT) .ret))),8,[.tmp 2]⟩
@[simp] theorem c_slices_Clone_bool_bool:cfun Tryz.prog n_slices_Clone_bool_bool=some slices_Clone_bool_bool:=by kernel_rfl
@[simp] theorem e_slices_Clone_bool_bool:hasBody Tryz.prog n_slices_Clone_bool_bool=true:=by kernel_rfl
abbrev ynY:List AG:=[zz1 10 3,o 11 (.cmp .eql (.sc .int) (.t 10) (.c (.int .i64 0))),zz1 2 11]
abbrev ynZ:List AG:=[zz3 6 4 1,zzf 7 n_net_Check 6,zz1 5 7,zzc 8 5 0,zzc 9 5 1,zz1 3 8,zz1 4 9]
abbrev yoa:List AG:=[o 1 (.box 4 (.t 0)),zzh 2]
abbrev order_right:AFun:=⟨(.seq (.reg yoa) (.seq (.reg ynZ) (.seq (.reg ynY) .ret))),12,[.tmp 2]⟩
@[simp] theorem c_order_right:cfun Tryz.prog n_order_right=some order_right:=by kernel_rfl
@[simp] theorem e_order_right:hasBody Tryz.prog n_order_right=true:=by kernel_rfl
abbrev yob:List AG:=[o 5 (.lit 1 [] []),zz1 6 0,o 7 (.append 1 t_string 16 (.t 5) (.t 6)),zz1 2 7]
abbrev yoc:List AG:=[o 2 (.nilrow 1 t_string)]
abbrev yod:ACode:=(.seq (.reg yoc) .ret)
abbrev yoe:List AG:=[zz1 3 0,o 4 (.isnil false (.t 3))]
abbrev yof:List AG:=[o 2 (.nilrow 1 t_string)]
abbrev slices_Clone_string_string:AFun:=⟨(.seq (.reg yof) (.seq (.seq (.reg yoe) (.cond (.t 4) yod .skip)) (.seq (.reg yob) .ret))),8,[.tmp 2]⟩
@[simp] theorem c_slices_Clone_string_string:cfun Tryz.prog n_slices_Clone_string_string=some slices_Clone_string_string:=by kernel_rfl
@[simp] theorem e_slices_Clone_string_string:hasBody Tryz.prog n_slices_Clone_string_string=true:=by kernel_rfl
abbrev yog:List AG:=[zz1 42 3,zz1 2 42]
abbrev yoh:List Bool:=[O,I,O,I,O,I,O,O,O,O,O,O,O,O,O,O,O,O,O,O,O,O,O,O,O,O,O,O,O,O,O,O,O,O,O,O,O,O,O,O,O,O,O]
abbrev yoi:List Bool:=[O,O,O,I,O,O,O,O,O,O,O,O,O,O,O,O,O,O,O,O,O,O,O,O,O,O,O,O,O,O,O,O,O,O,O,O,O,O,O,O,O,O,O]
abbrev yoj:List AG:=[zz1 31 5,zz6 32 31 1,zz1 5 32]
abbrev yok:List AG:=[zz1 33 3,zz4 34 3 1,zz2 35 1 34,zz1 36 5,zz5 37 5 35 36,zz4 38 0 37,zz2 39 1 38,o 40 (.lit 1 [(.str [])] [(0,(.t 39))]),o 41 (.append 1 t_string 16 (.t 33) (.t 40)),zz1 3 41]
abbrev yol:List AG:=[zz1 26 5,zz4 27 3 1,zz2 28 1 27,zza 29 28,zz7 30 26 29]
abbrev yom:ACode:=(.seq (.seq (.reg yol) (.cond (.t 30) .skip (.exit 2))) (.seq (.block 3 [] (.reg yok)) (.reg yoj)))
abbrev yon:List AG:=[zz9 5 0]
abbrev yoo:List Bool:=[O,I,O,I,I,O,O,O,O,O,O,O,O,O,O,O,O,O,O,O,O,O,O,O,O,O,O,O,O,O,O,O,O,O,O,O,O,O,O,O,O,O,O]
abbrev yop:List Bool:=[O,I,O,I,O,O,O,O,O,O,O,O,O,O,O,O,O,O,O,O,O,O,O,O,O,O,O,O,O,O,O,O,O,O,O,O,O,O,O,O,O,O,O]
abbrev yoq:List AG:=[zz1 15 4,zz6 16 15 1,zz1 4 16]
abbrev yor:List AG:=[zz1 17 3,zz4 18 2 1,zz2 19 1 18,zz1 20 4,zz5 21 3 19 20,zz4 22 0 21,zz2 23 1 22,o 24 (.lit 1 [(.str [])] [(0,(.t 23))]),o 25 (.append 1 t_string 16 (.t 17) (.t 24)),zz1 3 25]
abbrev yos:List AG:=[zz1 10 4,zz4 11 2 1,zz2 12 1 11,zza 13 12,zz7 14 10 13]
abbrev yot:ACode:=(.seq (.seq (.reg yos) (.cond (.t 14) .skip (.exit 0))) (.seq (.block 1 [] (.reg yor)) (.reg yoq)))
abbrev you:List AG:=[zz9 4 0]
abbrev yov:List AG:=[zz1 6 3,zz4 7 0 1,zz2 8 1 7,o 9 (.append 1 t_string 16 (.t 6) (.t 8)),zz1 3 9]
abbrev yow:List AG:=[o 3 (.nilrow 1 t_string)]
abbrev yox:List AG:=[o 1 (.box 4 (.t 0)),o 2 (.nilrow 1 t_string)]
abbrev r06_Nets:AFun:=⟨(.seq (.reg yox) (.seq (.reg yow) (.seq (.reg yov) (.seq (.seq (.reg you) (.block 0 yop (.loop yoo yot))) (.seq (.seq (.reg yon) (.block 2 yoi (.loop yoh yom))) (.seq (.reg yog) .ret)))))),43,[.tmp 2]⟩
@[simp] theorem c_r06_Nets:cfun Tryz.prog n_r06_Nets=some r06_Nets:=by kernel_rfl
@[simp] theorem e_r06_Nets:hasBody Tryz.prog n_r06_Nets=true:=by kernel_rfl
abbrev yoy:List AG:=[zz1 13 6,zz1 14 13,zze 15 14 1,oy 16 14 (.arrAddr 2 1 (.t 5) (.c (.int .i64 0))),zzd 17 14 1 16,oy 18 14 (.cmp .geq (.sc .int) (.t 15) (.t 17)),zz8 19 14 18,zz1 20 19,zze 21 20 1,oy 22 20 (.arrAddr 2 1 (.t 5) (.c (.int .i64 1))),zzd 23 20 1 22,oy 24 20 (.cmp .leq (.sc .int) (.t 21) (.t 23)),zz8 25 20 24,zz1 4 25]
abbrev yoz:List AG:=[o 8 (.load false 1 (.g 0)),zz1 9 0,o 10 (.lookup (.sc .int) (.agg [(.int .i64 0),(.int .i64 0)]) (.t 8) (.t 9) true),zz1 7 10,zzc 11 7 0,zzc 12 7 1,o 5 (.alloc [(.int .i64 0),(.int .i64 0)]),zzb 2 5 11,zz1 6 12]
abbrev yoA:List AG:=[zzh 4]
abbrev net_has:AFun:=⟨(.seq (.reg yoA) (.seq (.reg yoz) (.seq (.reg yoy) .ret))),26,[.tmp 4]⟩
@[simp] theorem c_net_has:cfun Tryz.prog n_net_has=some net_has:=by kernel_rfl
@[simp] theorem e_net_has:hasBody Tryz.prog n_net_has=true:=by kernel_rfl
abbrev yoB:List AG:=[zz2 45 1 8,zz1 4 45,zzh 5]
abbrev yoC:List AG:=[zz1 9 40]
abbrev yoD:List AG:=[zz2 41 1 8,zz1 42 9,o 43 (.lit 1 [(.str [])] [(0,(.t 42))]),o 44 (.append 1 t_string 16 (.t 41) (.t 43)),zzb 1 8 44]
abbrev yoE:ACode:=(.block 2 [] (.reg yoD))
abbrev yoF:ACode:=(.rangeFunc (.t 39) [40] [O,O,O,O,I,I,O,O,I,O,O,O,O,O,O,O,O,O,O,O,O,O,O,O,O,O,O,O,O,O,O,O,O,O,O,O,O,O,O,O,O,O,O,O,O,O] (.reg yoC) yoE)
abbrev yoG:List AG:=[zz1 36 1,zz1 37 0,o 38 (.cmp .eql (.sc .int) (.t 37) (.c (.int .i64 8))),zzg 39 n_net_parity 36 38]
abbrev yoH:List AG:=[o 8 (.alloc [(.own 1 t_string [])])]
abbrev yoI:List AG:=[o 4 (.nilrow 1 t_string),zzh 5]
abbrev yoJ:List AG:=[zz1 21 6,o 22 (.lit 1 [(.str [])] [(0,(.t 21))]),zz1 4 22,zzh 5]
abbrev yoK:List AG:=[zz1 26 7,o 27 (.lit 1 [(.str [])] [(0,(.t 26))]),zz1 4 27,zzh 5]
abbrev yoL:List AG:=[zz1 30 6,o 31 (.lit 1 [(.str [])] [(0,(.t 30))]),zz1 4 31,o 5 (.mv (.c (.bool true)))]
abbrev yoM:List AG:=[zz1 34 7,o 35 (.lit 1 [(.str [])] [(0,(.t 34))]),zz1 4 35,o 5 (.mv (.c (.bool true)))]
abbrev yoN:ACode:=(.seq (.reg yoM) .ret)
abbrev yoO:List AG:=[o 33 (.cmp .eql (.sc .int) (.t 14) (.c (.int .i64 6))),zz1 32 33]
abbrev yoP:ACode:=(.seq (.reg yoL) .ret)
abbrev yoQ:ACode:=(.seq (.reg yoO) (.cond (.t 32) yoN .skip))
abbrev yoR:List AG:=[o 29 (.cmp .eql (.sc .int) (.t 14) (.c (.int .i64 5))),zz1 28 29]
abbrev yoS:ACode:=(.seq (.reg yoK) .ret)
abbrev yoT:ACode:=(.seq (.reg yoR) (.cond (.t 28) yoP yoQ))
abbrev yoU:List AG:=[o 25 (.cmp .eql (.sc .int) (.t 14) (.c (.int .i64 7))),zz1 23 25]
abbrev yoV:List AG:=[o 24 (.cmp .eql (.sc .int) (.t 14) (.c (.int .i64 3))),zz1 23 24]
abbrev yoW:ACode:=(.seq (.reg yoJ) .ret)
abbrev yoX:ACode:=(.seq (.seq (.reg yoV) (.cond (.t 23) .skip (.reg yoU))) (.cond (.t 23) yoS yoT))
abbrev yoY:List AG:=[o 20 (.cmp .eql (.sc .int) (.t 14) (.c (.int .i64 4))),zz1 17 20]
abbrev yoZ:List AG:=[o 19 (.cmp .eql (.sc .int) (.t 14) (.c (.int .i64 2))),zz1 17 19]
abbrev ypa:ACode:=(.seq (.reg yoZ) (.cond (.t 17) .skip (.reg yoY)))
abbrev ypb:List AG:=[o 18 (.cmp .eql (.sc .int) (.t 14) (.c (.int .i64 1))),zz1 17 18]
abbrev ypc:ACode:=(.seq (.reg yoI) .ret)
abbrev ypd:ACode:=(.seq (.seq (.reg ypb) (.cond (.t 17) .skip ypa)) (.cond (.t 17) yoW yoX))
abbrev ype:List AG:=[o 16 (.cmp .eql (.sc .int) (.t 14) (.c (.int .i64 0))),zz1 15 16]
abbrev ypf:ACode:=(.seq (.reg ype) (.cond (.t 15) ypc ypd))
abbrev ypg:List AG:=[zz1 14 0]
abbrev yph:List AG:=[zz1 10 1,o 11 (.call (.f n_strings_Repeat) [(.c (.str [49])),(.t 10)]),zz1 12 1,o 13 (.call (.f n_strings_Repeat) [(.c (.str [48])),(.t 12)]),zz1 6 11,zz1 7 13]
abbrev ypi:List AG:=[o 4 (.nilrow 1 t_string),zzh 5]
abbrev net_rows:AFun:=⟨(.seq (.reg ypi) (.seq (.reg yph) (.seq (.seq (.reg ypg) (.block 0 [] ypf)) (.seq (.reg yoH) (.seq (.seq (.reg yoG) (.block 1 [] yoF)) (.seq (.reg yoB) .ret)))))),46,[.tmp 4,.tmp 5]⟩
@[simp] theorem c_net_rows:cfun Tryz.prog n_net_rows=some net_rows:=by kernel_rfl
@[simp] theorem e_net_rows:hasBody Tryz.prog n_net_rows=true:=by kernel_rfl
abbrev ypj:List AG:=[o 4 (.mv (.c (.bool true)))]
abbrev ypk:List Bool:=[I,I,O,O,O,O,O,O,O,O,O,O,I,I,O,O,O,O,O,O,O,O,O,O,O,O]
abbrev ypl:List Bool:=[O,O,O,O,O,O,O,O,O,O,O,O,O,O,O,O,O,O,O,O,O,O,O,O,O,O]
abbrev ypm:List AG:=[zz6 25 13 1,zz1 13 25]
abbrev ypn:List AG:=[zzh 4]
abbrev ypo:ACode:=(.seq (.reg ypn) .ret)
abbrev ypp:List AG:=[zz1 16 0,zz1 17 5,zz5 18 1 16 17,zz2 19 1 18,zz1 20 1,zz1 21 5,zz5 22 1 20 21,zz2 23 1 22,o 24 (.cmp .neq (.sc .str) (.t 19) (.t 23))]
abbrev ypq:List AG:=[zz1 15 13,zz1 5 15]
abbrev ypr:ACode:=(.seq (.reg ypq) (.seq (.dreg [O,O,O,O,O,O,O,O,O] [10,10,10,10,10,10,10,10,10] ypp) (.cond (.t 24) ypo .skip)))
abbrev yps:List AG:=[zz7 14 13 12]
abbrev ypt:ACode:=(.seq (.reg yps) (.seq (.cond (.t 14) .skip (.exit 0)) (.seq (.block 1 [] ypr) (.reg ypm))))
abbrev ypu:List AG:=[zz1 11 0,zza 12 11,zz9 13 0]
abbrev ypv:List AG:=[zzh 4]
abbrev ypw:ACode:=(.seq (.reg ypv) .ret)
abbrev ypx:List AG:=[zz1 6 0,zza 7 6,zz1 8 1,zza 9 8,o 10 (.cmp .neq (.sc .int) (.t 7) (.t 9))]
abbrev ypy:List AG:=[zzh 4]
abbrev slices_Equal_string_string:AFun:=⟨(.seq (.reg ypy) (.seq (.seq (.reg ypx) (.cond (.t 10) ypw .skip)) (.seq (.seq (.reg ypu) (.block 0 ypl (.loop ypk ypt))) (.seq (.reg ypj) .ret)))),26,[.tmp 4]⟩
abbrev ypz:List It:=[.code (.seq (.reg ypj) .ret)]
abbrev ypA (x0 x1 x12 x13:AV) (h:List Ob) (e:Cx:=cx):Cfg:=atC n_slices_Equal_string_string (.code ypt::.inLoop ypk ypt::.inBlock 0 ypl::ypz) [x0,x1,U,U,U,U,U,U,U,U,U,U,x12,x13,U,U,U,U,U,U,U,U,U,U,U,U] h e
@[simp] theorem c_slices_Equal_string_string:cfun Tryz.prog n_slices_Equal_string_string=some slices_Equal_string_string:=by kernel_rfl
@[simp] theorem e_slices_Equal_string_string:hasBody Tryz.prog n_slices_Equal_string_string=true:=by kernel_rfl
abbrev ypB:List AG:=[zz1 4 0,zz4 5 2 1,zz2 6 1 5,zza 7 6,zzg 8 n_net_row 4 7,o 9 (.not (.t 8)),zz1 3 9]
abbrev ypC:List AG:=[zzh 3]
abbrev net_Gate_1:AFun:=⟨(.seq (.reg ypC) (.seq (.reg ypB) .ret)),10,[.tmp 3]⟩
@[simp] theorem c_net_Gate_1:cfun Tryz.prog n_net_Gate_1=some net_Gate_1:=by kernel_rfl
@[simp] theorem e_net_Gate_1:hasBody Tryz.prog n_net_Gate_1=true:=by kernel_rfl
abbrev ypD:List AG:=[zz1 5 0,o 6 (.lenStr (.t 5)),zz1 7 1,o 8 (.cmp .eql (.sc .int) (.t 6) (.t 7)),zz1 9 8,zze 10 9 0,oy 11 9 (.call (.f n_strings_Trim) [(.t 10),(.c (.str [48,49,45]))]),oy 12 9 (.cmp .eql (.sc .str) (.t 11) (.c (.str []))),zz8 13 9 12,zz1 4 13]
abbrev ypE:List AG:=[zzh 4]
abbrev net_row:AFun:=⟨(.seq (.reg ypE) (.seq (.reg ypD) .ret)),14,[.tmp 4]⟩
@[simp] theorem c_net_row:cfun Tryz.prog n_net_row=some net_row:=by kernel_rfl
@[simp] theorem e_net_row:hasBody Tryz.prog n_net_row=true:=by kernel_rfl
abbrev ypF:List AG:=[zzh 2]
abbrev ypG:List AG:=[zzh 2]
abbrev step_of_1:AFun:=⟨(.seq (.reg ypG) (.seq (.reg ypF) .ret)),3,[.tmp 2]⟩
@[simp] theorem c_step_of_1:cfun Tryz.prog n_step_of_1=some step_of_1:=by kernel_rfl
@[simp] theorem e_step_of_1:hasBody Tryz.prog n_step_of_1=true:=by kernel_rfl
abbrev ypH:List AG:=[zz1 3 0,zzf 4 n_step_count 3,zz1 5 0,zza 6 5,o 7 (.cmp .eql (.sc .int) (.t 4) (.t 6)),zz1 2 7]
abbrev ypI:List AG:=[zzh 2]
abbrev step_of_2:AFun:=⟨(.seq (.reg ypI) (.seq (.reg ypH) .ret)),8,[.tmp 2]⟩
@[simp] theorem c_step_of_2:cfun Tryz.prog n_step_of_2=some step_of_2:=by kernel_rfl
@[simp] theorem e_step_of_2:hasBody Tryz.prog n_step_of_2=true:=by kernel_rfl
abbrev ypJ:List AG:=[zz1 16 3,zz1 2 16]
abbrev ypK:List Bool:=[O,O,O,I,O,O,I,I,I,O,O,O,O,O,O,O,O]
abbrev ypL:List Bool:=[O,O,O,I,O,O,O,O,O,O,O,O,O,O,O,O,O]
abbrev ypM:List AG:=[zz6 15 8 1,zz1 8 15]
abbrev ypN:List AG:=[zz1 13 3,zz6 14 13 1,zz1 3 14]
abbrev ypO:List AG:=[zz1 12 5]
abbrev ypP:List AG:=[zz5 10 1 6 8,zz2 11 1 10,zz1 5 11]
abbrev ypQ:ACode:=(.seq (.reg ypP) (.seq (.reg ypO) (.cond (.t 12) (.reg ypN) .skip)))
abbrev ypR:List AG:=[zz7 9 8 7]
abbrev ypS:ACode:=(.seq (.reg ypR) (.seq (.cond (.t 9) .skip (.exit 0)) (.seq (.block 1 [] ypQ) (.reg ypM))))
abbrev ypT:List AG:=[zz1 6 0,zza 7 6,zz9 8 0]
abbrev ypU:List AG:=[zz9 3 0]
abbrev ypV:List AG:=[zz9 2 0]
abbrev step_count:AFun:=⟨(.seq (.reg ypV) (.seq (.reg ypU) (.seq (.seq (.reg ypT) (.block 0 ypL (.loop ypK ypS))) (.seq (.reg ypJ) .ret)))),17,[.tmp 2]⟩
abbrev ypW:List It:=[.code (.seq (.reg ypJ) .ret)]
abbrev ypX (x3 x6 x7 x8:AV) (h:List Ob) (e:Cx:=cx):Cfg:=atC n_step_count (.code ypS::.inLoop ypK ypS::.inBlock 0 ypL::ypW) [U,U,U,x3,U,U,x6,x7,x8,U,U,U,U,U,U,U,U] h e
@[simp] theorem c_step_count:cfun Tryz.prog n_step_count=some step_count:=by kernel_rfl
@[simp] theorem e_step_count:hasBody Tryz.prog n_step_count=true:=by kernel_rfl
abbrev ypY:List AG:=[zz1 3 0,zzf 4 n_step_count 3,o 5 (.cmp .gtr (.sc .int) (.t 4) (.c (.int .i64 0))),zz1 2 5]
abbrev ypZ:List AG:=[zzh 2]
abbrev step_of_3:AFun:=⟨(.seq (.reg ypZ) (.seq (.reg ypY) .ret)),6,[.tmp 2]⟩
@[simp] theorem c_step_of_3:cfun Tryz.prog n_step_of_3=some step_of_3:=by kernel_rfl
@[simp] theorem e_step_of_3:hasBody Tryz.prog n_step_of_3=true:=by kernel_rfl
abbrev yqa:List AG:=[zz1 3 0,zzf 4 n_step_count 3,o 5 (.ibin .rem (.t 4) (.c (.int .i64 2))),o 6 (.cmp .eql (.sc .int) (.t 5) (.c (.int .i64 1))),zz1 2 6]
abbrev yqb:List AG:=[zzh 2]
abbrev step_of_4:AFun:=⟨(.seq (.reg yqb) (.seq (.reg yqa) .ret)),7,[.tmp 2]⟩
@[simp] theorem c_step_of_4:cfun Tryz.prog n_step_of_4=some step_of_4:=by kernel_rfl
@[simp] theorem e_step_of_4:hasBody Tryz.prog n_step_of_4=true:=by kernel_rfl
abbrev yqc:List AG:=[o 4 (.mv (.c (.int .i64 (-1))))]
abbrev yqd:List Bool:=[I,I,O,O,O,O,O,I,I,O,O,O,O,O,O,O,O,O,O]
abbrev yqe:List Bool:=[O,O,O,O,O,O,O,O,O,O,O,O,O,O,O,O,O,O,O]
abbrev yqf:List AG:=[zz6 18 8 1,zz1 8 18]
abbrev yqg:List AG:=[zz1 17 5,zz1 4 17]
abbrev yqh:ACode:=(.seq (.reg yqg) .ret)
abbrev yqi:List AG:=[zz1 11 1,zz1 12 0,zz1 13 5,zz5 14 1 12 13,zz2 15 1 14,o 16 (.call (.t 11) [(.t 15)])]
abbrev yqj:List AG:=[zz1 10 8,zz1 5 10]
abbrev yqk:ACode:=(.seq (.reg yqj) (.seq (.reg yqi) (.cond (.t 16) yqh .skip)))
abbrev yql:List AG:=[zz7 9 8 7]
abbrev yqm:ACode:=(.seq (.reg yql) (.seq (.cond (.t 9) .skip (.exit 0)) (.seq (.block 1 [] yqk) (.reg yqf))))
abbrev yqn:List AG:=[zz1 6 0,zza 7 6,zz9 8 0]
abbrev yqo:List AG:=[zz9 4 0]
abbrev slices_IndexFunc_string_string:AFun:=⟨(.seq (.reg yqo) (.seq (.seq (.reg yqn) (.block 0 yqe (.loop yqd yqm))) (.seq (.reg yqc) .ret))),19,[.tmp 4]⟩
abbrev yqp:List It:=[.code (.seq (.reg yqc) .ret)]
abbrev yqq (x0 x1 x7 x8:AV) (h:List Ob) (e:Cx:=cx):Cfg:=atC n_slices_IndexFunc_string_string (.code yqm::.inLoop yqd yqm::.inBlock 0 yqe::yqp) [x0,x1,U,U,U,U,U,x7,x8,U,U,U,U,U,U,U,U,U,U] h e
@[simp] theorem c_slices_IndexFunc_string_string:cfun Tryz.prog n_slices_IndexFunc_string_string=some slices_IndexFunc_string_string:=by kernel_rfl
@[simp] theorem e_slices_IndexFunc_string_string:hasBody Tryz.prog n_slices_IndexFunc_string_string=true:=by kernel_rfl
abbrev yqr:List AG:=[zz1 28 0,o 29 (.lenStr (.t 28)),zz1 30 1,o 31 (.cmp .eql (.sc .int) (.t 29) (.t 30)),zz1 4 31]
abbrev yqs:List Bool:=[I,I,O,O,O,I,O,O,O,O,O,O,O,O,O,O,O,O,O,O,O,O,O,O,O,O,O,O,O,O,O,O]
abbrev yqt:List Bool:=[I,I,O,O,O,O,O,O,O,O,O,O,O,O,O,O,O,O,O,O,O,O,O,O,O,O,O,O,O,O,O,O]
abbrev yqu:List AG:=[zz1 10 5,zz6 11 10 1,zz1 5 11]
abbrev yqv:List AG:=[zzh 4]
abbrev yqw:ACode:=(.seq (.reg yqv) .ret)
abbrev yqx:List AG:=[zz1 12 0,zz1 13 5,o 14 (.ixStr (.t 12) (.t 13)),o 15 (.cmp .neq (.sc .int) (.t 14) (.c (.int .u8 48))),zz1 16 15,zze 17 16 0,zze 18 16 5,oy 19 16 (.ixStr (.t 17) (.t 18)),oy 20 16 (.cmp .neq (.sc .int) (.t 19) (.c (.int .u8 49))),zz8 21 16 20,zz1 22 21,zze 23 22 0,zze 24 22 5,oy 25 22 (.ixStr (.t 23) (.t 24)),oy 26 22 (.cmp .neq (.sc .int) (.t 25) (.c (.int .u8 45))),zz8 27 22 26]
abbrev yqy:ACode:=(.seq (.reg yqx) (.cond (.t 27) yqw .skip))
abbrev yqz:List AG:=[zz1 6 5,zz1 7 0,o 8 (.lenStr (.t 7)),zz7 9 6 8]
abbrev yqA:ACode:=(.seq (.seq (.reg yqz) (.cond (.t 9) .skip (.exit 0))) (.seq (.block 1 [] yqy) (.reg yqu)))
abbrev yqB:List AG:=[zz9 5 0]
abbrev yqC:List AG:=[zzh 4]
abbrev r06_row:AFun:=⟨(.seq (.reg yqC) (.seq (.seq (.reg yqB) (.block 0 yqt (.loop yqs yqA))) (.seq (.reg yqr) .ret))),32,[.tmp 4]⟩
@[simp] theorem c_r06_row:cfun Tryz.prog n_r06_row=some r06_row:=by kernel_rfl
@[simp] theorem e_r06_row:hasBody Tryz.prog n_r06_row=true:=by kernel_rfl
abbrev yqD:List AG:=[zz1 15 5,zz1 4 15]
abbrev yqE:List Bool:=[I,I,O,O,O,I,I,O,O,O,O,O,O,O,O,O]
abbrev yqF:List Bool:=[O,O,O,O,O,I,O,O,O,O,O,O,O,O,O,O]
abbrev yqG:List AG:=[zz1 10 6,zz6 11 10 1,zz1 6 11]
abbrev yqH:List AG:=[zz1 12 5,zz1 13 0,o 14 (.concat (.t 12) (.t 13)),zz1 5 14]
abbrev yqI:List AG:=[zz1 7 6,zz1 8 1,zz7 9 7 8]
abbrev yqJ:ACode:=(.seq (.seq (.reg yqI) (.cond (.t 9) .skip (.exit 0))) (.seq (.block 1 [] (.reg yqH)) (.reg yqG)))
abbrev yqK:List AG:=[zz9 6 0]
abbrev yqL:List AG:=[o 5 (.mv (.c (.str [])))]
abbrev yqM:List AG:=[o 4 (.mv (.c (.str [])))]
abbrev r06_all:AFun:=⟨(.seq (.reg yqM) (.seq (.reg yqL) (.seq (.seq (.reg yqK) (.block 0 yqF (.loop yqE yqJ))) (.seq (.reg yqD) .ret)))),16,[.tmp 4]⟩
@[simp] theorem c_r06_all:cfun Tryz.prog n_r06_all=some r06_all:=by kernel_rfl
@[simp] theorem e_r06_all:hasBody Tryz.prog n_r06_all=true:=by kernel_rfl
abbrev yqN:List AG:=[zz1 43 5,zz1 4 43]
abbrev yqO:List Bool:=[I,I,O,O,O,I,I,O,O,O,O,O,O,O,O,O,O,O,O,O,O,O,O,O,O,O,O,O,O,O,O,O,O,O,O,O,O,O,O,O,O,O,O,O]
abbrev yqP:List Bool:=[O,O,O,O,O,I,O,O,O,O,O,O,O,O,O,O,O,O,O,O,O,O,O,O,O,O,O,O,O,O,O,O,O,O,O,O,O,O,O,O,O,O,O,O]
abbrev yqQ:List AG:=[zz1 15 6,zz6 16 15 1,zz1 6 16]
abbrev yqR:List AG:=[zz1 39 5,zz1 40 7,o 41 (.lit 1 [(.str [])] [(0,(.t 40))]),o 42 (.append 1 t_string 16 (.t 39) (.t 41)),zz1 5 42]
abbrev yqS:List AG:=[zz1 35 8,o 36 (.ibin .rem (.t 35) (.c (.int .i64 2))),zz1 37 1,o 38 (.cmp .eql (.sc .int) (.t 36) (.t 37))]
abbrev yqT:List Bool:=[I,I,O,O,O,I,I,I,I,I,O,O,O,O,O,O,O,O,O,O,O,O,O,O,O,O,O,O,O,O,O,O,O,O,O,O,O,O,O,O,O,O,O,O]
abbrev yqU:List Bool:=[I,I,O,O,O,I,I,I,I,O,O,O,O,O,O,O,O,O,O,O,O,O,O,O,O,O,O,O,O,O,O,O,O,O,O,O,O,O,O,O,O,O,O,O]
abbrev yqV:List AG:=[zz1 21 9,o 22 (.ibin .sub (.t 21) (.c (.int .i64 1))),zz1 9 22]
abbrev yqW:List AG:=[zz1 31 8,zz6 32 31 1,zz1 8 32]
abbrev yqX:List AG:=[zz1 29 7,o 30 (.concat (.t 29) (.c (.str [49]))),zz1 7 30]
abbrev yqY:List AG:=[zz1 33 7,o 34 (.concat (.t 33) (.c (.str [48]))),zz1 7 34]
abbrev yqZ:ACode:=(.seq (.reg yqX) (.reg yqW))
abbrev yra:List AG:=[zz1 23 6,zz1 24 9,o 25 (.conv .u64 (.t 24)),o 26 (.ibin .shr (.t 23) (.t 25)),o 27 (.ibin .rem (.t 26) (.c (.int .i64 2))),o 28 (.cmp .eql (.sc .int) (.t 27) (.c (.int .i64 1)))]
abbrev yrb:ACode:=(.seq (.reg yra) (.cond (.t 28) yqZ (.reg yqY)))
abbrev yrc:List AG:=[zz1 19 9,o 20 (.cmp .geq (.sc .int) (.t 19) (.c (.int .i64 0)))]
abbrev yrd:ACode:=(.seq (.seq (.reg yrc) (.cond (.t 20) .skip (.exit 2))) (.seq (.block 3 [] yrb) (.reg yqV)))
abbrev yre:List AG:=[zz1 17 0,o 18 (.ibin .sub (.t 17) (.c (.int .i64 1))),zz1 9 18]
abbrev yrf:List AG:=[zz9 8 0]
abbrev yrg:List AG:=[o 7 (.mv (.c (.str [])))]
abbrev yrh:ACode:=(.seq (.reg yrg) (.seq (.reg yrf) (.seq (.seq (.reg yre) (.block 2 yqU (.loop yqT yrd))) (.seq (.reg yqS) (.cond (.t 38) (.reg yqR) .skip)))))
abbrev yri:List AG:=[zz1 10 6,zz1 11 0,o 12 (.conv .u64 (.t 11)),o 13 (.ibin .shl (.c (.int .i64 1)) (.t 12)),zz7 14 10 13]
abbrev yrj:ACode:=(.seq (.seq (.reg yri) (.cond (.t 14) .skip (.exit 0))) (.seq (.block 1 [] yrh) (.reg yqQ)))
abbrev yrk:List AG:=[zz9 6 0]
abbrev yrl:List AG:=[o 5 (.nilrow 1 t_string)]
abbrev yrm:List AG:=[o 4 (.nilrow 1 t_string)]
abbrev r06_odd:AFun:=⟨(.seq (.reg yrm) (.seq (.reg yrl) (.seq (.seq (.reg yrk) (.block 0 yqP (.loop yqO yrj))) (.seq (.reg yqN) .ret)))),44,[.tmp 4]⟩
@[simp] theorem c_r06_odd:cfun Tryz.prog n_r06_odd=some r06_odd:=by kernel_rfl
@[simp] theorem e_r06_odd:hasBody Tryz.prog n_r06_odd=true:=by kernel_rfl
abbrev yrn:List AG:=[zz9 2 0,o 3 (.mv (.c (.str [])))]
abbrev yro:List AG:=[zz1 25 7,o 26 (.ixAddr 1 (.t 25) (.c (.int .i64 0))),zz2 27 1 26,zz9 2 7,zz1 3 27]
abbrev yrp:ACode:=(.seq (.dreg [O,O,O,O,O] [6,6,6,6,6] yro) .ret)
abbrev yrq:List AG:=[zz1 22 7,zza 23 22,o 24 (.cmp .gtr (.sc .int) (.t 23) (.c (.int .i64 0)))]
abbrev yrr:List AG:=[zz3 18 4 1,zzf 19 n_order_Sort 18,zz1 17 19,zzc 20 17 0,zzc 21 17 1,zz1 6 20,zz1 7 21]
abbrev yrs:List AG:=[zz1 15 4,zz1 16 5,zz1 2 15,zz1 3 16]
abbrev yrt:ACode:=(.seq (.reg yrs) .ret)
abbrev yru:List AG:=[zz1 13 4,o 14 (.cmp .neq (.sc .int) (.t 13) (.c (.int .i64 0)))]
abbrev yrv:List AG:=[zz3 9 4 1,zzf 10 n_net_Check 9,zz1 8 10,zzc 11 8 0,zzc 12 8 1,zz1 4 11,zz1 5 12]
abbrev yrw:List AG:=[o 1 (.box 4 (.t 0)),zz9 2 0,o 3 (.mv (.c (.str [])))]
abbrev order_Check:AFun:=⟨(.seq (.reg yrw) (.seq (.seq (.reg yrv) (.seq (.reg yru) (.cond (.t 14) yrt .skip))) (.seq (.seq (.reg yrr) (.seq (.reg yrq) (.cond (.t 24) yrp .skip))) (.seq (.reg yrn) .ret)))),28,[.tmp 2,.tmp 3]⟩
@[simp] theorem c_order_Check:cfun Tryz.prog n_order_Check=some order_Check:=by kernel_rfl
@[simp] theorem e_order_Check:hasBody Tryz.prog n_order_Check=true:=by kernel_rfl
abbrev yrx:List AG:=[zz9 2 0,o 3 (.mv (.c (.str [])))]
abbrev yry:List AG:=[zz1 25 7,o 26 (.ixAddr 1 (.t 25) (.c (.int .i64 0))),zz2 27 1 26,zz9 2 7,zz1 3 27]
abbrev yrz:ACode:=(.seq (.dreg [O,O,O,O,O] [6,6,6,6,6] yry) .ret)
abbrev yrA:List AG:=[zz1 22 7,zza 23 22,o 24 (.cmp .gtr (.sc .int) (.t 23) (.c (.int .i64 0)))]
abbrev yrB:List AG:=[zz3 18 4 1,zzf 19 n_r07_Sort 18,zz1 17 19,zzc 20 17 0,zzc 21 17 1,zz1 6 20,zz1 7 21]
abbrev yrC:List AG:=[zz1 15 4,zz1 16 5,zz1 2 15,zz1 3 16]
abbrev yrD:ACode:=(.seq (.reg yrC) .ret)
abbrev yrE:List AG:=[zz1 13 4,o 14 (.cmp .neq (.sc .int) (.t 13) (.c (.int .i64 0)))]
abbrev yrF:List AG:=[zz3 9 4 1,zzf 10 n_r06_Check 9,zz1 8 10,zzc 11 8 0,zzc 12 8 1,zz1 4 11,zz1 5 12]
abbrev yrG:List AG:=[o 1 (.box 4 (.t 0)),zz9 2 0,o 3 (.mv (.c (.str [])))]
abbrev r07_Check:AFun:=⟨(.seq (.reg yrG) (.seq (.reg yrF) (.seq (.seq (.reg yrE) (.cond (.t 14) yrD .skip)) (.seq (.reg yrB) (.seq (.seq (.reg yrA) (.cond (.t 24) yrz .skip)) (.seq (.reg yrx) .ret)))))),28,[.tmp 2,.tmp 3]⟩
@[simp] theorem c_r07_Check:cfun Tryz.prog n_r07_Check=some r07_Check:=by kernel_rfl
@[simp] theorem e_r07_Check:hasBody Tryz.prog n_r07_Check=true:=by kernel_rfl
abbrev yrH:List AG:=[zz2 52 1 4,zz1 53 7,zz1 2 52,zz1 3 53]
abbrev yrI:List Bool:=[O,O,O,O,I,I,O,I,O,O,O,O,O,O,O,O,O,O,O,O,O,O,O,O,O,O,O,O,O,O,O,O,I,I,I,O,O,O,O,O,O,O,O,O,O,O,O,O,O,O,O,O,O,O]
abbrev yrJ:List Bool:=[O,O,O,O,I,O,O,I,O,O,O,O,O,O,O,O,O,O,O,O,O,O,O,O,O,O,O,O,O,O,O,O,O,O,O,O,O,O,O,O,O,O,O,O,O,O,O,O,O,O,O,O,O,O]
abbrev yrK:List AG:=[zz6 51 34 1,zz1 34 51]
abbrev yrL:List AG:=[zz1 46 7,zz4 47 0 9,zz2 48 1 47,o 49 (.lit 1 [(.str [])] [(0,(.t 48))]),o 50 (.append 1 t_string 16 (.t 46) (.t 49)),zz1 7 50]
abbrev yrM:List AG:=[zz1 45 11]
abbrev yrN:List AG:=[zz2 39 1 5,zz4 40 0 9,zz2 41 1 40,o 42 (.lookup (.sc .str) (.int .i64 0) (.t 39) (.t 41) true),zz1 38 42,zzc 43 38 0,zzc 44 38 1,zz1 10 43,zz1 11 44]
abbrev yrO:List AG:=[zz5 36 5 32 34,zz3 37 5 36,o 9 (.alloc [(.str []),(.int .i64 0),(.own 1 t_string []),(.own 1 t_string []),(.bool false)]),zzb 5 9 37]
abbrev yrP:ACode:=(.seq (.reg yrO) (.seq (.reg yrN) (.seq (.reg yrM) (.cond (.t 45) (.reg yrL) .skip))))
abbrev yrQ:List AG:=[zz7 35 34 33]
abbrev yrR:ACode:=(.seq (.reg yrQ) (.seq (.cond (.t 35) .skip (.exit 2)) (.seq (.block 3 [] yrP) (.reg yrK))))
abbrev yrS:List AG:=[zz4 31 3 1,zz2 32 1 31,zza 33 32,zz9 34 0]
abbrev yrT:List AG:=[o 7 (.nilrow 1 t_string)]
abbrev yrU:List AG:=[zz1 6 19]
abbrev yrV:List AG:=[zz2 24 1 5,zz4 25 3 1,zz2 26 1 25,zz1 27 6,zz5 28 5 26 27,zz4 29 0 28,zz2 30 1 29,q (.delete (.sc .str) (.t 24) (.t 30))]
abbrev yrW:List AG:=[zz2 20 1 4,zz1 21 6,o 22 (.lit 1 [(.int .i64 0)] [(0,(.t 21))]),o 23 (.append 1 t_int 8 (.t 20) (.t 22)),zzb 1 4 23]
abbrev yrX:ACode:=(.seq (.reg yrW) (.dreg [O,O,O,O,O,O,O,O] [8,8,8,8,8,8,8,9] yrV))
abbrev yrY:ACode:=(.block 1 [] yrX)
abbrev yrZ:ACode:=(.rangeFunc (.t 18) [19] [O,I,I,I,I,I,O,O,O,O,O,O,O,O,O,O,O,O,O,O,O,O,O,O,O,O,O,O,O,O,O,O,O,O,O,O,O,O,O,O,O,O,O,O,O,O,O,O,O,O,O,O,O,O] (.reg yrU) yrY)
abbrev ysa:List AG:=[zz3 17 4 1,zzf 18 n_order_coming 17]
abbrev ysb:List AG:=[zz3 15 4 1,zzf 16 n_order_places 15,o 5 (.alloc [.nilm]),zzb 1 5 16]
abbrev ysc:List AG:=[o 4 (.alloc [(.own 1 t_int [])])]
abbrev ysd:List AG:=[o 2 (.nilrow 1 t_int),o 3 (.nilrow 1 t_string)]
abbrev yse:ACode:=(.seq (.reg ysd) .ret)
abbrev ysf:List AG:=[zz3 12 4 1,zzf 13 n_order_right 12,o 14 (.not (.t 13))]
abbrev ysg:List AG:=[o 1 (.box 4 (.t 0)),o 2 (.nilrow 1 t_int),o 3 (.nilrow 1 t_string)]
abbrev order_Sort:AFun:=⟨(.seq (.reg ysg) (.seq (.seq (.reg ysf) (.cond (.t 14) yse .skip)) (.seq (.reg ysc) (.seq (.reg ysb) (.seq (.seq (.reg ysa) (.block 0 [] yrZ)) (.seq (.reg yrT) (.seq (.seq (.reg yrS) (.block 2 yrJ (.loop yrI yrR))) (.seq (.reg yrH) .ret)))))))),54,[.tmp 2,.tmp 3]⟩
abbrev ysh:List It:=[.code (.seq (.reg yrH) .ret)]
abbrev ysi (x4 x5 x7 x32 x33 x34:AV) (h:List Ob) (e:Cx:=cx):Cfg:=atC n_order_Sort (.code yrR::.inLoop yrI yrR::.inBlock 2 yrJ::ysh) [U,U,U,U,x4,x5,U,x7,U,U,U,U,U,U,U,U,U,U,U,U,U,U,U,U,U,U,U,U,U,U,U,U,x32,x33,x34,U,U,U,U,U,U,U,U,U,U,U,U,U,U,U,U,U,U,U] h e
@[simp] theorem c_order_Sort:cfun Tryz.prog n_order_Sort=some order_Sort:=by kernel_rfl
@[simp] theorem e_order_Sort:hasBody Tryz.prog n_order_Sort=true:=by kernel_rfl
abbrev ysj:List AG:=[zz1 37 3,zz1 2 37]
abbrev ysk:List Bool:=[O,O,O,I,O,O,O,O,O,O,O,O,O,O,O,O,O,O,O,O,O,O,O,O,O,I,I,I,O,O,O,O,O,O,O,O,O,O]
abbrev ysl:List Bool:=[O,O,O,I,O,O,O,O,O,O,O,O,O,O,O,O,O,O,O,O,O,O,O,O,O,O,O,O,O,O,O,O,O,O,O,O,O,O]
abbrev ysm:List AG:=[zz6 36 27 1,zz1 27 36]
abbrev ysn:List AG:=[zz1 31 3,zz4 32 0 7,zz2 33 1 32,o 34 (.lit 1 [(.str [])] [(0,(.t 33))]),o 35 (.append 1 t_string 16 (.t 31) (.t 34)),zz1 3 35]
abbrev yso:List AG:=[zz5 29 5 25 27,zz3 30 5 29,o 7 (.alloc [(.str []),(.int .i64 0),(.own 1 t_string []),(.own 1 t_string []),(.bool false)]),zzb 5 7 30]
abbrev ysp:ACode:=(.seq (.reg yso) (.reg ysn))
abbrev ysq:List AG:=[zz7 28 27 26]
abbrev ysr:ACode:=(.seq (.reg ysq) (.seq (.cond (.t 28) .skip (.exit 2)) (.seq (.block 3 [] ysp) (.reg ysm))))
abbrev yss:List AG:=[zz4 24 3 1,zz2 25 1 24,zza 26 25,zz9 27 0]
abbrev yst:List Bool:=[O,I,O,I,O,O,O,O,O,O,O,O,I,I,I,O,O,O,O,O,O,O,O,O,O,O,O,O,O,O,O,O,O,O,O,O,O,O]
abbrev ysu:List Bool:=[O,I,O,I,O,O,O,O,O,O,O,O,O,O,O,O,O,O,O,O,O,O,O,O,O,O,O,O,O,O,O,O,O,O,O,O,O,O]
abbrev ysv:List AG:=[zz6 23 14 1,zz1 14 23]
abbrev ysw:List AG:=[zz1 18 3,zz4 19 0 5,zz2 20 1 19,o 21 (.lit 1 [(.str [])] [(0,(.t 20))]),o 22 (.append 1 t_string 16 (.t 18) (.t 21)),zz1 3 22]
abbrev ysx:List AG:=[zz5 16 3 12 14,zz3 17 3 16,o 5 (.alloc [(.str []),(.str []),(.int .i64 0)]),zzb 3 5 17]
abbrev ysy:ACode:=(.seq (.reg ysx) (.reg ysw))
abbrev ysz:List AG:=[zz7 15 14 13]
abbrev ysA:ACode:=(.seq (.reg ysz) (.seq (.cond (.t 15) .skip (.exit 0)) (.seq (.block 1 [] ysy) (.reg ysv))))
abbrev ysB:List AG:=[zz4 11 2 1,zz2 12 1 11,zza 13 12,zz9 14 0]
abbrev ysC:List AG:=[zz4 8 0 1,zz2 9 1 8,zzf 10 n_slices_Clone_string_string 9,zz1 3 10]
abbrev ysD:List AG:=[o 1 (.box 4 (.t 0)),o 2 (.nilrow 1 t_string)]
abbrev net_Nets:AFun:=⟨(.seq (.reg ysD) (.seq (.reg ysC) (.seq (.seq (.reg ysB) (.block 0 ysu (.loop yst ysA))) (.seq (.seq (.reg yss) (.block 2 ysl (.loop ysk ysr))) (.seq (.reg ysj) .ret))))),38,[.tmp 2]⟩
abbrev ysE:List It:=[.code (.seq (.reg ysj) .ret)]
abbrev ysF (x3 x25 x26 x27:AV) (h:List Ob) (e:Cx:=cx):Cfg:=atC n_net_Nets (.code ysr::.inLoop ysk ysr::.inBlock 2 ysl::ysE) [U,U,U,x3,U,U,U,U,U,U,U,U,U,U,U,U,U,U,U,U,U,U,U,U,U,x25,x26,x27,U,U,U,U,U,U,U,U,U,U] h e
abbrev ysG:List It:=[.code (.seq (.seq (.reg yss) (.block 2 ysl (.loop ysk ysr))) (.seq (.reg ysj) .ret))]
abbrev ysH (x1 x3 x12 x13 x14:AV) (h:List Ob) (e:Cx:=cx):Cfg:=atC n_net_Nets (.code ysA::.inLoop yst ysA::.inBlock 0 ysu::ysG) [U,x1,U,x3,U,U,U,U,U,U,U,U,x12,x13,x14,U,U,U,U,U,U,U,U,U,U,U,U,U,U,U,U,U,U,U,U,U,U,U] h e
@[simp] theorem c_net_Nets:cfun Tryz.prog n_net_Nets=some net_Nets:=by kernel_rfl
@[simp] theorem e_net_Nets:hasBody Tryz.prog n_net_Nets=true:=by kernel_rfl
abbrev ysI:List AG:=[zz1 35 6,zz1 2 35]
abbrev ysJ:List Bool:=[O,O,O,O,O,O,I,O,O,O,O,O,O,O,O,O,O,O,O,O,O,O,O,O,O,I,I,I,O,O,O,O,O,O,O,O]
abbrev ysK:List Bool:=[O,O,O,O,O,O,I,O,O,O,O,O,O,O,O,O,O,O,O,O,O,O,O,O,O,O,O,O,O,O,O,O,O,O,O,O]
abbrev ysL:List AG:=[zz6 34 27 1,zz1 27 34]
abbrev ysM:List AG:=[zz1 31 6,zz1 32 8,o 33 (.append 1 t_bool 1 (.t 31) (.t 32)),zz1 6 33]
abbrev ysN:List AG:=[zz5 29 1 25 27,zz2 30 1 29,zz1 8 30]
abbrev ysO:ACode:=(.seq (.reg ysN) (.reg ysM))
abbrev ysP:List AG:=[zz7 28 27 26]
abbrev ysQ:ACode:=(.seq (.reg ysP) (.seq (.cond (.t 28) .skip (.exit 2)) (.seq (.block 3 [] ysO) (.reg ysL))))
abbrev ysR:List AG:=[zz1 25 0,zza 26 25,zz9 27 0]
abbrev ysS:List AG:=[zz1 23 3,o 24 (.call (.f n_slices_Grow_bool_bool) [(.c (.list true 0 [])),(.t 23)]),zz1 6 24]
abbrev ysT:List Bool:=[I,O,O,I,O,O,O,O,O,I,I,I,O,O,O,O,O,O,O,O,O,O,O,O,O,O,O,O,O,O,O,O,O,O,O,O]
abbrev ysU:List Bool:=[I,O,O,I,O,O,O,O,O,O,O,O,O,O,O,O,O,O,O,O,O,O,O,O,O,O,O,O,O,O,O,O,O,O,O,O]
abbrev ysV:List AG:=[zz6 22 11 1,zz1 11 22]
abbrev ysW:List AG:=[o 21 (.mkIface t_string (.c (.str [108,101,110,32,111,117,116,32,111,102,32,114,97,110,103,101]))),q (.panic (.t 21))]
abbrev ysX:List AG:=[zz1 19 3,o 20 (.cmp .lss (.sc .int) (.t 19) (.c (.int .i64 0)))]
abbrev ysY:List AG:=[zz1 15 3,zz1 16 5,zza 17 16,o 18 (.ibin .add (.t 15) (.t 17)),zz1 3 18]
abbrev ysZ:List AG:=[zz5 13 1 9 11,zz2 14 1 13,zz1 5 14]
abbrev yta:ACode:=(.seq (.reg ysZ) (.seq (.reg ysY) (.seq (.reg ysX) (.cond (.t 20) (.reg ysW) .skip))))
abbrev ytb:List AG:=[zz7 12 11 10]
abbrev ytc:ACode:=(.seq (.reg ytb) (.seq (.cond (.t 12) .skip (.exit 0)) (.seq (.block 1 [] yta) (.reg ysV))))
abbrev ytd:List AG:=[zz1 9 0,zza 10 9,zz9 11 0]
abbrev yte:List AG:=[zz9 3 0]
abbrev ytf:List AG:=[o 2 (.nilrow 1 t_bool)]
abbrev slices_Concat_bool_bool:AFun:=⟨(.seq (.reg ytf) (.seq (.reg yte) (.seq (.seq (.reg ytd) (.block 0 ysU (.loop ysT ytc))) (.seq (.reg ysS) (.seq (.seq (.reg ysR) (.block 2 ysK (.loop ysJ ysQ))) (.seq (.reg ysI) .ret)))))),36,[.tmp 2]⟩
abbrev ytg:List It:=[.code (.seq (.reg ysI) .ret)]
abbrev yth (x6 x25 x26 x27:AV) (h:List Ob) (e:Cx:=cx):Cfg:=atC n_slices_Concat_bool_bool (.code ysQ::.inLoop ysJ ysQ::.inBlock 2 ysK::ytg) [U,U,U,U,U,U,x6,U,U,U,U,U,U,U,U,U,U,U,U,U,U,U,U,U,U,x25,x26,x27,U,U,U,U,U,U,U,U] h e
abbrev yti:List It:=[.code (.seq (.reg ysS) (.seq (.seq (.reg ysR) (.block 2 ysK (.loop ysJ ysQ))) (.seq (.reg ysI) .ret)))]
abbrev ytj (x0 x3 x9 x10 x11:AV) (h:List Ob) (e:Cx:=cx):Cfg:=atC n_slices_Concat_bool_bool (.code ytc::.inLoop ysT ytc::.inBlock 0 ysU::yti) [x0,U,U,x3,U,U,U,U,U,x9,x10,x11,U,U,U,U,U,U,U,U,U,U,U,U,U,U,U,U,U,U,U,U,U,U,U,U] h e
@[simp] theorem c_slices_Concat_bool_bool:cfun Tryz.prog n_slices_Concat_bool_bool=some slices_Concat_bool_bool:=by kernel_rfl
@[simp] theorem e_slices_Concat_bool_bool:hasBody Tryz.prog n_slices_Concat_bool_bool=true:=by kernel_rfl
abbrev ytk:List AG:=[zz1 10 3,o 11 (.cmp .eql (.sc .int) (.t 10) (.c (.int .i64 0))),zz1 2 11]
abbrev ytl:List AG:=[zz3 6 4 1,zzf 7 n_r06_Check 6,zz1 5 7,zzc 8 5 0,zzc 9 5 1,zz1 3 8,zz1 4 9]
abbrev ytm:List AG:=[o 1 (.box 4 (.t 0)),zzh 2]
abbrev r07_right:AFun:=⟨(.seq (.reg ytm) (.seq (.reg ytl) (.seq (.reg ytk) .ret))),12,[.tmp 2]⟩
@[simp] theorem c_r07_right:cfun Tryz.prog n_r07_right=some r07_right:=by kernel_rfl
@[simp] theorem e_r07_right:hasBody Tryz.prog n_r07_right=true:=by kernel_rfl
abbrev ytn:List AG:=[zzh 6]
abbrev yto:List Bool:=[O,O,I,I,I,O,O,I,O,O,O,O,O,O,O,O,O,O,O,O,O,O,O,O,O,O,O,O,O,O,O,O,O,O,O,O,O,O,O,O,O,O]
abbrev ytp:List Bool:=[O,O,O,O,O,O,O,O,O,O,O,O,O,O,O,O,O,O,O,O,O,O,O,O,O,O,O,O,O,O,O,O,O,O,O,O,O,O,O,O,O,O]
abbrev ytq:List AG:=[zz1 14 7,zz6 15 14 1,zz1 7 15]
abbrev ytr:List Bool:=[O,O,I,I,I,O,O,I,I,O,O,O,O,O,O,O,O,O,O,O,O,O,O,O,O,O,O,O,O,O,O,O,O,O,O,O,O,O,O,O,O,O]
abbrev yts:List Bool:=[O,O,I,I,I,O,O,I,O,O,O,O,O,O,O,O,O,O,O,O,O,O,O,O,O,O,O,O,O,O,O,O,O,O,O,O,O,O,O,O,O,O]
abbrev ytt:List AG:=[zz1 21 8,zz6 22 21 1,zz1 8 22]
abbrev ytu:List AG:=[o 6 (.mv (.c (.bool true)))]
abbrev ytv:ACode:=(.seq (.reg ytu) .ret)
abbrev ytw:List AG:=[zz4 23 3 3,zz2 24 1 23,zz1 25 8,zz5 26 5 24 25,zz4 27 0 26,zz2 28 1 27,zz4 29 2 4,zz2 30 1 29,zz1 31 7,zz5 32 1 30 31,zz2 33 1 32,o 34 (.cmp .eql (.sc .str) (.t 28) (.t 33)),zz1 35 34,zze 36 35 2,zze 37 35 8,oy 38 35 (.ixAddr 1 (.t 36) (.t 37)),zzd 39 35 1 38,oy 40 35 (.not (.t 39)),zz8 41 35 40]
abbrev ytx:ACode:=(.seq (.dreg [O,O,O,O,O,O,O,O,O,O,O,O,O,O,O,O,O,O,O] [20,20,20,20,20,20,20,20,20,20,20,20,20,20,20,20,20,20,20] ytw) (.cond (.t 41) ytv .skip))
abbrev yty:List AG:=[zz1 16 8,zz4 17 3 3,zz2 18 1 17,zza 19 18,zz7 20 16 19]
abbrev ytz:ACode:=(.seq (.seq (.reg yty) (.cond (.t 20) .skip (.exit 2))) (.seq (.block 3 [] ytx) (.reg ytt)))
abbrev ytA:List AG:=[zz9 8 0]
abbrev ytB:ACode:=(.seq (.reg ytA) (.block 2 yts (.loop ytr ytz)))
abbrev ytC:List AG:=[zz1 9 7,zz4 10 2 4,zz2 11 1 10,zza 12 11,zz7 13 9 12]
abbrev ytD:ACode:=(.seq (.seq (.reg ytC) (.cond (.t 13) .skip (.exit 0))) (.seq (.block 1 [] ytB) (.reg ytq)))
abbrev ytE:List AG:=[zz9 7 0]
abbrev ytF:List AG:=[o 3 (.box 4 (.t 0)),o 4 (.box 5 (.t 1)),zzh 6]
abbrev r07_waits:AFun:=⟨(.seq (.reg ytF) (.seq (.seq (.reg ytE) (.block 0 ytp (.loop yto ytD))) (.seq (.reg ytn) .ret))),42,[.tmp 6]⟩
@[simp] theorem c_r07_waits:cfun Tryz.prog n_r07_waits=some r07_waits:=by kernel_rfl
@[simp] theorem e_r07_waits:hasBody Tryz.prog n_r07_waits=true:=by kernel_rfl
abbrev ytG:List Bool:=[I,O,I,I,I,O,O,O,O,O,O,I,I,I,O,O,O,O,O,O,O,O,O,O,O,O,O,O,O,O,O,O,O,O,O,O,O,O,O]
abbrev ytH:List Bool:=[O,O,O,O,O,O,O,O,O,O,O,O,O,O,O,O,O,O,O,O,O,O,O,O,O,O,O,O,O,O,O,O,O,O,O,O,O,O,O]
abbrev ytI:List AG:=[zz6 38 13 1,zz1 13 38]
abbrev ytJ:List AG:=[zz1 37 9,zzb 1 3 37]
abbrev ytK:List AG:=[zz1 28 10,o 29 (.cmp .neq (.sc .int) (.t 28) (.c (.int .i64 0))),zz1 30 29,on 31 30 (.mv (.t 0)),on 32 30 (.mv (.t 8)),on 33 30 (.mv (.t 9)),on 34 30 (.call (.t 31) [(.t 32),(.t 33)]),on 35 30 (.not (.t 34)),o 36 (.pick (.t 30) (.c (.bool true)) (.t 35))]
abbrev ytL:List AG:=[zz2 25 1 4,zz1 26 10,o 27 (.nilck (.t 25)),zzb 1 27 26]
abbrev ytM:List AG:=[zz2 18 1 2,zz2 19 1 3,zz1 20 7,o 21 (.call (.f n_step_machine_step) [(.t 18),(.t 19),(.t 20)]),zz1 17 21,zzc 22 17 0,zzc 23 17 1,zzc 24 17 2,zz1 8 22,zz1 9 23,zz1 10 24]
abbrev ytN:List AG:=[zz5 15 1 11 13,zz2 16 1 15,zz1 7 16]
abbrev ytO:ACode:=(.seq (.reg ytN) (.seq (.reg ytM) (.seq (.seq (.reg ytL) (.seq (.reg ytK) (.cond (.t 36) .ret .skip))) (.reg ytJ))))
abbrev ytP:List AG:=[zz7 14 13 12]
abbrev ytQ:ACode:=(.seq (.reg ytP) (.seq (.cond (.t 14) .skip (.exit 0)) (.seq (.block 1 [] ytO) (.reg ytI))))
abbrev ytR:List AG:=[zz2 11 1 1,zza 12 11,zz9 13 0]
abbrev step_machine_steps_1:AFun:=⟨(.seq (.reg ytR) (.block 0 ytH (.loop ytG ytQ))),39,[]⟩
abbrev ytS:List It:=[]
abbrev ytT (x0 x2 x3 x4 x11 x12 x13:AV) (h:List Ob) (e:Cx:=cx):Cfg:=atC n_step_machine_steps_1 (.code ytQ::.inLoop ytG ytQ::.inBlock 0 ytH::ytS) [x0,U,x2,x3,x4,U,U,U,U,U,U,x11,x12,x13,U,U,U,U,U,U,U,U,U,U,U,U,U,U,U,U,U,U,U,U,U,U,U,U,U] h e
@[simp] theorem c_step_machine_steps_1:cfun Tryz.prog n_step_machine_steps_1=some step_machine_steps_1:=by kernel_rfl
@[simp] theorem e_step_machine_steps_1:hasBody Tryz.prog n_step_machine_steps_1=true:=by kernel_rfl
abbrev ytU:List AG:=[q (.store 1 (.t 2) (.c (.int .i64 0))),q (.store 1 (.t 3) (.c (.str [])))]
abbrev ytV:List Bool:=[O,O,I,I,O,O,O,I,O,O,O,O,O,O,O,O,O,O,O,O,O,O,O,O,O,O,O,O,O,O,O,O,O,O,O,O,O,O,O,O,O,O,O,O,O,O,O,O,O,O,O,O,O,O,O,O,O,O,O,O,O,O,O,O,O,O,O,O,O,O,O,O,O,O,O,O,O,O,O,O,O,O,O,O,O,O,O,O,O,O,O,O,I,I,I,O,O,O,O,O,O,O,O,O]
abbrev ytW:List Bool:=[O,O,I,I,O,O,O,O,O,O,O,O,O,O,O,O,O,O,O,O,O,O,O,O,O,O,O,O,O,O,O,O,O,O,O,O,O,O,O,O,O,O,O,O,O,O,O,O,O,O,O,O,O,O,O,O,O,O,O,O,O,O,O,O,O,O,O,O,O,O,O,O,O,O,O,O,O,O,O,O,O,O,O,O,O,O,O,O,O,O,O,O,O,O,O,O,O,O,O,O,O,O,O,O]
abbrev ytX:List AG:=[zz6 103 94 1,zz1 94 103]
abbrev ytY:List AG:=[zz1 98 7,zz1 99 13,o 100 (.lookup (.sc .str) (.bool false) (.t 98) (.t 99) false),zz1 101 13,o 102 (.call (.f n_net_need) [(.t 100),(.c (.int .i64 6)),(.t 101)])]
abbrev ytZ:List AG:=[zz5 96 1 92 94,zz2 97 1 96,zz1 13 97]
abbrev yua:ACode:=(.seq (.reg ytZ) (.reg ytY))
abbrev yub:List AG:=[zz7 95 94 93]
abbrev yuc:ACode:=(.seq (.reg yub) (.seq (.cond (.t 95) .skip (.exit 6)) (.seq (.block 7 [] yua) (.reg ytX))))
abbrev yud:List AG:=[zz3 91 4 1,zzf 92 n_net_used 91,zza 93 92,zz9 94 0]
abbrev yue:List Bool:=[O,I,I,I,O,O,O,I,O,O,O,O,O,O,O,O,O,O,O,O,O,O,O,O,O,O,O,O,O,O,O,O,O,O,O,O,O,O,O,O,O,O,O,O,O,O,O,O,O,O,O,O,O,O,O,O,O,O,O,O,O,O,O,O,O,O,O,O,O,O,O,O,O,O,O,O,O,O,O,I,I,I,O,O,O,O,O,O,O,O,O,O,O,O,O,O,O,O,O,O,O,O,O,O]
abbrev yuf:List Bool:=[O,I,I,I,O,O,O,I,O,O,O,O,O,O,O,O,O,O,O,O,O,O,O,O,O,O,O,O,O,O,O,O,O,O,O,O,O,O,O,O,O,O,O,O,O,O,O,O,O,O,O,O,O,O,O,O,O,O,O,O,O,O,O,O,O,O,O,O,O,O,O,O,O,O,O,O,O,O,O,O,O,O,O,O,O,O,O,O,O,O,O,O,O,O,O,O,O,O,O,O,O,O,O,O]
abbrev yug:List AG:=[zz6 90 81 1,zz1 81 90]
abbrev yuh:List AG:=[zz3 85 5 11,zzf 86 n_net_Gate 85,zz4 87 0 11,zz2 88 1 87,o 89 (.call (.f n_net_need) [(.t 86),(.c (.int .i64 1)),(.t 88)])]
abbrev yui:List AG:=[zz5 83 5 79 81,zz3 84 5 83,o 11 (.alloc [(.str []),(.int .i64 0),(.own 1 t_string []),(.own 1 t_string []),(.bool false)]),zzb 5 11 84]
abbrev yuj:ACode:=(.seq (.reg yui) (.dreg [O,O,O,I,O] [2,5,5,5,6] yuh))
abbrev yuk:List AG:=[zz7 82 81 80]
abbrev yul:ACode:=(.seq (.reg yuk) (.seq (.cond (.t 82) .skip (.exit 4)) (.seq (.block 5 [] yuj) (.reg yug))))
abbrev yum:List AG:=[zz4 78 3 1,zz2 79 1 78,zza 80 79,zz9 81 0]
abbrev yun:List Bool:=[O,I,I,I,O,O,O,I,O,O,O,O,O,O,O,O,O,O,O,O,O,O,O,O,O,O,O,O,O,O,O,O,O,O,O,O,O,O,O,O,O,O,O,O,O,O,O,O,O,O,O,O,O,O,O,O,O,O,O,O,I,I,I,O,O,O,O,O,O,O,O,O,O,O,O,O,O,O,O,O,O,O,O,O,O,O,O,O,O,O,O,O,O,O,O,O,O,O,O,O,O,O,O,O]
abbrev yuo:List Bool:=[O,I,I,I,O,O,O,I,O,O,O,O,O,O,O,O,O,O,O,O,O,O,O,O,O,O,O,O,O,O,O,O,O,O,O,O,O,O,O,O,O,O,O,O,O,O,O,O,O,O,O,O,O,O,O,O,O,O,O,O,O,O,O,O,O,O,O,O,O,O,O,O,O,O,O,O,O,O,O,O,O,O,O,O,O,O,O,O,O,O,O,O,O,O,O,O,O,O,O,O,O,O,O,O]
abbrev yup:List AG:=[zz6 77 62 1,zz1 62 77]
abbrev yuq:List AG:=[zz4 66 2 9,zz2 67 1 66,o 68 (.cmp .geq (.sc .int) (.t 67) (.c (.int .i64 0))),zz1 69 68,oy 70 69 (.off 2 (.t 9)),zzd 71 69 1 70,oy 72 69 (.cmp .leq (.sc .int) (.t 71) (.c (.int .i64 2))),zz8 73 69 72,zz4 74 0 9,zz2 75 1 74,o 76 (.call (.f n_net_need) [(.t 73),(.c (.int .i64 1)),(.t 75)])]
abbrev yur:List AG:=[zz5 64 3 60 62,zz3 65 3 64,o 9 (.alloc [(.str []),(.str []),(.int .i64 0)]),zzb 3 9 65]
abbrev yus:ACode:=(.seq (.reg yur) (.reg yuq))
abbrev yut:List AG:=[zz7 63 62 61]
abbrev yuu:ACode:=(.seq (.reg yut) (.seq (.cond (.t 63) .skip (.exit 2)) (.seq (.block 3 [] yus) (.reg yup))))
abbrev yuv:List AG:=[zz4 59 2 1,zz2 60 1 59,zza 61 60,zz9 62 0]
abbrev yuw:List AG:=[zz4 56 1 1,zz2 57 1 56,zzf 58 n_net_once 57]
abbrev yux:List AG:=[zz3 53 4 1,zzf 54 n_net_Nets 53,zzf 55 n_net_once 54,zz1 7 55]
abbrev yuy:List Bool:=[O,I,I,I,O,O,O,O,O,O,O,O,O,O,O,O,O,O,O,O,O,O,O,O,O,O,O,O,O,O,O,O,O,O,O,O,O,O,O,O,O,O,I,I,I,O,O,O,O,O,O,O,O,O,O,O,O,O,O,O,O,O,O,O,O,O,O,O,O,O,O,O,O,O,O,O,O,O,O,O,O,O,O,O,O,O,O,O,O,O,O,O,O,O,O,O,O,O,O,O,O,O,O,O]
abbrev yuz:List Bool:=[O,I,I,I,O,O,O,O,O,O,O,O,O,O,O,O,O,O,O,O,O,O,O,O,O,O,O,O,O,O,O,O,O,O,O,O,O,O,O,O,O,O,O,O,O,O,O,O,O,O,O,O,O,O,O,O,O,O,O,O,O,O,O,O,O,O,O,O,O,O,O,O,O,O,O,O,O,O,O,O,O,O,O,O,O,O,O,O,O,O,O,O,O,O,O,O,O,O,O,O,O,O,O,O]
abbrev yuA:List AG:=[zz6 52 44 1,zz1 44 52]
abbrev yuB:List AG:=[zz1 48 6,zzf 49 n_ident_Name 48,zz1 50 6,o 51 (.call (.f n_net_need) [(.t 49),(.c (.int .i64 4)),(.t 50)])]
abbrev yuC:List AG:=[zz5 46 1 42 44,zz2 47 1 46,zz1 6 47]
abbrev yuD:ACode:=(.seq (.reg yuC) (.reg yuB))
abbrev yuE:List AG:=[zz7 45 44 43]
abbrev yuF:ACode:=(.seq (.reg yuE) (.seq (.cond (.t 45) .skip (.exit 0)) (.seq (.block 1 [] yuD) (.reg yuA))))
abbrev yuG:List AG:=[zz3 41 4 1,zzf 42 n_net_told 41,zza 43 42,zz9 44 0]
abbrev yuH:List AG:=[zz4 15 0 1,zz2 16 1 15,zza 17 16,zz4 18 2 1,zz2 19 1 18,zza 20 19,o 21 (.ibin .add (.t 17) (.t 20)),zz4 22 3 1,zz2 23 1 22,zza 24 23,o 25 (.ibin .add (.t 21) (.t 24)),o 26 (.cmp .leq (.sc .int) (.t 25) (.c (.int .i64 200))),zz1 27 26,oy 28 27 (.off 1 (.t 1)),zzd 29 27 1 28,oy 30 27 (.len (.t 29)),oy 31 27 (.cmp .leq (.sc .int) (.t 30) (.c (.int .i64 200))),zz8 32 27 31,zz1 33 32,oy 34 33 (.off 3 (.t 1)),zzd 35 33 1 34,zze 36 33 4,oy 37 33 (.call (.f n_slices_ContainsFunc_api_Gate_api_Gate) [(.t 35),(.t 36)]),oy 38 33 (.not (.t 37)),zz8 39 33 38,o 40 (.call (.f n_net_need) [(.t 39),(.c (.int .i64 8)),(.c (.str []))])]
abbrev yuI:List AG:=[o 4 (.mv (.f n_net_Check_2))]
abbrev yuJ:List AG:=[o 14 (.mkFunc (.func n_net_Check_1) [] [(.t 2),(.t 3)]),q (.defer (.t 14) [])]
abbrev yuK:List AG:=[o 1 (.box 4 (.t 0)),o 2 (.alloc [(.int .i64 0)]),o 3 (.alloc [(.str [])])]
abbrev net_Check:AFun:=⟨(.seq (.reg yuK) (.seq (.reg yuJ) (.seq (.reg yuI) (.seq (.reg yuH) (.seq (.seq (.reg yuG) (.block 0 yuz (.loop yuy yuF))) (.seq (.reg yux) (.seq (.reg yuw) (.seq (.seq (.reg yuv) (.block 2 yuo (.loop yun yuu))) (.seq (.seq (.reg yum) (.block 4 yuf (.loop yue yul))) (.seq (.seq (.reg yud) (.block 6 ytW (.loop ytV yuc))) (.seq (.reg ytU) .ret))))))))))),104,[.cell 2 false 1,.cell 3 false 1]⟩
abbrev yuL:List It:=[.code (.seq (.reg ytU) .ret)]
abbrev yuM (x2 x3 x7 x92 x93 x94:AV) (h:List Ob) (e:Cx:=cx):Cfg:=atC n_net_Check (.code yuc::.inLoop ytV yuc::.inBlock 6 ytW::yuL) [U,U,x2,x3,U,U,U,x7,U,U,U,U,U,U,U,U,U,U,U,U,U,U,U,U,U,U,U,U,U,U,U,U,U,U,U,U,U,U,U,U,U,U,U,U,U,U,U,U,U,U,U,U,U,U,U,U,U,U,U,U,U,U,U,U,U,U,U,U,U,U,U,U,U,U,U,U,U,U,U,U,U,U,U,U,U,U,U,U,U,U,U,U,x92,x93,x94,U,U,U,U,U,U,U,U,U] h e
abbrev yuN:List It:=[.code (.seq (.seq (.reg yud) (.block 6 ytW (.loop ytV yuc))) (.seq (.reg ytU) .ret))]
abbrev yuO (x1 x2 x3 x7 x79 x80 x81:AV) (h:List Ob) (e:Cx:=cx):Cfg:=atC n_net_Check (.code yul::.inLoop yue yul::.inBlock 4 yuf::yuN) [U,x1,x2,x3,U,U,U,x7,U,U,U,U,U,U,U,U,U,U,U,U,U,U,U,U,U,U,U,U,U,U,U,U,U,U,U,U,U,U,U,U,U,U,U,U,U,U,U,U,U,U,U,U,U,U,U,U,U,U,U,U,U,U,U,U,U,U,U,U,U,U,U,U,U,U,U,U,U,U,U,x79,x80,x81,U,U,U,U,U,U,U,U,U,U,U,U,U,U,U,U,U,U,U,U,U,U] h e
abbrev yuP:List It:=[.code (.seq (.seq (.reg yum) (.block 4 yuf (.loop yue yul))) (.seq (.seq (.reg yud) (.block 6 ytW (.loop ytV yuc))) (.seq (.reg ytU) .ret)))]
abbrev yuQ (x1 x2 x3 x7 x60 x61 x62:AV) (h:List Ob) (e:Cx:=cx):Cfg:=atC n_net_Check (.code yuu::.inLoop yun yuu::.inBlock 2 yuo::yuP) [U,x1,x2,x3,U,U,U,x7,U,U,U,U,U,U,U,U,U,U,U,U,U,U,U,U,U,U,U,U,U,U,U,U,U,U,U,U,U,U,U,U,U,U,U,U,U,U,U,U,U,U,U,U,U,U,U,U,U,U,U,U,x60,x61,x62,U,U,U,U,U,U,U,U,U,U,U,U,U,U,U,U,U,U,U,U,U,U,U,U,U,U,U,U,U,U,U,U,U,U,U,U,U,U,U,U,U] h e
abbrev yuR:List It:=[.code (.seq (.reg yux) (.seq (.reg yuw) (.seq (.seq (.reg yuv) (.block 2 yuo (.loop yun yuu))) (.seq (.seq (.reg yum) (.block 4 yuf (.loop yue yul))) (.seq (.seq (.reg yud) (.block 6 ytW (.loop ytV yuc))) (.seq (.reg ytU) .ret))))))]
abbrev yuS (x1 x2 x3 x42 x43 x44:AV) (h:List Ob) (e:Cx:=cx):Cfg:=atC n_net_Check (.code yuF::.inLoop yuy yuF::.inBlock 0 yuz::yuR) [U,x1,x2,x3,U,U,U,U,U,U,U,U,U,U,U,U,U,U,U,U,U,U,U,U,U,U,U,U,U,U,U,U,U,U,U,U,U,U,U,U,U,U,x42,x43,x44,U,U,U,U,U,U,U,U,U,U,U,U,U,U,U,U,U,U,U,U,U,U,U,U,U,U,U,U,U,U,U,U,U,U,U,U,U,U,U,U,U,U,U,U,U,U,U,U,U,U,U,U,U,U,U,U,U,U,U] h e
@[simp] theorem c_net_Check:cfun Tryz.prog n_net_Check=some net_Check:=by kernel_rfl
@[simp] theorem e_net_Check:hasBody Tryz.prog n_net_Check=true:=by kernel_rfl
@[simp] theorem e_strings_Repeat:hasBody Tryz.prog n_strings_Repeat=true:=by kernel_rfl
abbrev yuT:List AG:=[o 5 (.mkFunc (.func n_net_parity_1) [] [(.t 2),(.t 3)]),zz1 4 5]
abbrev yuU:List AG:=[o 2 (.box 1 (.t 0)),o 3 (.box 1 (.t 1)),o 4 (.mv (.c .nilf))]
abbrev net_parity:AFun:=⟨(.seq (.reg yuU) (.seq (.reg yuT) .ret)),6,[.tmp 4]⟩
@[simp] theorem c_net_parity:cfun Tryz.prog n_net_parity=some net_parity:=by kernel_rfl
@[simp] theorem e_net_parity:hasBody Tryz.prog n_net_parity=true:=by kernel_rfl
@[simp] theorem e_strings_Trim:hasBody Tryz.prog n_strings_Trim=true:=by kernel_rfl
abbrev yuV:List AG:=[zz9 2 0,o 3 (.mv (.c (.str [])))]
abbrev yuW:List Bool:=[O,O,O,O,O,O,I,O,O,O,O,O,O,I,I,O,O,O,O,O,O,O,O,O,O,O,O,O,O,O,O,O,O,O,O,O,O,O,O,O,O,O,O,O,O,O,O,O,O,O,O,O,O,O,O,O,O,O,O,O,O,O,O,O,O,O,O,O,O,O,O,O,O,O,O,O,O,O,O,O,O,O,O,O,O,O,O,O,O,O,O,O,O,O,O,O,O,O,O,O,O,O,O,O,O,O,O,O,O,O,O,O,O,O,O,O,O,O,O,O]
abbrev yuX:List Bool:=[O,O,O,O,O,O,O,O,O,O,O,O,O,O,O,O,O,O,O,O,O,O,O,O,O,O,O,O,O,O,O,O,O,O,O,O,O,O,O,O,O,O,O,O,O,O,O,O,O,O,O,O,O,O,O,O,O,O,O,O,O,O,O,O,O,O,O,O,O,O,O,O,O,O,O,O,O,O,O,O,O,O,O,O,O,O,O,O,O,O,O,O,O,O,O,O,O,O,O,O,O,O,O,O,O,O,O,O,O,O,O,O,O,O,O,O,O,O,O,O]
abbrev yuY:List AG:=[zz1 107 14,zz6 108 107 1,zz1 14 108]
abbrev yuZ:List AG:=[zz1 116 13,zz1 117 14,zz5 118 1 116 117,zz2 119 1 118,zz9 2 6,zz1 3 119]
abbrev yva:ACode:=(.seq (.dreg [O,O,O,O,O,O] [7,7,7,7,7,7] yuZ) .ret)
abbrev yvb:List AG:=[zz1 109 6,zz1 110 13,zz1 111 14,zz5 112 1 110 111,zz2 113 1 112,zzg 114 n_r01_Has 109 113,o 115 (.not (.t 114))]
abbrev yvc:ACode:=(.seq (.reg yvb) (.cond (.t 115) yva .skip))
abbrev yvd:List AG:=[zz1 103 14,zz1 104 13,zza 105 104,zz7 106 103 105]
abbrev yve:ACode:=(.seq (.seq (.reg yvd) (.cond (.t 106) .skip (.exit 6))) (.seq (.block 7 [] yvc) (.reg yuY)))
abbrev yvf:List AG:=[zz9 14 0]
abbrev yvg:List AG:=[zz3 101 4 1,zzf 102 n_r06_Used 101,zz1 13 102]
abbrev yvh:List Bool:=[O,I,O,O,O,O,I,O,O,O,O,O,I,O,O,O,O,O,O,O,O,O,O,O,O,O,O,O,O,O,O,O,O,O,O,O,O,O,O,O,O,O,O,O,O,O,O,O,O,O,O,O,O,O,O,O,O,O,O,O,O,O,O,O,O,O,O,O,O,O,O,O,O,O,O,O,O,O,O,O,O,O,O,O,O,O,O,O,O,O,O,O,O,O,O,O,O,O,O,O,O,O,O,O,O,O,O,O,O,O,O,O,O,O,O,O,O,O,O,O]
abbrev yvi:List Bool:=[O,I,O,O,O,O,I,O,O,O,O,O,O,O,O,O,O,O,O,O,O,O,O,O,O,O,O,O,O,O,O,O,O,O,O,O,O,O,O,O,O,O,O,O,O,O,O,O,O,O,O,O,O,O,O,O,O,O,O,O,O,O,O,O,O,O,O,O,O,O,O,O,O,O,O,O,O,O,O,O,O,O,O,O,O,O,O,O,O,O,O,O,O,O,O,O,O,O,O,O,O,O,O,O,O,O,O,O,O,O,O,O,O,O,O,O,O,O,O,O]
abbrev yvj:List AG:=[zz1 86 12,zz6 87 86 1,zz1 12 87]
abbrev yvk:List AG:=[zz4 95 3 1,zz2 96 1 95,zz1 97 12,zz5 98 5 96 97,zz4 99 0 98,zz2 100 1 99,zz9 2 1,zz1 3 100]
abbrev yvl:ACode:=(.seq (.dreg [O,O,O,O,O,O,O,O] [9,9,9,9,9,9,9,9] yvk) .ret)
abbrev yvm:List AG:=[zz4 88 3 1,zz2 89 1 88,zz1 90 12,zz5 91 5 89 90,zz3 92 5 91,zzf 93 n_r06_Gate 92,o 94 (.not (.t 93))]
abbrev yvn:ACode:=(.seq (.reg yvm) (.cond (.t 94) yvl .skip))
abbrev yvo:List AG:=[zz1 81 12,zz4 82 3 1,zz2 83 1 82,zza 84 83,zz7 85 81 84]
abbrev yvp:ACode:=(.seq (.seq (.reg yvo) (.cond (.t 85) .skip (.exit 4))) (.seq (.block 5 [] yvn) (.reg yvj)))
abbrev yvq:List AG:=[zz9 12 0]
abbrev yvr:List Bool:=[O,I,O,O,O,O,I,O,O,O,O,I,O,O,O,O,O,O,O,O,O,O,O,O,O,O,O,O,O,O,O,O,O,O,O,O,O,O,O,O,O,O,O,O,O,O,O,O,O,O,O,O,O,O,O,O,O,O,O,O,O,O,O,O,O,O,O,O,O,O,O,O,O,O,O,O,O,O,O,O,O,O,O,O,O,O,O,O,O,O,O,O,O,O,O,O,O,O,O,O,O,O,O,O,O,O,O,O,O,O,O,O,O,O,O,O,O,O,O,O]
abbrev yvs:List Bool:=[O,I,O,O,O,O,I,O,O,O,O,O,O,O,O,O,O,O,O,O,O,O,O,O,O,O,O,O,O,O,O,O,O,O,O,O,O,O,O,O,O,O,O,O,O,O,O,O,O,O,O,O,O,O,O,O,O,O,O,O,O,O,O,O,O,O,O,O,O,O,O,O,O,O,O,O,O,O,O,O,O,O,O,O,O,O,O,O,O,O,O,O,O,O,O,O,O,O,O,O,O,O,O,O,O,O,O,O,O,O,O,O,O,O,O,O,O,O,O,O]
abbrev yvt:List AG:=[zz1 57 11,zz6 58 57 1,zz1 11 58]
abbrev yvu:List AG:=[zz4 75 2 1,zz2 76 1 75,zz1 77 11,zz5 78 3 76 77,zz4 79 0 78,zz2 80 1 79,zz9 2 1,zz1 3 80]
abbrev yvv:ACode:=(.seq (.dreg [O,O,O,O,O,O,O,O] [9,9,9,9,9,9,9,9] yvu) .ret)
abbrev yvw:List AG:=[zz4 59 2 1,zz2 60 1 59,zz1 61 11,zz5 62 3 60 61,zz4 63 2 62,zz2 64 1 63,o 65 (.cmp .lss (.sc .int) (.t 64) (.c (.int .i64 0))),zz1 66 65,on 67 66 (.off 2 (.t 1)),on 68 66 (.load false 1 (.t 67)),on 69 66 (.mv (.t 11)),on 70 66 (.ixAddr 3 (.t 68) (.t 69)),on 71 66 (.off 2 (.t 70)),on 72 66 (.load false 1 (.t 71)),on 73 66 (.cmp .gtr (.sc .int) (.t 72) (.c (.int .i64 2))),o 74 (.pick (.t 66) (.c (.bool true)) (.t 73))]
abbrev yvx:ACode:=(.seq (.reg yvw) (.cond (.t 74) yvv .skip))
abbrev yvy:List AG:=[zz1 52 11,zz4 53 2 1,zz2 54 1 53,zza 55 54,zz7 56 52 55]
abbrev yvz:ACode:=(.seq (.seq (.reg yvy) (.cond (.t 56) .skip (.exit 2))) (.seq (.block 3 [] yvx) (.reg yvt)))
abbrev yvA:List AG:=[zz9 11 0]
abbrev yvB:List AG:=[zz1 51 9,zz9 2 5,zz1 3 51]
abbrev yvC:ACode:=(.seq (.reg yvB) .ret)
abbrev yvD:List AG:=[zz1 50 10]
abbrev yvE:List AG:=[zz4 45 1 1,zz2 46 1 45,zzf 47 n_r06_twice 46,zz1 44 47,zzc 48 44 0,zzc 49 44 1,zz1 9 48,zz1 10 49]
abbrev yvF:List AG:=[zz1 43 7,zz9 2 5,zz1 3 43]
abbrev yvG:ACode:=(.seq (.reg yvF) .ret)
abbrev yvH:List AG:=[zz1 42 8]
abbrev yvI:List AG:=[zz1 38 6,zzf 39 n_r06_twice 38,zz1 37 39,zzc 40 37 0,zzc 41 37 1,zz1 7 40,zz1 8 41]
abbrev yvJ:List AG:=[zz3 35 4 1,zzf 36 n_r06_Nets 35,zz1 6 36]
abbrev yvK:List Bool:=[O,I,O,O,I,I,O,O,O,O,O,O,O,O,O,O,O,O,O,O,O,O,O,O,O,O,O,O,O,O,O,O,O,O,O,O,O,O,O,O,O,O,O,O,O,O,O,O,O,O,O,O,O,O,O,O,O,O,O,O,O,O,O,O,O,O,O,O,O,O,O,O,O,O,O,O,O,O,O,O,O,O,O,O,O,O,O,O,O,O,O,O,O,O,O,O,O,O,O,O,O,O,O,O,O,O,O,O,O,O,O,O,O,O,O,O,O,O,O,O]
abbrev yvL:List Bool:=[O,I,O,O,O,O,O,O,O,O,O,O,O,O,O,O,O,O,O,O,O,O,O,O,O,O,O,O,O,O,O,O,O,O,O,O,O,O,O,O,O,O,O,O,O,O,O,O,O,O,O,O,O,O,O,O,O,O,O,O,O,O,O,O,O,O,O,O,O,O,O,O,O,O,O,O,O,O,O,O,O,O,O,O,O,O,O,O,O,O,O,O,O,O,O,O,O,O,O,O,O,O,O,O,O,O,O,O,O,O,O,O,O,O,O,O,O,O,O,O]
abbrev yvM:List AG:=[zz1 23 5,zz6 24 23 1,zz1 5 24]
abbrev yvN:List AG:=[zz1 31 4,zz1 32 5,zz5 33 1 31 32,zz2 34 1 33,zz9 2 4,zz1 3 34]
abbrev yvO:ACode:=(.seq (.dreg [O,O,O,O,O,O] [7,7,7,7,7,7] yvN) .ret)
abbrev yvP:List AG:=[zz1 25 4,zz1 26 5,zz5 27 1 25 26,zz2 28 1 27,zzf 29 n_r04_Name 28,o 30 (.not (.t 29))]
abbrev yvQ:ACode:=(.seq (.reg yvP) (.cond (.t 30) yvO .skip))
abbrev yvR:List AG:=[zz1 19 5,zz1 20 4,zza 21 20,zz7 22 19 21]
abbrev yvS:ACode:=(.seq (.seq (.reg yvR) (.cond (.t 22) .skip (.exit 0))) (.seq (.block 1 [] yvQ) (.reg yvM)))
abbrev yvT:List AG:=[zz9 5 0]
abbrev yvU:List AG:=[zz3 17 4 1,zzf 18 n_r06_Told 17,zz1 4 18]
abbrev yvV:List AG:=[zz9 2 8,o 3 (.mv (.c (.str [])))]
abbrev yvW:ACode:=(.seq (.reg yvV) .ret)
abbrev yvX:List AG:=[zz3 15 4 1,zzf 16 n_r06_limit 15]
abbrev yvY:List AG:=[o 1 (.box 4 (.t 0)),zz9 2 0,o 3 (.mv (.c (.str [])))]
abbrev r06_Check:AFun:=⟨(.seq (.reg yvY) (.seq (.seq (.reg yvX) (.cond (.t 16) yvW .skip)) (.seq (.reg yvU) (.seq (.seq (.reg yvT) (.block 0 yvL (.loop yvK yvS))) (.seq (.reg yvJ) (.seq (.reg yvI) (.seq (.seq (.reg yvH) (.cond (.t 42) yvG .skip)) (.seq (.reg yvE) (.seq (.seq (.reg yvD) (.cond (.t 50) yvC .skip)) (.seq (.seq (.reg yvA) (.block 2 yvs (.loop yvr yvz))) (.seq (.seq (.reg yvq) (.block 4 yvi (.loop yvh yvp))) (.seq (.reg yvg) (.seq (.seq (.reg yvf) (.block 6 yuX (.loop yuW yve))) (.seq (.reg yuV) .ret)))))))))))))),120,[.tmp 2,.tmp 3]⟩
@[simp] theorem c_r06_Check:cfun Tryz.prog n_r06_Check=some r06_Check:=by kernel_rfl
@[simp] theorem e_r06_Check:hasBody Tryz.prog n_r06_Check=true:=by kernel_rfl
abbrev yvZ:List AG:=[zz1 20 3,zz1 2 20]
abbrev ywa:List Bool:=[O,O,O,I,O,O,O,O,I,I,I,O,O,O,O,O,O,O,O,O,O]
abbrev ywb:List Bool:=[O,O,O,I,O,O,O,O,O,O,O,O,O,O,O,O,O,O,O,O,O]
abbrev ywc:List AG:=[zz6 19 10 1,zz1 10 19]
abbrev ywd:List AG:=[zz1 15 3,zz4 16 0 5,zz2 17 1 16,zz1 18 4,q (.upd (.sc .str) (.t 15) (.t 17) (.t 18))]
abbrev ywe:List AG:=[zz1 12 10,zz5 13 5 8 10,zz3 14 5 13,o 5 (.alloc [(.str []),(.int .i64 0),(.own 1 t_string []),(.own 1 t_string []),(.bool false)]),zz1 4 12,zzb 5 5 14]
abbrev ywf:ACode:=(.seq (.reg ywe) (.reg ywd))
abbrev ywg:List AG:=[zz7 11 10 9]
abbrev ywh:ACode:=(.seq (.reg ywg) (.seq (.cond (.t 11) .skip (.exit 0)) (.seq (.block 1 [] ywf) (.reg ywc))))
abbrev ywi:List AG:=[zz4 7 3 1,zz2 8 1 7,zza 9 8,zz9 10 0]
abbrev ywj:List AG:=[o 6 (.mkMap),zz1 3 6]
abbrev ywk:List AG:=[o 1 (.box 4 (.t 0)),o 2 (.mv (.c .nilm))]
abbrev order_places:AFun:=⟨(.seq (.reg ywk) (.seq (.reg ywj) (.seq (.seq (.reg ywi) (.block 0 ywb (.loop ywa ywh))) (.seq (.reg yvZ) .ret)))),21,[.tmp 2]⟩
abbrev ywl:List It:=[.code (.seq (.reg yvZ) .ret)]
abbrev ywm (x3 x8 x9 x10:AV) (h:List Ob) (e:Cx:=cx):Cfg:=atC n_order_places (.code ywh::.inLoop ywa ywh::.inBlock 0 ywb::ywl) [U,U,U,x3,U,U,U,U,x8,x9,x10,U,U,U,U,U,U,U,U,U,U] h e
@[simp] theorem c_order_places:cfun Tryz.prog n_order_places=some order_places:=by kernel_rfl
@[simp] theorem e_order_places:hasBody Tryz.prog n_order_places=true:=by kernel_rfl
abbrev ywn:List AG:=[o 3 (.mkFunc (.func n_order_coming_1) [] [(.t 1)]),zz1 2 3]
abbrev ywo:List AG:=[o 1 (.box 4 (.t 0)),o 2 (.mv (.c .nilf))]
abbrev order_coming:AFun:=⟨(.seq (.reg ywo) (.seq (.reg ywn) .ret)),4,[.tmp 2]⟩
@[simp] theorem c_order_coming:cfun Tryz.prog n_order_coming=some order_coming:=by kernel_rfl
@[simp] theorem e_order_coming:hasBody Tryz.prog n_order_coming=true:=by kernel_rfl
abbrev ywp:List AG:=[zz1 26 0,zz1 4 26]
abbrev ywq:List AG:=[zz1 17 0,zz1 18 0,o 19 (.cap (.t 18)),o 20 (.slice 1 (.t 17) none (some (.t 19))),zz1 21 1,o 22 (.appendZ 1 t_bool 1 (.bool false) (.t 20) (.t 21)),zz1 23 0,zza 24 23,o 25 (.slice 1 (.t 22) none (some (.t 24))),zz1 0 25]
abbrev ywr:List AG:=[zz1 15 1,o 16 (.cmp .gtr (.sc .int) (.t 15) (.c (.int .i64 0)))]
abbrev yws:List AG:=[zz1 8 1,zz1 9 0,o 10 (.cap (.t 9)),zz1 11 0,zza 12 11,o 13 (.ibin .sub (.t 10) (.t 12)),o 14 (.ibin .sub (.t 8) (.t 13)),zz1 1 14]
abbrev ywt:List AG:=[o 7 (.mkIface t_string (.c (.str [99,97,110,110,111,116,32,98,101,32,110,101,103,97,116,105,118,101]))),q (.panic (.t 7))]
abbrev ywu:List AG:=[zz1 5 1,o 6 (.cmp .lss (.sc .int) (.t 5) (.c (.int .i64 0)))]
abbrev ywv:List AG:=[o 4 (.nilrow 1 t_bool)]
abbrev slices_Grow_bool_bool:AFun:=⟨(.seq (.reg ywv) (.seq (.seq (.reg ywu) (.cond (.t 6) (.reg ywt) .skip)) (.seq (.seq (.reg yws) (.seq (.reg ywr) (.cond (.t 16) (.reg ywq) .skip))) (.seq (.reg ywp) .ret)))),27,[.tmp 4]⟩
@[simp] theorem c_slices_Grow_bool_bool:cfun Tryz.prog n_slices_Grow_bool_bool=some slices_Grow_bool_bool:=by kernel_rfl
@[simp] theorem e_slices_Grow_bool_bool:hasBody Tryz.prog n_slices_Grow_bool_bool=true:=by kernel_rfl
abbrev yww:List AG:=[zz4 10 0 2,zz2 11 1 10,zz4 12 1 2,zz2 13 1 12,zzb 1 0 11,zzb 1 1 13]
abbrev ywx:List AG:=[zz1 9 3]
abbrev ywy:List AG:=[o 5 (.recover),o 6 (.tassert (.t 5) t_net_wrong (.agg [(.int .i64 0),(.str [])]) true),zz1 4 6,zzc 7 4 0,zzc 8 4 1,o 2 (.alloc [(.int .i64 0),(.str [])]),zzb 2 2 7,zz1 3 8]
abbrev net_Check_1:AFun:=⟨(.seq (.reg ywy) (.seq (.reg ywx) (.cond (.t 9) (.dreg [O,O,O,I,O,O] [5,5,6,6,6,7] yww) .skip))),14,[]⟩
@[simp] theorem c_net_Check_1:cfun Tryz.prog n_net_Check_1=some net_Check_1:=by kernel_rfl
@[simp] theorem e_net_Check_1:hasBody Tryz.prog n_net_Check_1=true:=by kernel_rfl
abbrev ywz:List AG:=[zz4 3 2 1,zz2 4 1 3,zza 5 4,o 6 (.cmp .gtr (.sc .int) (.t 5) (.c (.int .i64 8))),zz1 7 6,on 8 7 (.off 3 (.t 1)),on 9 7 (.load false 1 (.t 8)),on 10 7 (.len (.t 9)),on 11 7 (.cmp .gtr (.sc .int) (.t 10) (.c (.int .i64 128))),o 12 (.pick (.t 7) (.c (.bool true)) (.t 11)),zz1 2 12]
abbrev ywA:List AG:=[o 1 (.box 5 (.t 0)),zzh 2]
abbrev net_Check_2:AFun:=⟨(.seq (.reg ywA) (.seq (.reg ywz) .ret)),13,[.tmp 2]⟩
@[simp] theorem c_net_Check_2:cfun Tryz.prog n_net_Check_2=some net_Check_2:=by kernel_rfl
@[simp] theorem e_net_Check_2:hasBody Tryz.prog n_net_Check_2=true:=by kernel_rfl
abbrev ywB:List AG:=[zz1 8 1,zz1 9 2,o 10 (.build [(.int .i64 0),(.str [])] [(0,1,(.t 8)),(1,1,(.t 9))]),o 11 (.mkIface t_net_wrong (.t 10)),q (.panic (.t 11))]
abbrev ywC:List AG:=[zz1 6 0,o 7 (.not (.t 6))]
abbrev net_need:AFun:=⟨(.seq (.reg ywC) (.cond (.t 7) (.reg ywB) .skip)),12,[]⟩
@[simp] theorem c_net_need:cfun Tryz.prog n_net_need=some net_need:=by kernel_rfl
@[simp] theorem e_net_need:hasBody Tryz.prog n_net_need=true:=by kernel_rfl
abbrev ywD:List AG:=[zz1 5 0,zz1 6 1,zzg 7 n_slices_IndexFunc_api_Gate_api_Gate 5 6,o 8 (.cmp .geq (.sc .int) (.t 7) (.c (.int .i64 0))),zz1 4 8]
abbrev ywE:List AG:=[zzh 4]
abbrev slices_ContainsFunc_api_Gate_api_Gate:AFun:=⟨(.seq (.reg ywE) (.seq (.reg ywD) .ret)),9,[.tmp 4]⟩
@[simp] theorem c_slices_ContainsFunc_api_Gate_api_Gate:cfun Tryz.prog n_slices_ContainsFunc_api_Gate_api_Gate=some slices_ContainsFunc_api_Gate_api_Gate:=by kernel_rfl
@[simp] theorem e_slices_ContainsFunc_api_Gate_api_Gate:hasBody Tryz.prog n_slices_ContainsFunc_api_Gate_api_Gate=true:=by kernel_rfl
abbrev ywF:List AG:=[zz1 45 3,zz1 2 45]
abbrev ywG:List Bool:=[O,O,O,I,O,O,O,O,O,O,O,O,O,O,O,O,O,O,O,O,O,O,O,O,O,O,O,O,O,O,I,I,I,O,O,O,O,O,O,O,O,O,O,O,O,O]
abbrev ywH:List Bool:=[O,O,O,I,O,O,O,O,O,O,O,O,O,O,O,O,O,O,O,O,O,O,O,O,O,O,O,O,O,O,O,O,O,O,O,O,O,O,O,O,O,O,O,O,O,O]
abbrev ywI:List AG:=[zz6 44 32 1,zz1 32 44]
abbrev ywJ:List AG:=[zz1 36 3,zz4 37 0 7,zz2 38 1 37,o 39 (.lit 1 [(.str [])] [(0,(.t 38))]),o 40 (.append 1 t_string 16 (.t 36) (.t 39)),zz4 41 2 7,zz2 42 1 41,o 43 (.append 1 t_string 16 (.t 40) (.t 42)),zz1 3 43]
abbrev ywK:List AG:=[zz5 34 5 30 32,zz3 35 5 34,o 7 (.alloc [(.str []),(.int .i64 0),(.own 1 t_string []),(.own 1 t_string []),(.bool false)]),zzb 5 7 35]
abbrev ywL:ACode:=(.seq (.reg ywK) (.dreg [O,O,O,O,O,O,I,O,O] [5,4,4,5,8,8,8,10,10] ywJ))
abbrev ywM:List AG:=[zz7 33 32 31]
abbrev ywN:ACode:=(.seq (.reg ywM) (.seq (.cond (.t 33) .skip (.exit 2)) (.seq (.block 3 [] ywL) (.reg ywI))))
abbrev ywO:List AG:=[zz4 29 3 1,zz2 30 1 29,zza 31 30,zz9 32 0]
abbrev ywP:List Bool:=[O,I,O,I,O,O,O,O,O,O,O,O,O,O,O,I,I,I,O,O,O,O,O,O,O,O,O,O,O,O,O,O,O,O,O,O,O,O,O,O,O,O,O,O,O,O]
abbrev ywQ:List Bool:=[O,I,O,I,O,O,O,O,O,O,O,O,O,O,O,O,O,O,O,O,O,O,O,O,O,O,O,O,O,O,O,O,O,O,O,O,O,O,O,O,O,O,O,O,O,O]
abbrev ywR:List AG:=[zz6 28 17 1,zz1 17 28]
abbrev ywS:List AG:=[zz1 21 3,zz4 22 0 5,zz2 23 1 22,zz4 24 1 5,zz2 25 1 24,o 26 (.lit 1 [(.str []),(.str [])] [(0,(.t 23)),(1,(.t 25))]),o 27 (.append 1 t_string 16 (.t 21) (.t 26)),zz1 3 27]
abbrev ywT:List AG:=[zz5 19 3 15 17,zz3 20 3 19,o 5 (.alloc [(.str []),(.str []),(.int .i64 0)]),zzb 3 5 20]
abbrev ywU:ACode:=(.seq (.reg ywT) (.reg ywS))
abbrev ywV:List AG:=[zz7 18 17 16]
abbrev ywW:ACode:=(.seq (.reg ywV) (.seq (.cond (.t 18) .skip (.exit 0)) (.seq (.block 1 [] ywU) (.reg ywR))))
abbrev ywX:List AG:=[zz4 14 2 1,zz2 15 1 14,zza 16 15,zz9 17 0]
abbrev ywY:List AG:=[zz4 8 0 1,zz2 9 1 8,zz4 10 1 1,zz2 11 1 10,o 12 (.lit 1 [(.list true 0 []),(.list true 0 [])] [(0,(.t 9)),(1,(.t 11))]),zzf 13 n_slices_Concat_string_string 12,zz1 3 13]
abbrev ywZ:List AG:=[o 1 (.box 4 (.t 0)),o 2 (.nilrow 1 t_string)]
abbrev net_told:AFun:=⟨(.seq (.reg ywZ) (.seq (.reg ywY) (.seq (.seq (.reg ywX) (.block 0 ywQ (.loop ywP ywW))) (.seq (.seq (.reg ywO) (.block 2 ywH (.loop ywG ywN))) (.seq (.reg ywF) .ret))))),46,[.tmp 2]⟩
abbrev yxa:List It:=[.code (.seq (.reg ywF) .ret)]
abbrev yxb (x3 x30 x31 x32:AV) (h:List Ob) (e:Cx:=cx):Cfg:=atC n_net_told (.code ywN::.inLoop ywG ywN::.inBlock 2 ywH::yxa) [U,U,U,x3,U,U,U,U,U,U,U,U,U,U,U,U,U,U,U,U,U,U,U,U,U,U,U,U,U,U,x30,x31,x32,U,U,U,U,U,U,U,U,U,U,U,U,U] h e
abbrev yxc:List It:=[.code (.seq (.seq (.reg ywO) (.block 2 ywH (.loop ywG ywN))) (.seq (.reg ywF) .ret))]
abbrev yxd (x1 x3 x15 x16 x17:AV) (h:List Ob) (e:Cx:=cx):Cfg:=atC n_net_told (.code ywW::.inLoop ywP ywW::.inBlock 0 ywQ::yxc) [U,x1,U,x3,U,U,U,U,U,U,U,U,U,U,U,x15,x16,x17,U,U,U,U,U,U,U,U,U,U,U,U,U,U,U,U,U,U,U,U,U,U,U,U,U,U,U,U] h e
@[simp] theorem c_net_told:cfun Tryz.prog n_net_told=some net_told:=by kernel_rfl
@[simp] theorem e_net_told:hasBody Tryz.prog n_net_told=true:=by kernel_rfl
abbrev yxe:List AG:=[zz1 3 0,zzf 4 n_ident_name_plain 3,zz1 2 4]
abbrev yxf:List AG:=[zzh 2]
abbrev ident_Name:AFun:=⟨(.seq (.reg yxf) (.seq (.reg yxe) .ret)),5,[.tmp 2]⟩
@[simp] theorem c_ident_Name:cfun Tryz.prog n_ident_Name=some ident_Name:=by kernel_rfl
@[simp] theorem e_ident_Name:hasBody Tryz.prog n_ident_Name=true:=by kernel_rfl
abbrev yxg:List AG:=[zz1 22 3,zz1 2 22]
abbrev yxh:List Bool:=[O,O,O,I,O,O,O,I,I,I,O,O,O,O,O,O,O,O,O,O,O,O,O]
abbrev yxi:List Bool:=[O,O,O,I,O,O,O,O,O,O,O,O,O,O,O,O,O,O,O,O,O,O,O]
abbrev yxj:List AG:=[zz6 21 9 1,zz1 9 21]
abbrev yxk:List AG:=[zz1 19 3,zz1 20 5,q (.upd (.sc .str) (.t 19) (.t 20) (.c (.bool true)))]
abbrev yxl:List AG:=[zz1 13 3,zz1 14 5,o 15 (.lookup (.sc .str) (.bool false) (.t 13) (.t 14) false),o 16 (.not (.t 15)),zz1 17 5,o 18 (.call (.f n_net_need) [(.t 16),(.c (.int .i64 5)),(.t 17)])]
abbrev yxm:List AG:=[zz5 11 1 7 9,zz2 12 1 11,zz1 5 12]
abbrev yxn:ACode:=(.seq (.reg yxm) (.seq (.reg yxl) (.reg yxk)))
abbrev yxo:List AG:=[zz7 10 9 8]
abbrev yxp:ACode:=(.seq (.reg yxo) (.seq (.cond (.t 10) .skip (.exit 0)) (.seq (.block 1 [] yxn) (.reg yxj))))
abbrev yxq:List AG:=[zz1 7 0,zza 8 7,zz9 9 0]
abbrev yxr:List AG:=[o 6 (.mkMap),zz1 3 6]
abbrev yxs:List AG:=[o 2 (.mv (.c .nilm))]
abbrev net_once:AFun:=⟨(.seq (.reg yxs) (.seq (.reg yxr) (.seq (.seq (.reg yxq) (.block 0 yxi (.loop yxh yxp))) (.seq (.reg yxg) .ret)))),23,[.tmp 2]⟩
abbrev yxt:List It:=[.code (.seq (.reg yxg) .ret)]
abbrev yxu (x3 x7 x8 x9:AV) (h:List Ob) (e:Cx:=cx):Cfg:=atC n_net_once (.code yxp::.inLoop yxh yxp::.inBlock 0 yxi::yxt) [U,U,U,x3,U,U,U,x7,x8,x9,U,U,U,U,U,U,U,U,U,U,U,U,U] h e
@[simp] theorem c_net_once:cfun Tryz.prog n_net_once=some net_once:=by kernel_rfl
@[simp] theorem e_net_once:hasBody Tryz.prog n_net_once=true:=by kernel_rfl
abbrev yxv:List AG:=[zz1 36 3,zz1 2 36]
abbrev yxw:List Bool:=[O,O,O,I,O,O,O,O,O,O,O,O,O,O,O,O,O,O,O,O,O,O,O,O,O,I,I,I,O,O,O,O,O,O,O,O,O]
abbrev yxx:List Bool:=[O,O,O,I,O,O,O,O,O,O,O,O,O,O,O,O,O,O,O,O,O,O,O,O,O,O,O,O,O,O,O,O,O,O,O,O,O]
abbrev yxy:List AG:=[zz6 35 27 1,zz1 27 35]
abbrev yxz:List AG:=[zz1 31 3,zz4 32 2 7,zz2 33 1 32,o 34 (.append 1 t_string 16 (.t 31) (.t 33)),zz1 3 34]
abbrev yxA:List AG:=[zz5 29 5 25 27,zz3 30 5 29,o 7 (.alloc [(.str []),(.int .i64 0),(.own 1 t_string []),(.own 1 t_string []),(.bool false)]),zzb 5 7 30]
abbrev yxB:ACode:=(.seq (.reg yxA) (.reg yxz))
abbrev yxC:List AG:=[zz7 28 27 26]
abbrev yxD:ACode:=(.seq (.reg yxC) (.seq (.cond (.t 28) .skip (.exit 2)) (.seq (.block 3 [] yxB) (.reg yxy))))
abbrev yxE:List AG:=[zz4 24 3 1,zz2 25 1 24,zza 26 25,zz9 27 0]
abbrev yxF:List Bool:=[O,I,O,I,O,O,O,O,O,O,O,O,I,I,I,O,O,O,O,O,O,O,O,O,O,O,O,O,O,O,O,O,O,O,O,O,O]
abbrev yxG:List Bool:=[O,I,O,I,O,O,O,O,O,O,O,O,O,O,O,O,O,O,O,O,O,O,O,O,O,O,O,O,O,O,O,O,O,O,O,O,O]
abbrev yxH:List AG:=[zz6 23 14 1,zz1 14 23]
abbrev yxI:List AG:=[zz1 18 3,zz4 19 1 5,zz2 20 1 19,o 21 (.lit 1 [(.str [])] [(0,(.t 20))]),o 22 (.append 1 t_string 16 (.t 18) (.t 21)),zz1 3 22]
abbrev yxJ:List AG:=[zz5 16 3 12 14,zz3 17 3 16,o 5 (.alloc [(.str []),(.str []),(.int .i64 0)]),zzb 3 5 17]
abbrev yxK:ACode:=(.seq (.reg yxJ) (.reg yxI))
abbrev yxL:List AG:=[zz7 15 14 13]
abbrev yxM:ACode:=(.seq (.reg yxL) (.seq (.cond (.t 15) .skip (.exit 0)) (.seq (.block 1 [] yxK) (.reg yxH))))
abbrev yxN:List AG:=[zz4 11 2 1,zz2 12 1 11,zza 13 12,zz9 14 0]
abbrev yxO:List AG:=[zz4 8 1 1,zz2 9 1 8,zzf 10 n_slices_Clone_string_string 9,zz1 3 10]
abbrev yxP:List AG:=[o 1 (.box 4 (.t 0)),o 2 (.nilrow 1 t_string)]
abbrev net_used:AFun:=⟨(.seq (.reg yxP) (.seq (.reg yxO) (.seq (.seq (.reg yxN) (.block 0 yxG (.loop yxF yxM))) (.seq (.seq (.reg yxE) (.block 2 yxx (.loop yxw yxD))) (.seq (.reg yxv) .ret))))),37,[.tmp 2]⟩
abbrev yxQ:List It:=[.code (.seq (.reg yxv) .ret)]
abbrev yxR (x3 x25 x26 x27:AV) (h:List Ob) (e:Cx:=cx):Cfg:=atC n_net_used (.code yxD::.inLoop yxw yxD::.inBlock 2 yxx::yxQ) [U,U,U,x3,U,U,U,U,U,U,U,U,U,U,U,U,U,U,U,U,U,U,U,U,U,x25,x26,x27,U,U,U,U,U,U,U,U,U] h e
abbrev yxS:List It:=[.code (.seq (.seq (.reg yxE) (.block 2 yxx (.loop yxw yxD))) (.seq (.reg yxv) .ret))]
abbrev yxT (x1 x3 x12 x13 x14:AV) (h:List Ob) (e:Cx:=cx):Cfg:=atC n_net_used (.code yxM::.inLoop yxF yxM::.inBlock 0 yxG::yxS) [U,x1,U,x3,U,U,U,U,U,U,U,U,x12,x13,x14,U,U,U,U,U,U,U,U,U,U,U,U,U,U,U,U,U,U,U,U,U,U] h e
@[simp] theorem c_net_used:cfun Tryz.prog n_net_used=some net_used:=by kernel_rfl
@[simp] theorem e_net_used:hasBody Tryz.prog n_net_used=true:=by kernel_rfl
abbrev yxU:List Bool:=[I,I,I,O,O,O,O,O,I,I,O,O,O,O,O,O,O,O,O,O,O,O,O,O,O,O,O,O,O,O,O,O,O,O,O,O,O,O,O,O,O,O,O,O,O]
abbrev yxV:List Bool:=[O,O,O,O,O,O,O,O,O,O,O,O,O,O,O,O,O,O,O,O,O,O,O,O,O,O,O,O,O,O,O,O,O,O,O,O,O,O,O,O,O,O,O,O,O]
abbrev yxW:List AG:=[zz6 44 9 1,zz1 9 44]
abbrev yxX:List AG:=[zz1 39 0,zz1 40 5,o 41 (.toStr (.t 40)),o 42 (.call (.t 39) [(.t 41)]),o 43 (.not (.t 42))]
abbrev yxY:List Bool:=[I,I,I,O,I,I,O,O,I,I,O,O,O,O,O,O,O,O,O,O,O,O,I,I,O,O,O,O,O,O,O,O,O,O,O,O,O,O,O,O,O,O,O,O,O]
abbrev yxZ:List Bool:=[I,I,I,O,O,I,O,O,I,I,O,O,O,O,O,O,O,O,O,O,O,O,O,O,O,O,O,O,O,O,O,O,O,O,O,O,O,O,O,O,O,O,O,O,O]
abbrev yya:List AG:=[zz6 38 23 1,zz1 23 38]
abbrev yyb:List AG:=[zz1 26 5,zz1 27 6,zz1 28 4,zz2 29 1 1,o 30 (.ibin .sub (.t 29) (.c (.int .i64 1))),zz1 31 6,o 32 (.ibin .sub (.t 30) (.t 31)),o 33 (.ibin .shr (.t 28) (.t 32)),o 34 (.ibin .and (.t 33) (.c (.int .i64 1))),o 35 (.conv .u8 (.t 34)),o 36 (.ibin .add (.c (.int .u8 48)) (.t 35)),zz5 37 1 26 27,zzb 1 37 36]
abbrev yyc:List AG:=[zz1 25 23,zz1 6 25]
abbrev yyd:ACode:=(.seq (.reg yyc) (.reg yyb))
abbrev yye:List AG:=[zz7 24 23 22]
abbrev yyf:ACode:=(.seq (.reg yye) (.seq (.cond (.t 24) .skip (.exit 2)) (.seq (.block 3 [] yyd) (.reg yya))))
abbrev yyg:List AG:=[zz1 21 5,zza 22 21,zz9 23 0]
abbrev yyh:List AG:=[zz2 19 1 1,o 20 (.mkSlice 1 t_uint8 1 (.int .u8 0) (.t 19) (.t 19)),zz1 5 20]
abbrev yyi:List AG:=[zz1 12 4,o 13 (.conv .u64 (.t 12)),zzf 14 n_math_bits_OnesCount 13,o 15 (.ibin .rem (.t 14) (.c (.int .i64 2))),o 16 (.cmp .eql (.sc .int) (.t 15) (.c (.int .i64 1))),zz2 17 1 2,o 18 (.cmp .neq (.sc .bool) (.t 16) (.t 17))]
abbrev yyj:List AG:=[zz1 11 9,zz1 4 11]
abbrev yyk:ACode:=(.seq (.reg yyj) (.seq (.seq (.dreg [O,O,O,O,O,I,O] [3,3,8,8,8,8,8] yyi) (.cond (.t 18) (.exit 1) .skip)) (.seq (.reg yyh) (.seq (.seq (.reg yyg) (.block 2 yxZ (.loop yxY yyf))) (.seq (.reg yxX) (.cond (.t 43) .ret .skip))))))
abbrev yyl:List AG:=[zz7 10 9 8]
abbrev yym:ACode:=(.seq (.reg yyl) (.seq (.cond (.t 10) .skip (.exit 0)) (.seq (.block 1 [] yyk) (.reg yxW))))
abbrev yyn:List AG:=[zz2 7 1 1,o 8 (.ibin .shl (.c (.int .i64 1)) (.t 7)),zz9 9 0]
abbrev net_parity_1:AFun:=⟨(.seq (.reg yyn) (.block 0 yxV (.loop yxU yym))),45,[]⟩
abbrev yyo:List It:=[.code (.seq (.reg yxX) (.cond (.t 43) .ret .skip)),.inBlock 1 [],.code (.reg yxW),.inLoop yxU yym,.inBlock 0 yxV]
abbrev yyp (x0 x1 x2 x4 x5 x8 x9 x22 x23:AV) (h:List Ob) (e:Cx:=cx):Cfg:=atC n_net_parity_1 (.code yyf::.inLoop yxY yyf::.inBlock 2 yxZ::yyo) [x0,x1,x2,U,x4,x5,U,U,x8,x9,U,U,U,U,U,U,U,U,U,U,U,U,x22,x23,U,U,U,U,U,U,U,U,U,U,U,U,U,U,U,U,U,U,U,U,U] h e
abbrev yyq (x0 x1 x2 x5 x8 x9:AV) (h:List Ob) (e:Cx:=cx):Cfg:=atC n_net_parity_1 yyo [x0,x1,x2,U,U,x5,U,U,x8,x9,U,U,U,U,U,U,U,U,U,U,U,U,U,U,U,U,U,U,U,U,U,U,U,U,U,U,U,U,U,U,U,U,U,U,U] h e
abbrev yyr:List It:=[]
abbrev yys (x0 x1 x2 x8 x9:AV) (h:List Ob) (e:Cx:=cx):Cfg:=atC n_net_parity_1 (.code yym::.inLoop yxU yym::.inBlock 0 yxV::yyr) [x0,x1,x2,U,U,U,U,U,x8,x9,U,U,U,U,U,U,U,U,U,U,U,U,U,U,U,U,U,U,U,U,U,U,U,U,U,U,U,U,U,U,U,U,U,U,U] h e
@[simp] theorem c_net_parity_1:cfun Tryz.prog n_net_parity_1=some net_parity_1:=by kernel_rfl
@[simp] theorem e_net_parity_1:hasBody Tryz.prog n_net_parity_1=true:=by kernel_rfl
abbrev yyt:List AG:=[zz1 6 0,zzf 7 n_math_bits_OnesCount64 6,zz1 2 7]
abbrev yyu:List AG:=[zz1 3 0,o 4 (.conv .u32 (.t 3)),zzf 5 n_math_bits_OnesCount32 4,zz1 2 5]
abbrev yyv:ACode:=(.seq (.reg yyu) .ret)
abbrev yyw:List AG:=[zz9 2 0]
abbrev math_bits_OnesCount:AFun:=⟨(.seq (.reg yyw) (.seq (.cond (.c (.bool false)) yyv .skip) (.seq (.reg yyt) .ret))),8,[.tmp 2]⟩
@[simp] theorem c_math_bits_OnesCount:cfun Tryz.prog n_math_bits_OnesCount=some math_bits_OnesCount:=by kernel_rfl
@[simp] theorem e_math_bits_OnesCount:hasBody Tryz.prog n_math_bits_OnesCount=true:=by kernel_rfl
abbrev yyx:List AG:=[zz4 29 0 1,zz2 30 1 29,zza 31 30,zz4 32 2 1,zz2 33 1 32,zza 34 33,o 35 (.ibin .add (.t 31) (.t 34)),zz4 36 3 1,zz2 37 1 36,zza 38 37,o 39 (.ibin .add (.t 35) (.t 38)),o 40 (.cmp .gtr (.sc .int) (.t 39) (.c (.int .i64 200))),zz1 41 40,on 42 41 (.off 1 (.t 1)),on 43 41 (.load false 1 (.t 42)),on 44 41 (.len (.t 43)),on 45 41 (.cmp .gtr (.sc .int) (.t 44) (.c (.int .i64 200))),o 46 (.pick (.t 41) (.c (.bool true)) (.t 45)),zz1 2 46]
abbrev yyy:List Bool:=[O,I,O,I,O,O,O,O,O,O,O,O,O,O,O,O,O,O,O,O,O,O,O,O,O,O,O,O,O,O,O,O,O,O,O,O,O,O,O,O,O,O,O,O,O,O,O]
abbrev yyz:List Bool:=[O,I,O,O,O,O,O,O,O,O,O,O,O,O,O,O,O,O,O,O,O,O,O,O,O,O,O,O,O,O,O,O,O,O,O,O,O,O,O,O,O,O,O,O,O,O,O]
abbrev yyA:List AG:=[zz1 9 3,zz6 10 9 1,zz1 3 10]
abbrev yyB:List AG:=[o 2 (.mv (.c (.bool true)))]
abbrev yyC:ACode:=(.seq (.reg yyB) .ret)
abbrev yyD:List AG:=[zz4 11 3 1,zz2 12 1 11,zz1 13 3,zz5 14 5 12 13,zz4 15 2 14,zz2 16 1 15,zza 17 16,o 18 (.cmp .gtr (.sc .int) (.t 17) (.c (.int .i64 8))),zz1 19 18,on 20 19 (.off 3 (.t 1)),on 21 19 (.load false 1 (.t 20)),on 22 19 (.mv (.t 3)),on 23 19 (.ixAddr 5 (.t 21) (.t 22)),on 24 19 (.off 3 (.t 23)),on 25 19 (.load false 1 (.t 24)),on 26 19 (.len (.t 25)),on 27 19 (.cmp .gtr (.sc .int) (.t 26) (.c (.int .i64 128))),o 28 (.pick (.t 19) (.c (.bool true)) (.t 27))]
abbrev yyE:ACode:=(.seq (.reg yyD) (.cond (.t 28) yyC .skip))
abbrev yyF:List AG:=[zz1 4 3,zz4 5 3 1,zz2 6 1 5,zza 7 6,zz7 8 4 7]
abbrev yyG:ACode:=(.seq (.seq (.reg yyF) (.cond (.t 8) .skip (.exit 0))) (.seq (.block 1 [] yyE) (.reg yyA)))
abbrev yyH:List AG:=[zz9 3 0]
abbrev yyI:List AG:=[o 1 (.box 4 (.t 0)),zzh 2]
abbrev r06_limit:AFun:=⟨(.seq (.reg yyI) (.seq (.seq (.reg yyH) (.block 0 yyz (.loop yyy yyG))) (.seq (.reg yyx) .ret))),47,[.tmp 2]⟩
@[simp] theorem c_r06_limit:cfun Tryz.prog n_r06_limit=some r06_limit:=by kernel_rfl
@[simp] theorem e_r06_limit:hasBody Tryz.prog n_r06_limit=true:=by kernel_rfl
abbrev yyJ:List AG:=[zz1 60 3,zz1 2 60]
abbrev yyK:List Bool:=[O,I,O,I,O,I,O,O,O,O,O,O,O,O,O,O,O,O,O,O,O,O,O,O,O,O,O,O,O,O,O,O,O,O,O,O,O,O,O,O,O,O,O,O,O,O,O,O,O,O,O,O,O,O,O,O,O,O,O,O,O]
abbrev yyL:List Bool:=[O,O,O,I,O,O,O,O,O,O,O,O,O,O,O,O,O,O,O,O,O,O,O,O,O,O,O,O,O,O,O,O,O,O,O,O,O,O,O,O,O,O,O,O,O,O,O,O,O,O,O,O,O,O,O,O,O,O,O,O,O]
abbrev yyM:List AG:=[zz1 41 5,zz6 42 41 1,zz1 5 42]
abbrev yyN:List AG:=[zz1 52 3,zz4 53 3 1,zz2 54 1 53,zz1 55 5,zz5 56 5 54 55,zz4 57 2 56,zz2 58 1 57,o 59 (.append 1 t_string 16 (.t 52) (.t 58)),zz1 3 59]
abbrev yyO:List AG:=[zz1 43 3,zz4 44 3 1,zz2 45 1 44,zz1 46 5,zz5 47 5 45 46,zz4 48 0 47,zz2 49 1 48,o 50 (.lit 1 [(.str [])] [(0,(.t 49))]),o 51 (.append 1 t_string 16 (.t 43) (.t 50)),zz1 3 51]
abbrev yyP:ACode:=(.seq (.reg yyO) (.reg yyN))
abbrev yyQ:List AG:=[zz1 36 5,zz4 37 3 1,zz2 38 1 37,zza 39 38,zz7 40 36 39]
abbrev yyR:ACode:=(.seq (.seq (.reg yyQ) (.cond (.t 40) .skip (.exit 2))) (.seq (.block 3 [] yyP) (.reg yyM)))
abbrev yyS:List AG:=[zz9 5 0]
abbrev yyT:List Bool:=[O,I,O,I,I,O,O,O,O,O,O,O,O,O,O,O,O,O,O,O,O,O,O,O,O,O,O,O,O,O,O,O,O,O,O,O,O,O,O,O,O,O,O,O,O,O,O,O,O,O,O,O,O,O,O,O,O,O,O,O,O]
abbrev yyU:List Bool:=[O,I,O,I,O,O,O,O,O,O,O,O,O,O,O,O,O,O,O,O,O,O,O,O,O,O,O,O,O,O,O,O,O,O,O,O,O,O,O,O,O,O,O,O,O,O,O,O,O,O,O,O,O,O,O,O,O,O,O,O,O]
abbrev yyV:List AG:=[zz1 19 4,zz6 20 19 1,zz1 4 20]
abbrev yyW:List AG:=[zz1 21 3,zz4 22 2 1,zz2 23 1 22,zz1 24 4,zz5 25 3 23 24,zz4 26 0 25,zz2 27 1 26,zz4 28 2 1,zz2 29 1 28,zz1 30 4,zz5 31 3 29 30,zz4 32 1 31,zz2 33 1 32,o 34 (.lit 1 [(.str []),(.str [])] [(0,(.t 27)),(1,(.t 33))]),o 35 (.append 1 t_string 16 (.t 21) (.t 34)),zz1 3 35]
abbrev yyX:List AG:=[zz1 14 4,zz4 15 2 1,zz2 16 1 15,zza 17 16,zz7 18 14 17]
abbrev yyY:ACode:=(.seq (.seq (.reg yyX) (.cond (.t 18) .skip (.exit 0))) (.seq (.block 1 [] (.dreg [O,O,O,O,O,O,O,O,O,O,O,O,O,O,O,O] [15,14,14,14,14,14,14,14,14,14,14,14,14,15,17,17] yyW)) (.reg yyV)))
abbrev yyZ:List AG:=[zz9 4 0]
abbrev yza:List AG:=[zz1 10 3,zz4 11 1 1,zz2 12 1 11,o 13 (.append 1 t_string 16 (.t 10) (.t 12)),zz1 3 13]
abbrev yzb:List AG:=[zz1 6 3,zz4 7 0 1,zz2 8 1 7,o 9 (.append 1 t_string 16 (.t 6) (.t 8)),zz1 3 9]
abbrev yzc:List AG:=[o 3 (.nilrow 1 t_string)]
abbrev yzd:List AG:=[o 1 (.box 4 (.t 0)),o 2 (.nilrow 1 t_string)]
abbrev r06_Told:AFun:=⟨(.seq (.reg yzd) (.seq (.reg yzc) (.seq (.reg yzb) (.seq (.reg yza) (.seq (.seq (.reg yyZ) (.block 0 yyU (.loop yyT yyY))) (.seq (.seq (.reg yyS) (.block 2 yyL (.loop yyK yyR))) (.seq (.reg yyJ) .ret))))))),61,[.tmp 2]⟩
@[simp] theorem c_r06_Told:cfun Tryz.prog n_r06_Told=some r06_Told:=by kernel_rfl
@[simp] theorem e_r06_Told:hasBody Tryz.prog n_r06_Told=true:=by kernel_rfl
abbrev yze:List AG:=[zz1 20 0,o 21 (.lenStr (.t 20)),o 22 (.cmp .geq (.sc .int) (.t 21) (.c (.int .i64 1))),zz1 23 22,zze 24 23 0,oy 25 23 (.lenStr (.t 24)),oy 26 23 (.cmp .leq (.sc .int) (.t 25) (.c (.int .i64 40))),zz8 27 23 26,zz1 2 27]
abbrev yzf:List Bool:=[I,O,O,I,O,O,O,O,O,O,O,O,O,O,O,O,O,O,O,O,O,O,O,O,O,O,O,O]
abbrev yzg:List Bool:=[I,O,O,O,O,O,O,O,O,O,O,O,O,O,O,O,O,O,O,O,O,O,O,O,O,O,O,O]
abbrev yzh:List AG:=[zz1 8 3,zz6 9 8 1,zz1 3 9]
abbrev yzi:List AG:=[zzh 2]
abbrev yzj:ACode:=(.seq (.reg yzi) .ret)
abbrev yzk:List AG:=[zz1 10 0,zz1 11 3,o 12 (.ixStr (.t 10) (.t 11)),o 13 (.cmp .lss (.sc .int) (.t 12) (.c (.int .u8 33))),zz1 14 13,on 15 14 (.mv (.t 0)),on 16 14 (.mv (.t 3)),on 17 14 (.ixStr (.t 15) (.t 16)),on 18 14 (.cmp .gtr (.sc .int) (.t 17) (.c (.int .u8 126))),o 19 (.pick (.t 14) (.c (.bool true)) (.t 18))]
abbrev yzl:ACode:=(.seq (.reg yzk) (.cond (.t 19) yzj .skip))
abbrev yzm:List AG:=[zz1 4 3,zz1 5 0,o 6 (.lenStr (.t 5)),zz7 7 4 6]
abbrev yzn:ACode:=(.seq (.seq (.reg yzm) (.cond (.t 7) .skip (.exit 0))) (.seq (.block 1 [] yzl) (.reg yzh)))
abbrev yzo:List AG:=[zz9 3 0]
abbrev yzp:List AG:=[zzh 2]
abbrev r04_Name:AFun:=⟨(.seq (.reg yzp) (.seq (.seq (.reg yzo) (.block 0 yzg (.loop yzf yzn))) (.seq (.reg yze) .ret))),28,[.tmp 2]⟩
@[simp] theorem c_r04_Name:cfun Tryz.prog n_r04_Name=some r04_Name:=by kernel_rfl
@[simp] theorem e_r04_Name:hasBody Tryz.prog n_r04_Name=true:=by kernel_rfl
abbrev yzq:List AG:=[o 2 (.mv (.c (.str []))),zzh 3]
abbrev yzr:List Bool:=[I,O,O,O,I,O,O,O,O,O,O,O,O,O,O,O,O,O,O,O,O,O,O]
abbrev yzs:List Bool:=[O,O,O,O,O,O,O,O,O,O,O,O,O,O,O,O,O,O,O,O,O,O,O]
abbrev yzt:List AG:=[zz1 9 4,zz6 10 9 1,zz1 4 10]
abbrev yzu:List AG:=[zz1 19 0,zz1 20 4,zz5 21 1 19 20,zz2 22 1 21,zz1 2 22,o 3 (.mv (.c (.bool true)))]
abbrev yzv:ACode:=(.seq (.reg yzu) .ret)
abbrev yzw:List AG:=[zz1 11 0,zz1 12 4,o 13 (.slice 1 (.t 11) none (some (.t 12))),zz1 14 0,zz1 15 4,zz5 16 1 14 15,zz2 17 1 16,zzg 18 n_r01_Has 13 17]
abbrev yzx:ACode:=(.seq (.dreg [O,O,O,O,O,O,O,O] [8,8,8,8,8,8,8,9] yzw) (.cond (.t 18) yzv .skip))
abbrev yzy:List AG:=[zz1 5 4,zz1 6 0,zza 7 6,zz7 8 5 7]
abbrev yzz:ACode:=(.seq (.seq (.reg yzy) (.cond (.t 8) .skip (.exit 0))) (.seq (.block 1 [] yzx) (.reg yzt)))
abbrev yzA:List AG:=[zz9 4 0]
abbrev yzB:List AG:=[o 2 (.mv (.c (.str []))),zzh 3]
abbrev r06_twice:AFun:=⟨(.seq (.reg yzB) (.seq (.seq (.reg yzA) (.block 0 yzs (.loop yzr yzz))) (.seq (.reg yzq) .ret))),23,[.tmp 2,.tmp 3]⟩
@[simp] theorem c_r06_twice:cfun Tryz.prog n_r06_twice=some r06_twice:=by kernel_rfl
@[simp] theorem e_r06_twice:hasBody Tryz.prog n_r06_twice=true:=by kernel_rfl
abbrev yzC:List AG:=[zz1 41 3,zz1 2 41]
abbrev yzD:List Bool:=[O,I,O,I,O,I,O,O,O,O,O,O,O,O,O,O,O,O,O,O,O,O,O,O,O,O,O,O,O,O,O,O,O,O,O,O,O,O,O,O,O,O]
abbrev yzE:List Bool:=[O,O,O,I,O,O,O,O,O,O,O,O,O,O,O,O,O,O,O,O,O,O,O,O,O,O,O,O,O,O,O,O,O,O,O,O,O,O,O,O,O,O]
abbrev yzF:List AG:=[zz1 31 5,zz6 32 31 1,zz1 5 32]
abbrev yzG:List AG:=[zz1 33 3,zz4 34 3 1,zz2 35 1 34,zz1 36 5,zz5 37 5 35 36,zz4 38 2 37,zz2 39 1 38,o 40 (.append 1 t_string 16 (.t 33) (.t 39)),zz1 3 40]
abbrev yzH:List AG:=[zz1 26 5,zz4 27 3 1,zz2 28 1 27,zza 29 28,zz7 30 26 29]
abbrev yzI:ACode:=(.seq (.seq (.reg yzH) (.cond (.t 30) .skip (.exit 2))) (.seq (.block 3 [] (.reg yzG)) (.reg yzF)))
abbrev yzJ:List AG:=[zz9 5 0]
abbrev yzK:List Bool:=[O,I,O,I,I,O,O,O,O,O,O,O,O,O,O,O,O,O,O,O,O,O,O,O,O,O,O,O,O,O,O,O,O,O,O,O,O,O,O,O,O,O]
abbrev yzL:List Bool:=[O,I,O,I,O,O,O,O,O,O,O,O,O,O,O,O,O,O,O,O,O,O,O,O,O,O,O,O,O,O,O,O,O,O,O,O,O,O,O,O,O,O]
abbrev yzM:List AG:=[zz1 15 4,zz6 16 15 1,zz1 4 16]
abbrev yzN:List AG:=[zz1 17 3,zz4 18 2 1,zz2 19 1 18,zz1 20 4,zz5 21 3 19 20,zz4 22 1 21,zz2 23 1 22,o 24 (.lit 1 [(.str [])] [(0,(.t 23))]),o 25 (.append 1 t_string 16 (.t 17) (.t 24)),zz1 3 25]
abbrev yzO:List AG:=[zz1 10 4,zz4 11 2 1,zz2 12 1 11,zza 13 12,zz7 14 10 13]
abbrev yzP:ACode:=(.seq (.seq (.reg yzO) (.cond (.t 14) .skip (.exit 0))) (.seq (.block 1 [] (.reg yzN)) (.reg yzM)))
abbrev yzQ:List AG:=[zz9 4 0]
abbrev yzR:List AG:=[zz1 6 3,zz4 7 1 1,zz2 8 1 7,o 9 (.append 1 t_string 16 (.t 6) (.t 8)),zz1 3 9]
abbrev yzS:List AG:=[o 3 (.nilrow 1 t_string)]
abbrev yzT:List AG:=[o 1 (.box 4 (.t 0)),o 2 (.nilrow 1 t_string)]
abbrev r06_Used:AFun:=⟨(.seq (.reg yzT) (.seq (.reg yzS) (.seq (.reg yzR) (.seq (.seq (.reg yzQ) (.block 0 yzL (.loop yzK yzP))) (.seq (.seq (.reg yzJ) (.block 2 yzE (.loop yzD yzI))) (.seq (.reg yzC) .ret)))))),42,[.tmp 2]⟩
@[simp] theorem c_r06_Used:cfun Tryz.prog n_r06_Used=some r06_Used:=by kernel_rfl
@[simp] theorem e_r06_Used:hasBody Tryz.prog n_r06_Used=true:=by kernel_rfl
abbrev yzU:List AG:=[zzh 4]
abbrev yzV:List Bool:=[I,I,O,O,O,I,O,O,O,O,O,O,O,O,O,O,O,O]
abbrev yzW:List Bool:=[O,O,O,O,O,O,O,O,O,O,O,O,O,O,O,O,O,O]
abbrev yzX:List AG:=[zz1 10 5,zz6 11 10 1,zz1 5 11]
abbrev yzY:List AG:=[o 4 (.mv (.c (.bool true)))]
abbrev yzZ:ACode:=(.seq (.reg yzY) .ret)
abbrev yAa:List AG:=[zz1 12 0,zz1 13 5,zz5 14 1 12 13,zz2 15 1 14,zz1 16 1,o 17 (.cmp .eql (.sc .str) (.t 15) (.t 16))]
abbrev yAb:ACode:=(.seq (.reg yAa) (.cond (.t 17) yzZ .skip))
abbrev yAc:List AG:=[zz1 6 5,zz1 7 0,zza 8 7,zz7 9 6 8]
abbrev yAd:ACode:=(.seq (.seq (.reg yAc) (.cond (.t 9) .skip (.exit 0))) (.seq (.block 1 [] yAb) (.reg yzX)))
abbrev yAe:List AG:=[zz9 5 0]
abbrev yAf:List AG:=[zzh 4]
abbrev r01_Has:AFun:=⟨(.seq (.reg yAf) (.seq (.seq (.reg yAe) (.block 0 yzW (.loop yzV yAd))) (.seq (.reg yzU) .ret))),18,[.tmp 4]⟩
@[simp] theorem c_r01_Has:cfun Tryz.prog n_r01_Has=some r01_Has:=by kernel_rfl
@[simp] theorem e_r01_Has:hasBody Tryz.prog n_r01_Has=true:=by kernel_rfl
abbrev yAg:List Bool:=[I,O,O,I,I,O,O,O,O,O,O,O,O,O,O,O,O,O,O,O,O,O,O,O,O,O,O,O,O,O,O,O,O,O,O,O,O,O,O,O,O,O,O,O,O,O,O,O,O,O,O,O,O,O,O,O,O,O,O,O,O,O,O,O,O,O,O,O,O,O,O,O,O,O]
abbrev yAh:List Bool:=[O,O,O,O,O,O,O,O,O,O,O,O,O,O,O,O,O,O,O,O,O,O,O,O,O,O,O,O,O,O,O,O,O,O,O,O,O,O,O,O,O,O,O,O,O,O,O,O,O,O,O,O,O,O,O,O,O,O,O,O,O,O,O,O,O,O,O,O,O,O,O,O,O,O]
abbrev yAi:List Bool:=[I,O,O,I,I,O,I,O,O,O,O,O,O,O,O,O,O,O,O,O,O,O,O,O,O,O,O,O,O,O,O,O,O,O,O,O,O,O,O,O,O,O,O,O,O,O,O,O,O,I,I,I,O,O,O,O,O,O,O,O,O,O,O,O,O,O,O,O,O,O,O,O,O,O]
abbrev yAj:List Bool:=[I,O,O,I,I,O,O,O,O,O,O,O,O,O,O,O,O,O,O,O,O,O,O,O,O,O,O,O,O,O,O,O,O,O,O,O,O,O,O,O,O,O,O,O,O,O,O,O,O,O,O,O,O,O,O,O,O,O,O,O,O,O,O,O,O,O,O,O,O,O,O,O,O,O]
abbrev yAk:List AG:=[zz6 73 51 1,zz1 51 73]
abbrev yAl:List AG:=[zz1 68 4,o 69 (.mkIface t_order_pile (.t 68)),zz1 70 8,o 71 (.mkIface t_int (.t 70)),zzg 72 n_container_heap_Push 69 71]
abbrev yAm:List AG:=[zz4 61 0 3,zz2 62 1 61,zz1 63 8,zz5 64 1 62 63,zz2 65 1 64,o 66 (.lenMap (.t 65)),o 67 (.cmp .eql (.sc .int) (.t 66) (.c (.int .i64 0)))]
abbrev yAn:List AG:=[zz4 55 0 3,zz2 56 1 55,zz1 57 8,zz5 58 1 56 57,zz2 59 1 58,zz1 60 6,q (.delete (.sc .int) (.t 59) (.t 60))]
abbrev yAo:List AG:=[zz5 53 1 49 51,zz2 54 1 53,zz1 8 54]
abbrev yAp:ACode:=(.seq (.reg yAo) (.seq (.reg yAn) (.seq (.reg yAm) (.cond (.t 67) (.reg yAl) .skip))))
abbrev yAq:List AG:=[zz7 52 51 50]
abbrev yAr:ACode:=(.seq (.reg yAq) (.seq (.cond (.t 52) .skip (.exit 4)) (.seq (.block 5 [] yAp) (.reg yAk))))
abbrev yAs:List AG:=[zz4 45 1 3,zz2 46 1 45,zz1 47 6,zz5 48 1 46 47,zz2 49 1 48,zza 50 49,zz9 51 0]
abbrev yAt:List AG:=[zz1 41 0,zz1 42 6,o 43 (.call (.t 41) [(.t 42)]),o 44 (.not (.t 43))]
abbrev yAu:List AG:=[zz1 37 4,o 38 (.mkIface t_order_pile (.t 37)),zzf 39 n_container_heap_Pop 38,o 40 (.tassert (.t 39) t_int (.int .i64 0) false),zz1 6 40]
abbrev yAv:ACode:=(.seq (.reg yAu) (.seq (.seq (.reg yAt) (.cond (.t 44) .ret .skip)) (.seq (.reg yAs) (.block 4 yAj (.loop yAi yAr)))))
abbrev yAw:List AG:=[zz1 32 4,o 33 (.nilck (.t 32)),zz2 34 1 33,zzf 35 n_order_pile_Len 34,o 36 (.cmp .gtr (.sc .int) (.t 35) (.c (.int .i64 0)))]
abbrev yAx:ACode:=(.seq (.seq (.reg yAw) (.cond (.t 36) .skip (.exit 2))) (.block 3 [] yAv))
abbrev yAy:List Bool:=[I,O,O,I,I,O,O,O,O,O,O,O,O,O,O,I,I,O,O,O,O,O,O,O,O,O,O,O,O,O,O,O,O,O,O,O,O,O,O,O,O,O,O,O,O,O,O,O,O,O,O,O,O,O,O,O,O,O,O,O,O,O,O,O,O,O,O,O,O,O,O,O,O,O]
abbrev yAz:List Bool:=[I,O,O,I,I,O,O,O,O,O,O,O,O,O,O,O,O,O,O,O,O,O,O,O,O,O,O,O,O,O,O,O,O,O,O,O,O,O,O,O,O,O,O,O,O,O,O,O,O,O,O,O,O,O,O,O,O,O,O,O,O,O,O,O,O,O,O,O,O,O,O,O,O,O]
abbrev yAA:List AG:=[zz6 31 16 1,zz1 16 31]
abbrev yAB:List AG:=[zz1 26 4,o 27 (.mkIface t_order_pile (.t 26)),zz1 28 5,o 29 (.mkIface t_int (.t 28)),zzg 30 n_container_heap_Push 27 29]
abbrev yAC:List AG:=[zz4 19 0 3,zz2 20 1 19,zz1 21 5,zz5 22 1 20 21,zz2 23 1 22,o 24 (.lenMap (.t 23)),o 25 (.cmp .eql (.sc .int) (.t 24) (.c (.int .i64 0)))]
abbrev yAD:List AG:=[zz1 18 16,zz1 5 18]
abbrev yAE:ACode:=(.seq (.reg yAD) (.seq (.reg yAC) (.cond (.t 25) (.reg yAB) .skip)))
abbrev yAF:List AG:=[zz7 17 16 15]
abbrev yAG:ACode:=(.seq (.reg yAF) (.seq (.cond (.t 17) .skip (.exit 0)) (.seq (.block 1 [] yAE) (.reg yAA))))
abbrev yAH:List AG:=[zz4 13 3 1,zz2 14 1 13,zza 15 14,zz9 16 0]
abbrev yAI:List AG:=[o 11 (.lit 1 [] []),o 12 (.box 1 (.t 11)),zz1 4 12]
abbrev yAJ:List AG:=[zz3 9 4 1,zzf 10 n_order_wait 9,o 3 (.alloc [(.own 1 t_map_int_bool_2 []),(.own 1 t_int_2 [])]),zzb 2 3 10]
abbrev order_coming_1:AFun:=⟨(.seq (.reg yAJ) (.seq (.reg yAI) (.seq (.seq (.reg yAH) (.block 0 yAz (.loop yAy yAG))) (.block 2 yAh (.loop yAg yAx))))),74,[]⟩
abbrev yAK:List It:=[.inBlock 3 [],.inLoop yAg yAx,.inBlock 2 yAh]
abbrev yAL (x0 x3 x4 x6 x49 x50 x51:AV) (h:List Ob) (e:Cx:=cx):Cfg:=atC n_order_coming_1 (.code yAr::.inLoop yAi yAr::.inBlock 4 yAj::yAK) [x0,U,U,x3,x4,U,x6,U,U,U,U,U,U,U,U,U,U,U,U,U,U,U,U,U,U,U,U,U,U,U,U,U,U,U,U,U,U,U,U,U,U,U,U,U,U,U,U,U,U,x49,x50,x51,U,U,U,U,U,U,U,U,U,U,U,U,U,U,U,U,U,U,U,U,U,U] h e
abbrev yAM (x0 x3 x4:AV) (h:List Ob) (e:Cx:=cx):Cfg:=atC n_order_coming_1 yAK [x0,U,U,x3,x4,U,U,U,U,U,U,U,U,U,U,U,U,U,U,U,U,U,U,U,U,U,U,U,U,U,U,U,U,U,U,U,U,U,U,U,U,U,U,U,U,U,U,U,U,U,U,U,U,U,U,U,U,U,U,U,U,U,U,U,U,U,U,U,U,U,U,U,U,U] h e
abbrev yAN:List It:=[]
abbrev yAO (x0 x3 x4:AV) (h:List Ob) (e:Cx:=cx):Cfg:=atC n_order_coming_1 (.code yAx::.inLoop yAg yAx::.inBlock 2 yAh::yAN) [x0,U,U,x3,x4,U,U,U,U,U,U,U,U,U,U,U,U,U,U,U,U,U,U,U,U,U,U,U,U,U,U,U,U,U,U,U,U,U,U,U,U,U,U,U,U,U,U,U,U,U,U,U,U,U,U,U,U,U,U,U,U,U,U,U,U,U,U,U,U,U,U,U,U,U] h e
abbrev yAP:List It:=[.code (.block 2 yAh (.loop yAg yAx))]
abbrev yAQ (x0 x3 x4 x15 x16:AV) (h:List Ob) (e:Cx:=cx):Cfg:=atC n_order_coming_1 (.code yAG::.inLoop yAy yAG::.inBlock 0 yAz::yAP) [x0,U,U,x3,x4,U,U,U,U,U,U,U,U,U,U,x15,x16,U,U,U,U,U,U,U,U,U,U,U,U,U,U,U,U,U,U,U,U,U,U,U,U,U,U,U,U,U,U,U,U,U,U,U,U,U,U,U,U,U,U,U,U,U,U,U,U,U,U,U,U,U,U,U,U,U] h e
abbrev yAR (x0 x3 x4:AV) (h:List Ob) (e:Cx:=cx):Cfg:=atC n_order_coming_1 yAP [x0,U,U,x3,x4,U,U,U,U,U,U,U,U,U,U,U,U,U,U,U,U,U,U,U,U,U,U,U,U,U,U,U,U,U,U,U,U,U,U,U,U,U,U,U,U,U,U,U,U,U,U,U,U,U,U,U,U,U,U,U,U,U,U,U,U,U,U,U,U,U,U,U,U,U] h e
@[simp] theorem c_order_coming_1:cfun Tryz.prog n_order_coming_1=some order_coming_1:=by kernel_rfl
@[simp] theorem e_order_coming_1:hasBody Tryz.prog n_order_coming_1=true:=by kernel_rfl
abbrev yAS:List AG:=[zz3 79 2 4,zzb 2 2 79]
abbrev yAT:List Bool:=[O,O,I,I,I,O,O,O,O,O,O,O,O,O,O,O,O,O,O,O,O,O,O,I,I,I,O,O,O,O,O,O,O,O,O,O,O,O,O,O,O,O,O,O,O,O,O,O,O,O,O,O,O,O,O,O,O,O,O,O,O,O,O,O,O,O,O,O,O,O,O,O,O,O,O,O,O,O,O,O]
abbrev yAU:List Bool:=[O,O,I,O,I,O,O,O,O,O,O,O,O,O,O,O,O,O,O,O,O,O,O,O,O,O,O,O,O,O,O,O,O,O,O,O,O,O,O,O,O,O,O,O,O,O,O,O,O,O,O,O,O,O,O,O,O,O,O,O,O,O,O,O,O,O,O,O,O,O,O,O,O,O,O,O,O,O,O,O]
abbrev yAV:List AG:=[zz6 78 25 1,zz1 25 78]
abbrev yAW:List Bool:=[O,O,I,I,I,I,O,O,O,O,O,O,O,O,O,O,O,O,O,O,O,O,O,I,I,I,O,O,O,O,O,O,O,O,O,O,I,I,I,O,O,O,O,O,O,O,O,O,O,O,O,O,O,O,O,O,O,O,O,O,O,O,O,O,O,O,O,O,O,O,O,O,O,O,O,O,O,O,O,O]
abbrev yAX:List Bool:=[O,O,I,I,I,O,O,O,O,O,O,O,O,O,O,O,O,O,O,O,O,O,O,I,I,I,O,O,O,O,O,O,O,O,O,O,O,O,O,O,O,O,O,O,O,O,O,O,O,O,O,O,O,O,O,O,O,O,O,O,O,O,O,O,O,O,O,O,O,O,O,O,O,O,O,O,O,O,O,O]
abbrev yAY:List AG:=[zz6 77 38 1,zz1 38 77]
abbrev yAZ:List AG:=[zz4 65 1 4,zz2 66 1 65,zz1 67 9,zz4 68 1 4,zz2 69 1 68,zz1 70 9,zz5 71 1 69 70,zz2 72 1 71,zz1 73 5,o 74 (.lit 1 [(.int .i64 0)] [(0,(.t 73))]),o 75 (.append 1 t_int 8 (.t 72) (.t 74)),zz5 76 1 66 67,zzb 1 76 75]
abbrev yBa:List AG:=[zz4 59 0 4,zz2 60 1 59,zz1 61 5,zz5 62 1 60 61,zz2 63 1 62,zz1 64 9,q (.upd (.sc .int) (.t 63) (.t 64) (.c (.bool true)))]
abbrev yBb:ACode:=(.seq (.reg yBa) (.dreg [O,I,O,O,I,O,O,I,O,O,O,O,O] [13,13,13,11,11,11,11,11,10,11,13,13,14] yAZ))
abbrev yBc:List AG:=[zz1 48 10,zz1 49 48,oy 50 49 (.off 0 (.t 4)),zzd 51 49 1 50,zze 52 49 5,oy 53 49 (.ixAddr 1 (.t 51) (.t 52)),zzd 54 49 1 53,zze 55 49 9,oy 56 49 (.lookup (.sc .int) (.bool false) (.t 54) (.t 55) false),oy 57 49 (.not (.t 56)),zz8 58 49 57]
abbrev yBd:List AG:=[zz1 43 3,zz1 44 8,o 45 (.lookup (.sc .str) (.int .i64 0) (.t 43) (.t 44) true),zz1 42 45,zzc 46 42 0,zzc 47 42 1,zz1 9 46,zz1 10 47]
abbrev yBe:List AG:=[zz5 40 1 36 38,zz2 41 1 40,zz1 8 41]
abbrev yBf:ACode:=(.seq (.reg yBe) (.seq (.reg yBd) (.seq (.reg yBc) (.cond (.t 58) yBb .skip))))
abbrev yBg:List AG:=[zz7 39 38 37]
abbrev yBh:ACode:=(.seq (.reg yBg) (.seq (.cond (.t 39) .skip (.exit 2)) (.seq (.block 3 [] yBf) (.reg yAY))))
abbrev yBi:List AG:=[zz4 35 2 6,zz2 36 1 35,zza 37 36,zz9 38 0]
abbrev yBj:List AG:=[zz4 30 0 4,zz2 31 1 30,zz1 32 5,o 33 (.mkMap),zz5 34 1 31 32,zzb 1 34 33]
abbrev yBk:List AG:=[zz1 27 25,zz5 28 5 23 25,zz3 29 5 28,o 6 (.alloc [(.str []),(.int .i64 0),(.own 1 t_string []),(.own 1 t_string []),(.bool false)]),zz1 5 27,zzb 5 6 29]
abbrev yBl:ACode:=(.seq (.reg yBk) (.seq (.reg yBj) (.seq (.reg yBi) (.block 2 yAX (.loop yAW yBh)))))
abbrev yBm:List AG:=[zz7 26 25 24]
abbrev yBn:ACode:=(.seq (.reg yBm) (.seq (.cond (.t 26) .skip (.exit 0)) (.seq (.block 1 [] yBl) (.reg yAV))))
abbrev yBo:List AG:=[zz4 22 3 1,zz2 23 1 22,zza 24 23,zz9 25 0]
abbrev yBp:List AG:=[zz4 13 3 1,zz2 14 1 13,zza 15 14,o 16 (.mkSlice 1 t_map_int_bool_2 8 .nilm (.t 15) (.t 15)),zz4 17 3 1,zz2 18 1 17,zza 19 18,o 20 (.mkSlice 1 t_int_2 24 (.list true 0 []) (.t 19) (.t 19)),o 21 (.build [(.list true 0 []),(.list true 0 [])] [(0,1,(.t 16)),(1,1,(.t 20))]),o 4 (.alloc [(.own 1 t_map_int_bool_2 []),(.own 1 t_int_2 [])]),zzb 2 4 21]
abbrev yBq:List AG:=[zz3 11 4 1,zzf 12 n_order_places 11,zz1 3 12]
abbrev yBr:List AG:=[o 1 (.box 4 (.t 0)),o 2 (.alloc [(.own 1 t_map_int_bool_2 []),(.own 1 t_int_2 [])])]
abbrev order_wait:AFun:=⟨(.seq (.reg yBr) (.seq (.reg yBq) (.seq (.oreg [[],[0],[1],[2,2],[],[4],[5],[6,6],[3,7],[],[9,8,0,1,2,3,4,5,6,7,8,9]] yBp) (.seq (.seq (.reg yBo) (.block 0 yAU (.loop yAT yBn))) (.seq (.reg yAS) .ret))))),80,[.cell 2 true 2]⟩
abbrev yBs:List It:=[.inBlock 1 [],.code (.reg yAV),.inLoop yAT yBn,.inBlock 0 yAU,.code (.seq (.reg yAS) .ret)]
abbrev yBt (x2 x3 x4 x5 x23 x24 x25 x36 x37 x38:AV) (h:List Ob) (e:Cx:=cx):Cfg:=atC n_order_wait (.code yBh::.inLoop yAW yBh::.inBlock 2 yAX::yBs) [U,U,x2,x3,x4,x5,U,U,U,U,U,U,U,U,U,U,U,U,U,U,U,U,U,x23,x24,x25,U,U,U,U,U,U,U,U,U,U,x36,x37,x38,U,U,U,U,U,U,U,U,U,U,U,U,U,U,U,U,U,U,U,U,U,U,U,U,U,U,U,U,U,U,U,U,U,U,U,U,U,U,U,U,U] h e
abbrev yBu (x2 x3 x4 x23 x24 x25:AV) (h:List Ob) (e:Cx:=cx):Cfg:=atC n_order_wait yBs [U,U,x2,x3,x4,U,U,U,U,U,U,U,U,U,U,U,U,U,U,U,U,U,U,x23,x24,x25,U,U,U,U,U,U,U,U,U,U,U,U,U,U,U,U,U,U,U,U,U,U,U,U,U,U,U,U,U,U,U,U,U,U,U,U,U,U,U,U,U,U,U,U,U,U,U,U,U,U,U,U,U,U] h e
abbrev yBv:List It:=[.code (.seq (.reg yAS) .ret)]
abbrev yBw (x2 x3 x4 x23 x24 x25:AV) (h:List Ob) (e:Cx:=cx):Cfg:=atC n_order_wait (.code yBn::.inLoop yAT yBn::.inBlock 0 yAU::yBv) [U,U,x2,x3,x4,U,U,U,U,U,U,U,U,U,U,U,U,U,U,U,U,U,U,x23,x24,x25,U,U,U,U,U,U,U,U,U,U,U,U,U,U,U,U,U,U,U,U,U,U,U,U,U,U,U,U,U,U,U,U,U,U,U,U,U,U,U,U,U,U,U,U,U,U,U,U,U,U,U,U,U,U] h e
@[simp] theorem c_order_wait:cfun Tryz.prog n_order_wait=some order_wait:=by kernel_rfl
@[simp] theorem e_order_wait:hasBody Tryz.prog n_order_wait=true:=by kernel_rfl
abbrev yBx:List AG:=[zz1 7 0,zz1 8 0,o 9 (.invoke (.t 8) "Len" []),o 10 (.ibin .sub (.t 9) (.c (.int .i64 1))),zzg 11 n_container_heap_up 7 10]
abbrev yBy:List AG:=[zz1 4 0,zz1 5 1,o 6 (.invoke (.t 4) "Push" [(.t 5)])]
abbrev container_heap_Push:AFun:=⟨(.seq (.reg yBy) (.reg yBx)),12,[]⟩
@[simp] theorem c_container_heap_Push:cfun Tryz.prog n_container_heap_Push=some container_heap_Push:=by kernel_rfl
@[simp] theorem e_container_heap_Push:hasBody Tryz.prog n_container_heap_Push=true:=by kernel_rfl
abbrev yBz:List AG:=[zz1 3 0,zza 4 3,zz1 2 4]
abbrev yBA:List AG:=[zz9 2 0]
abbrev order_pile_Len:AFun:=⟨(.seq (.reg yBA) (.seq (.reg yBz) .ret)),5,[.tmp 2]⟩
@[simp] theorem c_order_pile_Len:cfun Tryz.prog n_order_pile_Len=some order_pile_Len:=by kernel_rfl
@[simp] theorem e_order_pile_Len:hasBody Tryz.prog n_order_pile_Len=true:=by kernel_rfl
abbrev yBB:List AG:=[zz1 13 0,o 14 (.invoke (.t 13) "Pop" []),zz1 2 14]
abbrev yBC:List AG:=[zz1 10 0,zz1 11 3,o 12 (.call (.f n_container_heap_down) [(.t 10),(.c (.int .i64 0)),(.t 11)])]
abbrev yBD:List AG:=[zz1 7 0,zz1 8 3,o 9 (.invoke (.t 7) "Swap" [(.c (.int .i64 0)),(.t 8)])]
abbrev yBE:List AG:=[zz1 4 0,o 5 (.invoke (.t 4) "Len" []),o 6 (.ibin .sub (.t 5) (.c (.int .i64 1))),zz1 3 6]
abbrev yBF:List AG:=[o 2 (.mv (.c .nili))]
abbrev container_heap_Pop:AFun:=⟨(.seq (.reg yBF) (.seq (.reg yBE) (.seq (.reg yBD) (.seq (.reg yBC) (.seq (.reg yBB) .ret))))),15,[.tmp 2]⟩
@[simp] theorem c_container_heap_Pop:cfun Tryz.prog n_container_heap_Pop=some container_heap_Pop:=by kernel_rfl
@[simp] theorem e_container_heap_Pop:hasBody Tryz.prog n_container_heap_Pop=true:=by kernel_rfl
abbrev yBG:List AG:=[o 4 (.mv (.c (.int .i64 (-1))))]
abbrev yBH:List Bool:=[I,I,O,O,O,O,O,I,I,O,O,O,O,O,O,O,O,O,O]
abbrev yBI:List Bool:=[O,O,O,O,O,O,O,O,O,O,O,O,O,O,O,O,O,O,O]
abbrev yBJ:List AG:=[zz6 18 8 1,zz1 8 18]
abbrev yBK:List AG:=[zz1 17 5,zz1 4 17]
abbrev yBL:ACode:=(.seq (.reg yBK) .ret)
abbrev yBM:List AG:=[zz1 11 1,zz1 12 0,zz1 13 5,zz5 14 5 12 13,zz3 15 5 14,o 16 (.call (.t 11) [(.t 15)])]
abbrev yBN:List AG:=[zz1 10 8,zz1 5 10]
abbrev yBO:ACode:=(.seq (.reg yBN) (.seq (.reg yBM) (.cond (.t 16) yBL .skip)))
abbrev yBP:List AG:=[zz7 9 8 7]
abbrev yBQ:ACode:=(.seq (.reg yBP) (.seq (.cond (.t 9) .skip (.exit 0)) (.seq (.block 1 [] yBO) (.reg yBJ))))
abbrev yBR:List AG:=[zz1 6 0,zza 7 6,zz9 8 0]
abbrev yBS:List AG:=[zz9 4 0]
abbrev slices_IndexFunc_api_Gate_api_Gate:AFun:=⟨(.seq (.reg yBS) (.seq (.seq (.reg yBR) (.block 0 yBI (.loop yBH yBQ))) (.seq (.reg yBG) .ret))),19,[.tmp 4]⟩
abbrev yBT:List It:=[.code (.seq (.reg yBG) .ret)]
abbrev yBU (x0 x1 x7 x8:AV) (h:List Ob) (e:Cx:=cx):Cfg:=atC n_slices_IndexFunc_api_Gate_api_Gate (.code yBQ::.inLoop yBH yBQ::.inBlock 0 yBI::yBT) [x0,x1,U,U,U,U,U,x7,x8,U,U,U,U,U,U,U,U,U,U] h e
@[simp] theorem c_slices_IndexFunc_api_Gate_api_Gate:cfun Tryz.prog n_slices_IndexFunc_api_Gate_api_Gate=some slices_IndexFunc_api_Gate_api_Gate:=by kernel_rfl
@[simp] theorem e_slices_IndexFunc_api_Gate_api_Gate:hasBody Tryz.prog n_slices_IndexFunc_api_Gate_api_Gate=true:=by kernel_rfl
abbrev yBV:List AG:=[zz1 35 6,zz1 2 35]
abbrev yBW:List Bool:=[O,O,O,O,O,O,I,O,O,O,O,O,O,O,O,O,O,O,O,O,O,O,O,O,O,I,I,I,O,O,O,O,O,O,O,O]
abbrev yBX:List Bool:=[O,O,O,O,O,O,I,O,O,O,O,O,O,O,O,O,O,O,O,O,O,O,O,O,O,O,O,O,O,O,O,O,O,O,O,O]
abbrev yBY:List AG:=[zz6 34 27 1,zz1 27 34]
abbrev yBZ:List AG:=[zz1 31 6,zz1 32 8,o 33 (.append 1 t_string 16 (.t 31) (.t 32)),zz1 6 33]
abbrev yCa:List AG:=[zz5 29 1 25 27,zz2 30 1 29,zz1 8 30]
abbrev yCb:ACode:=(.seq (.reg yCa) (.reg yBZ))
abbrev yCc:List AG:=[zz7 28 27 26]
abbrev yCd:ACode:=(.seq (.reg yCc) (.seq (.cond (.t 28) .skip (.exit 2)) (.seq (.block 3 [] yCb) (.reg yBY))))
abbrev yCe:List AG:=[zz1 25 0,zza 26 25,zz9 27 0]
abbrev yCf:List AG:=[zz1 23 3,o 24 (.call (.f n_slices_Grow_string_string) [(.c (.list true 0 [])),(.t 23)]),zz1 6 24]
abbrev yCg:List Bool:=[I,O,O,I,O,O,O,O,O,I,I,I,O,O,O,O,O,O,O,O,O,O,O,O,O,O,O,O,O,O,O,O,O,O,O,O]
abbrev yCh:List Bool:=[I,O,O,I,O,O,O,O,O,O,O,O,O,O,O,O,O,O,O,O,O,O,O,O,O,O,O,O,O,O,O,O,O,O,O,O]
abbrev yCi:List AG:=[zz6 22 11 1,zz1 11 22]
abbrev yCj:List AG:=[o 21 (.mkIface t_string (.c (.str [108,101,110,32,111,117,116,32,111,102,32,114,97,110,103,101]))),q (.panic (.t 21))]
abbrev yCk:List AG:=[zz1 19 3,o 20 (.cmp .lss (.sc .int) (.t 19) (.c (.int .i64 0)))]
abbrev yCl:List AG:=[zz1 15 3,zz1 16 5,zza 17 16,o 18 (.ibin .add (.t 15) (.t 17)),zz1 3 18]
abbrev yCm:List AG:=[zz5 13 1 9 11,zz2 14 1 13,zz1 5 14]
abbrev yCn:ACode:=(.seq (.reg yCm) (.seq (.reg yCl) (.seq (.reg yCk) (.cond (.t 20) (.reg yCj) .skip))))
abbrev yCo:List AG:=[zz7 12 11 10]
abbrev yCp:ACode:=(.seq (.reg yCo) (.seq (.cond (.t 12) .skip (.exit 0)) (.seq (.block 1 [] yCn) (.reg yCi))))
abbrev yCq:List AG:=[zz1 9 0,zza 10 9,zz9 11 0]
abbrev yCr:List AG:=[zz9 3 0]
abbrev yCs:List AG:=[o 2 (.nilrow 1 t_string)]
abbrev slices_Concat_string_string:AFun:=⟨(.seq (.reg yCs) (.seq (.reg yCr) (.seq (.seq (.reg yCq) (.block 0 yCh (.loop yCg yCp))) (.seq (.reg yCf) (.seq (.seq (.reg yCe) (.block 2 yBX (.loop yBW yCd))) (.seq (.reg yBV) .ret)))))),36,[.tmp 2]⟩
abbrev yCt:List It:=[.code (.seq (.reg yBV) .ret)]
abbrev yCu (x6 x25 x26 x27:AV) (h:List Ob) (e:Cx:=cx):Cfg:=atC n_slices_Concat_string_string (.code yCd::.inLoop yBW yCd::.inBlock 2 yBX::yCt) [U,U,U,U,U,U,x6,U,U,U,U,U,U,U,U,U,U,U,U,U,U,U,U,U,U,x25,x26,x27,U,U,U,U,U,U,U,U] h e
abbrev yCv:List It:=[.code (.seq (.reg yCf) (.seq (.seq (.reg yCe) (.block 2 yBX (.loop yBW yCd))) (.seq (.reg yBV) .ret)))]
abbrev yCw (x0 x3 x9 x10 x11:AV) (h:List Ob) (e:Cx:=cx):Cfg:=atC n_slices_Concat_string_string (.code yCp::.inLoop yCg yCp::.inBlock 0 yCh::yCv) [x0,U,U,x3,U,U,U,U,U,x9,x10,x11,U,U,U,U,U,U,U,U,U,U,U,U,U,U,U,U,U,U,U,U,U,U,U,U] h e
@[simp] theorem c_slices_Concat_string_string:cfun Tryz.prog n_slices_Concat_string_string=some slices_Concat_string_string:=by kernel_rfl
@[simp] theorem e_slices_Concat_string_string:hasBody Tryz.prog n_slices_Concat_string_string=true:=by kernel_rfl
abbrev yCx:List AG:=[zz1 4 0,o 5 (.cmp .neq (.sc .str) (.t 4) (.c (.str []))),zz1 6 5,zze 7 6 0,oy 8 6 (.lenStr (.t 7)),oy 9 6 (.cmp .leq (.sc .int) (.t 8) (.c (.int .i64 40))),zz8 10 6 9,zz1 11 10,zze 12 11 0,zze 13 11 3,oy 14 11 (.call (.f n_strings_IndexFunc) [(.t 12),(.t 13)]),oy 15 11 (.cmp .lss (.sc .int) (.t 14) (.c (.int .i64 0))),zz8 16 11 15,zz1 2 16]
abbrev yCy:List AG:=[o 3 (.mv (.f n_ident_name_plain_1))]
abbrev yCz:List AG:=[zzh 2]
abbrev ident_name_plain:AFun:=⟨(.seq (.reg yCz) (.seq (.reg yCy) (.seq (.reg yCx) .ret))),17,[.tmp 2]⟩
@[simp] theorem c_ident_name_plain:cfun Tryz.prog n_ident_name_plain=some ident_name_plain:=by kernel_rfl
@[simp] theorem e_ident_name_plain:hasBody Tryz.prog n_ident_name_plain=true:=by kernel_rfl
@[simp] theorem e_math_bits_OnesCount32:hasBody Tryz.prog n_math_bits_OnesCount32=true:=by kernel_rfl
abbrev yCA:List AG:=[zz1 32 0,o 33 (.conv .i64 (.t 32)),o 34 (.ibin .and (.t 33) (.c (.int .i64 127))),zz1 2 34]
abbrev yCB:List AG:=[zz1 28 0,zz1 29 0,o 30 (.ibin .shr (.t 29) (.c (.int .u64 32))),o 31 (.ibin .add (.t 28) (.t 30)),zz1 0 31]
abbrev yCC:List AG:=[zz1 24 0,zz1 25 0,o 26 (.ibin .shr (.t 25) (.c (.int .u64 16))),o 27 (.ibin .add (.t 24) (.t 26)),zz1 0 27]
abbrev yCD:List AG:=[zz1 20 0,zz1 21 0,o 22 (.ibin .shr (.t 21) (.c (.int .u64 8))),o 23 (.ibin .add (.t 20) (.t 22)),zz1 0 23]
abbrev yCE:List AG:=[zz1 15 0,o 16 (.ibin .shr (.t 15) (.c (.int .u64 4))),zz1 17 0,o 18 (.ibin .add (.t 16) (.t 17)),o 19 (.ibin .and (.t 18) (.c (.int .u64 1085102592571150095))),zz1 0 19]
abbrev yCF:List AG:=[zz1 9 0,o 10 (.ibin .shr (.t 9) (.c (.int .u64 2))),o 11 (.ibin .and (.t 10) (.c (.int .u64 3689348814741910323))),zz1 12 0,o 13 (.ibin .and (.t 12) (.c (.int .u64 3689348814741910323))),o 14 (.ibin .add (.t 11) (.t 13)),zz1 0 14]
abbrev yCG:List AG:=[zz1 3 0,o 4 (.ibin .shr (.t 3) (.c (.int .u64 1))),o 5 (.ibin .and (.t 4) (.c (.int .u64 6148914691236517205))),zz1 6 0,o 7 (.ibin .and (.t 6) (.c (.int .u64 6148914691236517205))),o 8 (.ibin .add (.t 5) (.t 7)),zz1 0 8]
abbrev yCH:List AG:=[zz9 2 0]
abbrev math_bits_OnesCount64:AFun:=⟨(.seq (.reg yCH) (.seq (.reg yCG) (.seq (.reg yCF) (.seq (.reg yCE) (.seq (.reg yCD) (.seq (.reg yCC) (.seq (.reg yCB) (.seq (.reg yCA) .ret)))))))),35,[.tmp 2]⟩
@[simp] theorem c_math_bits_OnesCount64:cfun Tryz.prog n_math_bits_OnesCount64=some math_bits_OnesCount64:=by kernel_rfl
@[simp] theorem e_math_bits_OnesCount64:hasBody Tryz.prog n_math_bits_OnesCount64=true:=by kernel_rfl
abbrev yCI:List Bool:=[I,I,O,O,O,O,O,O,O,O,O,O,O,O,O,O,O,O,O,O,O,O,O]
abbrev yCJ:List Bool:=[O,O,O,O,O,O,O,O,O,O,O,O,O,O,O,O,O,O,O,O,O,O,O]
abbrev yCK:List AG:=[zz1 22 4,zz1 1 22]
abbrev yCL:List AG:=[zz1 18 0,zz1 19 4,zz1 20 1,o 21 (.invoke (.t 18) "Swap" [(.t 19),(.t 20)])]
abbrev yCM:List AG:=[zz1 8 4,zz1 9 1,o 10 (.cmp .eql (.sc .int) (.t 8) (.t 9)),zz1 11 10,on 12 11 (.mv (.t 0)),on 13 11 (.mv (.t 1)),on 14 11 (.mv (.t 4)),on 15 11 (.invoke (.t 12) "Less" [(.t 13),(.t 14)]),on 16 11 (.not (.t 15)),o 17 (.pick (.t 11) (.c (.bool true)) (.t 16))]
abbrev yCN:List AG:=[zz1 5 1,o 6 (.ibin .sub (.t 5) (.c (.int .i64 1))),o 7 (.ibin .quo (.t 6) (.c (.int .i64 2))),zz1 4 7]
abbrev yCO:ACode:=(.seq (.reg yCN) (.seq (.seq (.reg yCM) (.cond (.t 17) (.exit 0) .skip)) (.seq (.reg yCL) (.reg yCK))))
abbrev yCP:ACode:=(.block 1 [] yCO)
abbrev container_heap_up:AFun:=⟨(.block 0 yCJ (.loop yCI yCP)),23,[]⟩
abbrev yCQ:List It:=[]
abbrev yCR (x0 x1:AV) (h:List Ob) (e:Cx:=cx):Cfg:=atC n_container_heap_up (.code yCP::.inLoop yCI yCP::.inBlock 0 yCJ::yCQ) [x0,x1,U,U,U,U,U,U,U,U,U,U,U,U,U,U,U,U,U,U,U,U,U] h e
@[simp] theorem c_container_heap_up:cfun Tryz.prog n_container_heap_up=some container_heap_up:=by kernel_rfl
@[simp] theorem e_container_heap_up:hasBody Tryz.prog n_container_heap_up=true:=by kernel_rfl
abbrev yCS:List AG:=[zz1 45 7,zz1 46 1,o 47 (.cmp .gtr (.sc .int) (.t 45) (.t 46)),zz1 6 47]
abbrev yCT:List Bool:=[I,I,I,O,O,O,O,I,O,O,O,O,O,O,O,O,O,O,O,O,O,O,O,O,O,O,O,O,O,O,O,O,O,O,O,O,O,O,O,O,O,O,O,O,O,O,O,O]
abbrev yCU:List Bool:=[O,I,O,O,O,O,O,I,O,O,O,O,O,O,O,O,O,O,O,O,O,O,O,O,O,O,O,O,O,O,O,O,O,O,O,O,O,O,O,O,O,O,O,O,O,O,O,O]
abbrev yCV:List AG:=[zz1 44 9,zz1 7 44]
abbrev yCW:List AG:=[zz1 40 0,zz1 41 7,zz1 42 9,o 43 (.invoke (.t 40) "Swap" [(.t 41),(.t 42)])]
abbrev yCX:List AG:=[zz1 35 0,zz1 36 9,zz1 37 7,o 38 (.invoke (.t 35) "Less" [(.t 36),(.t 37)]),o 39 (.not (.t 38))]
abbrev yCY:List AG:=[zz1 34 10,zz1 9 34]
abbrev yCZ:List AG:=[zz1 25 10,zz1 26 2,zz7 27 25 26,zz1 28 27,zze 29 28 0,zze 30 28 10,zze 31 28 8,oy 32 28 (.invoke (.t 29) "Less" [(.t 30),(.t 31)]),zz8 33 28 32]
abbrev yDa:List AG:=[zz1 23 8,zz6 24 23 1,zz1 10 24]
abbrev yDb:List AG:=[zz1 22 8,zz1 9 22]
abbrev yDc:List AG:=[zz1 15 8,zz1 16 2,o 17 (.cmp .geq (.sc .int) (.t 15) (.t 16)),zz1 18 17,on 19 18 (.mv (.t 8)),on 20 18 (.cmp .lss (.sc .int) (.t 19) (.c (.int .i64 0))),o 21 (.pick (.t 18) (.c (.bool true)) (.t 20))]
abbrev yDd:List AG:=[zz1 12 7,o 13 (.ibin .mul (.c (.int .i64 2)) (.t 12)),zz6 14 13 1,zz1 8 14]
abbrev yDe:ACode:=(.seq (.reg yDd) (.seq (.seq (.reg yDc) (.cond (.t 21) (.exit 0) .skip)) (.seq (.reg yDb) (.seq (.seq (.reg yDa) (.seq (.reg yCZ) (.cond (.t 33) (.reg yCY) .skip))) (.seq (.seq (.reg yCX) (.cond (.t 39) (.exit 0) .skip)) (.seq (.reg yCW) (.reg yCV)))))))
abbrev yDf:ACode:=(.block 1 [] yDe)
abbrev yDg:List AG:=[zz1 11 1,zz1 7 11]
abbrev yDh:List AG:=[zzh 6]
abbrev container_heap_down:AFun:=⟨(.seq (.reg yDh) (.seq (.reg yDg) (.seq (.block 0 yCU (.loop yCT yDf)) (.seq (.reg yCS) .ret)))),48,[.tmp 6]⟩
abbrev yDi:List It:=[.code (.seq (.reg yCS) .ret)]
abbrev yDj (x0 x1 x2 x7:AV) (h:List Ob) (e:Cx:=cx):Cfg:=atC n_container_heap_down (.code yDf::.inLoop yCT yDf::.inBlock 0 yCU::yDi) [x0,x1,x2,U,U,U,U,x7,U,U,U,U,U,U,U,U,U,U,U,U,U,U,U,U,U,U,U,U,U,U,U,U,U,U,U,U,U,U,U,U,U,U,U,U,U,U,U,U] h e
@[simp] theorem c_container_heap_down:cfun Tryz.prog n_container_heap_down=some container_heap_down:=by kernel_rfl
@[simp] theorem e_container_heap_down:hasBody Tryz.prog n_container_heap_down=true:=by kernel_rfl
abbrev yDk:List AG:=[zz1 26 0,zz1 4 26]
abbrev yDl:List AG:=[zz1 17 0,zz1 18 0,o 19 (.cap (.t 18)),o 20 (.slice 1 (.t 17) none (some (.t 19))),zz1 21 1,o 22 (.appendZ 1 t_string 16 (.str []) (.t 20) (.t 21)),zz1 23 0,zza 24 23,o 25 (.slice 1 (.t 22) none (some (.t 24))),zz1 0 25]
abbrev yDm:List AG:=[zz1 15 1,o 16 (.cmp .gtr (.sc .int) (.t 15) (.c (.int .i64 0)))]
abbrev yDn:List AG:=[zz1 8 1,zz1 9 0,o 10 (.cap (.t 9)),zz1 11 0,zza 12 11,o 13 (.ibin .sub (.t 10) (.t 12)),o 14 (.ibin .sub (.t 8) (.t 13)),zz1 1 14]
abbrev yDo:List AG:=[o 7 (.mkIface t_string (.c (.str [99,97,110,110,111,116,32,98,101,32,110,101,103,97,116,105,118,101]))),q (.panic (.t 7))]
abbrev yDp:List AG:=[zz1 5 1,o 6 (.cmp .lss (.sc .int) (.t 5) (.c (.int .i64 0)))]
abbrev yDq:List AG:=[o 4 (.nilrow 1 t_string)]
abbrev slices_Grow_string_string:AFun:=⟨(.seq (.reg yDq) (.seq (.seq (.reg yDp) (.cond (.t 6) (.reg yDo) .skip)) (.seq (.seq (.reg yDn) (.seq (.reg yDm) (.cond (.t 16) (.reg yDl) .skip))) (.seq (.reg yDk) .ret)))),27,[.tmp 4]⟩
@[simp] theorem c_slices_Grow_string_string:cfun Tryz.prog n_slices_Grow_string_string=some slices_Grow_string_string:=by kernel_rfl
@[simp] theorem e_slices_Grow_string_string:hasBody Tryz.prog n_slices_Grow_string_string=true:=by kernel_rfl
abbrev yDr:List AG:=[zz1 3 0,o 4 (.cmp .leq (.sc .int) (.t 3) (.c (.int .i32 32))),zz1 5 4,on 6 5 (.mv (.t 0)),on 7 5 (.cmp .gtr (.sc .int) (.t 6) (.c (.int .i32 126))),o 8 (.pick (.t 5) (.c (.bool true)) (.t 7)),zz1 2 8]
abbrev yDs:List AG:=[zzh 2]
abbrev ident_name_plain_1:AFun:=⟨(.seq (.reg yDs) (.seq (.reg yDr) .ret)),9,[.tmp 2]⟩
@[simp] theorem c_ident_name_plain_1:cfun Tryz.prog n_ident_name_plain_1=some ident_name_plain_1:=by kernel_rfl
@[simp] theorem e_ident_name_plain_1:hasBody Tryz.prog n_ident_name_plain_1=true:=by kernel_rfl
abbrev yDt:List AG:=[zz1 5 0,zz1 6 1,o 7 (.call (.f n_strings_indexFunc) [(.t 5),(.t 6),(.c (.bool true))]),zz1 4 7]
abbrev yDu:List AG:=[zz9 4 0]
abbrev strings_IndexFunc:AFun:=⟨(.seq (.reg yDu) (.seq (.reg yDt) .ret)),8,[.tmp 4]⟩
@[simp] theorem c_strings_IndexFunc:cfun Tryz.prog n_strings_IndexFunc=some strings_IndexFunc:=by kernel_rfl
@[simp] theorem e_strings_IndexFunc:hasBody Tryz.prog n_strings_IndexFunc=true:=by kernel_rfl
abbrev yDv:List AG:=[o 6 (.mv (.c (.int .i64 (-1))))]
abbrev yDw:List Bool:=[O,I,I,O,O,O,O,O,O,O,I,O,O,O,O,O,O,O,O,O,O]
abbrev yDx:List Bool:=[O,O,O,O,O,O,O,O,O,O,O,O,O,O,O,O,O,O,O,O,O]
abbrev yDy:List AG:=[zz1 20 7,zz1 6 20]
abbrev yDz:ACode:=(.seq (.reg yDy) .ret)
abbrev yDA:List AG:=[zz1 15 1,zz1 16 8,o 17 (.call (.t 15) [(.t 16)]),zz1 18 2,o 19 (.cmp .eql (.sc .bool) (.t 17) (.t 18))]
abbrev yDB:List AG:=[zzc 13 11 1,zzc 14 11 2,zz1 7 13,zz1 8 14]
abbrev yDC:ACode:=(.seq (.reg yDB) (.seq (.reg yDA) (.cond (.t 19) yDz .skip)))
abbrev yDD:List AG:=[o 11 (.next (.t 10)),zzc 12 11 0]
abbrev yDE:ACode:=(.seq (.reg yDD) (.seq (.cond (.t 12) .skip (.exit 0)) (.block 1 [] yDC)))
abbrev yDF:List AG:=[zz1 9 0,o 10 (.range (.t 9))]
abbrev yDG:List AG:=[zz9 6 0]
abbrev strings_indexFunc:AFun:=⟨(.seq (.reg yDG) (.seq (.seq (.reg yDF) (.block 0 yDx (.loop yDw yDE))) (.seq (.reg yDv) .ret))),21,[.tmp 6]⟩
abbrev yDH:List It:=[.code (.seq (.reg yDv) .ret)]
abbrev yDI (x1 x2 x10:AV) (h:List Ob) (e:Cx:=cx):Cfg:=atC n_strings_indexFunc (.code yDE::.inLoop yDw yDE::.inBlock 0 yDx::yDH) [U,x1,x2,U,U,U,U,U,U,U,x10,U,U,U,U,U,U,U,U,U,U] h e
@[simp] theorem c_strings_indexFunc:cfun Tryz.prog n_strings_indexFunc=some strings_indexFunc:=by kernel_rfl
@[simp] theorem e_strings_indexFunc:hasBody Tryz.prog n_strings_indexFunc=true:=by kernel_rfl
abbrev yDJ:List AG:=[zz1 7 0,zz1 8 1,zz5 9 1 7 8,zz2 10 1 9,zz1 11 0,zz1 12 2,zz5 13 1 11 12,zz2 14 1 13,zz7 15 10 14,zz1 6 15]
abbrev yDK:List AG:=[zzh 6]
abbrev order_pile_Less:AFun:=⟨(.seq (.reg yDK) (.seq (.dreg [O,O,O,O,O,O,O,O,O,O] [11,11,11,11,11,11,11,11,11,11] yDJ) .ret)),16,[.tmp 6]⟩
@[simp] theorem c_order_pile_Less:cfun Tryz.prog n_order_pile_Less=some order_pile_Less:=by kernel_rfl
@[simp] theorem e_order_pile_Less:hasBody Tryz.prog n_order_pile_Less=true:=by kernel_rfl
abbrev yDL:List AG:=[zz1 25 3,o 26 (.mkIface t_int (.t 25)),zz1 2 26]
abbrev yDM:List AG:=[zz1 14 0,zz1 15 0,o 16 (.nilck (.t 15)),zz2 17 1 16,zz1 18 0,o 19 (.nilck (.t 18)),zz2 20 1 19,zza 21 20,o 22 (.ibin .sub (.t 21) (.c (.int .i64 1))),o 23 (.slice 1 (.t 17) none (some (.t 22))),o 24 (.nilck (.t 14)),zzb 1 24 23]
abbrev yDN:List AG:=[zz1 4 0,o 5 (.nilck (.t 4)),zz2 6 1 5,zz1 7 0,o 8 (.nilck (.t 7)),zz2 9 1 8,zza 10 9,o 11 (.ibin .sub (.t 10) (.c (.int .i64 1))),zz5 12 1 6 11,zz2 13 1 12,zz1 3 13]
abbrev yDO:List AG:=[o 2 (.mv (.c .nili))]
abbrev order_pile_Pop:AFun:=⟨(.seq (.reg yDO) (.seq (.dreg [O,O,O,O,O,O,O,O,O,O,O] [12,12,12,12,12,12,12,12,12,12,12] yDN) (.seq (.dreg [O,O,O,O,O,O,O,O,O,O,O,O] [12,12,12,12,12,12,12,12,12,12,12,13] yDM) (.seq (.reg yDL) .ret)))),27,[.tmp 2]⟩
@[simp] theorem c_order_pile_Pop:cfun Tryz.prog n_order_pile_Pop=some order_pile_Pop:=by kernel_rfl
@[simp] theorem e_order_pile_Pop:hasBody Tryz.prog n_order_pile_Pop=true:=by kernel_rfl
abbrev yDP:List AG:=[zz1 4 0,zz1 5 0,o 6 (.nilck (.t 5)),zz2 7 1 6,zz1 8 1,o 9 (.tassert (.t 8) t_int (.int .i64 0) false),o 10 (.lit 1 [(.int .i64 0)] [(0,(.t 9))]),o 11 (.append 1 t_int 8 (.t 7) (.t 10)),o 12 (.nilck (.t 4)),zzb 1 12 11]
abbrev order_pile_Push:AFun:=⟨(.dreg [O,O,O,I,O,O,O,O,O,O] [10,8,8,8,7,7,8,10,10,11] yDP),13,[]⟩
@[simp] theorem c_order_pile_Push:cfun Tryz.prog n_order_pile_Push=some order_pile_Push:=by kernel_rfl
@[simp] theorem e_order_pile_Push:hasBody Tryz.prog n_order_pile_Push=true:=by kernel_rfl
abbrev yDQ:List AG:=[zz1 6 0,zz1 7 1,zz1 8 0,zz1 9 2,zz1 10 0,zz1 11 2,zz5 12 1 10 11,zz2 13 1 12,zz1 14 0,zz1 15 1,zz5 16 1 14 15,zz2 17 1 16,zz5 18 1 6 7,zzb 1 18 13,zz5 19 1 8 9,zzb 1 19 17]
abbrev order_pile_Swap:AFun:=⟨(.dreg [O,O,O,O,O,O,O,O,O,O,O,O,O,O,O,O] [14,14,16,16,14,14,14,14,14,14,14,14,14,16,16,17] yDQ),20,[]⟩
@[simp] theorem c_order_pile_Swap:cfun Tryz.prog n_order_pile_Swap=some order_pile_Swap:=by kernel_rfl
@[simp] theorem e_order_pile_Swap:hasBody Tryz.prog n_order_pile_Swap=true:=by kernel_rfl
end Go.Proofs.YtpinapmcemimcaaGreatDoor
