/- The functions, as the abstract machine has them. Printed by a program. -/
import Derived.Test.YtpinapmcemimcaaDoorAMd
import Derived.Test.YtpinapmcemimcaaDoorChecked
import Derived.KernelRfl
set_option linter.unusedSimpArgs false
set_option linter.unusedVariables false
namespace Go.Proofs.YtpinapmcemimcaaDoor
open Go.AM Go.Proofs
abbrev zz1 (d i:Nat):AG:=o d (.mv (.t i))
abbrev zz2 (d k i:Nat):AG:=o d (.load false k (.t i))
abbrev zz3 (d k i:Nat):AG:=o d (.load true k (.t i))
abbrev zz4 (d k i:Nat):AG:=o d (.off k (.t i))
abbrev zz5 (d k i j:Nat):AG:=o d (.ixAddr k (.t i) (.t j))
abbrev zz6 (d i:Nat) (n:Int):AG:=o d (.ibin .add (.t i) (.c (.int .i64 n)))
abbrev zz7 (d i j:Nat):AG:=o d (.cmp .lss (.sc .int) (.t i) (.t j))
abbrev zz8 (d i j:Nat):AG:=o d (.pick (.t i) (.t j) (.c (.bool false)))
abbrev zz9 (d:Nat) (n:Int):AG:=o d (.mv (.c (.int .i64 n)))
abbrev zza (d i:Nat):AG:=o d (.len (.t i))
abbrev zzb (k a x:Nat):AG:=q (.store k (.t a) (.t x))
abbrev zzc (d i k:Nat):AG:=o d (.extract (.t i) k)
abbrev zzd (d j k i:Nat):AG:=oy d j (.load false k (.t i))
abbrev zze (d j i:Nat):AG:=oy d j (.mv (.t i))
abbrev zzf (d:Nat) (f:FuncId) (i:Nat):AG:=o d (.call (.f f) [(.t i)])
abbrev zzg (d:Nat) (f:FuncId) (i j:Nat):AG:=o d (.call (.f f) [(.t i),(.t j)])
abbrev zzh (d:Nat):AG:=o d (.mv (.c (.bool false)))
abbrev n_w08_StepStarts:FuncId:=3
abbrev n_w08_works:FuncId:=4
abbrev n_w06_Few:FuncId:=5
abbrev n_step_Start:FuncId:=6
abbrev n_step_Allowed:FuncId:=7
abbrev n_r08_Bools:FuncId:=8
abbrev n_step_Run:FuncId:=9
abbrev n_step_Gate:FuncId:=10
abbrev n_step_Values:FuncId:=11
abbrev n_step_Step:FuncId:=12
abbrev n_r08_Rows:FuncId:=13
abbrev n_w06_FewGate:FuncId:=14
abbrev n_w05_Texts:FuncId:=15
abbrev n_step_right:FuncId:=16
abbrev n_step_begin:FuncId:=17
abbrev n_step_machine_steps:FuncId:=18
abbrev n_slices_Clone_bool_bool:FuncId:=19
abbrev n_net_Gate:FuncId:=20
abbrev n_step_of:FuncId:=21
abbrev n_step_Gate_1:FuncId:=22
abbrev n_slices_ContainsFunc_string_string:FuncId:=23
abbrev n_step_Gate_1_1:FuncId:=24
abbrev n_step_fits:FuncId:=25
abbrev n_step_machine_values:FuncId:=26
abbrev n_step_pick:FuncId:=27
abbrev n_step_machine_step:FuncId:=28
abbrev n_order_Check:FuncId:=29
abbrev n_order_Sort:FuncId:=30
abbrev n_net_Nets:FuncId:=31
abbrev n_step_machine_steps_1:FuncId:=32
abbrev n_net_Gate_1:FuncId:=33
abbrev n_net_row:FuncId:=34
abbrev n_net_has:FuncId:=35
abbrev n_step_of_1:FuncId:=36
abbrev n_step_of_2:FuncId:=37
abbrev n_step_count:FuncId:=38
abbrev n_step_of_3:FuncId:=39
abbrev n_step_of_4:FuncId:=40
abbrev n_slices_IndexFunc_string_string:FuncId:=41
abbrev n_slices_Concat_bool_bool:FuncId:=42
abbrev n_net_Check:FuncId:=43
abbrev n_order_right:FuncId:=44
abbrev n_order_places:FuncId:=45
abbrev n_order_coming:FuncId:=46
abbrev n_slices_Clone_string_string:FuncId:=47
abbrev n_strings_Trim:FuncId:=48
abbrev n_slices_Grow_bool_bool:FuncId:=49
abbrev n_net_Check_1:FuncId:=50
abbrev n_net_Check_2:FuncId:=51
abbrev n_net_need:FuncId:=52
abbrev n_slices_ContainsFunc_api_Gate_api_Gate:FuncId:=53
abbrev n_net_told:FuncId:=54
abbrev n_ident_Name:FuncId:=55
abbrev n_net_once:FuncId:=56
abbrev n_net_used:FuncId:=57
abbrev n_order_coming_1:FuncId:=58
abbrev n_order_wait:FuncId:=59
abbrev n_container_heap_Push:FuncId:=60
abbrev n_order_pile_Len:FuncId:=61
abbrev n_container_heap_Pop:FuncId:=62
abbrev n_slices_IndexFunc_api_Gate_api_Gate:FuncId:=70
abbrev n_slices_Concat_string_string:FuncId:=71
abbrev n_ident_name_plain:FuncId:=72
abbrev n_container_heap_up:FuncId:=73
abbrev n_container_heap_down:FuncId:=74
abbrev n_slices_Grow_string_string:FuncId:=79
abbrev n_ident_name_plain_1:FuncId:=80
abbrev n_strings_IndexFunc:FuncId:=81
abbrev n_strings_indexFunc:FuncId:=85
abbrev n_order_pile_Less:FuncId:=109
abbrev n_order_pile_Pop:FuncId:=110
abbrev n_order_pile_Push:FuncId:=111
abbrev n_order_pile_Swap:FuncId:=112
abbrev t_int:TypeId:=3
abbrev t_bool:TypeId:=4
abbrev t_string:TypeId:=9
abbrev t_bool_2:TypeId:=27
abbrev t_api_Latch_2:TypeId:=35
abbrev t_api_Gate_2:TypeId:=40
abbrev t_int_2:TypeId:=70
abbrev t_net_wrong:TypeId:=96
abbrev t_order_pile:TypeId:=107
@[simp] theorem m_order_pile_Push:cmeth Tryd.prog t_order_pile "Push" = some (n_order_pile_Push,none):=by kernel_rfl
@[simp] theorem m_order_pile_Len:cmeth Tryd.prog t_order_pile "Len" = some (n_order_pile_Len,some (false,1)):=by kernel_rfl
@[simp] theorem m_order_pile_Swap:cmeth Tryd.prog t_order_pile "Swap" = some (n_order_pile_Swap,some (false,1)):=by kernel_rfl
@[simp] theorem m_order_pile_Pop:cmeth Tryd.prog t_order_pile "Pop" = some (n_order_pile_Pop,none):=by kernel_rfl
@[simp] theorem m_order_pile_Less:cmeth Tryd.prog t_order_pile "Less" = some (n_order_pile_Less,some (false,1)):=by kernel_rfl
abbrev t_order_pile_2:TypeId:=108
@[simp] theorem m_order_pile_2_Len:cmeth Tryd.prog t_order_pile_2 "Len" = some (n_order_pile_Len,none):=by kernel_rfl
@[simp] theorem m_order_pile_2_Swap:cmeth Tryd.prog t_order_pile_2 "Swap" = some (n_order_pile_Swap,none):=by kernel_rfl
@[simp] theorem m_order_pile_2_Less:cmeth Tryd.prog t_order_pile_2 "Less" = some (n_order_pile_Less,none):=by kernel_rfl
abbrev t_map_int_bool_2:TypeId:=109
abbrev ya:List AG:=[zz1 86 7,zz1 87 86,zze 88 87 14,oy 89 87 (.cmp .eql (.sc .int) (.t 88) (.c (.int .i64 0))),zz8 90 87 89,zz1 91 90,zze 92 91 13,zze 93 91 2,oy 94 91 (.call (.f n_r08_Bools) [(.t 92),(.t 93)]),zz8 95 91 94,zz1 6 95]
abbrev yd:List AG:=[zz3 81 4 3,zz1 82 11,zzg 83 n_step_Start 81 82,zz1 80 83,zzc 84 80 0,zzc 85 80 1,zz1 13 84,zz1 14 85]
abbrev ye:List Bool:=[O,O,I,I,O,O,O,I,O,O,O,I,I,O,O,O,O,O,O,O,O,O,O,O,O,O,O,O,O,O,O,O,O,O,O,O,O,O,O,O,O,O,O,O,O,O,O,O,O,O,O,O,O,O,O,O,O,O,O,O,O,O,O,O,O,O,O,O,O,O,O,O,O,O,O,O,O,O,O,O,O,O,O,O,O,O,O,O,O,O,O,O,O,O,O,O]
abbrev yf:List Bool:=[O,O,I,I,O,O,O,I,O,O,O,I,O,O,O,O,O,O,O,O,O,O,O,O,O,O,O,O,O,O,O,O,O,O,O,O,O,O,O,O,O,O,O,O,O,O,O,O,O,O,O,O,O,O,O,O,O,O,O,O,O,O,O,O,O,O,O,O,O,O,O,O,O,O,O,O,O,O,O,O,O,O,O,O,O,O,O,O,O,O,O,O,O,O,O,O]
abbrev yg:List AG:=[zz1 64 12,zz6 65 64 1,zz1 12 65]
abbrev yh:List AG:=[zz1 73 11,zz1 74 2,zz1 75 12,zz5 76 1 74 75,zz2 77 1 76,o 78 (.lit 1 [(.bool false)] [(0,(.t 77))]),o 79 (.append 1 t_bool 1 (.t 73) (.t 78)),zz1 11 79]
abbrev yi:List AG:=[zz4 66 2 3,zz2 67 1 66,zz1 68 12,zz5 69 3 67 68,zz4 70 2 69,zz2 71 1 70,o 72 (.cmp .eql (.sc .int) (.t 71) (.c (.int .i64 2)))]
abbrev yj:ACode:=(.seq (.reg yi) (.cond (.t 72) (.reg yh) .skip))
abbrev yk:List AG:=[zz1 60 12,zz1 61 2,zza 62 61,zz7 63 60 62]
abbrev ym:ACode:=(.seq (.seq (.reg yk) (.cond (.t 63) .skip (.exit 0))) (.seq (.block 1 [] yj) (.reg yg)))
abbrev yo:List AG:=[zz9 12 0]
abbrev yp:List AG:=[o 11 (.nilrow 1 t_bool)]
abbrev yq:List AG:=[zz1 59 7,zz1 6 59]
abbrev yr:ACode:=(.seq (.reg yq) .ret)
abbrev yu:List AG:=[zz3 55 4 3,zz1 56 2,zzg 57 n_step_Allowed 55 56,o 58 (.not (.t 57))]
abbrev yv:List AG:=[zzh 6]
abbrev yw:ACode:=(.seq (.reg yv) .ret)
abbrev yx:List AG:=[zz3 43 4 3,zz1 44 9,zzg 45 n_step_Allowed 43 44,o 46 (.not (.t 45)),zz1 47 46,on 48 47 (.mv (.t 9)),on 49 47 (.len (.t 48)),on 50 47 (.off 2 (.t 3)),on 51 47 (.load false 1 (.t 50)),on 52 47 (.len (.t 51)),on 53 47 (.cmp .neq (.sc .int) (.t 49) (.t 52)),o 54 (.pick (.t 47) (.c (.bool true)) (.t 53))]
abbrev yy:List AG:=[zz1 42 7,zz1 6 42]
abbrev yz:ACode:=(.seq (.reg yy) .ret)
abbrev yA:List AG:=[zz1 26 8,o 27 (.not (.t 26)),zz1 28 27,on 29 28 (.mv (.t 10)),on 30 28 (.cmp .neq (.sc .int) (.t 29) (.c (.int .i64 0))),o 31 (.pick (.t 28) (.c (.bool true)) (.t 30)),zz1 32 31,on 33 32 (.mv (.t 1)),on 34 32 (.len (.t 33)),on 35 32 (.cmp .gtr (.sc .int) (.t 34) (.c (.int .i64 210))),o 36 (.pick (.t 32) (.c (.bool true)) (.t 35)),zz1 37 36,on 38 37 (.mv (.t 2)),on 39 37 (.len (.t 38)),on 40 37 (.cmp .gtr (.sc .int) (.t 39) (.c (.int .i64 210))),o 41 (.pick (.t 37) (.c (.bool true)) (.t 40))]
abbrev yB:List AG:=[zz3 21 4 3,zz1 22 1,zzg 23 n_step_Start 21 22,zz1 20 23,zzc 24 20 0,zzc 25 20 1,zz1 9 24,zz1 10 25]
abbrev yC:List AG:=[zz3 18 4 3,zzf 19 n_w06_Few 18,zz1 8 19]
abbrev yD:List AG:=[zzh 6]
abbrev yE:ACode:=(.seq (.reg yD) .ret)
abbrev yF:List AG:=[zz1 16 7,o 17 (.not (.t 16))]
abbrev yG:List AG:=[o 15 (.call (.f n_w08_works) []),zz1 7 15]
abbrev yH:List AG:=[o 3 (.box 4 (.t 0)),zzh 6]
abbrev w08_StepStarts:AFun:=⟨(.seq (.reg yH) (.seq (.reg yG) (.seq (.seq (.reg yF) (.cond (.t 17) yE .skip)) (.seq (.reg yC) (.seq (.reg yB) (.seq (.seq (.reg yA) (.cond (.t 41) yz .skip)) (.seq (.seq (.reg yx) (.cond (.t 54) yw .skip)) (.seq (.seq (.reg yu) (.cond (.t 58) yr .skip)) (.seq (.reg yp) (.seq (.seq (.reg yo) (.block 0 yf (.loop ye ym))) (.seq (.reg yd) (.seq (.reg ya) .ret)))))))))))),96,[.tmp 6]⟩
abbrev yI:List It:=[.code (.seq (.reg yd) (.seq (.reg ya) .ret))]
abbrev yJ (x2 x3 x7 x11 x12:AV) (h:List Ob) (e:Cx:=cx):Cfg:=atC n_w08_StepStarts (.code ym::.inLoop ye ym::.inBlock 0 yf::yI) [U,U,x2,x3,U,U,U,x7,U,U,U,x11,x12,U,U,U,U,U,U,U,U,U,U,U,U,U,U,U,U,U,U,U,U,U,U,U,U,U,U,U,U,U,U,U,U,U,U,U,U,U,U,U,U,U,U,U,U,U,U,U,U,U,U,U,U,U,U,U,U,U,U,U,U,U,U,U,U,U,U,U,U,U,U,U,U,U,U,U,U,U,U,U,U,U,U,U] h e
abbrev yK (x2 x3 x7 x11:AV) (h:List Ob) (e:Cx:=cx):Cfg:=atC n_w08_StepStarts yI [U,U,x2,x3,U,U,U,x7,U,U,U,x11,U,U,U,U,U,U,U,U,U,U,U,U,U,U,U,U,U,U,U,U,U,U,U,U,U,U,U,U,U,U,U,U,U,U,U,U,U,U,U,U,U,U,U,U,U,U,U,U,U,U,U,U,U,U,U,U,U,U,U,U,U,U,U,U,U,U,U,U,U,U,U,U,U,U,U,U,U,U,U,U,U,U,U,U] h e
@[simp] theorem c_w08_StepStarts:cfun Tryd.prog n_w08_StepStarts=some w08_StepStarts:=by kernel_rfl
@[simp] theorem e_w08_StepStarts:hasBody Tryd.prog n_w08_StepStarts=true:=by kernel_rfl
abbrev yL:List AG:=[zz1 54 3,o 55 (.cmp .eql (.sc .int) (.t 54) (.c (.int .i64 0))),zz1 56 55,zze 57 56 4,oy 58 56 (.lit 1 [(.bool false)] [(0,(.c (.bool false)))]),oy 59 56 (.lit 1 [(.bool false)] [(0,(.c (.bool true)))]),oy 60 56 (.lit 1 [(.bool false)] [(0,(.c (.bool false)))]),oy 61 56 (.lit 1 [(.list true 0 []),(.list true 0 []),(.list true 0 [])] [(0,(.t 58)),(1,(.t 59)),(2,(.t 60))]),oy 62 56 (.call (.f n_r08_Rows) [(.t 57),(.t 61)]),zz8 63 56 62,zz1 64 63,zze 65 64 5,oy 66 64 (.len (.t 65)),oy 67 64 (.cmp .eql (.sc .int) (.t 66) (.c (.int .i64 1))),zz8 68 64 67,zz1 69 68,zze 70 69 5,oy 71 69 (.ixAddr 1 (.t 70) (.c (.int .i64 0))),zzd 72 69 1 71,zz8 73 69 72,zz1 74 73,zze 75 74 6,oy 76 74 (.cmp .eql (.sc .int) (.t 75) (.c (.int .i64 0))),zz8 77 74 76,zz1 78 77,zze 79 78 7,oy 80 78 (.not (.t 79)),zz8 81 78 80,zz1 82 81,zze 83 82 8,oy 84 82 (.cmp .eql (.sc .int) (.t 83) (.c (.int .i64 0))),zz8 85 82 84,zz1 86 85,zze 87 86 9,oy 88 86 (.lit 1 [(.bool false),(.bool false)] [(0,(.c (.bool false))),(1,(.c (.bool true)))]),oy 89 86 (.call (.f n_r08_Bools) [(.t 87),(.t 88)]),zz8 90 86 89,zz1 91 90,zze 92 91 10,oy 93 91 (.cmp .eql (.sc .int) (.t 92) (.c (.int .i64 0))),zz8 94 91 93,zz1 95 94,zze 96 95 13,oy 97 95 (.cmp .eql (.sc .int) (.t 96) (.c (.int .i64 11))),zz8 98 95 97,zz1 99 98,oy 100 99 (.load true 4 (.t 1)),zze 101 99 2,oy 102 99 (.call (.f n_step_Allowed) [(.t 100),(.t 101)]),zz8 103 99 102,zz1 104 103,oy 105 104 (.load true 4 (.t 1)),zze 106 104 5,oy 107 104 (.call (.f n_step_Allowed) [(.t 105),(.t 106)]),oy 108 104 (.not (.t 107)),zz8 109 104 108,zz1 0 109]
abbrev yM:List AG:=[zz3 49 4 1,o 50 (.call (.f n_step_Step) [(.t 49),(.c (.list true 0 [])),(.c (.list true 0 []))]),zz1 48 50,zzc 51 48 0,zzc 52 48 1,zzc 53 48 2,zz1 11 51,zz1 12 52,zz1 13 53]
abbrev yN:List AG:=[zz3 43 4 1,zz1 44 2,o 45 (.call (.f n_step_Values) [(.t 43),(.t 44),(.c (.list true 0 []))]),zz1 42 45,zzc 46 42 0,zzc 47 42 1,zz1 9 46,zz1 10 47]
abbrev yO:List AG:=[o 35 (.lit 1 [(.str []),(.str [])] [(0,(.c (.str [97]))),(1,(.c (.str [98])))]),o 36 (.lit 1 [(.str [])] [(0,(.c (.str [49,45])))]),o 37 (.build [(.str []),(.int .i64 0),(.list true 0 []),(.list true 0 []),(.bool false)] [(1,1,(.c (.int .i64 10))),(2,1,(.t 35)),(3,1,(.t 36)),(4,1,(.c (.bool true)))]),o 38 (.lit 1 [(.bool false),(.bool false)] [(0,(.c (.bool true))),(1,(.c (.bool false)))]),zzg 39 n_step_Gate 37 38,zz1 34 39,zzc 40 34 0,zzc 41 34 1,zz1 7 40,zz1 8 41]
abbrev yP:List AG:=[zz3 27 4 1,zz1 28 2,o 29 (.lit 1 [(.list true 0 []),(.list true 0 []),(.list true 0 [])] [(0,(.c (.list true 0 []))),(1,(.c (.list true 0 []))),(2,(.c (.list true 0 [])))]),o 30 (.call (.f n_step_Run) [(.t 27),(.t 28),(.t 29)]),zz1 26 30,zzc 31 26 0,zzc 32 26 1,zzc 33 26 2,zz1 4 31,zz1 5 32,zz1 6 33]
abbrev yQ:List AG:=[zz3 22 4 1,o 23 (.call (.f n_step_Start) [(.t 22),(.c (.list true 0 []))]),zz1 21 23,zzc 24 21 0,zzc 25 21 1,zz1 2 24,zz1 3 25]
abbrev yR:List AG:=[o 14 (.lit 1 [(.str [])] [(0,(.c (.str [113])))]),o 15 (.build [(.str []),(.str []),(.int .i64 0)] [(0,1,(.c (.str [113]))),(1,1,(.c (.str [122])))]),o 16 (.lit 3 [(.agg [(.str []),(.str []),(.int .i64 0)])] [(0,(.t 15))]),o 17 (.lit 1 [(.str [])] [(0,(.c (.str [113])))]),o 18 (.build [(.str []),(.int .i64 0),(.list true 0 []),(.list true 0 []),(.bool false)] [(0,1,(.c (.str [122]))),(1,1,(.c (.int .i64 3))),(2,1,(.t 17))]),o 19 (.lit 5 [(.agg [(.str []),(.int .i64 0),(.list true 0 []),(.list true 0 []),(.bool false)])] [(0,(.t 18))]),o 20 (.build [(.list true 0 []),(.list true 0 []),(.list true 0 []),(.list true 0 [])] [(1,1,(.t 14)),(2,1,(.t 16)),(3,1,(.t 19))]),o 1 (.alloc [(.own 1 t_string []),(.own 1 t_string []),(.own 3 t_api_Latch_2 []),(.own 5 t_api_Gate_2 [])]),zzb 4 1 20]
abbrev yS:List AG:=[zzh 0]
abbrev w08_works:AFun:=⟨(.seq (.reg yS) (.seq (.reg yR) (.seq (.reg yQ) (.seq (.reg yP) (.seq (.reg yO) (.seq (.reg yN) (.seq (.reg yM) (.seq (.reg yL) .ret)))))))),110,[.tmp 0]⟩
@[simp] theorem c_w08_works:cfun Tryd.prog n_w08_works=some w08_works:=by kernel_rfl
@[simp] theorem e_w08_works:hasBody Tryd.prog n_w08_works=true:=by kernel_rfl
abbrev yT:List AG:=[zz1 62 6,zz1 63 62,zze 64 63 7,zz8 65 63 64,zz1 66 65,oy 67 66 (.off 3 (.t 1)),zzd 68 66 1 67,oy 69 66 (.len (.t 68)),oy 70 66 (.cmp .leq (.sc .int) (.t 69) (.c (.int .i64 210))),zz8 71 66 70,zz1 72 71,oy 73 72 (.off 2 (.t 1)),zzd 74 72 1 73,oy 75 72 (.len (.t 74)),oy 76 72 (.cmp .leq (.sc .int) (.t 75) (.c (.int .i64 210))),zz8 77 72 76,zz1 2 77]
abbrev yU:List AG:=[zz4 59 1 1,zz2 60 1 59,o 61 (.call (.f n_w05_Texts) [(.t 60),(.c (.int .i64 210))]),zz1 7 61]
abbrev yV:List AG:=[zz4 56 0 1,zz2 57 1 56,o 58 (.call (.f n_w05_Texts) [(.t 57),(.c (.int .i64 210))]),zz1 6 58]
abbrev yW:List Bool:=[O,I,O,O,O,I,O,O,O,O,O,O,O,O,O,O,O,O,O,O,O,O,O,O,O,O,O,O,O,O,O,O,O,O,O,O,O,O,O,O,O,O,O,O,O,O,O,O,O,O,O,O,O,O,O,O,O,O,O,O,O,O,O,O,O,O,O,O,O,O,O,O,O,O,O,O,O,O]
abbrev yX:List Bool:=[O,I,O,O,O,O,O,O,O,O,O,O,O,O,O,O,O,O,O,O,O,O,O,O,O,O,O,O,O,O,O,O,O,O,O,O,O,O,O,O,O,O,O,O,O,O,O,O,O,O,O,O,O,O,O,O,O,O,O,O,O,O,O,O,O,O,O,O,O,O,O,O,O,O,O,O,O,O]
abbrev yY:List AG:=[zz1 36 5,zz6 37 36 1,zz1 5 37]
abbrev yZ:List AG:=[zzh 2]
abbrev yba:ACode:=(.seq (.reg yZ) .ret)
abbrev ybb:List AG:=[zz4 38 2 1,zz2 39 1 38,zz1 40 5,zz5 41 3 39 40,zz4 42 0 41,zz2 43 1 42,o 44 (.lenStr (.t 43)),o 45 (.cmp .gtr (.sc .int) (.t 44) (.c (.int .i64 60))),zz1 46 45,on 47 46 (.off 2 (.t 1)),on 48 46 (.load false 1 (.t 47)),on 49 46 (.mv (.t 5)),on 50 46 (.ixAddr 3 (.t 48) (.t 49)),on 51 46 (.off 1 (.t 50)),on 52 46 (.load false 1 (.t 51)),on 53 46 (.lenStr (.t 52)),on 54 46 (.cmp .gtr (.sc .int) (.t 53) (.c (.int .i64 60))),o 55 (.pick (.t 46) (.c (.bool true)) (.t 54))]
abbrev ybc:ACode:=(.seq (.reg ybb) (.cond (.t 55) yba .skip))
abbrev ybd:List AG:=[zz1 27 5,zz4 28 2 1,zz2 29 1 28,zza 30 29,zz7 31 27 30,zz1 32 31,zze 33 32 5,oy 34 32 (.cmp .leq (.sc .int) (.t 33) (.c (.int .i64 210))),zz8 35 32 34]
abbrev ybe:ACode:=(.seq (.seq (.reg ybd) (.cond (.t 35) .skip (.exit 2))) (.seq (.block 3 [] ybc) (.reg yY)))
abbrev ybf:List AG:=[zz9 5 0]
abbrev ybg:List Bool:=[O,I,O,I,O,O,O,O,O,O,O,O,O,O,O,O,O,O,O,O,O,O,O,O,O,O,O,O,O,O,O,O,O,O,O,O,O,O,O,O,O,O,O,O,O,O,O,O,O,O,O,O,O,O,O,O,O,O,O,O,O,O,O,O,O,O,O,O,O,O,O,O,O,O,O,O,O,O]
abbrev ybh:List Bool:=[O,I,O,O,O,O,O,O,O,O,O,O,O,O,O,O,O,O,O,O,O,O,O,O,O,O,O,O,O,O,O,O,O,O,O,O,O,O,O,O,O,O,O,O,O,O,O,O,O,O,O,O,O,O,O,O,O,O,O,O,O,O,O,O,O,O,O,O,O,O,O,O,O,O,O,O,O,O]
abbrev ybi:List AG:=[zz1 17 3,zz6 18 17 1,zz1 3 18]
abbrev ybj:List AG:=[zzh 2]
abbrev ybk:ACode:=(.seq (.reg ybj) .ret)
abbrev ybl:List AG:=[zz1 25 4,o 26 (.not (.t 25))]
abbrev ybm:List AG:=[zz4 19 3 1,zz2 20 1 19,zz1 21 3,zz5 22 5 20 21,zz3 23 5 22,zzf 24 n_w06_FewGate 23,zz1 4 24]
abbrev ybn:ACode:=(.seq (.reg ybm) (.seq (.reg ybl) (.cond (.t 26) ybk .skip)))
abbrev ybo:List AG:=[zz1 8 3,zz4 9 3 1,zz2 10 1 9,zza 11 10,zz7 12 8 11,zz1 13 12,zze 14 13 3,oy 15 13 (.cmp .leq (.sc .int) (.t 14) (.c (.int .i64 210))),zz8 16 13 15]
abbrev ybp:ACode:=(.seq (.seq (.reg ybo) (.cond (.t 16) .skip (.exit 0))) (.seq (.block 1 [] ybn) (.reg ybi)))
abbrev ybq:List AG:=[zz9 3 0]
abbrev ybr:List AG:=[o 1 (.box 4 (.t 0)),zzh 2]
abbrev w06_Few:AFun:=⟨(.seq (.reg ybr) (.seq (.seq (.reg ybq) (.block 0 ybh (.loop ybg ybp))) (.seq (.seq (.reg ybf) (.block 2 yX (.loop yW ybe))) (.seq (.reg yV) (.seq (.reg yU) (.seq (.reg yT) .ret)))))),78,[.tmp 2]⟩
abbrev ybs:List It:=[.code (.seq (.reg yV) (.seq (.reg yU) (.seq (.reg yT) .ret)))]
abbrev ybt (x1 x5:AV) (h:List Ob) (e:Cx:=cx):Cfg:=atC n_w06_Few (.code ybe::.inLoop yW ybe::.inBlock 2 yX::ybs) [U,x1,U,U,U,x5,U,U,U,U,U,U,U,U,U,U,U,U,U,U,U,U,U,U,U,U,U,U,U,U,U,U,U,U,U,U,U,U,U,U,U,U,U,U,U,U,U,U,U,U,U,U,U,U,U,U,U,U,U,U,U,U,U,U,U,U,U,U,U,U,U,U,U,U,U,U,U,U] h e
abbrev ybu (x1:AV) (h:List Ob) (e:Cx:=cx):Cfg:=atC n_w06_Few ybs [U,x1,U,U,U,U,U,U,U,U,U,U,U,U,U,U,U,U,U,U,U,U,U,U,U,U,U,U,U,U,U,U,U,U,U,U,U,U,U,U,U,U,U,U,U,U,U,U,U,U,U,U,U,U,U,U,U,U,U,U,U,U,U,U,U,U,U,U,U,U,U,U,U,U,U,U,U,U] h e
abbrev ybv:List It:=[.code (.seq (.seq (.reg ybf) (.block 2 yX (.loop yW ybe))) (.seq (.reg yV) (.seq (.reg yU) (.seq (.reg yT) .ret))))]
abbrev ybw (x1 x3:AV) (h:List Ob) (e:Cx:=cx):Cfg:=atC n_w06_Few (.code ybp::.inLoop ybg ybp::.inBlock 0 ybh::ybv) [U,x1,U,x3,U,U,U,U,U,U,U,U,U,U,U,U,U,U,U,U,U,U,U,U,U,U,U,U,U,U,U,U,U,U,U,U,U,U,U,U,U,U,U,U,U,U,U,U,U,U,U,U,U,U,U,U,U,U,U,U,U,U,U,U,U,U,U,U,U,U,U,U,U,U,U,U,U,U] h e
@[simp] theorem c_w06_Few:cfun Tryd.prog n_w06_Few=some w06_Few:=by kernel_rfl
@[simp] theorem e_w06_Few:hasBody Tryd.prog n_w06_Few=true:=by kernel_rfl
abbrev ybx:List AG:=[zz1 41 6,zz1 4 41,zz9 5 0]
abbrev yby:List Bool:=[O,I,O,O,O,O,I,O,O,O,O,O,O,O,I,I,I,O,O,O,O,O,O,O,O,O,O,O,O,O,O,O,O,O,O,O,O,O,O,O,O,O]
abbrev ybz:List Bool:=[O,O,O,O,O,O,I,O,O,O,O,O,O,O,O,O,O,O,O,O,O,O,O,O,O,O,O,O,O,O,O,O,O,O,O,O,O,O,O,O,O,O]
abbrev ybA:List AG:=[zz6 40 16 1,zz1 16 40]
abbrev ybB:List AG:=[zz1 36 6,zz1 37 9,o 38 (.lit 1 [(.bool false)] [(0,(.t 37))]),o 39 (.append 1 t_bool 1 (.t 36) (.t 38)),zz1 6 39]
abbrev ybC:List AG:=[zz1 31 1,o 32 (.ixAddr 1 (.t 31) (.c (.int .i64 0))),zz2 33 1 32,zz1 34 1,o 35 (.slice 1 (.t 34) (some (.c (.int .i64 1))) none),zz1 9 33,zz1 1 35]
abbrev ybD:List AG:=[zz4 23 2 8,zz2 24 1 23,o 25 (.cmp .eql (.sc .int) (.t 24) (.c (.int .i64 2))),zz1 26 25,zze 27 26 1,oy 28 26 (.len (.t 27)),oy 29 26 (.cmp .gtr (.sc .int) (.t 28) (.c (.int .i64 0))),zz8 30 26 29]
abbrev ybE:List AG:=[zz4 20 2 8,zz2 21 1 20,o 22 (.cmp .eql (.sc .int) (.t 21) (.c (.int .i64 1))),zz1 9 22]
abbrev ybF:List AG:=[zz5 18 3 14 16,zz3 19 3 18,o 8 (.alloc [(.str []),(.str []),(.int .i64 0)]),zzb 3 8 19]
abbrev ybG:ACode:=(.seq (.reg ybF) (.seq (.reg ybE) (.seq (.seq (.reg ybD) (.cond (.t 30) (.dreg [O,O,O,O,O,O,O] [8,8,8,8,8,8,8] ybC) .skip)) (.reg ybB))))
abbrev ybH:List AG:=[zz7 17 16 15]
abbrev ybI:ACode:=(.seq (.reg ybH) (.seq (.cond (.t 17) .skip (.exit 0)) (.seq (.block 1 [] ybG) (.reg ybA))))
abbrev ybJ:List AG:=[zz4 13 2 2,zz2 14 1 13,zza 15 14,zz9 16 0]
abbrev ybK:List AG:=[o 6 (.nilrow 1 t_bool)]
abbrev ybL:List AG:=[o 4 (.nilrow 1 t_bool),zz9 5 1]
abbrev ybM:ACode:=(.seq (.reg ybL) .ret)
abbrev ybN:List AG:=[zz3 10 4 2,zzf 11 n_step_right 10,o 12 (.not (.t 11))]
abbrev ybO:List AG:=[o 2 (.box 4 (.t 0)),o 4 (.nilrow 1 t_bool),zz9 5 0]
abbrev step_Start:AFun:=⟨(.seq (.reg ybO) (.seq (.seq (.reg ybN) (.cond (.t 12) ybM .skip)) (.seq (.reg ybK) (.seq (.seq (.reg ybJ) (.block 0 ybz (.loop yby ybI))) (.seq (.reg ybx) .ret))))),42,[.tmp 4,.tmp 5]⟩
abbrev ybP:List It:=[.code (.seq (.reg ybx) .ret)]
abbrev ybQ (x1 x6 x14 x15 x16:AV) (h:List Ob) (e:Cx:=cx):Cfg:=atC n_step_Start (.code ybI::.inLoop yby ybI::.inBlock 0 ybz::ybP) [U,x1,U,U,U,U,x6,U,U,U,U,U,U,U,x14,x15,x16,U,U,U,U,U,U,U,U,U,U,U,U,U,U,U,U,U,U,U,U,U,U,U,U,U] h e
@[simp] theorem c_step_Start:cfun Tryd.prog n_step_Start=some step_Start:=by kernel_rfl
@[simp] theorem e_step_Start:hasBody Tryd.prog n_step_Start=true:=by kernel_rfl
abbrev ybR:List AG:=[o 4 (.mv (.c (.bool true)))]
abbrev ybS:List Bool:=[O,I,O,O,O,O,O,O,O,O,O,O,O,O,O,O,O,O,O,I,I,I,O,O,O,O,O,O,O,O,O,O,O,O,O,O,O,O,O,O]
abbrev ybT:List Bool:=[O,O,O,O,O,O,O,O,O,O,O,O,O,O,O,O,O,O,O,O,O,O,O,O,O,O,O,O,O,O,O,O,O,O,O,O,O,O,O,O]
abbrev ybU:List AG:=[zz6 39 21 1,zz1 21 39]
abbrev ybV:List AG:=[zzh 4]
abbrev ybW:ACode:=(.seq (.reg ybV) .ret)
abbrev ybX:List AG:=[zz4 26 2 6,zz2 27 1 26,o 28 (.cmp .lss (.sc .int) (.t 27) (.c (.int .i64 2))),zz1 29 28,oy 30 29 (.off 2 (.t 6)),zzd 31 29 1 30,oy 32 29 (.cmp .eql (.sc .int) (.t 31) (.c (.int .i64 1))),zze 33 29 1,zze 34 29 5,oy 35 29 (.ixAddr 1 (.t 33) (.t 34)),zzd 36 29 1 35,oy 37 29 (.cmp .neq (.sc .bool) (.t 32) (.t 36)),zz8 38 29 37]
abbrev ybY:List AG:=[zz1 23 21,zz5 24 3 19 21,zz3 25 3 24,o 6 (.alloc [(.str []),(.str []),(.int .i64 0)]),zz1 5 23,zzb 3 6 25]
abbrev ybZ:ACode:=(.seq (.reg ybY) (.seq (.dreg [O,O,O,O,O,O,O,O,O,O,O,O,O] [14,14,14,14,14,14,14,14,14,14,14,14,14] ybX) (.cond (.t 38) ybW .skip)))
abbrev yca:List AG:=[zz7 22 21 20]
abbrev ycb:ACode:=(.seq (.reg yca) (.seq (.cond (.t 22) .skip (.exit 0)) (.seq (.block 1 [] ybZ) (.reg ybU))))
abbrev ycc:List AG:=[zz4 18 2 2,zz2 19 1 18,zza 20 19,zz9 21 0]
abbrev ycd:List AG:=[zzh 4]
abbrev yce:ACode:=(.seq (.reg ycd) .ret)
abbrev ycf:List AG:=[zz3 7 4 2,zzf 8 n_step_right 7,o 9 (.not (.t 8)),zz1 10 9,on 11 10 (.mv (.t 1)),on 12 10 (.len (.t 11)),on 13 10 (.off 2 (.t 2)),on 14 10 (.load false 1 (.t 13)),on 15 10 (.len (.t 14)),on 16 10 (.cmp .neq (.sc .int) (.t 12) (.t 15)),o 17 (.pick (.t 10) (.c (.bool true)) (.t 16))]
abbrev ycg:List AG:=[o 2 (.box 4 (.t 0)),zzh 4]
abbrev step_Allowed:AFun:=⟨(.seq (.reg ycg) (.seq (.seq (.reg ycf) (.cond (.t 17) yce .skip)) (.seq (.seq (.reg ycc) (.block 0 ybT (.loop ybS ycb))) (.seq (.reg ybR) .ret)))),40,[.tmp 4]⟩
abbrev ych:List It:=[.code (.seq (.reg ybR) .ret)]
abbrev yci (x1 x19 x20 x21:AV) (h:List Ob) (e:Cx:=cx):Cfg:=atC n_step_Allowed (.code ycb::.inLoop ybS ycb::.inBlock 0 ybT::ych) [U,x1,U,U,U,U,U,U,U,U,U,U,U,U,U,U,U,U,U,x19,x20,x21,U,U,U,U,U,U,U,U,U,U,U,U,U,U,U,U,U,U] h e
@[simp] theorem c_step_Allowed:cfun Tryd.prog n_step_Allowed=some step_Allowed:=by kernel_rfl
@[simp] theorem e_step_Allowed:hasBody Tryd.prog n_step_Allowed=true:=by kernel_rfl
abbrev ycj:List AG:=[o 4 (.mv (.c (.bool true)))]
abbrev yck:List Bool:=[I,I,O,O,O,I,O,O,O,O,O,O,O,O,O,O,O,O,O,O,O,O,O,O,O,O]
abbrev ycl:List Bool:=[O,O,O,O,O,O,O,O,O,O,O,O,O,O,O,O,O,O,O,O,O,O,O,O,O,O]
abbrev ycm:List AG:=[zz1 15 5,zz6 16 15 1,zz1 5 16]
abbrev ycn:List AG:=[zzh 4]
abbrev yco:ACode:=(.seq (.reg ycn) .ret)
abbrev ycp:List AG:=[zz1 17 0,zz1 18 5,zz5 19 1 17 18,zz2 20 1 19,zz1 21 1,zz1 22 5,zz5 23 1 21 22,zz2 24 1 23,o 25 (.cmp .neq (.sc .bool) (.t 20) (.t 24))]
abbrev ycq:ACode:=(.seq (.dreg [O,O,O,O,O,O,O,O,O] [10,10,10,10,10,10,10,10,10] ycp) (.cond (.t 25) yco .skip))
abbrev ycr:List AG:=[zz1 11 5,zz1 12 0,zza 13 12,zz7 14 11 13]
abbrev ycs:ACode:=(.seq (.seq (.reg ycr) (.cond (.t 14) .skip (.exit 0))) (.seq (.block 1 [] ycq) (.reg ycm)))
abbrev yct:List AG:=[zz9 5 0]
abbrev ycu:List AG:=[zzh 4]
abbrev ycv:ACode:=(.seq (.reg ycu) .ret)
abbrev ycw:List AG:=[zz1 6 0,zza 7 6,zz1 8 1,zza 9 8,o 10 (.cmp .neq (.sc .int) (.t 7) (.t 9))]
abbrev ycx:List AG:=[zzh 4]
abbrev r08_Bools:AFun:=⟨(.seq (.reg ycx) (.seq (.seq (.reg ycw) (.cond (.t 10) ycv .skip)) (.seq (.seq (.reg yct) (.block 0 ycl (.loop yck ycs))) (.seq (.reg ycj) .ret)))),26,[.tmp 4]⟩
abbrev ycy:List It:=[.code (.seq (.reg ycj) .ret)]
abbrev ycz (x0 x1 x5:AV) (h:List Ob) (e:Cx:=cx):Cfg:=atC n_r08_Bools (.code ycs::.inLoop yck ycs::.inBlock 0 ycl::ycy) [x0,x1,U,U,U,x5,U,U,U,U,U,U,U,U,U,U,U,U,U,U,U,U,U,U,U,U] h e
@[simp] theorem c_r08_Bools:cfun Tryd.prog n_r08_Bools=some r08_Bools:=by kernel_rfl
@[simp] theorem e_r08_Bools:hasBody Tryd.prog n_r08_Bools=true:=by kernel_rfl
abbrev ycA:List AG:=[zz2 48 1 11,zz2 49 1 4,zzf 50 n_slices_Clone_bool_bool 49,zz1 6 48,zz1 7 50,zz9 8 0]
abbrev ycB:List AG:=[zz2 47 1 10,o 6 (.nilrow 1 t_bool_2),o 7 (.nilrow 1 t_bool),zz1 8 47]
abbrev ycC:ACode:=(.seq (.dreg [I,O,O,O] [5,3,5,5] ycB) .ret)
abbrev ycD:List AG:=[zz2 45 1 10,o 46 (.cmp .neq (.sc .int) (.t 45) (.c (.int .i64 0)))]
abbrev ycE:List AG:=[zz1 13 39]
abbrev ycF:List AG:=[zz1 12 38]
abbrev ycG:List AG:=[zz2 40 1 11,zz1 41 12,o 42 (.lit 1 [(.list true 0 [])] [(0,(.t 41))]),o 43 (.append 1 t_bool_2 24 (.t 40) (.t 42)),zz1 44 13,zzb 1 11 43,zzb 1 4 44]
abbrev ycH:ACode:=(.seq (.reg ycF) (.reg ycE))
abbrev ycI:ACode:=(.block 2 [] (.reg ycG))
abbrev ycJ:ACode:=(.rangeFunc (.t 37) [38,39] [O,O,O,O,I,O,I,I,I,O,O,I,O,O,O,O,O,O,O,O,O,O,O,O,O,O,O,O,O,O,O,O,O,O,O,O,O,O,O,O,O,O,O,O,O,O,O,O,O,O,O] ycH ycI)
abbrev ycK:List AG:=[zz1 34 9,zz2 35 1 4,zz1 36 2,o 37 (.call (.f n_step_machine_steps) [(.t 34),(.t 35),(.t 36),(.t 10)])]
abbrev ycL:List AG:=[o 11 (.alloc [(.own 1 t_bool_2 [])])]
abbrev ycM:List AG:=[zz2 22 1 10,o 6 (.nilrow 1 t_bool_2),o 7 (.nilrow 1 t_bool),zz1 8 22]
abbrev ycN:List AG:=[o 6 (.nilrow 1 t_bool_2),o 7 (.nilrow 1 t_bool),zz9 8 8]
abbrev ycO:List AG:=[o 6 (.nilrow 1 t_bool_2),o 7 (.nilrow 1 t_bool),zz9 8 11]
abbrev ycP:ACode:=(.seq (.reg ycO) .ret)
abbrev ycQ:List AG:=[zz2 28 1 4,zza 29 28,zz4 30 2 3,zz2 31 1 30,zza 32 31,o 33 (.cmp .neq (.sc .int) (.t 29) (.t 32)),zz1 27 33]
abbrev ycR:ACode:=(.seq (.reg ycN) .ret)
abbrev ycS:ACode:=(.seq (.reg ycQ) (.cond (.t 27) ycP .skip))
abbrev ycT:List AG:=[zz1 24 2,zza 25 24,o 26 (.cmp .gtr (.sc .int) (.t 25) (.c (.int .i64 40))),zz1 23 26]
abbrev ycU:ACode:=(.seq (.dreg [I,O,O,O] [5,3,5,5] ycM) .ret)
abbrev ycV:ACode:=(.seq (.reg ycT) (.cond (.t 23) ycR ycS))
abbrev ycW:List AG:=[zz2 20 1 10,o 21 (.cmp .neq (.sc .int) (.t 20) (.c (.int .i64 0))),zz1 19 21]
abbrev ycX:ACode:=(.seq (.reg ycW) (.cond (.t 19) ycU ycV))
abbrev ycY:List AG:=[zz3 15 4 3,zzf 16 n_step_begin 15,zz1 14 16,zzc 17 14 0,zzc 18 14 1,o 10 (.alloc [(.int .i64 0)]),zz1 9 17,zzb 1 10 18]
abbrev ycZ:List AG:=[o 3 (.box 4 (.t 0)),o 4 (.box 1 (.t 1)),o 6 (.nilrow 1 t_bool_2),o 7 (.nilrow 1 t_bool),zz9 8 0]
abbrev step_Run:AFun:=⟨(.seq (.reg ycZ) (.seq (.reg ycY) (.seq (.block 0 [] ycX) (.seq (.reg ycL) (.seq (.seq (.reg ycK) (.block 1 [] ycJ)) (.seq (.seq (.reg ycD) (.cond (.t 46) ycC .skip)) (.seq (.dreg [I,O,O,O,O,O] [7,3,7,7,7,7] ycA) .ret))))))),51,[.tmp 6,.tmp 7,.tmp 8]⟩
@[simp] theorem c_step_Run:cfun Tryd.prog n_step_Run=some step_Run:=by kernel_rfl
@[simp] theorem e_step_Run:hasBody Tryd.prog n_step_Run=true:=by kernel_rfl
abbrev yda:List AG:=[zz4 29 0 6,zz2 30 1 29,zz1 31 1,o 32 (.call (.t 30) [(.t 31)]),zz4 33 1 6,zz2 34 1 33,o 35 (.cmp .neq (.sc .bool) (.t 32) (.t 34)),zz1 4 35,zz9 5 0]
abbrev ydb:List AG:=[o 27 (.mkFunc (.func n_step_Gate_1) [] [(.t 2)]),zz4 28 0 6,zzb 1 28 27]
abbrev ydc:List AG:=[zz4 24 4 2,zz2 25 1 24,zz4 26 1 6,zzb 1 26 25]
abbrev ydd:ACode:=(.seq (.reg ydc) (.reg ydb))
abbrev yde:List AG:=[zz4 21 1 2,zz2 22 1 21,o 23 (.cmp .eql (.sc .int) (.t 22) (.c (.int .i64 10)))]
abbrev ydf:List AG:=[zz4 18 1 2,zz2 19 1 18,zzf 20 n_step_of 19,o 6 (.alloc [.nilf,(.bool false)]),zzb 2 6 20]
abbrev ydg:List AG:=[zzh 4,zz9 5 1]
abbrev ydh:ACode:=(.seq (.reg ydg) .ret)
abbrev ydi:List AG:=[zz3 7 5 2,zzf 8 n_net_Gate 7,o 9 (.not (.t 8)),zz1 10 9,on 11 10 (.mv (.t 1)),on 12 10 (.len (.t 11)),on 13 10 (.off 2 (.t 2)),on 14 10 (.load false 1 (.t 13)),on 15 10 (.len (.t 14)),on 16 10 (.cmp .neq (.sc .int) (.t 12) (.t 15)),o 17 (.pick (.t 10) (.c (.bool true)) (.t 16))]
abbrev ydj:List AG:=[o 2 (.box 5 (.t 0)),zzh 4,zz9 5 0]
abbrev step_Gate:AFun:=⟨(.seq (.reg ydj) (.seq (.seq (.reg ydi) (.cond (.t 17) ydh .skip)) (.seq (.reg ydf) (.seq (.seq (.reg yde) (.cond (.t 23) ydd .skip)) (.seq (.dreg [O,O,O,O,O,I,O,O,O] [4,4,4,10,10,10,10,10,10] yda) .ret))))),36,[.tmp 4,.tmp 5]⟩
@[simp] theorem c_step_Gate:cfun Tryd.prog n_step_Gate=some step_Gate:=by kernel_rfl
@[simp] theorem e_step_Gate:hasBody Tryd.prog n_step_Gate=true:=by kernel_rfl
abbrev ydk:List AG:=[zz1 29 10,zz1 30 8,o 31 (.nilck (.t 30)),zz4 32 4 31,zz2 33 1 32,zzg 34 n_step_pick 29 33,zz1 6 34,zz9 7 0]
abbrev ydl:List AG:=[zz1 28 9,o 6 (.nilrow 1 t_bool),zz1 7 28]
abbrev ydm:ACode:=(.seq (.reg ydl) .ret)
abbrev ydn:List AG:=[zz1 26 9,o 27 (.cmp .neq (.sc .int) (.t 26) (.c (.int .i64 0)))]
abbrev ydo:List AG:=[zz1 20 8,zz1 21 1,zz1 22 2,o 23 (.call (.f n_step_machine_values) [(.t 20),(.t 21),(.t 22)]),zz1 19 23,zzc 24 19 0,zzc 25 19 1,zz1 10 24,zz1 9 25]
abbrev ydp:List AG:=[zz1 18 9,o 6 (.nilrow 1 t_bool),zz1 7 18]
abbrev ydq:ACode:=(.seq (.reg ydp) .ret)
abbrev ydr:List AG:=[zz1 16 9,o 17 (.cmp .neq (.sc .int) (.t 16) (.c (.int .i64 0)))]
abbrev yds:List AG:=[zz3 12 4 3,zzf 13 n_step_begin 12,zz1 11 13,zzc 14 11 0,zzc 15 11 1,zz1 8 14,zz1 9 15]
abbrev ydt:List AG:=[o 3 (.box 4 (.t 0)),o 6 (.nilrow 1 t_bool),zz9 7 0]
abbrev step_Values:AFun:=⟨(.seq (.reg ydt) (.seq (.reg yds) (.seq (.seq (.reg ydr) (.cond (.t 17) ydq .skip)) (.seq (.reg ydo) (.seq (.seq (.reg ydn) (.cond (.t 27) ydm .skip)) (.seq (.reg ydk) .ret)))))),35,[.tmp 6,.tmp 7]⟩
@[simp] theorem c_step_Values:cfun Tryd.prog n_step_Values=some step_Values:=by kernel_rfl
@[simp] theorem e_step_Values:hasBody Tryd.prog n_step_Values=true:=by kernel_rfl
abbrev ydu:List AG:=[zz1 19 9,zz1 20 1,zz1 21 2,o 22 (.call (.f n_step_machine_step) [(.t 19),(.t 20),(.t 21)]),zzc 23 22 0,zzc 24 22 1,zzc 25 22 2,zz1 6 23,zz1 7 24,zz1 8 25]
abbrev ydv:List AG:=[zz1 18 10,o 6 (.nilrow 1 t_bool),o 7 (.nilrow 1 t_bool),zz1 8 18]
abbrev ydw:ACode:=(.seq (.reg ydv) .ret)
abbrev ydx:List AG:=[zz1 16 10,o 17 (.cmp .neq (.sc .int) (.t 16) (.c (.int .i64 0)))]
abbrev ydy:List AG:=[zz3 12 4 3,zzf 13 n_step_begin 12,zz1 11 13,zzc 14 11 0,zzc 15 11 1,zz1 9 14,zz1 10 15]
abbrev ydz:List AG:=[o 3 (.box 4 (.t 0)),o 6 (.nilrow 1 t_bool),o 7 (.nilrow 1 t_bool),zz9 8 0]
abbrev step_Step:AFun:=⟨(.seq (.reg ydz) (.seq (.reg ydy) (.seq (.seq (.reg ydx) (.cond (.t 17) ydw .skip)) (.seq (.reg ydu) .ret)))),26,[.tmp 6,.tmp 7,.tmp 8]⟩
@[simp] theorem c_step_Step:cfun Tryd.prog n_step_Step=some step_Step:=by kernel_rfl
@[simp] theorem e_step_Step:hasBody Tryd.prog n_step_Step=true:=by kernel_rfl
abbrev ydA:List AG:=[o 4 (.mv (.c (.bool true)))]
abbrev ydB:List Bool:=[I,I,O,O,O,I,O,O,O,O,O,O,O,O,O,O,O,O,O,O,O,O,O,O,O,O,O]
abbrev ydC:List Bool:=[O,O,O,O,O,O,O,O,O,O,O,O,O,O,O,O,O,O,O,O,O,O,O,O,O,O,O]
abbrev ydD:List AG:=[zz1 15 5,zz6 16 15 1,zz1 5 16]
abbrev ydE:List AG:=[zzh 4]
abbrev ydF:ACode:=(.seq (.reg ydE) .ret)
abbrev ydG:List AG:=[zz1 17 0,zz1 18 5,zz5 19 1 17 18,zz2 20 1 19,zz1 21 1,zz1 22 5,zz5 23 1 21 22,zz2 24 1 23,zzg 25 n_r08_Bools 20 24,o 26 (.not (.t 25))]
abbrev ydH:ACode:=(.seq (.dreg [O,O,O,O,O,O,O,O,O,O] [9,9,9,9,9,9,9,9,11,11] ydG) (.cond (.t 26) ydF .skip))
abbrev ydI:List AG:=[zz1 11 5,zz1 12 0,zza 13 12,zz7 14 11 13]
abbrev ydJ:ACode:=(.seq (.seq (.reg ydI) (.cond (.t 14) .skip (.exit 0))) (.seq (.block 1 [] ydH) (.reg ydD)))
abbrev ydK:List AG:=[zz9 5 0]
abbrev ydL:List AG:=[zzh 4]
abbrev ydM:ACode:=(.seq (.reg ydL) .ret)
abbrev ydN:List AG:=[zz1 6 0,zza 7 6,zz1 8 1,zza 9 8,o 10 (.cmp .neq (.sc .int) (.t 7) (.t 9))]
abbrev ydO:List AG:=[zzh 4]
abbrev r08_Rows:AFun:=⟨(.seq (.reg ydO) (.seq (.seq (.reg ydN) (.cond (.t 10) ydM .skip)) (.seq (.seq (.reg ydK) (.block 0 ydC (.loop ydB ydJ))) (.seq (.reg ydA) .ret)))),27,[.tmp 4]⟩
abbrev ydP:List It:=[.code (.seq (.reg ydA) .ret)]
abbrev ydQ (x0 x1 x5:AV) (h:List Ob) (e:Cx:=cx):Cfg:=atC n_r08_Rows (.code ydJ::.inLoop ydB ydJ::.inBlock 0 ydC::ydP) [x0,x1,U,U,U,x5,U,U,U,U,U,U,U,U,U,U,U,U,U,U,U,U,U,U,U,U,U] h e
@[simp] theorem c_r08_Rows:cfun Tryd.prog n_r08_Rows=some r08_Rows:=by kernel_rfl
@[simp] theorem e_r08_Rows:hasBody Tryd.prog n_r08_Rows=true:=by kernel_rfl
abbrev ydR:List AG:=[zz1 11 3,zz1 12 11,zze 13 12 4,zz8 14 12 13,zz1 15 14,oy 16 15 (.off 0 (.t 1)),zzd 17 15 1 16,oy 18 15 (.lenStr (.t 17)),oy 19 15 (.cmp .leq (.sc .int) (.t 18) (.c (.int .i64 60))),zz8 20 15 19,zz1 2 20]
abbrev ydS:List AG:=[zz4 8 3 1,zz2 9 1 8,o 10 (.call (.f n_w05_Texts) [(.t 9),(.c (.int .i64 140))]),zz1 4 10]
abbrev ydT:List AG:=[zz4 5 2 1,zz2 6 1 5,o 7 (.call (.f n_w05_Texts) [(.t 6),(.c (.int .i64 12))]),zz1 3 7]
abbrev ydU:List AG:=[o 1 (.box 5 (.t 0)),zzh 2]
abbrev w06_FewGate:AFun:=⟨(.seq (.reg ydU) (.seq (.reg ydT) (.seq (.reg ydS) (.seq (.reg ydR) .ret)))),21,[.tmp 2]⟩
@[simp] theorem c_w06_FewGate:cfun Tryd.prog n_w06_FewGate=some w06_FewGate:=by kernel_rfl
@[simp] theorem e_w06_FewGate:hasBody Tryd.prog n_w06_FewGate=true:=by kernel_rfl
abbrev ydV:List AG:=[zz1 23 0,zza 24 23,zz1 25 1,o 26 (.cmp .leq (.sc .int) (.t 24) (.t 25)),zz1 4 26]
abbrev ydW:List Bool:=[I,I,O,O,O,I,O,O,O,O,O,O,O,O,O,O,O,O,O,O,O,O,O,O,O,O,O]
abbrev ydX:List Bool:=[I,I,O,O,O,O,O,O,O,O,O,O,O,O,O,O,O,O,O,O,O,O,O,O,O,O,O]
abbrev ydY:List AG:=[zz1 15 5,zz6 16 15 1,zz1 5 16]
abbrev ydZ:List AG:=[zzh 4]
abbrev yea:ACode:=(.seq (.reg ydZ) .ret)
abbrev yeb:List AG:=[zz1 17 0,zz1 18 5,zz5 19 1 17 18,zz2 20 1 19,o 21 (.lenStr (.t 20)),o 22 (.cmp .gtr (.sc .int) (.t 21) (.c (.int .i64 60)))]
abbrev yec:ACode:=(.seq (.reg yeb) (.cond (.t 22) yea .skip))
abbrev yed:List AG:=[zz1 6 5,zz1 7 0,zza 8 7,zz7 9 6 8,zz1 10 9,zze 11 10 5,zze 12 10 1,oy 13 10 (.cmp .leq (.sc .int) (.t 11) (.t 12)),zz8 14 10 13]
abbrev yee:ACode:=(.seq (.seq (.reg yed) (.cond (.t 14) .skip (.exit 0))) (.seq (.block 1 [] yec) (.reg ydY)))
abbrev yef:List AG:=[zz9 5 0]
abbrev yeg:List AG:=[zzh 4]
abbrev w05_Texts:AFun:=⟨(.seq (.reg yeg) (.seq (.seq (.reg yef) (.block 0 ydX (.loop ydW yee))) (.seq (.reg ydV) .ret))),27,[.tmp 4]⟩
abbrev yeh:List It:=[.code (.seq (.reg ydV) .ret)]
abbrev yei (x0 x1 x5:AV) (h:List Ob) (e:Cx:=cx):Cfg:=atC n_w05_Texts (.code yee::.inLoop ydW yee::.inBlock 0 ydX::yeh) [x0,x1,U,U,U,x5,U,U,U,U,U,U,U,U,U,U,U,U,U,U,U,U,U,U,U,U,U] h e
@[simp] theorem c_w05_Texts:cfun Tryd.prog n_w05_Texts=some w05_Texts:=by kernel_rfl
@[simp] theorem e_w05_Texts:hasBody Tryd.prog n_w05_Texts=true:=by kernel_rfl
abbrev yej:List AG:=[zz1 10 3,o 11 (.cmp .eql (.sc .int) (.t 10) (.c (.int .i64 0))),zz1 2 11]
abbrev yek:List AG:=[zz3 6 4 1,zzf 7 n_order_Check 6,zz1 5 7,zzc 8 5 0,zzc 9 5 1,zz1 3 8,zz1 4 9]
abbrev yel:List AG:=[o 1 (.box 4 (.t 0)),zzh 2]
abbrev step_right:AFun:=⟨(.seq (.reg yel) (.seq (.reg yek) (.seq (.reg yej) .ret))),12,[.tmp 2]⟩
@[simp] theorem c_step_right:cfun Tryd.prog n_step_right=some step_right:=by kernel_rfl
@[simp] theorem e_step_right:hasBody Tryd.prog n_step_right=true:=by kernel_rfl
abbrev yem:List AG:=[zz3 14 4 1,zz3 15 4 1,zzf 16 n_net_Nets 15,zz1 17 4,o 18 (.build [(.list true 0 []),(.list true 0 []),(.list true 0 []),(.list true 0 []),(.list true 0 []),(.list true 0 [])] [(0,4,(.t 14)),(4,1,(.t 16)),(5,1,(.t 17))]),o 19 (.box 6 (.t 18)),zz1 2 19,zz9 3 0]
abbrev yen:List AG:=[zz3 10 4 1,zzf 11 n_order_Sort 10,zz1 9 11,zzc 12 9 0,zzc 13 9 1,zz1 4 12,zz1 5 13]
abbrev yeo:List AG:=[o 2 (.mv (.c .nilp)),zz9 3 1]
abbrev yep:ACode:=(.seq (.reg yeo) .ret)
abbrev yeq:List AG:=[zz3 6 4 1,zzf 7 n_step_right 6,o 8 (.not (.t 7))]
abbrev yer:List AG:=[o 1 (.box 4 (.t 0)),o 2 (.mv (.c .nilp)),zz9 3 0]
abbrev step_begin:AFun:=⟨(.seq (.reg yer) (.seq (.seq (.reg yeq) (.cond (.t 8) yep .skip)) (.seq (.reg yen) (.seq (.dreg [I,O,O,O,O,O,O,O] [6,3,6,6,6,9,9,9] yem) .ret)))),20,[.tmp 2,.tmp 3]⟩
@[simp] theorem c_step_begin:cfun Tryd.prog n_step_begin=some step_begin:=by kernel_rfl
@[simp] theorem e_step_begin:hasBody Tryd.prog n_step_begin=true:=by kernel_rfl
abbrev yes:List AG:=[o 9 (.mkFunc (.func n_step_machine_steps_1) [] [(.t 6),(.t 4),(.t 5),(.t 7)]),zz1 8 9]
abbrev yeu:List AG:=[o 4 (.box 1 (.t 0)),o 5 (.box 1 (.t 1)),o 6 (.box 1 (.t 2)),o 7 (.box 1 (.t 3)),o 8 (.mv (.c .nilf))]
abbrev step_machine_steps:AFun:=⟨(.seq (.reg yeu) (.seq (.reg yes) .ret)),10,[.tmp 8]⟩
@[simp] theorem c_step_machine_steps:cfun Tryd.prog n_step_machine_steps=some step_machine_steps:=by kernel_rfl
@[simp] theorem e_step_machine_steps:hasBody Tryd.prog n_step_machine_steps=true:=by kernel_rfl
abbrev yev:List AG:=[o 5 (.lit 1 [] []),zz1 6 0,o 7 (.append 1 t_bool 1 (.t 5) (.t 6)),zz1 2 7]
abbrev yew:List AG:=[o 2 (.nilrow 1 t_bool)]
abbrev yex:ACode:=(.seq (.reg yew) .ret)
abbrev yey:List AG:=[zz1 3 0,o 4 (.isnil false (.t 3))]
abbrev yez:List AG:=[o 2 (.nilrow 1 t_bool)]
abbrev slices_Clone_bool_bool:AFun:=⟨(.seq (.reg yez) (.seq (.seq (.reg yey) (.cond (.t 4) yex .skip)) (.seq (.reg yev) .ret))),8,[.tmp 2]⟩
@[simp] theorem c_slices_Clone_bool_bool:cfun Tryd.prog n_slices_Clone_bool_bool=some slices_Clone_bool_bool:=by kernel_rfl
@[simp] theorem e_slices_Clone_bool_bool:hasBody Tryd.prog n_slices_Clone_bool_bool=true:=by kernel_rfl
abbrev yeA:List AG:=[zz4 18 1 1,zz2 19 1 18,zz4 20 2 1,zz2 21 1 20,zza 22 21,zzg 23 n_net_has 19 22,zz1 24 23,oy 25 24 (.off 3 (.t 1)),zzd 26 24 1 25,oy 27 24 (.len (.t 26)),oy 28 24 (.cmp .leq (.sc .int) (.t 27) (.c (.int .i64 128))),zz8 29 24 28,zz1 30 29,oy 31 30 (.off 3 (.t 1)),zzd 32 30 1 31,zze 33 30 3,oy 34 30 (.call (.f n_slices_ContainsFunc_string_string) [(.t 32),(.t 33)]),oy 35 30 (.not (.t 34)),zz8 36 30 35,zz1 2 36]
abbrev yeB:List AG:=[zzh 2]
abbrev yeC:ACode:=(.seq (.reg yeB) .ret)
abbrev yeD:List AG:=[zz4 5 1 1,zz2 6 1 5,o 7 (.cmp .neq (.sc .int) (.t 6) (.c (.int .i64 10))),zz1 8 7,oy 9 8 (.off 3 (.t 1)),zzd 10 8 1 9,oy 11 8 (.len (.t 10)),oy 12 8 (.cmp .gtr (.sc .int) (.t 11) (.c (.int .i64 0))),zze 13 8 12,on 14 13 (.off 4 (.t 1)),on 15 13 (.load false 1 (.t 14)),oy 16 8 (.pick (.t 13) (.c (.bool true)) (.t 15)),zz8 17 8 16]
abbrev yeE:List AG:=[o 4 (.mkFunc (.func n_net_Gate_1) [] [(.t 1)]),zz1 3 4]
abbrev yeF:List AG:=[o 1 (.box 5 (.t 0)),zzh 2]
abbrev net_Gate:AFun:=⟨(.seq (.reg yeF) (.seq (.reg yeE) (.seq (.seq (.reg yeD) (.cond (.t 17) yeC .skip)) (.seq (.reg yeA) .ret)))),37,[.tmp 2]⟩
@[simp] theorem c_net_Gate:cfun Tryd.prog n_net_Gate=some net_Gate:=by kernel_rfl
@[simp] theorem e_net_Gate:hasBody Tryd.prog n_net_Gate=true:=by kernel_rfl
abbrev yeG:List AG:=[zz3 35 2 3,zzb 2 2 35]
abbrev yeH:List AG:=[zz4 34 0 3,q (.store 1 (.t 34) (.f n_step_of_4))]
abbrev yeI:List AG:=[zz4 33 0 3,q (.store 1 (.t 33) (.f n_step_of_3))]
abbrev yeJ:List AG:=[zz4 32 0 3,q (.store 1 (.t 32) (.f n_step_of_2))]
abbrev yeK:List AG:=[zz4 31 0 3,q (.store 1 (.t 31) (.f n_step_of_1))]
abbrev yeL:List AG:=[o 30 (.cmp .eql (.sc .int) (.t 13) (.c (.int .i64 9))),zz1 28 30]
abbrev yeM:List AG:=[o 29 (.cmp .eql (.sc .int) (.t 13) (.c (.int .i64 8))),zz1 28 29]
abbrev yeN:List AG:=[o 27 (.cmp .eql (.sc .int) (.t 13) (.c (.int .i64 7))),zz1 25 27]
abbrev yeO:List AG:=[o 26 (.cmp .eql (.sc .int) (.t 13) (.c (.int .i64 6))),zz1 25 26]
abbrev yeP:List AG:=[o 24 (.cmp .eql (.sc .int) (.t 13) (.c (.int .i64 5))),zz1 22 24]
abbrev yeQ:List AG:=[o 23 (.cmp .eql (.sc .int) (.t 13) (.c (.int .i64 4))),zz1 22 23]
abbrev yeR:List AG:=[o 21 (.cmp .eql (.sc .int) (.t 13) (.c (.int .i64 3))),zz1 20 21]
abbrev yeS:List AG:=[o 19 (.cmp .eql (.sc .int) (.t 13) (.c (.int .i64 2))),zz1 18 19]
abbrev yeT:List AG:=[o 17 (.cmp .eql (.sc .int) (.t 13) (.c (.int .i64 1))),zz1 16 17]
abbrev yeU:List AG:=[o 15 (.cmp .eql (.sc .int) (.t 13) (.c (.int .i64 0))),zz1 14 15]
abbrev yeV:ACode:=(.seq (.seq (.seq (.reg yeU) (.cond (.t 14) (.exit 2) .skip)) (.seq (.seq (.reg yeT) (.cond (.t 16) (.exit 3) .skip)) (.seq (.seq (.reg yeS) (.cond (.t 18) (.exit 4) .skip)) (.seq (.seq (.reg yeR) (.cond (.t 20) (.exit 5) .skip)) (.seq (.seq (.seq (.reg yeQ) (.cond (.t 22) .skip (.reg yeP))) (.cond (.t 22) (.exit 6) .skip)) (.seq (.seq (.seq (.reg yeO) (.cond (.t 25) .skip (.reg yeN))) (.cond (.t 25) (.exit 7) .skip)) (.seq (.seq (.reg yeM) (.cond (.t 28) .skip (.reg yeL))) (.cond (.t 28) (.exit 8) .skip)))))))) (.exit 1))
abbrev yeW:ACode:=(.block 2 [] yeV)
abbrev yeX:ACode:=(.seq (.block 3 [] yeW) (.seq (.reg yeK) (.exit 1)))
abbrev yeY:ACode:=(.block 4 [] yeX)
abbrev yeZ:ACode:=(.block 5 [] yeY)
abbrev yfa:ACode:=(.seq (.block 6 [] yeZ) (.seq (.reg yeJ) (.exit 1)))
abbrev yfb:ACode:=(.seq (.block 7 [] yfa) (.seq (.reg yeI) (.exit 1)))
abbrev yfc:ACode:=(.seq (.block 8 [] yfb) (.seq (.reg yeH) (.exit 1)))
abbrev yfd:List AG:=[zz1 13 0]
abbrev yfe:List AG:=[zz4 12 1 3,q (.store 1 (.t 12) (.c (.bool true)))]
abbrev yff:List AG:=[o 11 (.cmp .eql (.sc .int) (.t 5) (.c (.int .i64 9))),zz1 6 11]
abbrev yfg:List AG:=[o 10 (.cmp .eql (.sc .int) (.t 5) (.c (.int .i64 7))),zz1 6 10]
abbrev yfh:ACode:=(.seq (.reg yfg) (.cond (.t 6) .skip (.reg yff)))
abbrev yfi:List AG:=[o 9 (.cmp .eql (.sc .int) (.t 5) (.c (.int .i64 5))),zz1 6 9]
abbrev yfj:ACode:=(.seq (.reg yfi) (.cond (.t 6) .skip yfh))
abbrev yfk:List AG:=[o 8 (.cmp .eql (.sc .int) (.t 5) (.c (.int .i64 3))),zz1 6 8]
abbrev yfl:ACode:=(.seq (.reg yfk) (.cond (.t 6) .skip yfj))
abbrev yfm:List AG:=[o 7 (.cmp .eql (.sc .int) (.t 5) (.c (.int .i64 1))),zz1 6 7]
abbrev yfn:ACode:=(.seq (.seq (.reg yfm) (.cond (.t 6) .skip yfl)) (.cond (.t 6) (.reg yfe) .skip))
abbrev yfo:List AG:=[zz1 5 0]
abbrev yfp:List AG:=[o 4 (.build [.nilf,(.bool false)] []),o 3 (.alloc [.nilf,(.bool false)]),zzb 2 3 4]
abbrev yfq:List AG:=[o 2 (.alloc [.nilf,(.bool false)])]
abbrev step_of:AFun:=⟨(.seq (.reg yfq) (.seq (.reg yfp) (.seq (.seq (.reg yfo) (.block 0 [] yfn)) (.seq (.seq (.reg yfd) (.block 1 [] yfc)) (.seq (.reg yeG) .ret))))),36,[.cell 2 true 2]⟩
@[simp] theorem c_step_of:cfun Tryd.prog n_step_of=some step_of:=by kernel_rfl
@[simp] theorem e_step_of:hasBody Tryd.prog n_step_of=true:=by kernel_rfl
abbrev yfr:List AG:=[zz4 4 3 1,zz2 5 1 4,o 6 (.mkFunc (.func n_step_Gate_1_1) [] [(.t 2)]),zzg 7 n_slices_ContainsFunc_string_string 5 6,zz1 3 7]
abbrev yfs:List AG:=[o 2 (.box 1 (.t 0)),zzh 3]
abbrev step_Gate_1:AFun:=⟨(.seq (.reg yfs) (.seq (.reg yfr) .ret)),8,[.tmp 3]⟩
@[simp] theorem c_step_Gate_1:cfun Tryd.prog n_step_Gate_1=some step_Gate_1:=by kernel_rfl
@[simp] theorem e_step_Gate_1:hasBody Tryd.prog n_step_Gate_1=true:=by kernel_rfl
abbrev yft:List AG:=[zz1 5 0,zz1 6 1,zzg 7 n_slices_IndexFunc_string_string 5 6,o 8 (.cmp .geq (.sc .int) (.t 7) (.c (.int .i64 0))),zz1 4 8]
abbrev yfu:List AG:=[zzh 4]
abbrev slices_ContainsFunc_string_string:AFun:=⟨(.seq (.reg yfu) (.seq (.reg yft) .ret)),9,[.tmp 4]⟩
@[simp] theorem c_slices_ContainsFunc_string_string:cfun Tryd.prog n_slices_ContainsFunc_string_string=some slices_ContainsFunc_string_string:=by kernel_rfl
@[simp] theorem e_slices_ContainsFunc_string_string:hasBody Tryd.prog n_slices_ContainsFunc_string_string=true:=by kernel_rfl
abbrev yfv:List AG:=[zz1 4 0,zz2 5 1 1,zzg 6 n_step_fits 4 5,zz1 3 6]
abbrev yfw:List AG:=[zzh 3]
abbrev step_Gate_1_1:AFun:=⟨(.seq (.reg yfw) (.seq (.reg yfv) .ret)),7,[.tmp 3]⟩
@[simp] theorem c_step_Gate_1_1:cfun Tryd.prog n_step_Gate_1_1=some step_Gate_1_1:=by kernel_rfl
@[simp] theorem e_step_Gate_1_1:hasBody Tryd.prog n_step_Gate_1_1=true:=by kernel_rfl
abbrev yfx:List AG:=[o 4 (.mv (.c (.bool true)))]
abbrev yfy:List Bool:=[I,O,O,O,O,O,O,I,I,I,O,O,O,O,O,O,O,O,O,O,O,O,O,O,O,O,O]
abbrev yfz:List Bool:=[O,O,O,O,O,O,O,O,O,O,O,O,O,O,O,O,O,O,O,O,O,O,O,O,O,O,O]
abbrev yfA:List AG:=[zz6 26 9 1,zz1 9 26]
abbrev yfB:List AG:=[zzh 4]
abbrev yfC:ACode:=(.seq (.reg yfB) .ret)
abbrev yfD:List AG:=[zz1 14 0,zz1 15 5,o 16 (.ixStr (.t 14) (.t 15)),o 17 (.cmp .neq (.sc .int) (.t 16) (.c (.int .u8 45))),zz1 18 17,zze 19 18 0,zze 20 18 5,oy 21 18 (.ixStr (.t 19) (.t 20)),oy 22 18 (.cmp .eql (.sc .int) (.t 21) (.c (.int .u8 49))),zze 23 18 6,oy 24 18 (.cmp .neq (.sc .bool) (.t 22) (.t 23)),zz8 25 18 24]
abbrev yfE:List AG:=[zz1 11 9,zz5 12 1 7 9,zz2 13 1 12,zz1 5 11,zz1 6 13]
abbrev yfF:ACode:=(.seq (.reg yfE) (.seq (.reg yfD) (.cond (.t 25) yfC .skip)))
abbrev yfG:List AG:=[zz7 10 9 8]
abbrev yfH:ACode:=(.seq (.reg yfG) (.seq (.cond (.t 10) .skip (.exit 0)) (.seq (.block 1 [] yfF) (.reg yfA))))
abbrev yfI:List AG:=[zz1 7 1,zza 8 7,zz9 9 0]
abbrev yfJ:List AG:=[zzh 4]
abbrev step_fits:AFun:=⟨(.seq (.reg yfJ) (.seq (.seq (.reg yfI) (.block 0 yfz (.loop yfy yfH))) (.seq (.reg yfx) .ret))),27,[.tmp 4]⟩
abbrev yfK:List It:=[.code (.seq (.reg yfx) .ret)]
abbrev yfL (x0 x7 x8 x9:AV) (h:List Ob) (e:Cx:=cx):Cfg:=atC n_step_fits (.code yfH::.inLoop yfy yfH::.inBlock 0 yfz::yfK) [x0,U,U,U,U,U,U,x7,x8,x9,U,U,U,U,U,U,U,U,U,U,U,U,U,U,U,U,U] h e
@[simp] theorem c_step_fits:cfun Tryd.prog n_step_fits=some step_fits:=by kernel_rfl
@[simp] theorem e_step_fits:hasBody Tryd.prog n_step_fits=true:=by kernel_rfl
abbrev yfM:List AG:=[zz1 85 8,zz1 6 85,zz9 7 0]
abbrev yfN:List Bool:=[I,O,O,O,O,O,O,O,I,O,O,O,O,O,O,O,O,O,O,O,O,O,O,O,O,O,O,O,O,O,O,O,O,O,O,O,O,O,O,O,O,O,O,O,O,O,O,O,O,O,O,O,O,O,O,O,O,O,I,I,I,O,O,O,O,O,O,O,O,O,O,O,O,O,O,O,O,O,O,O,O,O,O,O,O,O]
abbrev yfO:List Bool:=[O,O,O,O,O,O,O,O,I,O,O,O,O,O,O,O,O,O,O,O,O,O,O,O,O,O,O,O,O,O,O,O,O,O,O,O,O,O,O,O,O,O,O,O,O,O,O,O,O,O,O,O,O,O,O,O,O,O,O,O,O,O,O,O,O,O,O,O,O,O,O,O,O,O,O,O,O,O,O,O,O,O,O,O,O,O]
abbrev yfP:List AG:=[zz6 84 60 1,zz1 60 84]
abbrev yfQ:List AG:=[zz1 73 8,zz4 74 0 13,zz2 75 1 74,zz3 76 5 13,zz1 77 8,zz4 78 2 13,zz2 79 1 78,zzg 80 n_step_pick 77 79,zzg 81 n_step_Gate 76 80,zz1 72 81,zzc 82 72 0,zzc 83 72 1,q (.upd (.sc .str) (.t 73) (.t 75) (.t 82))]
abbrev yfR:List AG:=[zz1 64 0,o 65 (.nilck (.t 64)),zz4 66 0 65,zz4 67 3 66,zz2 68 1 67,zz1 69 12,zz5 70 5 68 69,zz3 71 5 70,o 13 (.alloc [(.str []),(.int .i64 0),(.own 1 t_string []),(.own 1 t_string []),(.bool false)]),zzb 5 13 71]
abbrev yfS:List AG:=[zz5 62 1 58 60,zz2 63 1 62,zz1 12 63]
abbrev yfT:ACode:=(.seq (.reg yfS) (.seq (.reg yfR) (.dreg [O,O,I,I,O,O,O,O,O,O,O,O,O] [13,13,13,9,8,8,8,9,13,13,13,14,14] yfQ)))
abbrev yfU:List AG:=[zz7 61 60 59]
abbrev yfV:ACode:=(.seq (.reg yfU) (.seq (.cond (.t 61) .skip (.exit 2)) (.seq (.block 3 [] yfT) (.reg yfP))))
abbrev yfW:List AG:=[zz1 55 0,o 56 (.nilck (.t 55)),zz4 57 5 56,zz2 58 1 57,zza 59 58,zz9 60 0]
abbrev yfX:List Bool:=[I,O,O,O,O,O,O,O,I,O,O,O,O,O,O,O,O,O,O,O,O,O,O,O,O,O,O,O,O,O,O,O,O,O,O,O,O,O,I,I,I,O,O,O,O,O,O,O,O,O,O,O,O,O,O,O,O,O,O,O,O,O,O,O,O,O,O,O,O,O,O,O,O,O,O,O,O,O,O,O,O,O,O,O,O,O]
abbrev yfY:List Bool:=[I,O,O,O,O,O,O,O,I,O,O,O,O,O,O,O,O,O,O,O,O,O,O,O,O,O,O,O,O,O,O,O,O,O,O,O,O,O,O,O,O,O,O,O,O,O,O,O,O,O,O,O,O,O,O,O,O,O,O,O,O,O,O,O,O,O,O,O,O,O,O,O,O,O,O,O,O,O,O,O,O,O,O,O,O,O]
abbrev yfZ:List AG:=[zz6 54 40 1,zz1 40 54]
abbrev yga:List AG:=[zz1 45 8,zz1 46 0,o 47 (.nilck (.t 46)),zz4 48 4 47,zz2 49 1 48,zz1 50 9,zz5 51 1 49 50,zz2 52 1 51,zz1 53 10,q (.upd (.sc .str) (.t 45) (.t 52) (.t 53))]
abbrev ygb:List AG:=[zz1 42 40,zz5 43 1 38 40,zz2 44 1 43,zz1 9 42,zz1 10 44]
abbrev ygc:ACode:=(.seq (.reg ygb) (.reg yga))
abbrev ygd:List AG:=[zz7 41 40 39]
abbrev yge:ACode:=(.seq (.reg ygd) (.seq (.cond (.t 41) .skip (.exit 0)) (.seq (.block 1 [] ygc) (.reg yfZ))))
abbrev ygf:List AG:=[zz1 35 2,zz1 36 1,o 37 (.lit 1 [(.list true 0 []),(.list true 0 [])] [(0,(.t 35)),(1,(.t 36))]),zzf 38 n_slices_Concat_bool_bool 37,zza 39 38,zz9 40 0]
abbrev ygg:List AG:=[o 34 (.mkMap),zz1 8 34]
abbrev ygh:List AG:=[o 6 (.mv (.c .nilm)),zz9 7 11]
abbrev ygi:ACode:=(.seq (.reg ygh) .ret)
abbrev ygj:List AG:=[zz1 14 1,zza 15 14,zz1 16 0,o 17 (.nilck (.t 16)),zz4 18 0 17,zz4 19 2 18,zz2 20 1 19,zza 21 20,o 22 (.cmp .neq (.sc .int) (.t 15) (.t 21)),zz1 23 22,on 24 23 (.mv (.t 2)),on 25 23 (.len (.t 24)),on 26 23 (.mv (.t 0)),on 27 23 (.nilck (.t 26)),on 28 23 (.off 0 (.t 27)),on 29 23 (.off 0 (.t 28)),on 30 23 (.load false 1 (.t 29)),on 31 23 (.len (.t 30)),on 32 23 (.cmp .neq (.sc .int) (.t 25) (.t 31)),o 33 (.pick (.t 23) (.c (.bool true)) (.t 32))]
abbrev ygk:List AG:=[o 6 (.mv (.c .nilm)),zz9 7 0]
abbrev step_machine_values:AFun:=⟨(.seq (.reg ygk) (.seq (.seq (.reg ygj) (.cond (.t 33) ygi .skip)) (.seq (.reg ygg) (.seq (.seq (.reg ygf) (.block 0 yfY (.loop yfX yge))) (.seq (.seq (.reg yfW) (.block 2 yfO (.loop yfN yfV))) (.seq (.reg yfM) .ret)))))),86,[.tmp 6,.tmp 7]⟩
abbrev ygl:List It:=[.code (.seq (.reg yfM) .ret)]
abbrev ygm (x0 x8 x58 x59 x60:AV) (h:List Ob) (e:Cx:=cx):Cfg:=atC n_step_machine_values (.code yfV::.inLoop yfN yfV::.inBlock 2 yfO::ygl) [x0,U,U,U,U,U,U,U,x8,U,U,U,U,U,U,U,U,U,U,U,U,U,U,U,U,U,U,U,U,U,U,U,U,U,U,U,U,U,U,U,U,U,U,U,U,U,U,U,U,U,U,U,U,U,U,U,U,U,x58,x59,x60,U,U,U,U,U,U,U,U,U,U,U,U,U,U,U,U,U,U,U,U,U,U,U,U,U] h e
abbrev ygn (x8:AV) (h:List Ob) (e:Cx:=cx):Cfg:=atC n_step_machine_values ygl [U,U,U,U,U,U,U,U,x8,U,U,U,U,U,U,U,U,U,U,U,U,U,U,U,U,U,U,U,U,U,U,U,U,U,U,U,U,U,U,U,U,U,U,U,U,U,U,U,U,U,U,U,U,U,U,U,U,U,U,U,U,U,U,U,U,U,U,U,U,U,U,U,U,U,U,U,U,U,U,U,U,U,U,U,U,U] h e
abbrev ygo:List It:=[.code (.seq (.seq (.reg yfW) (.block 2 yfO (.loop yfN yfV))) (.seq (.reg yfM) .ret))]
abbrev ygp (x0 x8 x38 x39 x40:AV) (h:List Ob) (e:Cx:=cx):Cfg:=atC n_step_machine_values (.code yge::.inLoop yfX yge::.inBlock 0 yfY::ygo) [x0,U,U,U,U,U,U,U,x8,U,U,U,U,U,U,U,U,U,U,U,U,U,U,U,U,U,U,U,U,U,U,U,U,U,U,U,U,U,x38,x39,x40,U,U,U,U,U,U,U,U,U,U,U,U,U,U,U,U,U,U,U,U,U,U,U,U,U,U,U,U,U,U,U,U,U,U,U,U,U,U,U,U,U,U,U,U,U] h e
abbrev ygq (x0 x8:AV) (h:List Ob) (e:Cx:=cx):Cfg:=atC n_step_machine_values ygo [x0,U,U,U,U,U,U,U,x8,U,U,U,U,U,U,U,U,U,U,U,U,U,U,U,U,U,U,U,U,U,U,U,U,U,U,U,U,U,U,U,U,U,U,U,U,U,U,U,U,U,U,U,U,U,U,U,U,U,U,U,U,U,U,U,U,U,U,U,U,U,U,U,U,U,U,U,U,U,U,U,U,U,U,U,U,U] h e
@[simp] theorem c_step_machine_values:cfun Tryd.prog n_step_machine_values=some step_machine_values:=by kernel_rfl
@[simp] theorem e_step_machine_values:hasBody Tryd.prog n_step_machine_values=true:=by kernel_rfl
abbrev ygr:List AG:=[zz1 21 5,zz1 4 21]
abbrev ygs:List Bool:=[I,O,O,O,O,I,O,O,I,I,I,O,O,O,O,O,O,O,O,O,O,O]
abbrev ygt:List Bool:=[O,O,O,O,O,I,O,O,O,O,O,O,O,O,O,O,O,O,O,O,O,O]
abbrev ygu:List AG:=[zz6 20 10 1,zz1 10 20]
abbrev ygv:List AG:=[zz1 14 5,zz1 15 0,zz1 16 7,o 17 (.lookup (.sc .str) (.bool false) (.t 15) (.t 16) false),o 18 (.lit 1 [(.bool false)] [(0,(.t 17))]),o 19 (.append 1 t_bool 1 (.t 14) (.t 18)),zz1 5 19]
abbrev ygw:List AG:=[zz5 12 1 8 10,zz2 13 1 12,zz1 7 13]
abbrev ygx:ACode:=(.seq (.reg ygw) (.reg ygv))
abbrev ygy:List AG:=[zz7 11 10 9]
abbrev ygz:ACode:=(.seq (.reg ygy) (.seq (.cond (.t 11) .skip (.exit 0)) (.seq (.block 1 [] ygx) (.reg ygu))))
abbrev ygA:List AG:=[zz1 8 1,zza 9 8,zz9 10 0]
abbrev ygB:List AG:=[o 5 (.nilrow 1 t_bool)]
abbrev ygC:List AG:=[o 4 (.nilrow 1 t_bool)]
abbrev step_pick:AFun:=⟨(.seq (.reg ygC) (.seq (.reg ygB) (.seq (.seq (.reg ygA) (.block 0 ygt (.loop ygs ygz))) (.seq (.reg ygr) .ret)))),22,[.tmp 4]⟩
abbrev ygD:List It:=[.code (.seq (.reg ygr) .ret)]
abbrev ygE (x0 x5 x8 x9 x10:AV) (h:List Ob) (e:Cx:=cx):Cfg:=atC n_step_pick (.code ygz::.inLoop ygs ygz::.inBlock 0 ygt::ygD) [x0,U,U,U,U,x5,U,U,x8,x9,x10,U,U,U,U,U,U,U,U,U,U,U] h e
@[simp] theorem c_step_pick:cfun Tryd.prog n_step_pick=some step_pick:=by kernel_rfl
@[simp] theorem e_step_pick:hasBody Tryd.prog n_step_pick=true:=by kernel_rfl
abbrev ygF:List AG:=[zz1 42 9,zz1 43 0,o 44 (.nilck (.t 43)),zz4 45 0 44,zz4 46 1 45,zz2 47 1 46,zzg 48 n_step_pick 42 47,zz1 49 11,zz1 6 48,zz1 7 49,zz9 8 0]
abbrev ygG:List Bool:=[I,O,O,O,O,O,O,O,O,I,O,I,O,O,O,O,O,O,O,O,O,O,O,O,O,O,O,O,I,I,I,O,O,O,O,O,O,O,O,O,O,O,O,O,O,O,O,O,O,O]
abbrev ygH:List Bool:=[I,O,O,O,O,O,O,O,O,I,O,I,O,O,O,O,O,O,O,O,O,O,O,O,O,O,O,O,O,O,O,O,O,O,O,O,O,O,O,O,O,O,O,O,O,O,O,O,O,O]
abbrev ygI:List AG:=[zz6 41 30 1,zz1 30 41]
abbrev ygJ:List AG:=[zz1 34 11,zz1 35 9,zz4 36 1 13,zz2 37 1 36,o 38 (.lookup (.sc .str) (.bool false) (.t 35) (.t 37) false),o 39 (.lit 1 [(.bool false)] [(0,(.t 38))]),o 40 (.append 1 t_bool 1 (.t 34) (.t 39)),zz1 11 40]
abbrev ygK:List AG:=[zz5 32 3 28 30,zz3 33 3 32,o 13 (.alloc [(.str []),(.str []),(.int .i64 0)]),zzb 3 13 33]
abbrev ygL:ACode:=(.seq (.reg ygK) (.reg ygJ))
abbrev ygM:List AG:=[zz7 31 30 29]
abbrev ygN:ACode:=(.seq (.reg ygM) (.seq (.cond (.t 31) .skip (.exit 0)) (.seq (.block 1 [] ygL) (.reg ygI))))
abbrev ygO:List AG:=[zz1 24 0,o 25 (.nilck (.t 24)),zz4 26 0 25,zz4 27 2 26,zz2 28 1 27,zza 29 28,zz9 30 0]
abbrev ygP:List AG:=[o 11 (.nilrow 1 t_bool)]
abbrev ygQ:List AG:=[zz1 23 10,o 6 (.nilrow 1 t_bool),o 7 (.nilrow 1 t_bool),zz1 8 23]
abbrev ygR:ACode:=(.seq (.reg ygQ) .ret)
abbrev ygS:List AG:=[zz1 21 10,o 22 (.cmp .neq (.sc .int) (.t 21) (.c (.int .i64 0)))]
abbrev ygT:List AG:=[zz1 15 0,zz1 16 1,zz1 17 2,o 18 (.call (.f n_step_machine_values) [(.t 15),(.t 16),(.t 17)]),zz1 14 18,zzc 19 14 0,zzc 20 14 1,zz1 9 19,zz1 10 20]
abbrev ygU:List AG:=[o 6 (.nilrow 1 t_bool),o 7 (.nilrow 1 t_bool),zz9 8 0]
abbrev step_machine_step:AFun:=⟨(.seq (.reg ygU) (.seq (.reg ygT) (.seq (.seq (.reg ygS) (.cond (.t 22) ygR .skip)) (.seq (.reg ygP) (.seq (.seq (.reg ygO) (.block 0 ygH (.loop ygG ygN))) (.seq (.reg ygF) .ret)))))),50,[.tmp 6,.tmp 7,.tmp 8]⟩
abbrev ygV:List It:=[.code (.seq (.reg ygF) .ret)]
abbrev ygW (x0 x9 x11 x28 x29 x30:AV) (h:List Ob) (e:Cx:=cx):Cfg:=atC n_step_machine_step (.code ygN::.inLoop ygG ygN::.inBlock 0 ygH::ygV) [x0,U,U,U,U,U,U,U,U,x9,U,x11,U,U,U,U,U,U,U,U,U,U,U,U,U,U,U,U,x28,x29,x30,U,U,U,U,U,U,U,U,U,U,U,U,U,U,U,U,U,U,U] h e
abbrev ygX (x0 x9 x11:AV) (h:List Ob) (e:Cx:=cx):Cfg:=atC n_step_machine_step ygV [x0,U,U,U,U,U,U,U,U,x9,U,x11,U,U,U,U,U,U,U,U,U,U,U,U,U,U,U,U,U,U,U,U,U,U,U,U,U,U,U,U,U,U,U,U,U,U,U,U,U,U] h e
@[simp] theorem c_step_machine_step:cfun Tryd.prog n_step_machine_step=some step_machine_step:=by kernel_rfl
@[simp] theorem e_step_machine_step:hasBody Tryd.prog n_step_machine_step=true:=by kernel_rfl
abbrev ygY:List AG:=[zz9 2 0,o 3 (.mv (.c (.str [])))]
abbrev ygZ:List AG:=[zz1 25 7,o 26 (.ixAddr 1 (.t 25) (.c (.int .i64 0))),zz2 27 1 26,zz9 2 7,zz1 3 27]
abbrev yha:ACode:=(.seq (.dreg [O,O,O,O,O] [6,6,6,6,6] ygZ) .ret)
abbrev yhb:List AG:=[zz1 22 7,zza 23 22,o 24 (.cmp .gtr (.sc .int) (.t 23) (.c (.int .i64 0)))]
abbrev yhc:List AG:=[zz3 18 4 1,zzf 19 n_order_Sort 18,zz1 17 19,zzc 20 17 0,zzc 21 17 1,zz1 6 20,zz1 7 21]
abbrev yhd:List AG:=[zz1 15 4,zz1 16 5,zz1 2 15,zz1 3 16]
abbrev yhe:ACode:=(.seq (.reg yhd) .ret)
abbrev yhf:List AG:=[zz1 13 4,o 14 (.cmp .neq (.sc .int) (.t 13) (.c (.int .i64 0)))]
abbrev yhg:List AG:=[zz3 9 4 1,zzf 10 n_net_Check 9,zz1 8 10,zzc 11 8 0,zzc 12 8 1,zz1 4 11,zz1 5 12]
abbrev yhh:List AG:=[o 1 (.box 4 (.t 0)),zz9 2 0,o 3 (.mv (.c (.str [])))]
abbrev order_Check:AFun:=⟨(.seq (.reg yhh) (.seq (.seq (.reg yhg) (.seq (.reg yhf) (.cond (.t 14) yhe .skip))) (.seq (.seq (.reg yhc) (.seq (.reg yhb) (.cond (.t 24) yha .skip))) (.seq (.reg ygY) .ret)))),28,[.tmp 2,.tmp 3]⟩
@[simp] theorem c_order_Check:cfun Tryd.prog n_order_Check=some order_Check:=by kernel_rfl
@[simp] theorem e_order_Check:hasBody Tryd.prog n_order_Check=true:=by kernel_rfl
abbrev yhi:List AG:=[zz2 52 1 4,zz1 53 7,zz1 2 52,zz1 3 53]
abbrev yhj:List Bool:=[O,O,O,O,I,I,O,I,O,O,O,O,O,O,O,O,O,O,O,O,O,O,O,O,O,O,O,O,O,O,O,O,I,I,I,O,O,O,O,O,O,O,O,O,O,O,O,O,O,O,O,O,O,O]
abbrev yhk:List Bool:=[O,O,O,O,I,O,O,I,O,O,O,O,O,O,O,O,O,O,O,O,O,O,O,O,O,O,O,O,O,O,O,O,O,O,O,O,O,O,O,O,O,O,O,O,O,O,O,O,O,O,O,O,O,O]
abbrev yhl:List AG:=[zz6 51 34 1,zz1 34 51]
abbrev yhm:List AG:=[zz1 46 7,zz4 47 0 9,zz2 48 1 47,o 49 (.lit 1 [(.str [])] [(0,(.t 48))]),o 50 (.append 1 t_string 16 (.t 46) (.t 49)),zz1 7 50]
abbrev yhn:List AG:=[zz1 45 11]
abbrev yho:List AG:=[zz2 39 1 5,zz4 40 0 9,zz2 41 1 40,o 42 (.lookup (.sc .str) (.int .i64 0) (.t 39) (.t 41) true),zz1 38 42,zzc 43 38 0,zzc 44 38 1,zz1 10 43,zz1 11 44]
abbrev yhp:List AG:=[zz5 36 5 32 34,zz3 37 5 36,o 9 (.alloc [(.str []),(.int .i64 0),(.own 1 t_string []),(.own 1 t_string []),(.bool false)]),zzb 5 9 37]
abbrev yhq:ACode:=(.seq (.reg yhp) (.seq (.reg yho) (.seq (.reg yhn) (.cond (.t 45) (.reg yhm) .skip))))
abbrev yhr:List AG:=[zz7 35 34 33]
abbrev yhs:ACode:=(.seq (.reg yhr) (.seq (.cond (.t 35) .skip (.exit 2)) (.seq (.block 3 [] yhq) (.reg yhl))))
abbrev yht:List AG:=[zz4 31 3 1,zz2 32 1 31,zza 33 32,zz9 34 0]
abbrev yhu:List AG:=[o 7 (.nilrow 1 t_string)]
abbrev yhv:List AG:=[zz1 6 19]
abbrev yhw:List AG:=[zz2 24 1 5,zz4 25 3 1,zz2 26 1 25,zz1 27 6,zz5 28 5 26 27,zz4 29 0 28,zz2 30 1 29,q (.delete (.sc .str) (.t 24) (.t 30))]
abbrev yhx:List AG:=[zz2 20 1 4,zz1 21 6,o 22 (.lit 1 [(.int .i64 0)] [(0,(.t 21))]),o 23 (.append 1 t_int 8 (.t 20) (.t 22)),zzb 1 4 23]
abbrev yhy:ACode:=(.seq (.reg yhx) (.dreg [O,O,O,O,O,O,O,O] [8,8,8,8,8,8,8,9] yhw))
abbrev yhz:ACode:=(.block 1 [] yhy)
abbrev yhA:ACode:=(.rangeFunc (.t 18) [19] [O,I,I,I,I,I,O,O,O,O,O,O,O,O,O,O,O,O,O,O,O,O,O,O,O,O,O,O,O,O,O,O,O,O,O,O,O,O,O,O,O,O,O,O,O,O,O,O,O,O,O,O,O,O] (.reg yhv) yhz)
abbrev yhB:List AG:=[zz3 17 4 1,zzf 18 n_order_coming 17]
abbrev yhC:List AG:=[zz3 15 4 1,zzf 16 n_order_places 15,o 5 (.alloc [.nilm]),zzb 1 5 16]
abbrev yhD:List AG:=[o 4 (.alloc [(.own 1 t_int [])])]
abbrev yhE:List AG:=[o 2 (.nilrow 1 t_int),o 3 (.nilrow 1 t_string)]
abbrev yhF:ACode:=(.seq (.reg yhE) .ret)
abbrev yhG:List AG:=[zz3 12 4 1,zzf 13 n_order_right 12,o 14 (.not (.t 13))]
abbrev yhH:List AG:=[o 1 (.box 4 (.t 0)),o 2 (.nilrow 1 t_int),o 3 (.nilrow 1 t_string)]
abbrev order_Sort:AFun:=⟨(.seq (.reg yhH) (.seq (.seq (.reg yhG) (.cond (.t 14) yhF .skip)) (.seq (.reg yhD) (.seq (.reg yhC) (.seq (.seq (.reg yhB) (.block 0 [] yhA)) (.seq (.reg yhu) (.seq (.seq (.reg yht) (.block 2 yhk (.loop yhj yhs))) (.seq (.reg yhi) .ret)))))))),54,[.tmp 2,.tmp 3]⟩
abbrev yhI:List It:=[.code (.seq (.reg yhi) .ret)]
abbrev yhJ (x4 x5 x7 x32 x33 x34:AV) (h:List Ob) (e:Cx:=cx):Cfg:=atC n_order_Sort (.code yhs::.inLoop yhj yhs::.inBlock 2 yhk::yhI) [U,U,U,U,x4,x5,U,x7,U,U,U,U,U,U,U,U,U,U,U,U,U,U,U,U,U,U,U,U,U,U,U,U,x32,x33,x34,U,U,U,U,U,U,U,U,U,U,U,U,U,U,U,U,U,U,U] h e
@[simp] theorem c_order_Sort:cfun Tryd.prog n_order_Sort=some order_Sort:=by kernel_rfl
@[simp] theorem e_order_Sort:hasBody Tryd.prog n_order_Sort=true:=by kernel_rfl
abbrev yhK:List AG:=[zz1 37 3,zz1 2 37]
abbrev yhL:List Bool:=[O,O,O,I,O,O,O,O,O,O,O,O,O,O,O,O,O,O,O,O,O,O,O,O,O,I,I,I,O,O,O,O,O,O,O,O,O,O]
abbrev yhM:List Bool:=[O,O,O,I,O,O,O,O,O,O,O,O,O,O,O,O,O,O,O,O,O,O,O,O,O,O,O,O,O,O,O,O,O,O,O,O,O,O]
abbrev yhN:List AG:=[zz6 36 27 1,zz1 27 36]
abbrev yhO:List AG:=[zz1 31 3,zz4 32 0 7,zz2 33 1 32,o 34 (.lit 1 [(.str [])] [(0,(.t 33))]),o 35 (.append 1 t_string 16 (.t 31) (.t 34)),zz1 3 35]
abbrev yhP:List AG:=[zz5 29 5 25 27,zz3 30 5 29,o 7 (.alloc [(.str []),(.int .i64 0),(.own 1 t_string []),(.own 1 t_string []),(.bool false)]),zzb 5 7 30]
abbrev yhQ:ACode:=(.seq (.reg yhP) (.reg yhO))
abbrev yhR:List AG:=[zz7 28 27 26]
abbrev yhS:ACode:=(.seq (.reg yhR) (.seq (.cond (.t 28) .skip (.exit 2)) (.seq (.block 3 [] yhQ) (.reg yhN))))
abbrev yhT:List AG:=[zz4 24 3 1,zz2 25 1 24,zza 26 25,zz9 27 0]
abbrev yhU:List Bool:=[O,I,O,I,O,O,O,O,O,O,O,O,I,I,I,O,O,O,O,O,O,O,O,O,O,O,O,O,O,O,O,O,O,O,O,O,O,O]
abbrev yhV:List Bool:=[O,I,O,I,O,O,O,O,O,O,O,O,O,O,O,O,O,O,O,O,O,O,O,O,O,O,O,O,O,O,O,O,O,O,O,O,O,O]
abbrev yhW:List AG:=[zz6 23 14 1,zz1 14 23]
abbrev yhX:List AG:=[zz1 18 3,zz4 19 0 5,zz2 20 1 19,o 21 (.lit 1 [(.str [])] [(0,(.t 20))]),o 22 (.append 1 t_string 16 (.t 18) (.t 21)),zz1 3 22]
abbrev yhY:List AG:=[zz5 16 3 12 14,zz3 17 3 16,o 5 (.alloc [(.str []),(.str []),(.int .i64 0)]),zzb 3 5 17]
abbrev yhZ:ACode:=(.seq (.reg yhY) (.reg yhX))
abbrev yia:List AG:=[zz7 15 14 13]
abbrev yib:ACode:=(.seq (.reg yia) (.seq (.cond (.t 15) .skip (.exit 0)) (.seq (.block 1 [] yhZ) (.reg yhW))))
abbrev yic:List AG:=[zz4 11 2 1,zz2 12 1 11,zza 13 12,zz9 14 0]
abbrev yid:List AG:=[zz4 8 0 1,zz2 9 1 8,zzf 10 n_slices_Clone_string_string 9,zz1 3 10]
abbrev yie:List AG:=[o 1 (.box 4 (.t 0)),o 2 (.nilrow 1 t_string)]
abbrev net_Nets:AFun:=⟨(.seq (.reg yie) (.seq (.reg yid) (.seq (.seq (.reg yic) (.block 0 yhV (.loop yhU yib))) (.seq (.seq (.reg yhT) (.block 2 yhM (.loop yhL yhS))) (.seq (.reg yhK) .ret))))),38,[.tmp 2]⟩
abbrev yif:List It:=[.code (.seq (.reg yhK) .ret)]
abbrev yig (x3 x25 x26 x27:AV) (h:List Ob) (e:Cx:=cx):Cfg:=atC n_net_Nets (.code yhS::.inLoop yhL yhS::.inBlock 2 yhM::yif) [U,U,U,x3,U,U,U,U,U,U,U,U,U,U,U,U,U,U,U,U,U,U,U,U,U,x25,x26,x27,U,U,U,U,U,U,U,U,U,U] h e
abbrev yih:List It:=[.code (.seq (.seq (.reg yhT) (.block 2 yhM (.loop yhL yhS))) (.seq (.reg yhK) .ret))]
abbrev yii (x1 x3 x12 x13 x14:AV) (h:List Ob) (e:Cx:=cx):Cfg:=atC n_net_Nets (.code yib::.inLoop yhU yib::.inBlock 0 yhV::yih) [U,x1,U,x3,U,U,U,U,U,U,U,U,x12,x13,x14,U,U,U,U,U,U,U,U,U,U,U,U,U,U,U,U,U,U,U,U,U,U,U] h e
@[simp] theorem c_net_Nets:cfun Tryd.prog n_net_Nets=some net_Nets:=by kernel_rfl
@[simp] theorem e_net_Nets:hasBody Tryd.prog n_net_Nets=true:=by kernel_rfl
abbrev yij:List Bool:=[I,O,I,I,I,O,O,O,O,O,O,I,I,I,O,O,O,O,O,O,O,O,O,O,O,O,O,O,O,O,O,O,O,O,O,O,O,O,O]
abbrev yik:List Bool:=[O,O,O,O,O,O,O,O,O,O,O,O,O,O,O,O,O,O,O,O,O,O,O,O,O,O,O,O,O,O,O,O,O,O,O,O,O,O,O]
abbrev yil:List AG:=[zz6 38 13 1,zz1 13 38]
abbrev yim:List AG:=[zz1 37 9,zzb 1 3 37]
abbrev yin:List AG:=[zz1 28 10,o 29 (.cmp .neq (.sc .int) (.t 28) (.c (.int .i64 0))),zz1 30 29,on 31 30 (.mv (.t 0)),on 32 30 (.mv (.t 8)),on 33 30 (.mv (.t 9)),on 34 30 (.call (.t 31) [(.t 32),(.t 33)]),on 35 30 (.not (.t 34)),o 36 (.pick (.t 30) (.c (.bool true)) (.t 35))]
abbrev yio:List AG:=[zz2 25 1 4,zz1 26 10,o 27 (.nilck (.t 25)),zzb 1 27 26]
abbrev yip:List AG:=[zz2 18 1 2,zz2 19 1 3,zz1 20 7,o 21 (.call (.f n_step_machine_step) [(.t 18),(.t 19),(.t 20)]),zz1 17 21,zzc 22 17 0,zzc 23 17 1,zzc 24 17 2,zz1 8 22,zz1 9 23,zz1 10 24]
abbrev yiq:List AG:=[zz5 15 1 11 13,zz2 16 1 15,zz1 7 16]
abbrev yir:ACode:=(.seq (.reg yiq) (.seq (.reg yip) (.seq (.seq (.reg yio) (.seq (.reg yin) (.cond (.t 36) .ret .skip))) (.reg yim))))
abbrev yis:List AG:=[zz7 14 13 12]
abbrev yit:ACode:=(.seq (.reg yis) (.seq (.cond (.t 14) .skip (.exit 0)) (.seq (.block 1 [] yir) (.reg yil))))
abbrev yiu:List AG:=[zz2 11 1 1,zza 12 11,zz9 13 0]
abbrev step_machine_steps_1:AFun:=⟨(.seq (.reg yiu) (.block 0 yik (.loop yij yit))),39,[]⟩
abbrev yiv:List It:=[]
abbrev yiw (x0 x2 x3 x4 x11 x12 x13:AV) (h:List Ob) (e:Cx:=cx):Cfg:=atC n_step_machine_steps_1 (.code yit::.inLoop yij yit::.inBlock 0 yik::yiv) [x0,U,x2,x3,x4,U,U,U,U,U,U,x11,x12,x13,U,U,U,U,U,U,U,U,U,U,U,U,U,U,U,U,U,U,U,U,U,U,U,U,U] h e
@[simp] theorem c_step_machine_steps_1:cfun Tryd.prog n_step_machine_steps_1=some step_machine_steps_1:=by kernel_rfl
@[simp] theorem e_step_machine_steps_1:hasBody Tryd.prog n_step_machine_steps_1=true:=by kernel_rfl
abbrev yix:List AG:=[zz1 4 0,zz4 5 2 1,zz2 6 1 5,zza 7 6,zzg 8 n_net_row 4 7,o 9 (.not (.t 8)),zz1 3 9]
abbrev yiy:List AG:=[zzh 3]
abbrev net_Gate_1:AFun:=⟨(.seq (.reg yiy) (.seq (.reg yix) .ret)),10,[.tmp 3]⟩
@[simp] theorem c_net_Gate_1:cfun Tryd.prog n_net_Gate_1=some net_Gate_1:=by kernel_rfl
@[simp] theorem e_net_Gate_1:hasBody Tryd.prog n_net_Gate_1=true:=by kernel_rfl
abbrev yiz:List AG:=[zz1 5 0,o 6 (.lenStr (.t 5)),zz1 7 1,o 8 (.cmp .eql (.sc .int) (.t 6) (.t 7)),zz1 9 8,zze 10 9 0,oy 11 9 (.call (.f n_strings_Trim) [(.t 10),(.c (.str [48,49,45]))]),oy 12 9 (.cmp .eql (.sc .str) (.t 11) (.c (.str []))),zz8 13 9 12,zz1 4 13]
abbrev yiA:List AG:=[zzh 4]
abbrev net_row:AFun:=⟨(.seq (.reg yiA) (.seq (.reg yiz) .ret)),14,[.tmp 4]⟩
@[simp] theorem c_net_row:cfun Tryd.prog n_net_row=some net_row:=by kernel_rfl
@[simp] theorem e_net_row:hasBody Tryd.prog n_net_row=true:=by kernel_rfl
abbrev yiB:List AG:=[zz1 13 6,zz1 14 13,zze 15 14 1,oy 16 14 (.arrAddr 2 1 (.t 5) (.c (.int .i64 0))),zzd 17 14 1 16,oy 18 14 (.cmp .geq (.sc .int) (.t 15) (.t 17)),zz8 19 14 18,zz1 20 19,zze 21 20 1,oy 22 20 (.arrAddr 2 1 (.t 5) (.c (.int .i64 1))),zzd 23 20 1 22,oy 24 20 (.cmp .leq (.sc .int) (.t 21) (.t 23)),zz8 25 20 24,zz1 4 25]
abbrev yiC:List AG:=[o 8 (.load false 1 (.g 0)),zz1 9 0,o 10 (.lookup (.sc .int) (.agg [(.int .i64 0),(.int .i64 0)]) (.t 8) (.t 9) true),zz1 7 10,zzc 11 7 0,zzc 12 7 1,o 5 (.alloc [(.int .i64 0),(.int .i64 0)]),zzb 2 5 11,zz1 6 12]
abbrev yiD:List AG:=[zzh 4]
abbrev net_has:AFun:=⟨(.seq (.reg yiD) (.seq (.reg yiC) (.seq (.reg yiB) .ret))),26,[.tmp 4]⟩
@[simp] theorem c_net_has:cfun Tryd.prog n_net_has=some net_has:=by kernel_rfl
@[simp] theorem e_net_has:hasBody Tryd.prog n_net_has=true:=by kernel_rfl
abbrev yiE:List AG:=[zzh 2]
abbrev yiF:List AG:=[zzh 2]
abbrev step_of_1:AFun:=⟨(.seq (.reg yiF) (.seq (.reg yiE) .ret)),3,[.tmp 2]⟩
@[simp] theorem c_step_of_1:cfun Tryd.prog n_step_of_1=some step_of_1:=by kernel_rfl
@[simp] theorem e_step_of_1:hasBody Tryd.prog n_step_of_1=true:=by kernel_rfl
abbrev yiG:List AG:=[zz1 3 0,zzf 4 n_step_count 3,zz1 5 0,zza 6 5,o 7 (.cmp .eql (.sc .int) (.t 4) (.t 6)),zz1 2 7]
abbrev yiH:List AG:=[zzh 2]
abbrev step_of_2:AFun:=⟨(.seq (.reg yiH) (.seq (.reg yiG) .ret)),8,[.tmp 2]⟩
@[simp] theorem c_step_of_2:cfun Tryd.prog n_step_of_2=some step_of_2:=by kernel_rfl
@[simp] theorem e_step_of_2:hasBody Tryd.prog n_step_of_2=true:=by kernel_rfl
abbrev yiI:List AG:=[zz1 16 3,zz1 2 16]
abbrev yiJ:List Bool:=[O,O,O,I,O,O,I,I,I,O,O,O,O,O,O,O,O]
abbrev yiK:List Bool:=[O,O,O,I,O,O,O,O,O,O,O,O,O,O,O,O,O]
abbrev yiL:List AG:=[zz6 15 8 1,zz1 8 15]
abbrev yiM:List AG:=[zz1 13 3,zz6 14 13 1,zz1 3 14]
abbrev yiN:List AG:=[zz1 12 5]
abbrev yiO:List AG:=[zz5 10 1 6 8,zz2 11 1 10,zz1 5 11]
abbrev yiP:ACode:=(.seq (.reg yiO) (.seq (.reg yiN) (.cond (.t 12) (.reg yiM) .skip)))
abbrev yiQ:List AG:=[zz7 9 8 7]
abbrev yiR:ACode:=(.seq (.reg yiQ) (.seq (.cond (.t 9) .skip (.exit 0)) (.seq (.block 1 [] yiP) (.reg yiL))))
abbrev yiS:List AG:=[zz1 6 0,zza 7 6,zz9 8 0]
abbrev yiT:List AG:=[zz9 3 0]
abbrev yiU:List AG:=[zz9 2 0]
abbrev step_count:AFun:=⟨(.seq (.reg yiU) (.seq (.reg yiT) (.seq (.seq (.reg yiS) (.block 0 yiK (.loop yiJ yiR))) (.seq (.reg yiI) .ret)))),17,[.tmp 2]⟩
abbrev yiV:List It:=[.code (.seq (.reg yiI) .ret)]
abbrev yiW (x3 x6 x7 x8:AV) (h:List Ob) (e:Cx:=cx):Cfg:=atC n_step_count (.code yiR::.inLoop yiJ yiR::.inBlock 0 yiK::yiV) [U,U,U,x3,U,U,x6,x7,x8,U,U,U,U,U,U,U,U] h e
@[simp] theorem c_step_count:cfun Tryd.prog n_step_count=some step_count:=by kernel_rfl
@[simp] theorem e_step_count:hasBody Tryd.prog n_step_count=true:=by kernel_rfl
abbrev yiX:List AG:=[zz1 3 0,zzf 4 n_step_count 3,o 5 (.cmp .gtr (.sc .int) (.t 4) (.c (.int .i64 0))),zz1 2 5]
abbrev yiY:List AG:=[zzh 2]
abbrev step_of_3:AFun:=⟨(.seq (.reg yiY) (.seq (.reg yiX) .ret)),6,[.tmp 2]⟩
@[simp] theorem c_step_of_3:cfun Tryd.prog n_step_of_3=some step_of_3:=by kernel_rfl
@[simp] theorem e_step_of_3:hasBody Tryd.prog n_step_of_3=true:=by kernel_rfl
abbrev yiZ:List AG:=[zz1 3 0,zzf 4 n_step_count 3,o 5 (.ibin .rem (.t 4) (.c (.int .i64 2))),o 6 (.cmp .eql (.sc .int) (.t 5) (.c (.int .i64 1))),zz1 2 6]
abbrev yja:List AG:=[zzh 2]
abbrev step_of_4:AFun:=⟨(.seq (.reg yja) (.seq (.reg yiZ) .ret)),7,[.tmp 2]⟩
@[simp] theorem c_step_of_4:cfun Tryd.prog n_step_of_4=some step_of_4:=by kernel_rfl
@[simp] theorem e_step_of_4:hasBody Tryd.prog n_step_of_4=true:=by kernel_rfl
abbrev yjb:List AG:=[o 4 (.mv (.c (.int .i64 (-1))))]
abbrev yjc:List Bool:=[I,I,O,O,O,O,O,I,I,O,O,O,O,O,O,O,O,O,O]
abbrev yjd:List Bool:=[O,O,O,O,O,O,O,O,O,O,O,O,O,O,O,O,O,O,O]
abbrev yje:List AG:=[zz6 18 8 1,zz1 8 18]
abbrev yjf:List AG:=[zz1 17 5,zz1 4 17]
abbrev yjg:ACode:=(.seq (.reg yjf) .ret)
abbrev yjh:List AG:=[zz1 11 1,zz1 12 0,zz1 13 5,zz5 14 1 12 13,zz2 15 1 14,o 16 (.call (.t 11) [(.t 15)])]
abbrev yji:List AG:=[zz1 10 8,zz1 5 10]
abbrev yjj:ACode:=(.seq (.reg yji) (.seq (.reg yjh) (.cond (.t 16) yjg .skip)))
abbrev yjk:List AG:=[zz7 9 8 7]
abbrev yjl:ACode:=(.seq (.reg yjk) (.seq (.cond (.t 9) .skip (.exit 0)) (.seq (.block 1 [] yjj) (.reg yje))))
abbrev yjm:List AG:=[zz1 6 0,zza 7 6,zz9 8 0]
abbrev yjn:List AG:=[zz9 4 0]
abbrev slices_IndexFunc_string_string:AFun:=⟨(.seq (.reg yjn) (.seq (.seq (.reg yjm) (.block 0 yjd (.loop yjc yjl))) (.seq (.reg yjb) .ret))),19,[.tmp 4]⟩
abbrev yjo:List It:=[.code (.seq (.reg yjb) .ret)]
abbrev yjp (x0 x1 x7 x8:AV) (h:List Ob) (e:Cx:=cx):Cfg:=atC n_slices_IndexFunc_string_string (.code yjl::.inLoop yjc yjl::.inBlock 0 yjd::yjo) [x0,x1,U,U,U,U,U,x7,x8,U,U,U,U,U,U,U,U,U,U] h e
@[simp] theorem c_slices_IndexFunc_string_string:cfun Tryd.prog n_slices_IndexFunc_string_string=some slices_IndexFunc_string_string:=by kernel_rfl
@[simp] theorem e_slices_IndexFunc_string_string:hasBody Tryd.prog n_slices_IndexFunc_string_string=true:=by kernel_rfl
abbrev yjq:List AG:=[zz1 35 6,zz1 2 35]
abbrev yjr:List Bool:=[O,O,O,O,O,O,I,O,O,O,O,O,O,O,O,O,O,O,O,O,O,O,O,O,O,I,I,I,O,O,O,O,O,O,O,O]
abbrev yjs:List Bool:=[O,O,O,O,O,O,I,O,O,O,O,O,O,O,O,O,O,O,O,O,O,O,O,O,O,O,O,O,O,O,O,O,O,O,O,O]
abbrev yjt:List AG:=[zz6 34 27 1,zz1 27 34]
abbrev yju:List AG:=[zz1 31 6,zz1 32 8,o 33 (.append 1 t_bool 1 (.t 31) (.t 32)),zz1 6 33]
abbrev yjv:List AG:=[zz5 29 1 25 27,zz2 30 1 29,zz1 8 30]
abbrev yjw:ACode:=(.seq (.reg yjv) (.reg yju))
abbrev yjx:List AG:=[zz7 28 27 26]
abbrev yjy:ACode:=(.seq (.reg yjx) (.seq (.cond (.t 28) .skip (.exit 2)) (.seq (.block 3 [] yjw) (.reg yjt))))
abbrev yjz:List AG:=[zz1 25 0,zza 26 25,zz9 27 0]
abbrev yjA:List AG:=[zz1 23 3,o 24 (.call (.f n_slices_Grow_bool_bool) [(.c (.list true 0 [])),(.t 23)]),zz1 6 24]
abbrev yjB:List Bool:=[I,O,O,I,O,O,O,O,O,I,I,I,O,O,O,O,O,O,O,O,O,O,O,O,O,O,O,O,O,O,O,O,O,O,O,O]
abbrev yjC:List Bool:=[I,O,O,I,O,O,O,O,O,O,O,O,O,O,O,O,O,O,O,O,O,O,O,O,O,O,O,O,O,O,O,O,O,O,O,O]
abbrev yjD:List AG:=[zz6 22 11 1,zz1 11 22]
abbrev yjE:List AG:=[o 21 (.mkIface t_string (.c (.str [108,101,110,32,111,117,116,32,111,102,32,114,97,110,103,101]))),q (.panic (.t 21))]
abbrev yjF:List AG:=[zz1 19 3,o 20 (.cmp .lss (.sc .int) (.t 19) (.c (.int .i64 0)))]
abbrev yjG:List AG:=[zz1 15 3,zz1 16 5,zza 17 16,o 18 (.ibin .add (.t 15) (.t 17)),zz1 3 18]
abbrev yjH:List AG:=[zz5 13 1 9 11,zz2 14 1 13,zz1 5 14]
abbrev yjI:ACode:=(.seq (.reg yjH) (.seq (.reg yjG) (.seq (.reg yjF) (.cond (.t 20) (.reg yjE) .skip))))
abbrev yjJ:List AG:=[zz7 12 11 10]
abbrev yjK:ACode:=(.seq (.reg yjJ) (.seq (.cond (.t 12) .skip (.exit 0)) (.seq (.block 1 [] yjI) (.reg yjD))))
abbrev yjL:List AG:=[zz1 9 0,zza 10 9,zz9 11 0]
abbrev yjM:List AG:=[zz9 3 0]
abbrev yjN:List AG:=[o 2 (.nilrow 1 t_bool)]
abbrev slices_Concat_bool_bool:AFun:=⟨(.seq (.reg yjN) (.seq (.reg yjM) (.seq (.seq (.reg yjL) (.block 0 yjC (.loop yjB yjK))) (.seq (.reg yjA) (.seq (.seq (.reg yjz) (.block 2 yjs (.loop yjr yjy))) (.seq (.reg yjq) .ret)))))),36,[.tmp 2]⟩
abbrev yjO:List It:=[.code (.seq (.reg yjq) .ret)]
abbrev yjP (x6 x25 x26 x27:AV) (h:List Ob) (e:Cx:=cx):Cfg:=atC n_slices_Concat_bool_bool (.code yjy::.inLoop yjr yjy::.inBlock 2 yjs::yjO) [U,U,U,U,U,U,x6,U,U,U,U,U,U,U,U,U,U,U,U,U,U,U,U,U,U,x25,x26,x27,U,U,U,U,U,U,U,U] h e
abbrev yjQ:List It:=[.code (.seq (.reg yjA) (.seq (.seq (.reg yjz) (.block 2 yjs (.loop yjr yjy))) (.seq (.reg yjq) .ret)))]
abbrev yjR (x0 x3 x9 x10 x11:AV) (h:List Ob) (e:Cx:=cx):Cfg:=atC n_slices_Concat_bool_bool (.code yjK::.inLoop yjB yjK::.inBlock 0 yjC::yjQ) [x0,U,U,x3,U,U,U,U,U,x9,x10,x11,U,U,U,U,U,U,U,U,U,U,U,U,U,U,U,U,U,U,U,U,U,U,U,U] h e
@[simp] theorem c_slices_Concat_bool_bool:cfun Tryd.prog n_slices_Concat_bool_bool=some slices_Concat_bool_bool:=by kernel_rfl
@[simp] theorem e_slices_Concat_bool_bool:hasBody Tryd.prog n_slices_Concat_bool_bool=true:=by kernel_rfl
abbrev yjS:List AG:=[q (.store 1 (.t 2) (.c (.int .i64 0))),q (.store 1 (.t 3) (.c (.str [])))]
abbrev yjT:List Bool:=[O,O,I,I,O,O,O,I,O,O,O,O,O,O,O,O,O,O,O,O,O,O,O,O,O,O,O,O,O,O,O,O,O,O,O,O,O,O,O,O,O,O,O,O,O,O,O,O,O,O,O,O,O,O,O,O,O,O,O,O,O,O,O,O,O,O,O,O,O,O,O,O,O,O,O,O,O,O,O,O,O,O,O,O,O,O,O,O,O,O,O,O,I,I,I,O,O,O,O,O,O,O,O,O]
abbrev yjU:List Bool:=[O,O,I,I,O,O,O,O,O,O,O,O,O,O,O,O,O,O,O,O,O,O,O,O,O,O,O,O,O,O,O,O,O,O,O,O,O,O,O,O,O,O,O,O,O,O,O,O,O,O,O,O,O,O,O,O,O,O,O,O,O,O,O,O,O,O,O,O,O,O,O,O,O,O,O,O,O,O,O,O,O,O,O,O,O,O,O,O,O,O,O,O,O,O,O,O,O,O,O,O,O,O,O,O]
abbrev yjV:List AG:=[zz6 103 94 1,zz1 94 103]
abbrev yjW:List AG:=[zz1 98 7,zz1 99 13,o 100 (.lookup (.sc .str) (.bool false) (.t 98) (.t 99) false),zz1 101 13,o 102 (.call (.f n_net_need) [(.t 100),(.c (.int .i64 6)),(.t 101)])]
abbrev yjX:List AG:=[zz5 96 1 92 94,zz2 97 1 96,zz1 13 97]
abbrev yjY:ACode:=(.seq (.reg yjX) (.reg yjW))
abbrev yjZ:List AG:=[zz7 95 94 93]
abbrev yka:ACode:=(.seq (.reg yjZ) (.seq (.cond (.t 95) .skip (.exit 6)) (.seq (.block 7 [] yjY) (.reg yjV))))
abbrev ykb:List AG:=[zz3 91 4 1,zzf 92 n_net_used 91,zza 93 92,zz9 94 0]
abbrev ykc:List Bool:=[O,I,I,I,O,O,O,I,O,O,O,O,O,O,O,O,O,O,O,O,O,O,O,O,O,O,O,O,O,O,O,O,O,O,O,O,O,O,O,O,O,O,O,O,O,O,O,O,O,O,O,O,O,O,O,O,O,O,O,O,O,O,O,O,O,O,O,O,O,O,O,O,O,O,O,O,O,O,O,I,I,I,O,O,O,O,O,O,O,O,O,O,O,O,O,O,O,O,O,O,O,O,O,O]
abbrev ykd:List Bool:=[O,I,I,I,O,O,O,I,O,O,O,O,O,O,O,O,O,O,O,O,O,O,O,O,O,O,O,O,O,O,O,O,O,O,O,O,O,O,O,O,O,O,O,O,O,O,O,O,O,O,O,O,O,O,O,O,O,O,O,O,O,O,O,O,O,O,O,O,O,O,O,O,O,O,O,O,O,O,O,O,O,O,O,O,O,O,O,O,O,O,O,O,O,O,O,O,O,O,O,O,O,O,O,O]
abbrev yke:List AG:=[zz6 90 81 1,zz1 81 90]
abbrev ykf:List AG:=[zz3 85 5 11,zzf 86 n_net_Gate 85,zz4 87 0 11,zz2 88 1 87,o 89 (.call (.f n_net_need) [(.t 86),(.c (.int .i64 1)),(.t 88)])]
abbrev ykg:List AG:=[zz5 83 5 79 81,zz3 84 5 83,o 11 (.alloc [(.str []),(.int .i64 0),(.own 1 t_string []),(.own 1 t_string []),(.bool false)]),zzb 5 11 84]
abbrev ykh:ACode:=(.seq (.reg ykg) (.dreg [O,O,O,I,O] [2,5,5,5,6] ykf))
abbrev yki:List AG:=[zz7 82 81 80]
abbrev ykj:ACode:=(.seq (.reg yki) (.seq (.cond (.t 82) .skip (.exit 4)) (.seq (.block 5 [] ykh) (.reg yke))))
abbrev ykk:List AG:=[zz4 78 3 1,zz2 79 1 78,zza 80 79,zz9 81 0]
abbrev ykl:List Bool:=[O,I,I,I,O,O,O,I,O,O,O,O,O,O,O,O,O,O,O,O,O,O,O,O,O,O,O,O,O,O,O,O,O,O,O,O,O,O,O,O,O,O,O,O,O,O,O,O,O,O,O,O,O,O,O,O,O,O,O,O,I,I,I,O,O,O,O,O,O,O,O,O,O,O,O,O,O,O,O,O,O,O,O,O,O,O,O,O,O,O,O,O,O,O,O,O,O,O,O,O,O,O,O,O]
abbrev ykm:List Bool:=[O,I,I,I,O,O,O,I,O,O,O,O,O,O,O,O,O,O,O,O,O,O,O,O,O,O,O,O,O,O,O,O,O,O,O,O,O,O,O,O,O,O,O,O,O,O,O,O,O,O,O,O,O,O,O,O,O,O,O,O,O,O,O,O,O,O,O,O,O,O,O,O,O,O,O,O,O,O,O,O,O,O,O,O,O,O,O,O,O,O,O,O,O,O,O,O,O,O,O,O,O,O,O,O]
abbrev ykn:List AG:=[zz6 77 62 1,zz1 62 77]
abbrev yko:List AG:=[zz4 66 2 9,zz2 67 1 66,o 68 (.cmp .geq (.sc .int) (.t 67) (.c (.int .i64 0))),zz1 69 68,oy 70 69 (.off 2 (.t 9)),zzd 71 69 1 70,oy 72 69 (.cmp .leq (.sc .int) (.t 71) (.c (.int .i64 2))),zz8 73 69 72,zz4 74 0 9,zz2 75 1 74,o 76 (.call (.f n_net_need) [(.t 73),(.c (.int .i64 1)),(.t 75)])]
abbrev ykp:List AG:=[zz5 64 3 60 62,zz3 65 3 64,o 9 (.alloc [(.str []),(.str []),(.int .i64 0)]),zzb 3 9 65]
abbrev ykq:ACode:=(.seq (.reg ykp) (.reg yko))
abbrev ykr:List AG:=[zz7 63 62 61]
abbrev yks:ACode:=(.seq (.reg ykr) (.seq (.cond (.t 63) .skip (.exit 2)) (.seq (.block 3 [] ykq) (.reg ykn))))
abbrev ykt:List AG:=[zz4 59 2 1,zz2 60 1 59,zza 61 60,zz9 62 0]
abbrev yku:List AG:=[zz4 56 1 1,zz2 57 1 56,zzf 58 n_net_once 57]
abbrev ykv:List AG:=[zz3 53 4 1,zzf 54 n_net_Nets 53,zzf 55 n_net_once 54,zz1 7 55]
abbrev ykw:List Bool:=[O,I,I,I,O,O,O,O,O,O,O,O,O,O,O,O,O,O,O,O,O,O,O,O,O,O,O,O,O,O,O,O,O,O,O,O,O,O,O,O,O,O,I,I,I,O,O,O,O,O,O,O,O,O,O,O,O,O,O,O,O,O,O,O,O,O,O,O,O,O,O,O,O,O,O,O,O,O,O,O,O,O,O,O,O,O,O,O,O,O,O,O,O,O,O,O,O,O,O,O,O,O,O,O]
abbrev ykx:List Bool:=[O,I,I,I,O,O,O,O,O,O,O,O,O,O,O,O,O,O,O,O,O,O,O,O,O,O,O,O,O,O,O,O,O,O,O,O,O,O,O,O,O,O,O,O,O,O,O,O,O,O,O,O,O,O,O,O,O,O,O,O,O,O,O,O,O,O,O,O,O,O,O,O,O,O,O,O,O,O,O,O,O,O,O,O,O,O,O,O,O,O,O,O,O,O,O,O,O,O,O,O,O,O,O,O]
abbrev yky:List AG:=[zz6 52 44 1,zz1 44 52]
abbrev ykz:List AG:=[zz1 48 6,zzf 49 n_ident_Name 48,zz1 50 6,o 51 (.call (.f n_net_need) [(.t 49),(.c (.int .i64 4)),(.t 50)])]
abbrev ykA:List AG:=[zz5 46 1 42 44,zz2 47 1 46,zz1 6 47]
abbrev ykB:ACode:=(.seq (.reg ykA) (.reg ykz))
abbrev ykC:List AG:=[zz7 45 44 43]
abbrev ykD:ACode:=(.seq (.reg ykC) (.seq (.cond (.t 45) .skip (.exit 0)) (.seq (.block 1 [] ykB) (.reg yky))))
abbrev ykE:List AG:=[zz3 41 4 1,zzf 42 n_net_told 41,zza 43 42,zz9 44 0]
abbrev ykF:List AG:=[zz4 15 0 1,zz2 16 1 15,zza 17 16,zz4 18 2 1,zz2 19 1 18,zza 20 19,o 21 (.ibin .add (.t 17) (.t 20)),zz4 22 3 1,zz2 23 1 22,zza 24 23,o 25 (.ibin .add (.t 21) (.t 24)),o 26 (.cmp .leq (.sc .int) (.t 25) (.c (.int .i64 200))),zz1 27 26,oy 28 27 (.off 1 (.t 1)),zzd 29 27 1 28,oy 30 27 (.len (.t 29)),oy 31 27 (.cmp .leq (.sc .int) (.t 30) (.c (.int .i64 200))),zz8 32 27 31,zz1 33 32,oy 34 33 (.off 3 (.t 1)),zzd 35 33 1 34,zze 36 33 4,oy 37 33 (.call (.f n_slices_ContainsFunc_api_Gate_api_Gate) [(.t 35),(.t 36)]),oy 38 33 (.not (.t 37)),zz8 39 33 38,o 40 (.call (.f n_net_need) [(.t 39),(.c (.int .i64 8)),(.c (.str []))])]
abbrev ykG:List AG:=[o 4 (.mv (.f n_net_Check_2))]
abbrev ykH:List AG:=[o 14 (.mkFunc (.func n_net_Check_1) [] [(.t 2),(.t 3)]),q (.defer (.t 14) [])]
abbrev ykI:List AG:=[o 1 (.box 4 (.t 0)),o 2 (.alloc [(.int .i64 0)]),o 3 (.alloc [(.str [])])]
abbrev net_Check:AFun:=⟨(.seq (.reg ykI) (.seq (.reg ykH) (.seq (.reg ykG) (.seq (.reg ykF) (.seq (.seq (.reg ykE) (.block 0 ykx (.loop ykw ykD))) (.seq (.reg ykv) (.seq (.reg yku) (.seq (.seq (.reg ykt) (.block 2 ykm (.loop ykl yks))) (.seq (.seq (.reg ykk) (.block 4 ykd (.loop ykc ykj))) (.seq (.seq (.reg ykb) (.block 6 yjU (.loop yjT yka))) (.seq (.reg yjS) .ret))))))))))),104,[.cell 2 false 1,.cell 3 false 1]⟩
abbrev ykJ:List It:=[.code (.seq (.reg yjS) .ret)]
abbrev ykK (x2 x3 x7 x92 x93 x94:AV) (h:List Ob) (e:Cx:=cx):Cfg:=atC n_net_Check (.code yka::.inLoop yjT yka::.inBlock 6 yjU::ykJ) [U,U,x2,x3,U,U,U,x7,U,U,U,U,U,U,U,U,U,U,U,U,U,U,U,U,U,U,U,U,U,U,U,U,U,U,U,U,U,U,U,U,U,U,U,U,U,U,U,U,U,U,U,U,U,U,U,U,U,U,U,U,U,U,U,U,U,U,U,U,U,U,U,U,U,U,U,U,U,U,U,U,U,U,U,U,U,U,U,U,U,U,U,U,x92,x93,x94,U,U,U,U,U,U,U,U,U] h e
abbrev ykL:List It:=[.code (.seq (.seq (.reg ykb) (.block 6 yjU (.loop yjT yka))) (.seq (.reg yjS) .ret))]
abbrev ykM (x1 x2 x3 x7 x79 x80 x81:AV) (h:List Ob) (e:Cx:=cx):Cfg:=atC n_net_Check (.code ykj::.inLoop ykc ykj::.inBlock 4 ykd::ykL) [U,x1,x2,x3,U,U,U,x7,U,U,U,U,U,U,U,U,U,U,U,U,U,U,U,U,U,U,U,U,U,U,U,U,U,U,U,U,U,U,U,U,U,U,U,U,U,U,U,U,U,U,U,U,U,U,U,U,U,U,U,U,U,U,U,U,U,U,U,U,U,U,U,U,U,U,U,U,U,U,U,x79,x80,x81,U,U,U,U,U,U,U,U,U,U,U,U,U,U,U,U,U,U,U,U,U,U] h e
abbrev ykN:List It:=[.code (.seq (.seq (.reg ykk) (.block 4 ykd (.loop ykc ykj))) (.seq (.seq (.reg ykb) (.block 6 yjU (.loop yjT yka))) (.seq (.reg yjS) .ret)))]
abbrev ykO (x1 x2 x3 x7 x60 x61 x62:AV) (h:List Ob) (e:Cx:=cx):Cfg:=atC n_net_Check (.code yks::.inLoop ykl yks::.inBlock 2 ykm::ykN) [U,x1,x2,x3,U,U,U,x7,U,U,U,U,U,U,U,U,U,U,U,U,U,U,U,U,U,U,U,U,U,U,U,U,U,U,U,U,U,U,U,U,U,U,U,U,U,U,U,U,U,U,U,U,U,U,U,U,U,U,U,U,x60,x61,x62,U,U,U,U,U,U,U,U,U,U,U,U,U,U,U,U,U,U,U,U,U,U,U,U,U,U,U,U,U,U,U,U,U,U,U,U,U,U,U,U,U] h e
abbrev ykP:List It:=[.code (.seq (.reg ykv) (.seq (.reg yku) (.seq (.seq (.reg ykt) (.block 2 ykm (.loop ykl yks))) (.seq (.seq (.reg ykk) (.block 4 ykd (.loop ykc ykj))) (.seq (.seq (.reg ykb) (.block 6 yjU (.loop yjT yka))) (.seq (.reg yjS) .ret))))))]
abbrev ykQ (x1 x2 x3 x42 x43 x44:AV) (h:List Ob) (e:Cx:=cx):Cfg:=atC n_net_Check (.code ykD::.inLoop ykw ykD::.inBlock 0 ykx::ykP) [U,x1,x2,x3,U,U,U,U,U,U,U,U,U,U,U,U,U,U,U,U,U,U,U,U,U,U,U,U,U,U,U,U,U,U,U,U,U,U,U,U,U,U,x42,x43,x44,U,U,U,U,U,U,U,U,U,U,U,U,U,U,U,U,U,U,U,U,U,U,U,U,U,U,U,U,U,U,U,U,U,U,U,U,U,U,U,U,U,U,U,U,U,U,U,U,U,U,U,U,U,U,U,U,U,U,U] h e
@[simp] theorem c_net_Check:cfun Tryd.prog n_net_Check=some net_Check:=by kernel_rfl
@[simp] theorem e_net_Check:hasBody Tryd.prog n_net_Check=true:=by kernel_rfl
abbrev ykR:List AG:=[zz1 10 3,o 11 (.cmp .eql (.sc .int) (.t 10) (.c (.int .i64 0))),zz1 2 11]
abbrev ykS:List AG:=[zz3 6 4 1,zzf 7 n_net_Check 6,zz1 5 7,zzc 8 5 0,zzc 9 5 1,zz1 3 8,zz1 4 9]
abbrev ykT:List AG:=[o 1 (.box 4 (.t 0)),zzh 2]
abbrev order_right:AFun:=⟨(.seq (.reg ykT) (.seq (.reg ykS) (.seq (.reg ykR) .ret))),12,[.tmp 2]⟩
@[simp] theorem c_order_right:cfun Tryd.prog n_order_right=some order_right:=by kernel_rfl
@[simp] theorem e_order_right:hasBody Tryd.prog n_order_right=true:=by kernel_rfl
abbrev ykU:List AG:=[zz1 20 3,zz1 2 20]
abbrev ykV:List Bool:=[O,O,O,I,O,O,O,O,I,I,I,O,O,O,O,O,O,O,O,O,O]
abbrev ykW:List Bool:=[O,O,O,I,O,O,O,O,O,O,O,O,O,O,O,O,O,O,O,O,O]
abbrev ykX:List AG:=[zz6 19 10 1,zz1 10 19]
abbrev ykY:List AG:=[zz1 15 3,zz4 16 0 5,zz2 17 1 16,zz1 18 4,q (.upd (.sc .str) (.t 15) (.t 17) (.t 18))]
abbrev ykZ:List AG:=[zz1 12 10,zz5 13 5 8 10,zz3 14 5 13,o 5 (.alloc [(.str []),(.int .i64 0),(.own 1 t_string []),(.own 1 t_string []),(.bool false)]),zz1 4 12,zzb 5 5 14]
abbrev yla:ACode:=(.seq (.reg ykZ) (.reg ykY))
abbrev ylb:List AG:=[zz7 11 10 9]
abbrev ylc:ACode:=(.seq (.reg ylb) (.seq (.cond (.t 11) .skip (.exit 0)) (.seq (.block 1 [] yla) (.reg ykX))))
abbrev yle:List AG:=[zz4 7 3 1,zz2 8 1 7,zza 9 8,zz9 10 0]
abbrev ylf:List AG:=[o 6 (.mkMap),zz1 3 6]
abbrev ylg:List AG:=[o 1 (.box 4 (.t 0)),o 2 (.mv (.c .nilm))]
abbrev order_places:AFun:=⟨(.seq (.reg ylg) (.seq (.reg ylf) (.seq (.seq (.reg yle) (.block 0 ykW (.loop ykV ylc))) (.seq (.reg ykU) .ret)))),21,[.tmp 2]⟩
abbrev ylh:List It:=[.code (.seq (.reg ykU) .ret)]
abbrev yli (x3 x8 x9 x10:AV) (h:List Ob) (e:Cx:=cx):Cfg:=atC n_order_places (.code ylc::.inLoop ykV ylc::.inBlock 0 ykW::ylh) [U,U,U,x3,U,U,U,U,x8,x9,x10,U,U,U,U,U,U,U,U,U,U] h e
@[simp] theorem c_order_places:cfun Tryd.prog n_order_places=some order_places:=by kernel_rfl
@[simp] theorem e_order_places:hasBody Tryd.prog n_order_places=true:=by kernel_rfl
abbrev ylj:List AG:=[o 3 (.mkFunc (.func n_order_coming_1) [] [(.t 1)]),zz1 2 3]
abbrev ylk:List AG:=[o 1 (.box 4 (.t 0)),o 2 (.mv (.c .nilf))]
abbrev order_coming:AFun:=⟨(.seq (.reg ylk) (.seq (.reg ylj) .ret)),4,[.tmp 2]⟩
@[simp] theorem c_order_coming:cfun Tryd.prog n_order_coming=some order_coming:=by kernel_rfl
@[simp] theorem e_order_coming:hasBody Tryd.prog n_order_coming=true:=by kernel_rfl
abbrev yll:List AG:=[o 5 (.lit 1 [] []),zz1 6 0,o 7 (.append 1 t_string 16 (.t 5) (.t 6)),zz1 2 7]
abbrev ylm:List AG:=[o 2 (.nilrow 1 t_string)]
abbrev yln:ACode:=(.seq (.reg ylm) .ret)
abbrev ylo:List AG:=[zz1 3 0,o 4 (.isnil false (.t 3))]
abbrev ylp:List AG:=[o 2 (.nilrow 1 t_string)]
abbrev slices_Clone_string_string:AFun:=⟨(.seq (.reg ylp) (.seq (.seq (.reg ylo) (.cond (.t 4) yln .skip)) (.seq (.reg yll) .ret))),8,[.tmp 2]⟩
@[simp] theorem c_slices_Clone_string_string:cfun Tryd.prog n_slices_Clone_string_string=some slices_Clone_string_string:=by kernel_rfl
@[simp] theorem e_slices_Clone_string_string:hasBody Tryd.prog n_slices_Clone_string_string=true:=by kernel_rfl
@[simp] theorem e_strings_Trim:hasBody Tryd.prog n_strings_Trim=true:=by kernel_rfl
abbrev ylq:List AG:=[zz1 26 0,zz1 4 26]
abbrev ylr:List AG:=[zz1 17 0,zz1 18 0,o 19 (.cap (.t 18)),o 20 (.slice 1 (.t 17) none (some (.t 19))),zz1 21 1,o 22 (.appendZ 1 t_bool 1 (.bool false) (.t 20) (.t 21)),zz1 23 0,zza 24 23,o 25 (.slice 1 (.t 22) none (some (.t 24))),zz1 0 25]
abbrev yls:List AG:=[zz1 15 1,o 16 (.cmp .gtr (.sc .int) (.t 15) (.c (.int .i64 0)))]
abbrev ylt:List AG:=[zz1 8 1,zz1 9 0,o 10 (.cap (.t 9)),zz1 11 0,zza 12 11,o 13 (.ibin .sub (.t 10) (.t 12)),o 14 (.ibin .sub (.t 8) (.t 13)),zz1 1 14]
abbrev ylu:List AG:=[o 7 (.mkIface t_string (.c (.str [99,97,110,110,111,116,32,98,101,32,110,101,103,97,116,105,118,101]))),q (.panic (.t 7))]
abbrev ylv:List AG:=[zz1 5 1,o 6 (.cmp .lss (.sc .int) (.t 5) (.c (.int .i64 0)))]
abbrev ylw:List AG:=[o 4 (.nilrow 1 t_bool)]
abbrev slices_Grow_bool_bool:AFun:=⟨(.seq (.reg ylw) (.seq (.seq (.reg ylv) (.cond (.t 6) (.reg ylu) .skip)) (.seq (.seq (.reg ylt) (.seq (.reg yls) (.cond (.t 16) (.reg ylr) .skip))) (.seq (.reg ylq) .ret)))),27,[.tmp 4]⟩
@[simp] theorem c_slices_Grow_bool_bool:cfun Tryd.prog n_slices_Grow_bool_bool=some slices_Grow_bool_bool:=by kernel_rfl
@[simp] theorem e_slices_Grow_bool_bool:hasBody Tryd.prog n_slices_Grow_bool_bool=true:=by kernel_rfl
abbrev ylx:List AG:=[zz4 10 0 2,zz2 11 1 10,zz4 12 1 2,zz2 13 1 12,zzb 1 0 11,zzb 1 1 13]
abbrev yly:List AG:=[zz1 9 3]
abbrev ylz:List AG:=[o 5 (.recover),o 6 (.tassert (.t 5) t_net_wrong (.agg [(.int .i64 0),(.str [])]) true),zz1 4 6,zzc 7 4 0,zzc 8 4 1,o 2 (.alloc [(.int .i64 0),(.str [])]),zzb 2 2 7,zz1 3 8]
abbrev net_Check_1:AFun:=⟨(.seq (.reg ylz) (.seq (.reg yly) (.cond (.t 9) (.dreg [O,O,O,I,O,O] [5,5,6,6,6,7] ylx) .skip))),14,[]⟩
@[simp] theorem c_net_Check_1:cfun Tryd.prog n_net_Check_1=some net_Check_1:=by kernel_rfl
@[simp] theorem e_net_Check_1:hasBody Tryd.prog n_net_Check_1=true:=by kernel_rfl
abbrev ylA:List AG:=[zz4 3 2 1,zz2 4 1 3,zza 5 4,o 6 (.cmp .gtr (.sc .int) (.t 5) (.c (.int .i64 8))),zz1 7 6,on 8 7 (.off 3 (.t 1)),on 9 7 (.load false 1 (.t 8)),on 10 7 (.len (.t 9)),on 11 7 (.cmp .gtr (.sc .int) (.t 10) (.c (.int .i64 128))),o 12 (.pick (.t 7) (.c (.bool true)) (.t 11)),zz1 2 12]
abbrev ylB:List AG:=[o 1 (.box 5 (.t 0)),zzh 2]
abbrev net_Check_2:AFun:=⟨(.seq (.reg ylB) (.seq (.reg ylA) .ret)),13,[.tmp 2]⟩
@[simp] theorem c_net_Check_2:cfun Tryd.prog n_net_Check_2=some net_Check_2:=by kernel_rfl
@[simp] theorem e_net_Check_2:hasBody Tryd.prog n_net_Check_2=true:=by kernel_rfl
abbrev ylC:List AG:=[zz1 8 1,zz1 9 2,o 10 (.build [(.int .i64 0),(.str [])] [(0,1,(.t 8)),(1,1,(.t 9))]),o 11 (.mkIface t_net_wrong (.t 10)),q (.panic (.t 11))]
abbrev ylD:List AG:=[zz1 6 0,o 7 (.not (.t 6))]
abbrev net_need:AFun:=⟨(.seq (.reg ylD) (.cond (.t 7) (.reg ylC) .skip)),12,[]⟩
@[simp] theorem c_net_need:cfun Tryd.prog n_net_need=some net_need:=by kernel_rfl
@[simp] theorem e_net_need:hasBody Tryd.prog n_net_need=true:=by kernel_rfl
abbrev ylE:List AG:=[zz1 5 0,zz1 6 1,zzg 7 n_slices_IndexFunc_api_Gate_api_Gate 5 6,o 8 (.cmp .geq (.sc .int) (.t 7) (.c (.int .i64 0))),zz1 4 8]
abbrev ylF:List AG:=[zzh 4]
abbrev slices_ContainsFunc_api_Gate_api_Gate:AFun:=⟨(.seq (.reg ylF) (.seq (.reg ylE) .ret)),9,[.tmp 4]⟩
@[simp] theorem c_slices_ContainsFunc_api_Gate_api_Gate:cfun Tryd.prog n_slices_ContainsFunc_api_Gate_api_Gate=some slices_ContainsFunc_api_Gate_api_Gate:=by kernel_rfl
@[simp] theorem e_slices_ContainsFunc_api_Gate_api_Gate:hasBody Tryd.prog n_slices_ContainsFunc_api_Gate_api_Gate=true:=by kernel_rfl
abbrev ylG:List AG:=[zz1 45 3,zz1 2 45]
abbrev ylH:List Bool:=[O,O,O,I,O,O,O,O,O,O,O,O,O,O,O,O,O,O,O,O,O,O,O,O,O,O,O,O,O,O,I,I,I,O,O,O,O,O,O,O,O,O,O,O,O,O]
abbrev ylI:List Bool:=[O,O,O,I,O,O,O,O,O,O,O,O,O,O,O,O,O,O,O,O,O,O,O,O,O,O,O,O,O,O,O,O,O,O,O,O,O,O,O,O,O,O,O,O,O,O]
abbrev ylJ:List AG:=[zz6 44 32 1,zz1 32 44]
abbrev ylK:List AG:=[zz1 36 3,zz4 37 0 7,zz2 38 1 37,o 39 (.lit 1 [(.str [])] [(0,(.t 38))]),o 40 (.append 1 t_string 16 (.t 36) (.t 39)),zz4 41 2 7,zz2 42 1 41,o 43 (.append 1 t_string 16 (.t 40) (.t 42)),zz1 3 43]
abbrev ylL:List AG:=[zz5 34 5 30 32,zz3 35 5 34,o 7 (.alloc [(.str []),(.int .i64 0),(.own 1 t_string []),(.own 1 t_string []),(.bool false)]),zzb 5 7 35]
abbrev ylM:ACode:=(.seq (.reg ylL) (.dreg [O,O,O,O,O,O,I,O,O] [5,4,4,5,8,8,8,10,10] ylK))
abbrev ylN:List AG:=[zz7 33 32 31]
abbrev ylO:ACode:=(.seq (.reg ylN) (.seq (.cond (.t 33) .skip (.exit 2)) (.seq (.block 3 [] ylM) (.reg ylJ))))
abbrev ylP:List AG:=[zz4 29 3 1,zz2 30 1 29,zza 31 30,zz9 32 0]
abbrev ylQ:List Bool:=[O,I,O,I,O,O,O,O,O,O,O,O,O,O,O,I,I,I,O,O,O,O,O,O,O,O,O,O,O,O,O,O,O,O,O,O,O,O,O,O,O,O,O,O,O,O]
abbrev ylR:List Bool:=[O,I,O,I,O,O,O,O,O,O,O,O,O,O,O,O,O,O,O,O,O,O,O,O,O,O,O,O,O,O,O,O,O,O,O,O,O,O,O,O,O,O,O,O,O,O]
abbrev ylS:List AG:=[zz6 28 17 1,zz1 17 28]
abbrev ylT:List AG:=[zz1 21 3,zz4 22 0 5,zz2 23 1 22,zz4 24 1 5,zz2 25 1 24,o 26 (.lit 1 [(.str []),(.str [])] [(0,(.t 23)),(1,(.t 25))]),o 27 (.append 1 t_string 16 (.t 21) (.t 26)),zz1 3 27]
abbrev ylU:List AG:=[zz5 19 3 15 17,zz3 20 3 19,o 5 (.alloc [(.str []),(.str []),(.int .i64 0)]),zzb 3 5 20]
abbrev ylV:ACode:=(.seq (.reg ylU) (.reg ylT))
abbrev ylW:List AG:=[zz7 18 17 16]
abbrev ylX:ACode:=(.seq (.reg ylW) (.seq (.cond (.t 18) .skip (.exit 0)) (.seq (.block 1 [] ylV) (.reg ylS))))
abbrev ylY:List AG:=[zz4 14 2 1,zz2 15 1 14,zza 16 15,zz9 17 0]
abbrev ylZ:List AG:=[zz4 8 0 1,zz2 9 1 8,zz4 10 1 1,zz2 11 1 10,o 12 (.lit 1 [(.list true 0 []),(.list true 0 [])] [(0,(.t 9)),(1,(.t 11))]),zzf 13 n_slices_Concat_string_string 12,zz1 3 13]
abbrev yma:List AG:=[o 1 (.box 4 (.t 0)),o 2 (.nilrow 1 t_string)]
abbrev net_told:AFun:=⟨(.seq (.reg yma) (.seq (.reg ylZ) (.seq (.seq (.reg ylY) (.block 0 ylR (.loop ylQ ylX))) (.seq (.seq (.reg ylP) (.block 2 ylI (.loop ylH ylO))) (.seq (.reg ylG) .ret))))),46,[.tmp 2]⟩
abbrev ymb:List It:=[.code (.seq (.reg ylG) .ret)]
abbrev ymc (x3 x30 x31 x32:AV) (h:List Ob) (e:Cx:=cx):Cfg:=atC n_net_told (.code ylO::.inLoop ylH ylO::.inBlock 2 ylI::ymb) [U,U,U,x3,U,U,U,U,U,U,U,U,U,U,U,U,U,U,U,U,U,U,U,U,U,U,U,U,U,U,x30,x31,x32,U,U,U,U,U,U,U,U,U,U,U,U,U] h e
abbrev ymd:List It:=[.code (.seq (.seq (.reg ylP) (.block 2 ylI (.loop ylH ylO))) (.seq (.reg ylG) .ret))]
abbrev yme (x1 x3 x15 x16 x17:AV) (h:List Ob) (e:Cx:=cx):Cfg:=atC n_net_told (.code ylX::.inLoop ylQ ylX::.inBlock 0 ylR::ymd) [U,x1,U,x3,U,U,U,U,U,U,U,U,U,U,U,x15,x16,x17,U,U,U,U,U,U,U,U,U,U,U,U,U,U,U,U,U,U,U,U,U,U,U,U,U,U,U,U] h e
@[simp] theorem c_net_told:cfun Tryd.prog n_net_told=some net_told:=by kernel_rfl
@[simp] theorem e_net_told:hasBody Tryd.prog n_net_told=true:=by kernel_rfl
abbrev ymf:List AG:=[zz1 3 0,zzf 4 n_ident_name_plain 3,zz1 2 4]
abbrev ymg:List AG:=[zzh 2]
abbrev ident_Name:AFun:=⟨(.seq (.reg ymg) (.seq (.reg ymf) .ret)),5,[.tmp 2]⟩
@[simp] theorem c_ident_Name:cfun Tryd.prog n_ident_Name=some ident_Name:=by kernel_rfl
@[simp] theorem e_ident_Name:hasBody Tryd.prog n_ident_Name=true:=by kernel_rfl
abbrev ymh:List AG:=[zz1 22 3,zz1 2 22]
abbrev ymi:List Bool:=[O,O,O,I,O,O,O,I,I,I,O,O,O,O,O,O,O,O,O,O,O,O,O]
abbrev ymj:List Bool:=[O,O,O,I,O,O,O,O,O,O,O,O,O,O,O,O,O,O,O,O,O,O,O]
abbrev ymk:List AG:=[zz6 21 9 1,zz1 9 21]
abbrev yml:List AG:=[zz1 19 3,zz1 20 5,q (.upd (.sc .str) (.t 19) (.t 20) (.c (.bool true)))]
abbrev ymm:List AG:=[zz1 13 3,zz1 14 5,o 15 (.lookup (.sc .str) (.bool false) (.t 13) (.t 14) false),o 16 (.not (.t 15)),zz1 17 5,o 18 (.call (.f n_net_need) [(.t 16),(.c (.int .i64 5)),(.t 17)])]
abbrev ymn:List AG:=[zz5 11 1 7 9,zz2 12 1 11,zz1 5 12]
abbrev ymo:ACode:=(.seq (.reg ymn) (.seq (.reg ymm) (.reg yml)))
abbrev ymp:List AG:=[zz7 10 9 8]
abbrev ymq:ACode:=(.seq (.reg ymp) (.seq (.cond (.t 10) .skip (.exit 0)) (.seq (.block 1 [] ymo) (.reg ymk))))
abbrev ymr:List AG:=[zz1 7 0,zza 8 7,zz9 9 0]
abbrev yms:List AG:=[o 6 (.mkMap),zz1 3 6]
abbrev ymt:List AG:=[o 2 (.mv (.c .nilm))]
abbrev net_once:AFun:=⟨(.seq (.reg ymt) (.seq (.reg yms) (.seq (.seq (.reg ymr) (.block 0 ymj (.loop ymi ymq))) (.seq (.reg ymh) .ret)))),23,[.tmp 2]⟩
abbrev ymu:List It:=[.code (.seq (.reg ymh) .ret)]
abbrev ymv (x3 x7 x8 x9:AV) (h:List Ob) (e:Cx:=cx):Cfg:=atC n_net_once (.code ymq::.inLoop ymi ymq::.inBlock 0 ymj::ymu) [U,U,U,x3,U,U,U,x7,x8,x9,U,U,U,U,U,U,U,U,U,U,U,U,U] h e
@[simp] theorem c_net_once:cfun Tryd.prog n_net_once=some net_once:=by kernel_rfl
@[simp] theorem e_net_once:hasBody Tryd.prog n_net_once=true:=by kernel_rfl
abbrev ymw:List AG:=[zz1 36 3,zz1 2 36]
abbrev ymx:List Bool:=[O,O,O,I,O,O,O,O,O,O,O,O,O,O,O,O,O,O,O,O,O,O,O,O,O,I,I,I,O,O,O,O,O,O,O,O,O]
abbrev ymy:List Bool:=[O,O,O,I,O,O,O,O,O,O,O,O,O,O,O,O,O,O,O,O,O,O,O,O,O,O,O,O,O,O,O,O,O,O,O,O,O]
abbrev ymz:List AG:=[zz6 35 27 1,zz1 27 35]
abbrev ymA:List AG:=[zz1 31 3,zz4 32 2 7,zz2 33 1 32,o 34 (.append 1 t_string 16 (.t 31) (.t 33)),zz1 3 34]
abbrev ymB:List AG:=[zz5 29 5 25 27,zz3 30 5 29,o 7 (.alloc [(.str []),(.int .i64 0),(.own 1 t_string []),(.own 1 t_string []),(.bool false)]),zzb 5 7 30]
abbrev ymC:ACode:=(.seq (.reg ymB) (.reg ymA))
abbrev ymD:List AG:=[zz7 28 27 26]
abbrev ymE:ACode:=(.seq (.reg ymD) (.seq (.cond (.t 28) .skip (.exit 2)) (.seq (.block 3 [] ymC) (.reg ymz))))
abbrev ymF:List AG:=[zz4 24 3 1,zz2 25 1 24,zza 26 25,zz9 27 0]
abbrev ymG:List Bool:=[O,I,O,I,O,O,O,O,O,O,O,O,I,I,I,O,O,O,O,O,O,O,O,O,O,O,O,O,O,O,O,O,O,O,O,O,O]
abbrev ymH:List Bool:=[O,I,O,I,O,O,O,O,O,O,O,O,O,O,O,O,O,O,O,O,O,O,O,O,O,O,O,O,O,O,O,O,O,O,O,O,O]
abbrev ymI:List AG:=[zz6 23 14 1,zz1 14 23]
abbrev ymJ:List AG:=[zz1 18 3,zz4 19 1 5,zz2 20 1 19,o 21 (.lit 1 [(.str [])] [(0,(.t 20))]),o 22 (.append 1 t_string 16 (.t 18) (.t 21)),zz1 3 22]
abbrev ymK:List AG:=[zz5 16 3 12 14,zz3 17 3 16,o 5 (.alloc [(.str []),(.str []),(.int .i64 0)]),zzb 3 5 17]
abbrev ymL:ACode:=(.seq (.reg ymK) (.reg ymJ))
abbrev ymM:List AG:=[zz7 15 14 13]
abbrev ymN:ACode:=(.seq (.reg ymM) (.seq (.cond (.t 15) .skip (.exit 0)) (.seq (.block 1 [] ymL) (.reg ymI))))
abbrev ymO:List AG:=[zz4 11 2 1,zz2 12 1 11,zza 13 12,zz9 14 0]
abbrev ymP:List AG:=[zz4 8 1 1,zz2 9 1 8,zzf 10 n_slices_Clone_string_string 9,zz1 3 10]
abbrev ymQ:List AG:=[o 1 (.box 4 (.t 0)),o 2 (.nilrow 1 t_string)]
abbrev net_used:AFun:=⟨(.seq (.reg ymQ) (.seq (.reg ymP) (.seq (.seq (.reg ymO) (.block 0 ymH (.loop ymG ymN))) (.seq (.seq (.reg ymF) (.block 2 ymy (.loop ymx ymE))) (.seq (.reg ymw) .ret))))),37,[.tmp 2]⟩
abbrev ymR:List It:=[.code (.seq (.reg ymw) .ret)]
abbrev ymS (x3 x25 x26 x27:AV) (h:List Ob) (e:Cx:=cx):Cfg:=atC n_net_used (.code ymE::.inLoop ymx ymE::.inBlock 2 ymy::ymR) [U,U,U,x3,U,U,U,U,U,U,U,U,U,U,U,U,U,U,U,U,U,U,U,U,U,x25,x26,x27,U,U,U,U,U,U,U,U,U] h e
abbrev ymT:List It:=[.code (.seq (.seq (.reg ymF) (.block 2 ymy (.loop ymx ymE))) (.seq (.reg ymw) .ret))]
abbrev ymU (x1 x3 x12 x13 x14:AV) (h:List Ob) (e:Cx:=cx):Cfg:=atC n_net_used (.code ymN::.inLoop ymG ymN::.inBlock 0 ymH::ymT) [U,x1,U,x3,U,U,U,U,U,U,U,U,x12,x13,x14,U,U,U,U,U,U,U,U,U,U,U,U,U,U,U,U,U,U,U,U,U,U] h e
@[simp] theorem c_net_used:cfun Tryd.prog n_net_used=some net_used:=by kernel_rfl
@[simp] theorem e_net_used:hasBody Tryd.prog n_net_used=true:=by kernel_rfl
abbrev ymV:List Bool:=[I,O,O,I,I,O,O,O,O,O,O,O,O,O,O,O,O,O,O,O,O,O,O,O,O,O,O,O,O,O,O,O,O,O,O,O,O,O,O,O,O,O,O,O,O,O,O,O,O,O,O,O,O,O,O,O,O,O,O,O,O,O,O,O,O,O,O,O,O,O,O,O,O,O]
abbrev ymW:List Bool:=[O,O,O,O,O,O,O,O,O,O,O,O,O,O,O,O,O,O,O,O,O,O,O,O,O,O,O,O,O,O,O,O,O,O,O,O,O,O,O,O,O,O,O,O,O,O,O,O,O,O,O,O,O,O,O,O,O,O,O,O,O,O,O,O,O,O,O,O,O,O,O,O,O,O]
abbrev ymX:List Bool:=[I,O,O,I,I,O,I,O,O,O,O,O,O,O,O,O,O,O,O,O,O,O,O,O,O,O,O,O,O,O,O,O,O,O,O,O,O,O,O,O,O,O,O,O,O,O,O,O,O,I,I,I,O,O,O,O,O,O,O,O,O,O,O,O,O,O,O,O,O,O,O,O,O,O]
abbrev ymY:List Bool:=[I,O,O,I,I,O,O,O,O,O,O,O,O,O,O,O,O,O,O,O,O,O,O,O,O,O,O,O,O,O,O,O,O,O,O,O,O,O,O,O,O,O,O,O,O,O,O,O,O,O,O,O,O,O,O,O,O,O,O,O,O,O,O,O,O,O,O,O,O,O,O,O,O,O]
abbrev ymZ:List AG:=[zz6 73 51 1,zz1 51 73]
abbrev yna:List AG:=[zz1 68 4,o 69 (.mkIface t_order_pile (.t 68)),zz1 70 8,o 71 (.mkIface t_int (.t 70)),zzg 72 n_container_heap_Push 69 71]
abbrev ynb:List AG:=[zz4 61 0 3,zz2 62 1 61,zz1 63 8,zz5 64 1 62 63,zz2 65 1 64,o 66 (.lenMap (.t 65)),o 67 (.cmp .eql (.sc .int) (.t 66) (.c (.int .i64 0)))]
abbrev ync:List AG:=[zz4 55 0 3,zz2 56 1 55,zz1 57 8,zz5 58 1 56 57,zz2 59 1 58,zz1 60 6,q (.delete (.sc .int) (.t 59) (.t 60))]
abbrev ynd:List AG:=[zz5 53 1 49 51,zz2 54 1 53,zz1 8 54]
abbrev yne:ACode:=(.seq (.reg ynd) (.seq (.reg ync) (.seq (.reg ynb) (.cond (.t 67) (.reg yna) .skip))))
abbrev ynf:List AG:=[zz7 52 51 50]
abbrev yng:ACode:=(.seq (.reg ynf) (.seq (.cond (.t 52) .skip (.exit 4)) (.seq (.block 5 [] yne) (.reg ymZ))))
abbrev ynh:List AG:=[zz4 45 1 3,zz2 46 1 45,zz1 47 6,zz5 48 1 46 47,zz2 49 1 48,zza 50 49,zz9 51 0]
abbrev yni:List AG:=[zz1 41 0,zz1 42 6,o 43 (.call (.t 41) [(.t 42)]),o 44 (.not (.t 43))]
abbrev ynj:List AG:=[zz1 37 4,o 38 (.mkIface t_order_pile (.t 37)),zzf 39 n_container_heap_Pop 38,o 40 (.tassert (.t 39) t_int (.int .i64 0) false),zz1 6 40]
abbrev ynk:ACode:=(.seq (.reg ynj) (.seq (.seq (.reg yni) (.cond (.t 44) .ret .skip)) (.seq (.reg ynh) (.block 4 ymY (.loop ymX yng)))))
abbrev ynl:List AG:=[zz1 32 4,o 33 (.nilck (.t 32)),zz2 34 1 33,zzf 35 n_order_pile_Len 34,o 36 (.cmp .gtr (.sc .int) (.t 35) (.c (.int .i64 0)))]
abbrev ynm:ACode:=(.seq (.seq (.reg ynl) (.cond (.t 36) .skip (.exit 2))) (.block 3 [] ynk))
abbrev ynn:List Bool:=[I,O,O,I,I,O,O,O,O,O,O,O,O,O,O,I,I,O,O,O,O,O,O,O,O,O,O,O,O,O,O,O,O,O,O,O,O,O,O,O,O,O,O,O,O,O,O,O,O,O,O,O,O,O,O,O,O,O,O,O,O,O,O,O,O,O,O,O,O,O,O,O,O,O]
abbrev yno:List Bool:=[I,O,O,I,I,O,O,O,O,O,O,O,O,O,O,O,O,O,O,O,O,O,O,O,O,O,O,O,O,O,O,O,O,O,O,O,O,O,O,O,O,O,O,O,O,O,O,O,O,O,O,O,O,O,O,O,O,O,O,O,O,O,O,O,O,O,O,O,O,O,O,O,O,O]
abbrev ynp:List AG:=[zz6 31 16 1,zz1 16 31]
abbrev ynq:List AG:=[zz1 26 4,o 27 (.mkIface t_order_pile (.t 26)),zz1 28 5,o 29 (.mkIface t_int (.t 28)),zzg 30 n_container_heap_Push 27 29]
abbrev ynr:List AG:=[zz4 19 0 3,zz2 20 1 19,zz1 21 5,zz5 22 1 20 21,zz2 23 1 22,o 24 (.lenMap (.t 23)),o 25 (.cmp .eql (.sc .int) (.t 24) (.c (.int .i64 0)))]
abbrev yns:List AG:=[zz1 18 16,zz1 5 18]
abbrev ynt:ACode:=(.seq (.reg yns) (.seq (.reg ynr) (.cond (.t 25) (.reg ynq) .skip)))
abbrev ynu:List AG:=[zz7 17 16 15]
abbrev ynv:ACode:=(.seq (.reg ynu) (.seq (.cond (.t 17) .skip (.exit 0)) (.seq (.block 1 [] ynt) (.reg ynp))))
abbrev ynw:List AG:=[zz4 13 3 1,zz2 14 1 13,zza 15 14,zz9 16 0]
abbrev ynx:List AG:=[o 11 (.lit 1 [] []),o 12 (.box 1 (.t 11)),zz1 4 12]
abbrev yny:List AG:=[zz3 9 4 1,zzf 10 n_order_wait 9,o 3 (.alloc [(.own 1 t_map_int_bool_2 []),(.own 1 t_int_2 [])]),zzb 2 3 10]
abbrev order_coming_1:AFun:=⟨(.seq (.reg yny) (.seq (.reg ynx) (.seq (.seq (.reg ynw) (.block 0 yno (.loop ynn ynv))) (.block 2 ymW (.loop ymV ynm))))),74,[]⟩
abbrev ynz:List It:=[.inBlock 3 [],.inLoop ymV ynm,.inBlock 2 ymW]
abbrev ynA (x0 x3 x4 x6 x49 x50 x51:AV) (h:List Ob) (e:Cx:=cx):Cfg:=atC n_order_coming_1 (.code yng::.inLoop ymX yng::.inBlock 4 ymY::ynz) [x0,U,U,x3,x4,U,x6,U,U,U,U,U,U,U,U,U,U,U,U,U,U,U,U,U,U,U,U,U,U,U,U,U,U,U,U,U,U,U,U,U,U,U,U,U,U,U,U,U,U,x49,x50,x51,U,U,U,U,U,U,U,U,U,U,U,U,U,U,U,U,U,U,U,U,U,U] h e
abbrev ynB (x0 x3 x4:AV) (h:List Ob) (e:Cx:=cx):Cfg:=atC n_order_coming_1 ynz [x0,U,U,x3,x4,U,U,U,U,U,U,U,U,U,U,U,U,U,U,U,U,U,U,U,U,U,U,U,U,U,U,U,U,U,U,U,U,U,U,U,U,U,U,U,U,U,U,U,U,U,U,U,U,U,U,U,U,U,U,U,U,U,U,U,U,U,U,U,U,U,U,U,U,U] h e
abbrev ynC:List It:=[]
abbrev ynD (x0 x3 x4:AV) (h:List Ob) (e:Cx:=cx):Cfg:=atC n_order_coming_1 (.code ynm::.inLoop ymV ynm::.inBlock 2 ymW::ynC) [x0,U,U,x3,x4,U,U,U,U,U,U,U,U,U,U,U,U,U,U,U,U,U,U,U,U,U,U,U,U,U,U,U,U,U,U,U,U,U,U,U,U,U,U,U,U,U,U,U,U,U,U,U,U,U,U,U,U,U,U,U,U,U,U,U,U,U,U,U,U,U,U,U,U,U] h e
abbrev ynE:List It:=[.code (.block 2 ymW (.loop ymV ynm))]
abbrev ynF (x0 x3 x4 x15 x16:AV) (h:List Ob) (e:Cx:=cx):Cfg:=atC n_order_coming_1 (.code ynv::.inLoop ynn ynv::.inBlock 0 yno::ynE) [x0,U,U,x3,x4,U,U,U,U,U,U,U,U,U,U,x15,x16,U,U,U,U,U,U,U,U,U,U,U,U,U,U,U,U,U,U,U,U,U,U,U,U,U,U,U,U,U,U,U,U,U,U,U,U,U,U,U,U,U,U,U,U,U,U,U,U,U,U,U,U,U,U,U,U,U] h e
abbrev ynG (x0 x3 x4:AV) (h:List Ob) (e:Cx:=cx):Cfg:=atC n_order_coming_1 ynE [x0,U,U,x3,x4,U,U,U,U,U,U,U,U,U,U,U,U,U,U,U,U,U,U,U,U,U,U,U,U,U,U,U,U,U,U,U,U,U,U,U,U,U,U,U,U,U,U,U,U,U,U,U,U,U,U,U,U,U,U,U,U,U,U,U,U,U,U,U,U,U,U,U,U,U] h e
@[simp] theorem c_order_coming_1:cfun Tryd.prog n_order_coming_1=some order_coming_1:=by kernel_rfl
@[simp] theorem e_order_coming_1:hasBody Tryd.prog n_order_coming_1=true:=by kernel_rfl
abbrev ynH:List AG:=[zz3 79 2 4,zzb 2 2 79]
abbrev ynI:List Bool:=[O,O,I,I,I,O,O,O,O,O,O,O,O,O,O,O,O,O,O,O,O,O,O,I,I,I,O,O,O,O,O,O,O,O,O,O,O,O,O,O,O,O,O,O,O,O,O,O,O,O,O,O,O,O,O,O,O,O,O,O,O,O,O,O,O,O,O,O,O,O,O,O,O,O,O,O,O,O,O,O]
abbrev ynJ:List Bool:=[O,O,I,O,I,O,O,O,O,O,O,O,O,O,O,O,O,O,O,O,O,O,O,O,O,O,O,O,O,O,O,O,O,O,O,O,O,O,O,O,O,O,O,O,O,O,O,O,O,O,O,O,O,O,O,O,O,O,O,O,O,O,O,O,O,O,O,O,O,O,O,O,O,O,O,O,O,O,O,O]
abbrev ynK:List AG:=[zz6 78 25 1,zz1 25 78]
abbrev ynL:List Bool:=[O,O,I,I,I,I,O,O,O,O,O,O,O,O,O,O,O,O,O,O,O,O,O,I,I,I,O,O,O,O,O,O,O,O,O,O,I,I,I,O,O,O,O,O,O,O,O,O,O,O,O,O,O,O,O,O,O,O,O,O,O,O,O,O,O,O,O,O,O,O,O,O,O,O,O,O,O,O,O,O]
abbrev ynM:List Bool:=[O,O,I,I,I,O,O,O,O,O,O,O,O,O,O,O,O,O,O,O,O,O,O,I,I,I,O,O,O,O,O,O,O,O,O,O,O,O,O,O,O,O,O,O,O,O,O,O,O,O,O,O,O,O,O,O,O,O,O,O,O,O,O,O,O,O,O,O,O,O,O,O,O,O,O,O,O,O,O,O]
abbrev ynN:List AG:=[zz6 77 38 1,zz1 38 77]
abbrev ynO:List AG:=[zz4 65 1 4,zz2 66 1 65,zz1 67 9,zz4 68 1 4,zz2 69 1 68,zz1 70 9,zz5 71 1 69 70,zz2 72 1 71,zz1 73 5,o 74 (.lit 1 [(.int .i64 0)] [(0,(.t 73))]),o 75 (.append 1 t_int 8 (.t 72) (.t 74)),zz5 76 1 66 67,zzb 1 76 75]
abbrev ynP:List AG:=[zz4 59 0 4,zz2 60 1 59,zz1 61 5,zz5 62 1 60 61,zz2 63 1 62,zz1 64 9,q (.upd (.sc .int) (.t 63) (.t 64) (.c (.bool true)))]
abbrev ynQ:ACode:=(.seq (.reg ynP) (.dreg [O,I,O,O,I,O,O,I,O,O,O,O,O] [13,13,13,11,11,11,11,11,10,11,13,13,14] ynO))
abbrev ynR:List AG:=[zz1 48 10,zz1 49 48,oy 50 49 (.off 0 (.t 4)),zzd 51 49 1 50,zze 52 49 5,oy 53 49 (.ixAddr 1 (.t 51) (.t 52)),zzd 54 49 1 53,zze 55 49 9,oy 56 49 (.lookup (.sc .int) (.bool false) (.t 54) (.t 55) false),oy 57 49 (.not (.t 56)),zz8 58 49 57]
abbrev ynS:List AG:=[zz1 43 3,zz1 44 8,o 45 (.lookup (.sc .str) (.int .i64 0) (.t 43) (.t 44) true),zz1 42 45,zzc 46 42 0,zzc 47 42 1,zz1 9 46,zz1 10 47]
abbrev ynT:List AG:=[zz5 40 1 36 38,zz2 41 1 40,zz1 8 41]
abbrev ynU:ACode:=(.seq (.reg ynT) (.seq (.reg ynS) (.seq (.reg ynR) (.cond (.t 58) ynQ .skip))))
abbrev ynV:List AG:=[zz7 39 38 37]
abbrev ynW:ACode:=(.seq (.reg ynV) (.seq (.cond (.t 39) .skip (.exit 2)) (.seq (.block 3 [] ynU) (.reg ynN))))
abbrev ynX:List AG:=[zz4 35 2 6,zz2 36 1 35,zza 37 36,zz9 38 0]
abbrev ynY:List AG:=[zz4 30 0 4,zz2 31 1 30,zz1 32 5,o 33 (.mkMap),zz5 34 1 31 32,zzb 1 34 33]
abbrev ynZ:List AG:=[zz1 27 25,zz5 28 5 23 25,zz3 29 5 28,o 6 (.alloc [(.str []),(.int .i64 0),(.own 1 t_string []),(.own 1 t_string []),(.bool false)]),zz1 5 27,zzb 5 6 29]
abbrev yoa:ACode:=(.seq (.reg ynZ) (.seq (.reg ynY) (.seq (.reg ynX) (.block 2 ynM (.loop ynL ynW)))))
abbrev yob:List AG:=[zz7 26 25 24]
abbrev yoc:ACode:=(.seq (.reg yob) (.seq (.cond (.t 26) .skip (.exit 0)) (.seq (.block 1 [] yoa) (.reg ynK))))
abbrev yod:List AG:=[zz4 22 3 1,zz2 23 1 22,zza 24 23,zz9 25 0]
abbrev yoe:List AG:=[zz4 13 3 1,zz2 14 1 13,zza 15 14,o 16 (.mkSlice 1 t_map_int_bool_2 8 .nilm (.t 15) (.t 15)),zz4 17 3 1,zz2 18 1 17,zza 19 18,o 20 (.mkSlice 1 t_int_2 24 (.list true 0 []) (.t 19) (.t 19)),o 21 (.build [(.list true 0 []),(.list true 0 [])] [(0,1,(.t 16)),(1,1,(.t 20))]),o 4 (.alloc [(.own 1 t_map_int_bool_2 []),(.own 1 t_int_2 [])]),zzb 2 4 21]
abbrev yof:List AG:=[zz3 11 4 1,zzf 12 n_order_places 11,zz1 3 12]
abbrev yog:List AG:=[o 1 (.box 4 (.t 0)),o 2 (.alloc [(.own 1 t_map_int_bool_2 []),(.own 1 t_int_2 [])])]
abbrev order_wait:AFun:=⟨(.seq (.reg yog) (.seq (.reg yof) (.seq (.oreg [[],[0],[1],[2,2],[],[4],[5],[6,6],[3,7],[],[9,8,0,1,2,3,4,5,6,7,8,9]] yoe) (.seq (.seq (.reg yod) (.block 0 ynJ (.loop ynI yoc))) (.seq (.reg ynH) .ret))))),80,[.cell 2 true 2]⟩
abbrev yoh:List It:=[.inBlock 1 [],.code (.reg ynK),.inLoop ynI yoc,.inBlock 0 ynJ,.code (.seq (.reg ynH) .ret)]
abbrev yoi (x2 x3 x4 x5 x23 x24 x25 x36 x37 x38:AV) (h:List Ob) (e:Cx:=cx):Cfg:=atC n_order_wait (.code ynW::.inLoop ynL ynW::.inBlock 2 ynM::yoh) [U,U,x2,x3,x4,x5,U,U,U,U,U,U,U,U,U,U,U,U,U,U,U,U,U,x23,x24,x25,U,U,U,U,U,U,U,U,U,U,x36,x37,x38,U,U,U,U,U,U,U,U,U,U,U,U,U,U,U,U,U,U,U,U,U,U,U,U,U,U,U,U,U,U,U,U,U,U,U,U,U,U,U,U,U] h e
abbrev yoj (x2 x3 x4 x23 x24 x25:AV) (h:List Ob) (e:Cx:=cx):Cfg:=atC n_order_wait yoh [U,U,x2,x3,x4,U,U,U,U,U,U,U,U,U,U,U,U,U,U,U,U,U,U,x23,x24,x25,U,U,U,U,U,U,U,U,U,U,U,U,U,U,U,U,U,U,U,U,U,U,U,U,U,U,U,U,U,U,U,U,U,U,U,U,U,U,U,U,U,U,U,U,U,U,U,U,U,U,U,U,U,U] h e
abbrev yok:List It:=[.code (.seq (.reg ynH) .ret)]
abbrev yol (x2 x3 x4 x23 x24 x25:AV) (h:List Ob) (e:Cx:=cx):Cfg:=atC n_order_wait (.code yoc::.inLoop ynI yoc::.inBlock 0 ynJ::yok) [U,U,x2,x3,x4,U,U,U,U,U,U,U,U,U,U,U,U,U,U,U,U,U,U,x23,x24,x25,U,U,U,U,U,U,U,U,U,U,U,U,U,U,U,U,U,U,U,U,U,U,U,U,U,U,U,U,U,U,U,U,U,U,U,U,U,U,U,U,U,U,U,U,U,U,U,U,U,U,U,U,U,U] h e
@[simp] theorem c_order_wait:cfun Tryd.prog n_order_wait=some order_wait:=by kernel_rfl
@[simp] theorem e_order_wait:hasBody Tryd.prog n_order_wait=true:=by kernel_rfl
abbrev yom:List AG:=[zz1 7 0,zz1 8 0,o 9 (.invoke (.t 8) "Len" []),o 10 (.ibin .sub (.t 9) (.c (.int .i64 1))),zzg 11 n_container_heap_up 7 10]
abbrev yon:List AG:=[zz1 4 0,zz1 5 1,o 6 (.invoke (.t 4) "Push" [(.t 5)])]
abbrev container_heap_Push:AFun:=⟨(.seq (.reg yon) (.reg yom)),12,[]⟩
@[simp] theorem c_container_heap_Push:cfun Tryd.prog n_container_heap_Push=some container_heap_Push:=by kernel_rfl
@[simp] theorem e_container_heap_Push:hasBody Tryd.prog n_container_heap_Push=true:=by kernel_rfl
abbrev yoo:List AG:=[zz1 3 0,zza 4 3,zz1 2 4]
abbrev yop:List AG:=[zz9 2 0]
abbrev order_pile_Len:AFun:=⟨(.seq (.reg yop) (.seq (.reg yoo) .ret)),5,[.tmp 2]⟩
@[simp] theorem c_order_pile_Len:cfun Tryd.prog n_order_pile_Len=some order_pile_Len:=by kernel_rfl
@[simp] theorem e_order_pile_Len:hasBody Tryd.prog n_order_pile_Len=true:=by kernel_rfl
abbrev yoq:List AG:=[zz1 13 0,o 14 (.invoke (.t 13) "Pop" []),zz1 2 14]
abbrev yor:List AG:=[zz1 10 0,zz1 11 3,o 12 (.call (.f n_container_heap_down) [(.t 10),(.c (.int .i64 0)),(.t 11)])]
abbrev yos:List AG:=[zz1 7 0,zz1 8 3,o 9 (.invoke (.t 7) "Swap" [(.c (.int .i64 0)),(.t 8)])]
abbrev yot:List AG:=[zz1 4 0,o 5 (.invoke (.t 4) "Len" []),o 6 (.ibin .sub (.t 5) (.c (.int .i64 1))),zz1 3 6]
abbrev you:List AG:=[o 2 (.mv (.c .nili))]
abbrev container_heap_Pop:AFun:=⟨(.seq (.reg you) (.seq (.reg yot) (.seq (.reg yos) (.seq (.reg yor) (.seq (.reg yoq) .ret))))),15,[.tmp 2]⟩
@[simp] theorem c_container_heap_Pop:cfun Tryd.prog n_container_heap_Pop=some container_heap_Pop:=by kernel_rfl
@[simp] theorem e_container_heap_Pop:hasBody Tryd.prog n_container_heap_Pop=true:=by kernel_rfl
abbrev yov:List AG:=[o 4 (.mv (.c (.int .i64 (-1))))]
abbrev yow:List Bool:=[I,I,O,O,O,O,O,I,I,O,O,O,O,O,O,O,O,O,O]
abbrev yox:List Bool:=[O,O,O,O,O,O,O,O,O,O,O,O,O,O,O,O,O,O,O]
abbrev yoy:List AG:=[zz6 18 8 1,zz1 8 18]
abbrev yoz:List AG:=[zz1 17 5,zz1 4 17]
abbrev yoA:ACode:=(.seq (.reg yoz) .ret)
abbrev yoB:List AG:=[zz1 11 1,zz1 12 0,zz1 13 5,zz5 14 5 12 13,zz3 15 5 14,o 16 (.call (.t 11) [(.t 15)])]
abbrev yoC:List AG:=[zz1 10 8,zz1 5 10]
abbrev yoD:ACode:=(.seq (.reg yoC) (.seq (.reg yoB) (.cond (.t 16) yoA .skip)))
abbrev yoE:List AG:=[zz7 9 8 7]
abbrev yoF:ACode:=(.seq (.reg yoE) (.seq (.cond (.t 9) .skip (.exit 0)) (.seq (.block 1 [] yoD) (.reg yoy))))
abbrev yoG:List AG:=[zz1 6 0,zza 7 6,zz9 8 0]
abbrev yoH:List AG:=[zz9 4 0]
abbrev slices_IndexFunc_api_Gate_api_Gate:AFun:=⟨(.seq (.reg yoH) (.seq (.seq (.reg yoG) (.block 0 yox (.loop yow yoF))) (.seq (.reg yov) .ret))),19,[.tmp 4]⟩
abbrev yoI:List It:=[.code (.seq (.reg yov) .ret)]
abbrev yoJ (x0 x1 x7 x8:AV) (h:List Ob) (e:Cx:=cx):Cfg:=atC n_slices_IndexFunc_api_Gate_api_Gate (.code yoF::.inLoop yow yoF::.inBlock 0 yox::yoI) [x0,x1,U,U,U,U,U,x7,x8,U,U,U,U,U,U,U,U,U,U] h e
@[simp] theorem c_slices_IndexFunc_api_Gate_api_Gate:cfun Tryd.prog n_slices_IndexFunc_api_Gate_api_Gate=some slices_IndexFunc_api_Gate_api_Gate:=by kernel_rfl
@[simp] theorem e_slices_IndexFunc_api_Gate_api_Gate:hasBody Tryd.prog n_slices_IndexFunc_api_Gate_api_Gate=true:=by kernel_rfl
abbrev yoK:List AG:=[zz1 35 6,zz1 2 35]
abbrev yoL:List Bool:=[O,O,O,O,O,O,I,O,O,O,O,O,O,O,O,O,O,O,O,O,O,O,O,O,O,I,I,I,O,O,O,O,O,O,O,O]
abbrev yoM:List Bool:=[O,O,O,O,O,O,I,O,O,O,O,O,O,O,O,O,O,O,O,O,O,O,O,O,O,O,O,O,O,O,O,O,O,O,O,O]
abbrev yoN:List AG:=[zz6 34 27 1,zz1 27 34]
abbrev yoO:List AG:=[zz1 31 6,zz1 32 8,o 33 (.append 1 t_string 16 (.t 31) (.t 32)),zz1 6 33]
abbrev yoP:List AG:=[zz5 29 1 25 27,zz2 30 1 29,zz1 8 30]
abbrev yoQ:ACode:=(.seq (.reg yoP) (.reg yoO))
abbrev yoR:List AG:=[zz7 28 27 26]
abbrev yoS:ACode:=(.seq (.reg yoR) (.seq (.cond (.t 28) .skip (.exit 2)) (.seq (.block 3 [] yoQ) (.reg yoN))))
abbrev yoT:List AG:=[zz1 25 0,zza 26 25,zz9 27 0]
abbrev yoU:List AG:=[zz1 23 3,o 24 (.call (.f n_slices_Grow_string_string) [(.c (.list true 0 [])),(.t 23)]),zz1 6 24]
abbrev yoV:List Bool:=[I,O,O,I,O,O,O,O,O,I,I,I,O,O,O,O,O,O,O,O,O,O,O,O,O,O,O,O,O,O,O,O,O,O,O,O]
abbrev yoW:List Bool:=[I,O,O,I,O,O,O,O,O,O,O,O,O,O,O,O,O,O,O,O,O,O,O,O,O,O,O,O,O,O,O,O,O,O,O,O]
abbrev yoX:List AG:=[zz6 22 11 1,zz1 11 22]
abbrev yoY:List AG:=[o 21 (.mkIface t_string (.c (.str [108,101,110,32,111,117,116,32,111,102,32,114,97,110,103,101]))),q (.panic (.t 21))]
abbrev yoZ:List AG:=[zz1 19 3,o 20 (.cmp .lss (.sc .int) (.t 19) (.c (.int .i64 0)))]
abbrev ypa:List AG:=[zz1 15 3,zz1 16 5,zza 17 16,o 18 (.ibin .add (.t 15) (.t 17)),zz1 3 18]
abbrev ypb:List AG:=[zz5 13 1 9 11,zz2 14 1 13,zz1 5 14]
abbrev ypc:ACode:=(.seq (.reg ypb) (.seq (.reg ypa) (.seq (.reg yoZ) (.cond (.t 20) (.reg yoY) .skip))))
abbrev ypd:List AG:=[zz7 12 11 10]
abbrev ype:ACode:=(.seq (.reg ypd) (.seq (.cond (.t 12) .skip (.exit 0)) (.seq (.block 1 [] ypc) (.reg yoX))))
abbrev ypf:List AG:=[zz1 9 0,zza 10 9,zz9 11 0]
abbrev ypg:List AG:=[zz9 3 0]
abbrev yph:List AG:=[o 2 (.nilrow 1 t_string)]
abbrev slices_Concat_string_string:AFun:=⟨(.seq (.reg yph) (.seq (.reg ypg) (.seq (.seq (.reg ypf) (.block 0 yoW (.loop yoV ype))) (.seq (.reg yoU) (.seq (.seq (.reg yoT) (.block 2 yoM (.loop yoL yoS))) (.seq (.reg yoK) .ret)))))),36,[.tmp 2]⟩
abbrev ypi:List It:=[.code (.seq (.reg yoK) .ret)]
abbrev ypj (x6 x25 x26 x27:AV) (h:List Ob) (e:Cx:=cx):Cfg:=atC n_slices_Concat_string_string (.code yoS::.inLoop yoL yoS::.inBlock 2 yoM::ypi) [U,U,U,U,U,U,x6,U,U,U,U,U,U,U,U,U,U,U,U,U,U,U,U,U,U,x25,x26,x27,U,U,U,U,U,U,U,U] h e
abbrev ypk:List It:=[.code (.seq (.reg yoU) (.seq (.seq (.reg yoT) (.block 2 yoM (.loop yoL yoS))) (.seq (.reg yoK) .ret)))]
abbrev ypl (x0 x3 x9 x10 x11:AV) (h:List Ob) (e:Cx:=cx):Cfg:=atC n_slices_Concat_string_string (.code ype::.inLoop yoV ype::.inBlock 0 yoW::ypk) [x0,U,U,x3,U,U,U,U,U,x9,x10,x11,U,U,U,U,U,U,U,U,U,U,U,U,U,U,U,U,U,U,U,U,U,U,U,U] h e
@[simp] theorem c_slices_Concat_string_string:cfun Tryd.prog n_slices_Concat_string_string=some slices_Concat_string_string:=by kernel_rfl
@[simp] theorem e_slices_Concat_string_string:hasBody Tryd.prog n_slices_Concat_string_string=true:=by kernel_rfl
abbrev ypm:List AG:=[zz1 4 0,o 5 (.cmp .neq (.sc .str) (.t 4) (.c (.str []))),zz1 6 5,zze 7 6 0,oy 8 6 (.lenStr (.t 7)),oy 9 6 (.cmp .leq (.sc .int) (.t 8) (.c (.int .i64 40))),zz8 10 6 9,zz1 11 10,zze 12 11 0,zze 13 11 3,oy 14 11 (.call (.f n_strings_IndexFunc) [(.t 12),(.t 13)]),oy 15 11 (.cmp .lss (.sc .int) (.t 14) (.c (.int .i64 0))),zz8 16 11 15,zz1 2 16]
abbrev ypn:List AG:=[o 3 (.mv (.f n_ident_name_plain_1))]
abbrev ypo:List AG:=[zzh 2]
abbrev ident_name_plain:AFun:=⟨(.seq (.reg ypo) (.seq (.reg ypn) (.seq (.reg ypm) .ret))),17,[.tmp 2]⟩
@[simp] theorem c_ident_name_plain:cfun Tryd.prog n_ident_name_plain=some ident_name_plain:=by kernel_rfl
@[simp] theorem e_ident_name_plain:hasBody Tryd.prog n_ident_name_plain=true:=by kernel_rfl
abbrev ypp:List Bool:=[I,I,O,O,O,O,O,O,O,O,O,O,O,O,O,O,O,O,O,O,O,O,O]
abbrev ypq:List Bool:=[O,O,O,O,O,O,O,O,O,O,O,O,O,O,O,O,O,O,O,O,O,O,O]
abbrev ypr:List AG:=[zz1 22 4,zz1 1 22]
abbrev yps:List AG:=[zz1 18 0,zz1 19 4,zz1 20 1,o 21 (.invoke (.t 18) "Swap" [(.t 19),(.t 20)])]
abbrev ypt:List AG:=[zz1 8 4,zz1 9 1,o 10 (.cmp .eql (.sc .int) (.t 8) (.t 9)),zz1 11 10,on 12 11 (.mv (.t 0)),on 13 11 (.mv (.t 1)),on 14 11 (.mv (.t 4)),on 15 11 (.invoke (.t 12) "Less" [(.t 13),(.t 14)]),on 16 11 (.not (.t 15)),o 17 (.pick (.t 11) (.c (.bool true)) (.t 16))]
abbrev ypu:List AG:=[zz1 5 1,o 6 (.ibin .sub (.t 5) (.c (.int .i64 1))),o 7 (.ibin .quo (.t 6) (.c (.int .i64 2))),zz1 4 7]
abbrev ypv:ACode:=(.seq (.reg ypu) (.seq (.seq (.reg ypt) (.cond (.t 17) (.exit 0) .skip)) (.seq (.reg yps) (.reg ypr))))
abbrev ypw:ACode:=(.block 1 [] ypv)
abbrev container_heap_up:AFun:=⟨(.block 0 ypq (.loop ypp ypw)),23,[]⟩
abbrev ypx:List It:=[]
abbrev ypy (x0 x1:AV) (h:List Ob) (e:Cx:=cx):Cfg:=atC n_container_heap_up (.code ypw::.inLoop ypp ypw::.inBlock 0 ypq::ypx) [x0,x1,U,U,U,U,U,U,U,U,U,U,U,U,U,U,U,U,U,U,U,U,U] h e
@[simp] theorem c_container_heap_up:cfun Tryd.prog n_container_heap_up=some container_heap_up:=by kernel_rfl
@[simp] theorem e_container_heap_up:hasBody Tryd.prog n_container_heap_up=true:=by kernel_rfl
abbrev ypz:List AG:=[zz1 45 7,zz1 46 1,o 47 (.cmp .gtr (.sc .int) (.t 45) (.t 46)),zz1 6 47]
abbrev ypA:List Bool:=[I,I,I,O,O,O,O,I,O,O,O,O,O,O,O,O,O,O,O,O,O,O,O,O,O,O,O,O,O,O,O,O,O,O,O,O,O,O,O,O,O,O,O,O,O,O,O,O]
abbrev ypB:List Bool:=[O,I,O,O,O,O,O,I,O,O,O,O,O,O,O,O,O,O,O,O,O,O,O,O,O,O,O,O,O,O,O,O,O,O,O,O,O,O,O,O,O,O,O,O,O,O,O,O]
abbrev ypC:List AG:=[zz1 44 9,zz1 7 44]
abbrev ypD:List AG:=[zz1 40 0,zz1 41 7,zz1 42 9,o 43 (.invoke (.t 40) "Swap" [(.t 41),(.t 42)])]
abbrev ypE:List AG:=[zz1 35 0,zz1 36 9,zz1 37 7,o 38 (.invoke (.t 35) "Less" [(.t 36),(.t 37)]),o 39 (.not (.t 38))]
abbrev ypF:List AG:=[zz1 34 10,zz1 9 34]
abbrev ypG:List AG:=[zz1 25 10,zz1 26 2,zz7 27 25 26,zz1 28 27,zze 29 28 0,zze 30 28 10,zze 31 28 8,oy 32 28 (.invoke (.t 29) "Less" [(.t 30),(.t 31)]),zz8 33 28 32]
abbrev ypH:List AG:=[zz1 23 8,zz6 24 23 1,zz1 10 24]
abbrev ypI:List AG:=[zz1 22 8,zz1 9 22]
abbrev ypJ:List AG:=[zz1 15 8,zz1 16 2,o 17 (.cmp .geq (.sc .int) (.t 15) (.t 16)),zz1 18 17,on 19 18 (.mv (.t 8)),on 20 18 (.cmp .lss (.sc .int) (.t 19) (.c (.int .i64 0))),o 21 (.pick (.t 18) (.c (.bool true)) (.t 20))]
abbrev ypK:List AG:=[zz1 12 7,o 13 (.ibin .mul (.c (.int .i64 2)) (.t 12)),zz6 14 13 1,zz1 8 14]
abbrev ypL:ACode:=(.seq (.reg ypK) (.seq (.seq (.reg ypJ) (.cond (.t 21) (.exit 0) .skip)) (.seq (.reg ypI) (.seq (.seq (.reg ypH) (.seq (.reg ypG) (.cond (.t 33) (.reg ypF) .skip))) (.seq (.seq (.reg ypE) (.cond (.t 39) (.exit 0) .skip)) (.seq (.reg ypD) (.reg ypC)))))))
abbrev ypM:ACode:=(.block 1 [] ypL)
abbrev ypN:List AG:=[zz1 11 1,zz1 7 11]
abbrev ypO:List AG:=[zzh 6]
abbrev container_heap_down:AFun:=⟨(.seq (.reg ypO) (.seq (.reg ypN) (.seq (.block 0 ypB (.loop ypA ypM)) (.seq (.reg ypz) .ret)))),48,[.tmp 6]⟩
abbrev ypP:List It:=[.code (.seq (.reg ypz) .ret)]
abbrev ypQ (x0 x1 x2 x7:AV) (h:List Ob) (e:Cx:=cx):Cfg:=atC n_container_heap_down (.code ypM::.inLoop ypA ypM::.inBlock 0 ypB::ypP) [x0,x1,x2,U,U,U,U,x7,U,U,U,U,U,U,U,U,U,U,U,U,U,U,U,U,U,U,U,U,U,U,U,U,U,U,U,U,U,U,U,U,U,U,U,U,U,U,U,U] h e
@[simp] theorem c_container_heap_down:cfun Tryd.prog n_container_heap_down=some container_heap_down:=by kernel_rfl
@[simp] theorem e_container_heap_down:hasBody Tryd.prog n_container_heap_down=true:=by kernel_rfl
abbrev ypR:List AG:=[zz1 26 0,zz1 4 26]
abbrev ypS:List AG:=[zz1 17 0,zz1 18 0,o 19 (.cap (.t 18)),o 20 (.slice 1 (.t 17) none (some (.t 19))),zz1 21 1,o 22 (.appendZ 1 t_string 16 (.str []) (.t 20) (.t 21)),zz1 23 0,zza 24 23,o 25 (.slice 1 (.t 22) none (some (.t 24))),zz1 0 25]
abbrev ypT:List AG:=[zz1 15 1,o 16 (.cmp .gtr (.sc .int) (.t 15) (.c (.int .i64 0)))]
abbrev ypU:List AG:=[zz1 8 1,zz1 9 0,o 10 (.cap (.t 9)),zz1 11 0,zza 12 11,o 13 (.ibin .sub (.t 10) (.t 12)),o 14 (.ibin .sub (.t 8) (.t 13)),zz1 1 14]
abbrev ypV:List AG:=[o 7 (.mkIface t_string (.c (.str [99,97,110,110,111,116,32,98,101,32,110,101,103,97,116,105,118,101]))),q (.panic (.t 7))]
abbrev ypW:List AG:=[zz1 5 1,o 6 (.cmp .lss (.sc .int) (.t 5) (.c (.int .i64 0)))]
abbrev ypX:List AG:=[o 4 (.nilrow 1 t_string)]
abbrev slices_Grow_string_string:AFun:=⟨(.seq (.reg ypX) (.seq (.seq (.reg ypW) (.cond (.t 6) (.reg ypV) .skip)) (.seq (.seq (.reg ypU) (.seq (.reg ypT) (.cond (.t 16) (.reg ypS) .skip))) (.seq (.reg ypR) .ret)))),27,[.tmp 4]⟩
@[simp] theorem c_slices_Grow_string_string:cfun Tryd.prog n_slices_Grow_string_string=some slices_Grow_string_string:=by kernel_rfl
@[simp] theorem e_slices_Grow_string_string:hasBody Tryd.prog n_slices_Grow_string_string=true:=by kernel_rfl
abbrev ypY:List AG:=[zz1 3 0,o 4 (.cmp .leq (.sc .int) (.t 3) (.c (.int .i32 32))),zz1 5 4,on 6 5 (.mv (.t 0)),on 7 5 (.cmp .gtr (.sc .int) (.t 6) (.c (.int .i32 126))),o 8 (.pick (.t 5) (.c (.bool true)) (.t 7)),zz1 2 8]
abbrev ypZ:List AG:=[zzh 2]
abbrev ident_name_plain_1:AFun:=⟨(.seq (.reg ypZ) (.seq (.reg ypY) .ret)),9,[.tmp 2]⟩
@[simp] theorem c_ident_name_plain_1:cfun Tryd.prog n_ident_name_plain_1=some ident_name_plain_1:=by kernel_rfl
@[simp] theorem e_ident_name_plain_1:hasBody Tryd.prog n_ident_name_plain_1=true:=by kernel_rfl
abbrev yqa:List AG:=[zz1 5 0,zz1 6 1,o 7 (.call (.f n_strings_indexFunc) [(.t 5),(.t 6),(.c (.bool true))]),zz1 4 7]
abbrev yqb:List AG:=[zz9 4 0]
abbrev strings_IndexFunc:AFun:=⟨(.seq (.reg yqb) (.seq (.reg yqa) .ret)),8,[.tmp 4]⟩
@[simp] theorem c_strings_IndexFunc:cfun Tryd.prog n_strings_IndexFunc=some strings_IndexFunc:=by kernel_rfl
@[simp] theorem e_strings_IndexFunc:hasBody Tryd.prog n_strings_IndexFunc=true:=by kernel_rfl
abbrev yqc:List AG:=[o 6 (.mv (.c (.int .i64 (-1))))]
abbrev yqd:List Bool:=[O,I,I,O,O,O,O,O,O,O,I,O,O,O,O,O,O,O,O,O,O]
abbrev yqe:List Bool:=[O,O,O,O,O,O,O,O,O,O,O,O,O,O,O,O,O,O,O,O,O]
abbrev yqf:List AG:=[zz1 20 7,zz1 6 20]
abbrev yqg:ACode:=(.seq (.reg yqf) .ret)
abbrev yqh:List AG:=[zz1 15 1,zz1 16 8,o 17 (.call (.t 15) [(.t 16)]),zz1 18 2,o 19 (.cmp .eql (.sc .bool) (.t 17) (.t 18))]
abbrev yqi:List AG:=[zzc 13 11 1,zzc 14 11 2,zz1 7 13,zz1 8 14]
abbrev yqj:ACode:=(.seq (.reg yqi) (.seq (.reg yqh) (.cond (.t 19) yqg .skip)))
abbrev yqk:List AG:=[o 11 (.next (.t 10)),zzc 12 11 0]
abbrev yql:ACode:=(.seq (.reg yqk) (.seq (.cond (.t 12) .skip (.exit 0)) (.block 1 [] yqj)))
abbrev yqm:List AG:=[zz1 9 0,o 10 (.range (.t 9))]
abbrev yqn:List AG:=[zz9 6 0]
abbrev strings_indexFunc:AFun:=⟨(.seq (.reg yqn) (.seq (.seq (.reg yqm) (.block 0 yqe (.loop yqd yql))) (.seq (.reg yqc) .ret))),21,[.tmp 6]⟩
abbrev yqo:List It:=[.code (.seq (.reg yqc) .ret)]
abbrev yqp (x1 x2 x10:AV) (h:List Ob) (e:Cx:=cx):Cfg:=atC n_strings_indexFunc (.code yql::.inLoop yqd yql::.inBlock 0 yqe::yqo) [U,x1,x2,U,U,U,U,U,U,U,x10,U,U,U,U,U,U,U,U,U,U] h e
@[simp] theorem c_strings_indexFunc:cfun Tryd.prog n_strings_indexFunc=some strings_indexFunc:=by kernel_rfl
@[simp] theorem e_strings_indexFunc:hasBody Tryd.prog n_strings_indexFunc=true:=by kernel_rfl
abbrev yqq:List AG:=[zz1 7 0,zz1 8 1,zz5 9 1 7 8,zz2 10 1 9,zz1 11 0,zz1 12 2,zz5 13 1 11 12,zz2 14 1 13,zz7 15 10 14,zz1 6 15]
abbrev yqr:List AG:=[zzh 6]
abbrev order_pile_Less:AFun:=⟨(.seq (.reg yqr) (.seq (.dreg [O,O,O,O,O,O,O,O,O,O] [11,11,11,11,11,11,11,11,11,11] yqq) .ret)),16,[.tmp 6]⟩
@[simp] theorem c_order_pile_Less:cfun Tryd.prog n_order_pile_Less=some order_pile_Less:=by kernel_rfl
@[simp] theorem e_order_pile_Less:hasBody Tryd.prog n_order_pile_Less=true:=by kernel_rfl
abbrev yqs:List AG:=[zz1 25 3,o 26 (.mkIface t_int (.t 25)),zz1 2 26]
abbrev yqt:List AG:=[zz1 14 0,zz1 15 0,o 16 (.nilck (.t 15)),zz2 17 1 16,zz1 18 0,o 19 (.nilck (.t 18)),zz2 20 1 19,zza 21 20,o 22 (.ibin .sub (.t 21) (.c (.int .i64 1))),o 23 (.slice 1 (.t 17) none (some (.t 22))),o 24 (.nilck (.t 14)),zzb 1 24 23]
abbrev yqu:List AG:=[zz1 4 0,o 5 (.nilck (.t 4)),zz2 6 1 5,zz1 7 0,o 8 (.nilck (.t 7)),zz2 9 1 8,zza 10 9,o 11 (.ibin .sub (.t 10) (.c (.int .i64 1))),zz5 12 1 6 11,zz2 13 1 12,zz1 3 13]
abbrev yqv:List AG:=[o 2 (.mv (.c .nili))]
abbrev order_pile_Pop:AFun:=⟨(.seq (.reg yqv) (.seq (.dreg [O,O,O,O,O,O,O,O,O,O,O] [12,12,12,12,12,12,12,12,12,12,12] yqu) (.seq (.dreg [O,O,O,O,O,O,O,O,O,O,O,O] [12,12,12,12,12,12,12,12,12,12,12,13] yqt) (.seq (.reg yqs) .ret)))),27,[.tmp 2]⟩
@[simp] theorem c_order_pile_Pop:cfun Tryd.prog n_order_pile_Pop=some order_pile_Pop:=by kernel_rfl
@[simp] theorem e_order_pile_Pop:hasBody Tryd.prog n_order_pile_Pop=true:=by kernel_rfl
abbrev yqw:List AG:=[zz1 4 0,zz1 5 0,o 6 (.nilck (.t 5)),zz2 7 1 6,zz1 8 1,o 9 (.tassert (.t 8) t_int (.int .i64 0) false),o 10 (.lit 1 [(.int .i64 0)] [(0,(.t 9))]),o 11 (.append 1 t_int 8 (.t 7) (.t 10)),o 12 (.nilck (.t 4)),zzb 1 12 11]
abbrev order_pile_Push:AFun:=⟨(.dreg [O,O,O,I,O,O,O,O,O,O] [10,8,8,8,7,7,8,10,10,11] yqw),13,[]⟩
@[simp] theorem c_order_pile_Push:cfun Tryd.prog n_order_pile_Push=some order_pile_Push:=by kernel_rfl
@[simp] theorem e_order_pile_Push:hasBody Tryd.prog n_order_pile_Push=true:=by kernel_rfl
abbrev yqx:List AG:=[zz1 6 0,zz1 7 1,zz1 8 0,zz1 9 2,zz1 10 0,zz1 11 2,zz5 12 1 10 11,zz2 13 1 12,zz1 14 0,zz1 15 1,zz5 16 1 14 15,zz2 17 1 16,zz5 18 1 6 7,zzb 1 18 13,zz5 19 1 8 9,zzb 1 19 17]
abbrev order_pile_Swap:AFun:=⟨(.dreg [O,O,O,O,O,O,O,O,O,O,O,O,O,O,O,O] [14,14,16,16,14,14,14,14,14,14,14,14,14,16,16,17] yqx),20,[]⟩
@[simp] theorem c_order_pile_Swap:cfun Tryd.prog n_order_pile_Swap=some order_pile_Swap:=by kernel_rfl
@[simp] theorem e_order_pile_Swap:hasBody Tryd.prog n_order_pile_Swap=true:=by kernel_rfl
end Go.Proofs.YtpinapmcemimcaaDoor
