/- The functions, as the abstract machine has them. Printed by a program. -/
import Derived.Test.YtpkngebjapfibaaDoorAMd
import Derived.Test.YtpkngebjapfibaaDoorChecked
import Derived.KernelRfl
set_option linter.unusedSimpArgs false
set_option linter.unusedVariables false
namespace Go.Proofs.YtpkngebjapfibaaDoor
open Go.AM Go.Proofs
abbrev zz1 (d i:Nat):AG:=o d (.mv (.t i))
abbrev zz2 (d k i:Nat):AG:=o d (.load false k (.t i))
abbrev zz3 (d k i:Nat):AG:=o d (.load true k (.t i))
abbrev zz4 (d k i:Nat):AG:=o d (.off k (.t i))
abbrev zz5 (d k i j:Nat):AG:=o d (.ixAddr k (.t i) (.t j))
abbrev zz6 (d i:Nat) (n:Int):AG:=o d (.ibin .add (.t i) (.c (.int .i64 n)))
abbrev zz7 (d i j:Nat):AG:=o d (.cmp .lss (.sc .int) (.t i) (.t j))
abbrev zz8 (d i j:Nat):AG:=o d (.pick (.t i) (.t j) (.c (.bool false)))
abbrev zz9 (d:Nat) (n:Int):AG:=o d (.mv (.c (.int .i64 n)))
abbrev zza (d i:Nat):AG:=o d (.len (.t i))
abbrev zzb (k a x:Nat):AG:=q (.store k (.t a) (.t x))
abbrev zzc (d i k:Nat):AG:=o d (.extract (.t i) k)
abbrev zzd (d j k i:Nat):AG:=oy d j (.load false k (.t i))
abbrev zze (d j i:Nat):AG:=oy d j (.mv (.t i))
abbrev zzf (d:Nat) (f:FuncId) (i:Nat):AG:=o d (.call (.f f) [(.t i)])
abbrev zzg (d:Nat) (f:FuncId) (i j:Nat):AG:=o d (.call (.f f) [(.t i),(.t j)])
abbrev zzh (d:Nat):AG:=o d (.mv (.c (.bool false)))
abbrev n_w07_OrderCones:FuncId:=4
abbrev n_w07_OrderRises:FuncId:=5
abbrev n_w07_OrderWaits:FuncId:=6
abbrev n_w07_OrderLevels:FuncId:=7
abbrev n_w07_works:FuncId:=9
abbrev n_w07_Little:FuncId:=10
abbrev n_order_Sort:FuncId:=11
abbrev n_r07_Sort:FuncId:=12
abbrev n_order_Check:FuncId:=13
abbrev n_r07_Check:FuncId:=14
abbrev n_r01_Ints:FuncId:=15
abbrev n_order_Levels:FuncId:=16
abbrev n_r07_Levels:FuncId:=17
abbrev n_r01_Texts:FuncId:=18
abbrev n_w05_Texts:FuncId:=19
abbrev n_order_Cone:FuncId:=20
abbrev n_r07_Cone:FuncId:=21
abbrev n_r06_Same:FuncId:=22
abbrev n_order_Trim:FuncId:=23
abbrev n_r07_Trim:FuncId:=24
abbrev n_w06_Few:FuncId:=25
abbrev n_net_Check:FuncId:=26
abbrev n_net_Place:FuncId:=27
abbrev n_r01_Has:FuncId:=28
abbrev n_order_right:FuncId:=30
abbrev n_order_places:FuncId:=31
abbrev n_order_coming:FuncId:=32
abbrev n_r07_right:FuncId:=33
abbrev n_r07_waits:FuncId:=34
abbrev n_r06_Check:FuncId:=35
abbrev n_order_wait:FuncId:=36
abbrev n_slices_Clone_string_string:FuncId:=37
abbrev n_net_Nets:FuncId:=38
abbrev n_r06_Nets:FuncId:=39
abbrev n_r07_leads:FuncId:=40
abbrev n_r06_SameGate:FuncId:=41
abbrev n_slices_Contains_string_string:FuncId:=42
abbrev n_w06_FewGate:FuncId:=43
abbrev n_net_Check_1:FuncId:=44
abbrev n_net_Check_2:FuncId:=45
abbrev n_net_need:FuncId:=46
abbrev n_slices_ContainsFunc_api_Gate_api_Gate:FuncId:=47
abbrev n_net_told:FuncId:=48
abbrev n_ident_Name:FuncId:=49
abbrev n_net_once:FuncId:=50
abbrev n_net_Gate:FuncId:=51
abbrev n_net_used:FuncId:=52
abbrev n_slices_Index_string_string:FuncId:=53
abbrev n_order_coming_1:FuncId:=58
abbrev n_container_heap_Push:FuncId:=59
abbrev n_order_pile_Len:FuncId:=60
abbrev n_container_heap_Pop:FuncId:=61
abbrev n_r06_limit:FuncId:=62
abbrev n_r06_Told:FuncId:=63
abbrev n_r04_Name:FuncId:=64
abbrev n_r06_twice:FuncId:=65
abbrev n_r06_Gate:FuncId:=66
abbrev n_r06_Used:FuncId:=67
abbrev n_slices_IndexFunc_api_Gate_api_Gate:FuncId:=68
abbrev n_slices_Concat_string_string:FuncId:=69
abbrev n_ident_name_plain:FuncId:=70
abbrev n_net_Gate_1:FuncId:=71
abbrev n_net_row:FuncId:=72
abbrev n_net_has:FuncId:=73
abbrev n_slices_ContainsFunc_string_string:FuncId:=74
abbrev n_container_heap_up:FuncId:=75
abbrev n_container_heap_down:FuncId:=76
abbrev n_r06_row:FuncId:=77
abbrev n_slices_Grow_string_string:FuncId:=78
abbrev n_ident_name_plain_1:FuncId:=79
abbrev n_strings_IndexFunc:FuncId:=80
abbrev n_strings_Trim:FuncId:=81
abbrev n_slices_IndexFunc_string_string:FuncId:=82
abbrev n_strings_indexFunc:FuncId:=83
abbrev n_order_pile_Less:FuncId:=121
abbrev n_order_pile_Pop:FuncId:=122
abbrev n_order_pile_Push:FuncId:=123
abbrev n_order_pile_Swap:FuncId:=124
abbrev t_int:TypeId:=3
abbrev t_bool:TypeId:=4
abbrev t_string:TypeId:=9
abbrev t_int_2:TypeId:=29
abbrev t_api_Gate_2:TypeId:=45
abbrev t_map_int_bool_2:TypeId:=61
abbrev t_api_Latch_2:TypeId:=64
abbrev t_net_wrong:TypeId:=72
abbrev t_order_pile:TypeId:=82
@[simp] theorem m_order_pile_Push:cmeth Tryd.prog t_order_pile "Push" = some (n_order_pile_Push,none):=by kernel_rfl
@[simp] theorem m_order_pile_Len:cmeth Tryd.prog t_order_pile "Len" = some (n_order_pile_Len,some (false,1)):=by kernel_rfl
@[simp] theorem m_order_pile_Swap:cmeth Tryd.prog t_order_pile "Swap" = some (n_order_pile_Swap,some (false,1)):=by kernel_rfl
@[simp] theorem m_order_pile_Pop:cmeth Tryd.prog t_order_pile "Pop" = some (n_order_pile_Pop,none):=by kernel_rfl
@[simp] theorem m_order_pile_Less:cmeth Tryd.prog t_order_pile "Less" = some (n_order_pile_Less,some (false,1)):=by kernel_rfl
abbrev t_order_pile_2:TypeId:=83
@[simp] theorem m_order_pile_2_Len:cmeth Tryd.prog t_order_pile_2 "Len" = some (n_order_pile_Len,none):=by kernel_rfl
@[simp] theorem m_order_pile_2_Swap:cmeth Tryd.prog t_order_pile_2 "Swap" = some (n_order_pile_Swap,none):=by kernel_rfl
@[simp] theorem m_order_pile_2_Less:cmeth Tryd.prog t_order_pile_2 "Less" = some (n_order_pile_Less,none):=by kernel_rfl
abbrev ya:List AG:=[zz1 33 5,zz1 34 33,zze 35 34 7,zz8 36 34 35,zz1 37 36,zze 38 37 8,zz8 39 37 38,zz1 4 39]
abbrev yd:List AG:=[zz3 28 4 2,zzf 29 n_order_Trim 28,zz3 30 4 2,zzf 31 n_r07_Trim 30,zzg 32 n_r06_Same 29 31,zz1 8 32]
abbrev ye:List AG:=[zz3 21 4 2,zz1 22 1,zzg 23 n_order_Cone 21 22,zz3 24 4 2,zz1 25 1,zzg 26 n_r07_Cone 24 25,zzg 27 n_r01_Texts 23 26,zz1 7 27]
abbrev yf:List AG:=[zz1 20 5,zz1 4 20]
abbrev yg:ACode:=(.seq (.reg yf) .ret)
abbrev yh:List AG:=[zz1 18 6,o 19 (.not (.t 18))]
abbrev yi:List AG:=[zz3 12 4 2,zzf 13 n_w07_Little 12,zz1 14 13,zze 15 14 1,oy 16 14 (.call (.f n_w05_Texts) [(.t 15),(.c (.int .i64 30))]),zz8 17 14 16,zz1 6 17]
abbrev yj:List AG:=[zzh 4]
abbrev yk:ACode:=(.seq (.reg yj) .ret)
abbrev ym:List AG:=[zz1 10 5,o 11 (.not (.t 10))]
abbrev yo:List AG:=[o 9 (.call (.f n_w07_works) []),zz1 5 9]
abbrev yp:List AG:=[o 2 (.box 4 (.t 0)),zzh 4]
abbrev w07_OrderCones:AFun:=⟨(.seq (.reg yp) (.seq (.reg yo) (.seq (.seq (.reg ym) (.cond (.t 11) yk .skip)) (.seq (.reg yi) (.seq (.seq (.reg yh) (.cond (.t 19) yg .skip)) (.seq (.dreg [O,O,O,I,O,O,O,O] [3,3,6,6,6,7,9,9] ye) (.seq (.dreg [O,O,I,O,O,O] [2,4,4,5,7,7] yd) (.seq (.reg ya) .ret)))))))),40,[.tmp 4]⟩
@[simp] theorem c_w07_OrderCones:cfun Tryd.prog n_w07_OrderCones=some w07_OrderCones:=by kernel_rfl
@[simp] theorem e_w07_OrderCones:hasBody Tryd.prog n_w07_OrderCones=true:=by kernel_rfl
abbrev yq:List AG:=[zz1 81 3,zz1 82 81,zze 83 82 14,oy 84 82 (.cmp .eql (.sc .int) (.t 83) (.c (.int .i64 0))),zz8 85 82 84,zz1 86 85,zze 87 86 11,oy 88 86 (.len (.t 87)),oy 89 86 (.off 3 (.t 1)),zzd 90 86 1 89,oy 91 86 (.len (.t 90)),oy 92 86 (.cmp .eql (.sc .int) (.t 88) (.t 91)),zz8 93 86 92,zz1 2 93]
abbrev yr:List AG:=[zz3 77 4 9,zzf 78 n_order_Check 77,zz1 76 78,zzc 79 76 0,zzc 80 76 1,zz1 14 79,zz1 15 80]
abbrev yu:List Bool:=[O,I,O,I,O,O,O,O,O,I,O,I,O,I,O,O,O,O,O,O,O,O,O,O,O,O,O,O,O,O,O,O,O,O,O,O,O,O,O,O,O,O,O,O,O,O,O,O,O,O,O,O,O,O,O,O,O,O,O,O,O,O,O,O,O,O,O,O,O,O,O,O,O,O,O,O,O,O,O,O,O,O,O,O,O,O,O,O,O,O,O,O,O,O]
abbrev yv:List Bool:=[O,I,O,I,O,O,O,O,O,I,O,I,O,O,O,O,O,O,O,O,O,O,O,O,O,O,O,O,O,O,O,O,O,O,O,O,O,O,O,O,O,O,O,O,O,O,O,O,O,O,O,O,O,O,O,O,O,O,O,O,O,O,O,O,O,O,O,O,O,O,O,O,O,O,O,O,O,O,O,O,O,O,O,O,O,O,O,O,O,O,O,O,O,O]
abbrev yw:List AG:=[zz1 68 13,zz6 69 68 1,zz1 13 69]
abbrev yx:List AG:=[zzh 2]
abbrev yy:ACode:=(.seq (.reg yx) .ret)
abbrev yz:List AG:=[zz1 70 11,zz1 71 13,zz5 72 1 70 71,zz2 73 1 72,zz1 74 13,o 75 (.cmp .neq (.sc .int) (.t 73) (.t 74))]
abbrev yA:ACode:=(.seq (.reg yz) (.cond (.t 75) yy .skip))
abbrev yB:List AG:=[zz1 64 13,zz1 65 11,zza 66 65,zz7 67 64 66]
abbrev yC:ACode:=(.seq (.seq (.reg yB) (.cond (.t 67) .skip (.exit 2))) (.seq (.block 3 [] yA) (.reg yw)))
abbrev yD:List AG:=[zz9 13 0]
abbrev yE:List AG:=[zz3 60 4 9,zzf 61 n_order_Sort 60,zz1 59 61,zzc 62 59 0,zzc 63 59 1,zz1 11 62,zz1 12 63]
abbrev yF:List Bool:=[O,I,O,I,O,O,O,I,O,I,I,O,O,O,O,O,O,O,O,O,O,O,O,O,O,O,O,O,O,O,O,O,O,O,O,O,O,O,O,O,O,O,O,O,O,O,O,O,O,O,O,O,O,O,O,O,O,O,O,O,O,O,O,O,O,O,O,O,O,O,O,O,O,O,O,O,O,O,O,O,O,O,O,O,O,O,O,O,O,O,O,O,O,O]
abbrev yG:List Bool:=[O,I,O,I,O,O,O,O,O,I,O,O,O,O,O,O,O,O,O,O,O,O,O,O,O,O,O,O,O,O,O,O,O,O,O,O,O,O,O,O,O,O,O,O,O,O,O,O,O,O,O,O,O,O,O,O,O,O,O,O,O,O,O,O,O,O,O,O,O,O,O,O,O,O,O,O,O,O,O,O,O,O,O,O,O,O,O,O,O,O,O,O,O,O]
abbrev yH:List AG:=[zz1 44 10,zz6 45 44 1,zz1 10 45]
abbrev yI:List AG:=[zz4 46 3 9,zz2 47 1 46,zz4 48 3 1,zz2 49 1 48,zz1 50 7,zz1 51 10,zz5 52 1 50 51,zz2 53 1 52,zz5 54 5 49 53,zz3 55 5 54,o 56 (.lit 5 [(.agg [(.str []),(.int .i64 0),(.list true 0 []),(.list true 0 []),(.bool false)])] [(0,(.t 55))]),o 57 (.append 5 t_api_Gate_2 80 (.t 47) (.t 56)),zz4 58 3 9,zzb 1 58 57]
abbrev yJ:List AG:=[zz1 40 10,zz1 41 7,zza 42 41,zz7 43 40 42]
abbrev yK:ACode:=(.seq (.seq (.reg yJ) (.cond (.t 43) .skip (.exit 0))) (.seq (.block 1 [] (.dreg [O,I,O,O,O,O,O,O,O,O,O,O,O,O] [12,12,11,11,11,11,11,11,11,11,12,14,14,15] yI)) (.reg yH)))
abbrev yL:List AG:=[zz9 10 0]
abbrev yM:List AG:=[zz4 39 3 9,q (.store 1 (.t 39) (.c (.list true 0 [])))]
abbrev yN:List AG:=[zz3 38 4 1,o 9 (.alloc [(.own 1 t_string []),(.own 1 t_string []),(.own 3 t_api_Latch_2 []),(.own 5 t_api_Gate_2 [])]),zzb 4 9 38]
abbrev yO:List AG:=[zz3 34 4 1,zzf 35 n_order_Sort 34,zz1 33 35,zzc 36 33 0,zzc 37 33 1,zz1 7 36,zz1 8 37]
abbrev yP:List AG:=[zz1 32 3,zz1 2 32]
abbrev yQ:ACode:=(.seq (.reg yP) .ret)
abbrev yR:List AG:=[zz1 26 4,o 27 (.not (.t 26)),zz1 28 27,on 29 28 (.mv (.t 5)),on 30 28 (.cmp .neq (.sc .int) (.t 29) (.c (.int .i64 0))),o 31 (.pick (.t 28) (.c (.bool true)) (.t 30))]
abbrev yS:List AG:=[zz3 22 4 1,zzf 23 n_order_Check 22,zz1 21 23,zzc 24 21 0,zzc 25 21 1,zz1 5 24,zz1 6 25]
abbrev yT:List AG:=[zz3 19 4 1,zzf 20 n_w06_Few 19,zz1 4 20]
abbrev yU:List AG:=[zzh 2]
abbrev yV:ACode:=(.seq (.reg yU) .ret)
abbrev yW:List AG:=[zz1 17 3,o 18 (.not (.t 17))]
abbrev yX:List AG:=[o 16 (.call (.f n_w07_works) []),zz1 3 16]
abbrev yY:List AG:=[o 1 (.box 4 (.t 0)),zzh 2]
abbrev w07_OrderRises:AFun:=⟨(.seq (.reg yY) (.seq (.reg yX) (.seq (.seq (.reg yW) (.cond (.t 18) yV .skip)) (.seq (.reg yT) (.seq (.reg yS) (.seq (.seq (.reg yR) (.cond (.t 31) yQ .skip)) (.seq (.reg yO) (.seq (.reg yN) (.seq (.reg yM) (.seq (.seq (.reg yL) (.block 0 yG (.loop yF yK))) (.seq (.reg yE) (.seq (.seq (.reg yD) (.block 2 yv (.loop yu yC))) (.seq (.reg yr) (.seq (.reg yq) .ret)))))))))))))),94,[.tmp 2]⟩
abbrev yZ:List It:=[.code (.seq (.reg yr) (.seq (.reg yq) .ret))]
abbrev yba (x1 x3 x9 x11 x13:AV) (h:List Ob) (e:Cx:=cx):Cfg:=atC n_w07_OrderRises (.code yC::.inLoop yu yC::.inBlock 2 yv::yZ) [U,x1,U,x3,U,U,U,U,U,x9,U,x11,U,x13,U,U,U,U,U,U,U,U,U,U,U,U,U,U,U,U,U,U,U,U,U,U,U,U,U,U,U,U,U,U,U,U,U,U,U,U,U,U,U,U,U,U,U,U,U,U,U,U,U,U,U,U,U,U,U,U,U,U,U,U,U,U,U,U,U,U,U,U,U,U,U,U,U,U,U,U,U,U,U,U] h e
abbrev ybb:List It:=[.code (.seq (.reg yE) (.seq (.seq (.reg yD) (.block 2 yv (.loop yu yC))) (.seq (.reg yr) (.seq (.reg yq) .ret))))]
abbrev ybc (x1 x3 x7 x9 x10:AV) (h:List Ob) (e:Cx:=cx):Cfg:=atC n_w07_OrderRises (.code yK::.inLoop yF yK::.inBlock 0 yG::ybb) [U,x1,U,x3,U,U,U,x7,U,x9,x10,U,U,U,U,U,U,U,U,U,U,U,U,U,U,U,U,U,U,U,U,U,U,U,U,U,U,U,U,U,U,U,U,U,U,U,U,U,U,U,U,U,U,U,U,U,U,U,U,U,U,U,U,U,U,U,U,U,U,U,U,U,U,U,U,U,U,U,U,U,U,U,U,U,U,U,U,U,U,U,U,U,U,U] h e
abbrev ybd (x1 x3 x9:AV) (h:List Ob) (e:Cx:=cx):Cfg:=atC n_w07_OrderRises ybb [U,x1,U,x3,U,U,U,U,U,x9,U,U,U,U,U,U,U,U,U,U,U,U,U,U,U,U,U,U,U,U,U,U,U,U,U,U,U,U,U,U,U,U,U,U,U,U,U,U,U,U,U,U,U,U,U,U,U,U,U,U,U,U,U,U,U,U,U,U,U,U,U,U,U,U,U,U,U,U,U,U,U,U,U,U,U,U,U,U,U,U,U,U,U,U] h e
@[simp] theorem c_w07_OrderRises:cfun Tryd.prog n_w07_OrderRises=some w07_OrderRises:=by kernel_rfl
@[simp] theorem e_w07_OrderRises:hasBody Tryd.prog n_w07_OrderRises=true:=by kernel_rfl
abbrev ybe:List AG:=[zz1 157 3,zz1 158 157,zze 159 158 7,oy 160 158 (.len (.t 159)),zze 161 158 8,oy 162 158 (.len (.t 161)),oy 163 158 (.ibin .add (.t 160) (.t 162)),oy 164 158 (.off 3 (.t 1)),zzd 165 158 1 164,oy 166 158 (.len (.t 165)),oy 167 158 (.cmp .eql (.sc .int) (.t 163) (.t 166)),zz8 168 158 167,zz1 2 168]
abbrev ybf:List Bool:=[O,I,O,I,O,O,O,I,I,I,O,O,O,I,O,O,O,O,O,O,O,O,O,O,O,O,O,O,O,O,O,O,O,O,O,O,O,O,O,O,O,O,O,O,O,O,O,O,O,O,O,O,O,O,O,O,O,O,O,O,O,O,O,O,O,O,O,O,O,O,O,O,O,O,O,O,O,O,O,O,O,O,O,O,O,O,O,O,O,O,O,O,O,O,O,O,O,O,O,O,O,O,O,O,O,O,O,O,O,O,O,O,O,O,O,O,O,O,O,O,O,O,O,O,O,O,O,O,O,O,O,O,O,O,O,O,O,O,O,O,O,O,O,O,O,O,O,O,O,O,O,O,O,O,O,O,O,O,O,O,O,O,O,O,O,O,O,O,O]
abbrev ybg:List Bool:=[O,I,O,I,O,O,O,I,I,O,O,O,O,O,O,O,O,O,O,O,O,O,O,O,O,O,O,O,O,O,O,O,O,O,O,O,O,O,O,O,O,O,O,O,O,O,O,O,O,O,O,O,O,O,O,O,O,O,O,O,O,O,O,O,O,O,O,O,O,O,O,O,O,O,O,O,O,O,O,O,O,O,O,O,O,O,O,O,O,O,O,O,O,O,O,O,O,O,O,O,O,O,O,O,O,O,O,O,O,O,O,O,O,O,O,O,O,O,O,O,O,O,O,O,O,O,O,O,O,O,O,O,O,O,O,O,O,O,O,O,O,O,O,O,O,O,O,O,O,O,O,O,O,O,O,O,O,O,O,O,O,O,O,O,O,O,O,O,O]
abbrev ybh:List AG:=[zz1 114 13,zz6 115 114 1,zz1 13 115]
abbrev ybi:List AG:=[zzh 2]
abbrev ybj:ACode:=(.seq (.reg ybi) .ret)
abbrev ybk:List AG:=[zz1 138 8,zz4 139 0 14,zz2 140 1 139,zzg 141 n_r01_Has 138 140,zz1 142 9,zz4 143 0 14,zz2 144 1 143,zzg 145 n_r01_Has 142 144,o 146 (.cmp .eql (.sc .bool) (.t 141) (.t 145)),zz1 147 146,on 148 147 (.mv (.t 8)),on 149 147 (.off 0 (.t 14)),on 150 147 (.load false 1 (.t 149)),on 151 147 (.call (.f n_r01_Has) [(.t 148),(.t 150)]),on 152 147 (.mv (.t 151)),zze 153 152 15,oy 154 152 (.not (.t 153)),on 155 147 (.pick (.t 152) (.t 154) (.c (.bool false))),o 156 (.pick (.t 147) (.c (.bool true)) (.t 155))]
abbrev ybl:List Bool:=[O,I,O,I,O,O,O,I,I,I,O,O,O,I,I,I,I,O,O,O,O,O,O,O,O,O,O,O,O,O,O,O,O,O,O,O,O,O,O,O,O,O,O,O,O,O,O,O,O,O,O,O,O,O,O,O,O,O,O,O,O,O,O,O,O,O,O,O,O,O,O,O,O,O,O,O,O,O,O,O,O,O,O,O,O,O,O,O,O,O,O,O,O,O,O,O,O,O,O,O,O,O,O,O,O,O,O,O,O,O,O,O,O,O,O,O,O,O,O,O,O,O,O,O,O,O,O,O,O,O,O,O,O,O,O,O,O,O,O,O,O,O,O,O,O,O,O,O,O,O,O,O,O,O,O,O,O,O,O,O,O,O,O,O,O,O,O,O,O]
abbrev ybm:List Bool:=[O,I,O,I,O,O,O,I,I,I,O,O,O,I,I,I,O,O,O,O,O,O,O,O,O,O,O,O,O,O,O,O,O,O,O,O,O,O,O,O,O,O,O,O,O,O,O,O,O,O,O,O,O,O,O,O,O,O,O,O,O,O,O,O,O,O,O,O,O,O,O,O,O,O,O,O,O,O,O,O,O,O,O,O,O,O,O,O,O,O,O,O,O,O,O,O,O,O,O,O,O,O,O,O,O,O,O,O,O,O,O,O,O,O,O,O,O,O,O,O,O,O,O,O,O,O,O,O,O,O,O,O,O,O,O,O,O,O,O,O,O,O,O,O,O,O,O,O,O,O,O,O,O,O,O,O,O,O,O,O,O,O,O,O,O,O,O,O,O]
abbrev ybn:List AG:=[zz1 126 16,zz6 127 126 1,zz1 16 127]
abbrev ybo:List AG:=[zz1 128 15,zz1 129 128,on 130 129 (.mv (.t 8)),on 131 129 (.off 2 (.t 14)),on 132 129 (.load false 1 (.t 131)),on 133 129 (.mv (.t 16)),on 134 129 (.ixAddr 1 (.t 132) (.t 133)),on 135 129 (.load false 1 (.t 134)),on 136 129 (.call (.f n_r01_Has) [(.t 130),(.t 135)]),o 137 (.pick (.t 129) (.c (.bool true)) (.t 136)),zz1 15 137]
abbrev ybp:List AG:=[zz1 121 16,zz4 122 2 14,zz2 123 1 122,zza 124 123,zz7 125 121 124]
abbrev ybq:ACode:=(.seq (.seq (.reg ybp) (.cond (.t 125) .skip (.exit 6))) (.seq (.block 7 [] (.reg ybo)) (.reg ybn)))
abbrev ybr:List AG:=[zz9 16 0]
abbrev ybs:List AG:=[zzh 15]
abbrev ybt:List AG:=[zz4 116 3 1,zz2 117 1 116,zz1 118 13,zz5 119 5 117 118,zz3 120 5 119,o 14 (.alloc [(.str []),(.int .i64 0),(.own 1 t_string []),(.own 1 t_string []),(.bool false)]),zzb 5 14 120]
abbrev ybu:ACode:=(.seq (.reg ybt) (.seq (.reg ybs) (.seq (.seq (.reg ybr) (.block 6 ybm (.loop ybl ybq))) (.seq (.dreg [O,O,O,O,O,O,I,O,O,O,O,O,O,O,O,O,O,O,O] [4,4,4,8,8,8,8,14,14,14,14,14,14,20,20,20,20,20,20] ybk) (.cond (.t 156) ybj .skip)))))
abbrev ybv:List AG:=[zz1 109 13,zz4 110 3 1,zz2 111 1 110,zza 112 111,zz7 113 109 112]
abbrev ybw:ACode:=(.seq (.seq (.reg ybv) (.cond (.t 113) .skip (.exit 4))) (.seq (.block 5 [] ybu) (.reg ybh)))
abbrev ybx:List AG:=[zz9 13 0]
abbrev yby:List Bool:=[O,I,O,I,O,O,O,I,I,I,I,O,O,O,O,O,O,O,O,O,O,O,O,O,O,O,O,O,O,O,O,O,O,O,O,O,O,O,O,O,O,O,O,O,O,O,O,O,O,O,O,O,O,O,O,O,O,O,O,O,O,O,O,O,O,O,O,O,O,O,O,O,O,O,O,O,O,O,O,O,O,O,O,O,O,O,O,O,O,O,O,O,O,O,O,O,O,O,O,O,O,O,O,O,O,O,O,O,O,O,O,O,O,O,O,O,O,O,O,O,O,O,O,O,O,O,O,O,O,O,O,O,O,O,O,O,O,O,O,O,O,O,O,O,O,O,O,O,O,O,O,O,O,O,O,O,O,O,O,O,O,O,O,O,O,O,O,O,O]
abbrev ybz:List Bool:=[O,I,O,I,O,O,O,I,I,I,O,O,O,O,O,O,O,O,O,O,O,O,O,O,O,O,O,O,O,O,O,O,O,O,O,O,O,O,O,O,O,O,O,O,O,O,O,O,O,O,O,O,O,O,O,O,O,O,O,O,O,O,O,O,O,O,O,O,O,O,O,O,O,O,O,O,O,O,O,O,O,O,O,O,O,O,O,O,O,O,O,O,O,O,O,O,O,O,O,O,O,O,O,O,O,O,O,O,O,O,O,O,O,O,O,O,O,O,O,O,O,O,O,O,O,O,O,O,O,O,O,O,O,O,O,O,O,O,O,O,O,O,O,O,O,O,O,O,O,O,O,O,O,O,O,O,O,O,O,O,O,O,O,O,O,O,O,O,O]
abbrev ybA:List AG:=[zz1 43 10,zz6 44 43 1,zz1 10 44]
abbrev ybB:List AG:=[zz1 104 9,zz4 105 0 11,zz2 106 1 105,o 107 (.lit 1 [(.str [])] [(0,(.t 106))]),o 108 (.append 1 t_string 16 (.t 104) (.t 107)),zz1 9 108]
abbrev ybC:List AG:=[zzh 2]
abbrev ybD:ACode:=(.seq (.reg ybC) .ret)
abbrev ybE:List AG:=[zz1 100 9,zz4 101 0 11,zz2 102 1 101,zzg 103 n_r01_Has 100 102]
abbrev ybF:List Bool:=[O,I,O,I,O,O,O,I,I,I,I,I,I,O,O,O,O,O,O,O,O,O,O,O,O,O,O,O,O,O,O,O,O,O,O,O,O,O,O,O,O,O,O,O,O,O,O,O,O,O,O,O,O,O,O,O,O,O,O,O,O,O,O,O,O,O,O,O,O,O,O,O,O,O,O,O,O,O,O,O,O,O,O,O,O,O,O,O,O,O,O,O,O,O,O,O,O,O,O,O,O,O,O,O,O,O,O,O,O,O,O,O,O,O,O,O,O,O,O,O,O,O,O,O,O,O,O,O,O,O,O,O,O,O,O,O,O,O,O,O,O,O,O,O,O,O,O,O,O,O,O,O,O,O,O,O,O,O,O,O,O,O,O,O,O,O,O,O,O]
abbrev ybG:List Bool:=[O,I,O,I,O,O,O,I,I,I,I,I,O,O,O,O,O,O,O,O,O,O,O,O,O,O,O,O,O,O,O,O,O,O,O,O,O,O,O,O,O,O,O,O,O,O,O,O,O,O,O,O,O,O,O,O,O,O,O,O,O,O,O,O,O,O,O,O,O,O,O,O,O,O,O,O,O,O,O,O,O,O,O,O,O,O,O,O,O,O,O,O,O,O,O,O,O,O,O,O,O,O,O,O,O,O,O,O,O,O,O,O,O,O,O,O,O,O,O,O,O,O,O,O,O,O,O,O,O,O,O,O,O,O,O,O,O,O,O,O,O,O,O,O,O,O,O,O,O,O,O,O,O,O,O,O,O,O,O,O,O,O,O,O,O,O,O,O,O]
abbrev ybH:List AG:=[zz1 73 12,zz6 74 73 1,zz1 12 74]
abbrev ybI:List AG:=[zzh 2]
abbrev ybJ:ACode:=(.seq (.reg ybI) .ret)
abbrev ybK:List AG:=[zz3 75 4 1,zz4 76 2 11,zz2 77 1 76,zz1 78 12,zz5 79 1 77 78,zz2 80 1 79,zzg 81 n_net_Place 75 80,zz4 82 0 1,zz2 83 1 82,zza 84 83,zz4 85 2 1,zz2 86 1 85,zza 87 86,o 88 (.ibin .add (.t 84) (.t 87)),o 89 (.cmp .geq (.sc .int) (.t 81) (.t 88)),zz1 90 89,zze 91 90 9,oy 92 90 (.off 2 (.t 11)),zzd 93 90 1 92,zze 94 90 12,oy 95 90 (.ixAddr 1 (.t 93) (.t 94)),zzd 96 90 1 95,oy 97 90 (.call (.f n_r01_Has) [(.t 91),(.t 96)]),oy 98 90 (.not (.t 97)),zz8 99 90 98]
abbrev ybL:ACode:=(.seq (.dreg [O,O,O,O,O,O,O,O,I,O,O,I,O,O,O,O,O,O,O,O,O,O,O,O,O] [7,7,7,7,7,7,23,23,23,23,23,23,23,23,23,23,23,23,23,23,23,23,26,26,26] ybK) (.cond (.t 99) ybJ .skip))
abbrev ybM:List AG:=[zz1 68 12,zz4 69 2 11,zz2 70 1 69,zza 71 70,zz7 72 68 71]
abbrev ybN:ACode:=(.seq (.seq (.reg ybM) (.cond (.t 72) .skip (.exit 2))) (.seq (.block 3 [] ybL) (.reg ybH)))
abbrev ybO:List AG:=[zz9 12 0]
abbrev ybP:List AG:=[zz4 60 3 1,zz2 61 1 60,zz1 62 7,zz1 63 10,zz5 64 1 62 63,zz2 65 1 64,zz5 66 5 61 65,zz3 67 5 66,o 11 (.alloc [(.str []),(.int .i64 0),(.own 1 t_string []),(.own 1 t_string []),(.bool false)]),zzb 5 11 67]
abbrev ybQ:List AG:=[zzh 2]
abbrev ybR:ACode:=(.seq (.reg ybQ) .ret)
abbrev ybS:List AG:=[zz1 45 7,zz1 46 10,zz5 47 1 45 46,zz2 48 1 47,o 49 (.cmp .lss (.sc .int) (.t 48) (.c (.int .i64 0))),zz1 50 49,on 51 50 (.mv (.t 7)),on 52 50 (.mv (.t 10)),on 53 50 (.ixAddr 1 (.t 51) (.t 52)),on 54 50 (.load false 1 (.t 53)),on 55 50 (.off 3 (.t 1)),on 56 50 (.load false 1 (.t 55)),on 57 50 (.len (.t 56)),on 58 50 (.cmp .geq (.sc .int) (.t 54) (.t 57)),o 59 (.pick (.t 50) (.c (.bool true)) (.t 58))]
abbrev ybT:ACode:=(.seq (.seq (.dreg [O,O,O,O,O,O,O,O,O,O,O,O,O,O,O] [16,16,16,16,16,16,16,16,16,16,16,16,16,16,16] ybS) (.cond (.t 59) ybR .skip)) (.seq (.dreg [O,I,O,O,O,I,O,I,O,O] [10,10,10,10,10,10,10,10,10,11] ybP) (.seq (.seq (.reg ybO) (.block 2 ybG (.loop ybF ybN))) (.seq (.seq (.reg ybE) (.cond (.t 103) ybD .skip)) (.reg ybB)))))
abbrev ybU:List AG:=[zz1 39 10,zz1 40 7,zza 41 40,zz7 42 39 41]
abbrev ybV:ACode:=(.seq (.seq (.reg ybU) (.cond (.t 42) .skip (.exit 0))) (.seq (.block 1 [] ybT) (.reg ybA)))
abbrev ybW:List AG:=[zz9 10 0]
abbrev ybX:List AG:=[o 9 (.nilrow 1 t_string)]
abbrev ybY:List AG:=[zz3 35 4 1,zzf 36 n_order_Sort 35,zz1 34 36,zzc 37 34 0,zzc 38 34 1,zz1 7 37,zz1 8 38]
abbrev ybZ:List AG:=[zz1 33 3,zz1 2 33]
abbrev yca:ACode:=(.seq (.reg ybZ) .ret)
abbrev ycb:List AG:=[zz1 27 4,o 28 (.not (.t 27)),zz1 29 28,on 30 29 (.mv (.t 5)),on 31 29 (.cmp .neq (.sc .int) (.t 30) (.c (.int .i64 0))),o 32 (.pick (.t 29) (.c (.bool true)) (.t 31))]
abbrev ycc:List AG:=[zz3 23 4 1,zzf 24 n_net_Check 23,zz1 22 24,zzc 25 22 0,zzc 26 22 1,zz1 5 25,zz1 6 26]
abbrev ycd:List AG:=[zz3 20 4 1,zzf 21 n_w06_Few 20,zz1 4 21]
abbrev yce:List AG:=[zzh 2]
abbrev ycf:ACode:=(.seq (.reg yce) .ret)
abbrev ycg:List AG:=[zz1 18 3,o 19 (.not (.t 18))]
abbrev ych:List AG:=[o 17 (.call (.f n_w07_works) []),zz1 3 17]
abbrev yci:List AG:=[o 1 (.box 4 (.t 0)),zzh 2]
abbrev w07_OrderWaits:AFun:=⟨(.seq (.reg yci) (.seq (.reg ych) (.seq (.seq (.reg ycg) (.cond (.t 19) ycf .skip)) (.seq (.reg ycd) (.seq (.reg ycc) (.seq (.seq (.reg ycb) (.cond (.t 32) yca .skip)) (.seq (.reg ybY) (.seq (.reg ybX) (.seq (.seq (.reg ybW) (.block 0 ybz (.loop yby ybV))) (.seq (.seq (.reg ybx) (.block 4 ybg (.loop ybf ybw))) (.seq (.reg ybe) .ret))))))))))),169,[.tmp 2]⟩
abbrev ycj:List It:=[.code (.seq (.dreg [O,O,O,O,O,O,I,O,O,O,O,O,O,O,O,O,O,O,O] [4,4,4,8,8,8,8,14,14,14,14,14,14,20,20,20,20,20,20] ybk) (.cond (.t 156) ybj .skip)),.inBlock 5 [],.code (.reg ybh),.inLoop ybf ybw,.inBlock 4 ybg,.code (.seq (.reg ybe) .ret)]
abbrev yck (x1 x3 x7 x8 x9 x13 x14 x15 x16:AV) (h:List Ob) (e:Cx:=cx):Cfg:=atC n_w07_OrderWaits (.code ybq::.inLoop ybl ybq::.inBlock 6 ybm::ycj) [U,x1,U,x3,U,U,U,x7,x8,x9,U,U,U,x13,x14,x15,x16,U,U,U,U,U,U,U,U,U,U,U,U,U,U,U,U,U,U,U,U,U,U,U,U,U,U,U,U,U,U,U,U,U,U,U,U,U,U,U,U,U,U,U,U,U,U,U,U,U,U,U,U,U,U,U,U,U,U,U,U,U,U,U,U,U,U,U,U,U,U,U,U,U,U,U,U,U,U,U,U,U,U,U,U,U,U,U,U,U,U,U,U,U,U,U,U,U,U,U,U,U,U,U,U,U,U,U,U,U,U,U,U,U,U,U,U,U,U,U,U,U,U,U,U,U,U,U,U,U,U,U,U,U,U,U,U,U,U,U,U,U,U,U,U,U,U,U,U,U,U,U,U] h e
abbrev ycl (x1 x3 x7 x8 x9 x13 x14 x15:AV) (h:List Ob) (e:Cx:=cx):Cfg:=atC n_w07_OrderWaits ycj [U,x1,U,x3,U,U,U,x7,x8,x9,U,U,U,x13,x14,x15,U,U,U,U,U,U,U,U,U,U,U,U,U,U,U,U,U,U,U,U,U,U,U,U,U,U,U,U,U,U,U,U,U,U,U,U,U,U,U,U,U,U,U,U,U,U,U,U,U,U,U,U,U,U,U,U,U,U,U,U,U,U,U,U,U,U,U,U,U,U,U,U,U,U,U,U,U,U,U,U,U,U,U,U,U,U,U,U,U,U,U,U,U,U,U,U,U,U,U,U,U,U,U,U,U,U,U,U,U,U,U,U,U,U,U,U,U,U,U,U,U,U,U,U,U,U,U,U,U,U,U,U,U,U,U,U,U,U,U,U,U,U,U,U,U,U,U,U,U,U,U,U,U] h e
abbrev ycm:List It:=[.code (.seq (.reg ybe) .ret)]
abbrev ycn (x1 x3 x7 x8 x9 x13:AV) (h:List Ob) (e:Cx:=cx):Cfg:=atC n_w07_OrderWaits (.code ybw::.inLoop ybf ybw::.inBlock 4 ybg::ycm) [U,x1,U,x3,U,U,U,x7,x8,x9,U,U,U,x13,U,U,U,U,U,U,U,U,U,U,U,U,U,U,U,U,U,U,U,U,U,U,U,U,U,U,U,U,U,U,U,U,U,U,U,U,U,U,U,U,U,U,U,U,U,U,U,U,U,U,U,U,U,U,U,U,U,U,U,U,U,U,U,U,U,U,U,U,U,U,U,U,U,U,U,U,U,U,U,U,U,U,U,U,U,U,U,U,U,U,U,U,U,U,U,U,U,U,U,U,U,U,U,U,U,U,U,U,U,U,U,U,U,U,U,U,U,U,U,U,U,U,U,U,U,U,U,U,U,U,U,U,U,U,U,U,U,U,U,U,U,U,U,U,U,U,U,U,U,U,U,U,U,U,U] h e
abbrev yco:List It:=[.code (.seq (.seq (.reg ybE) (.cond (.t 103) ybD .skip)) (.reg ybB)),.inBlock 1 [],.code (.reg ybA),.inLoop yby ybV,.inBlock 0 ybz,.code (.seq (.seq (.reg ybx) (.block 4 ybg (.loop ybf ybw))) (.seq (.reg ybe) .ret))]
abbrev ycp (x1 x3 x7 x8 x9 x10 x11 x12:AV) (h:List Ob) (e:Cx:=cx):Cfg:=atC n_w07_OrderWaits (.code ybN::.inLoop ybF ybN::.inBlock 2 ybG::yco) [U,x1,U,x3,U,U,U,x7,x8,x9,x10,x11,x12,U,U,U,U,U,U,U,U,U,U,U,U,U,U,U,U,U,U,U,U,U,U,U,U,U,U,U,U,U,U,U,U,U,U,U,U,U,U,U,U,U,U,U,U,U,U,U,U,U,U,U,U,U,U,U,U,U,U,U,U,U,U,U,U,U,U,U,U,U,U,U,U,U,U,U,U,U,U,U,U,U,U,U,U,U,U,U,U,U,U,U,U,U,U,U,U,U,U,U,U,U,U,U,U,U,U,U,U,U,U,U,U,U,U,U,U,U,U,U,U,U,U,U,U,U,U,U,U,U,U,U,U,U,U,U,U,U,U,U,U,U,U,U,U,U,U,U,U,U,U,U,U,U,U,U,U] h e
abbrev ycq (x1 x3 x7 x8 x9 x10 x11:AV) (h:List Ob) (e:Cx:=cx):Cfg:=atC n_w07_OrderWaits yco [U,x1,U,x3,U,U,U,x7,x8,x9,x10,x11,U,U,U,U,U,U,U,U,U,U,U,U,U,U,U,U,U,U,U,U,U,U,U,U,U,U,U,U,U,U,U,U,U,U,U,U,U,U,U,U,U,U,U,U,U,U,U,U,U,U,U,U,U,U,U,U,U,U,U,U,U,U,U,U,U,U,U,U,U,U,U,U,U,U,U,U,U,U,U,U,U,U,U,U,U,U,U,U,U,U,U,U,U,U,U,U,U,U,U,U,U,U,U,U,U,U,U,U,U,U,U,U,U,U,U,U,U,U,U,U,U,U,U,U,U,U,U,U,U,U,U,U,U,U,U,U,U,U,U,U,U,U,U,U,U,U,U,U,U,U,U,U,U,U,U,U,U] h e
abbrev ycr:List It:=[.code (.seq (.seq (.reg ybx) (.block 4 ybg (.loop ybf ybw))) (.seq (.reg ybe) .ret))]
abbrev ycs (x1 x3 x7 x8 x9 x10:AV) (h:List Ob) (e:Cx:=cx):Cfg:=atC n_w07_OrderWaits (.code ybV::.inLoop yby ybV::.inBlock 0 ybz::ycr) [U,x1,U,x3,U,U,U,x7,x8,x9,x10,U,U,U,U,U,U,U,U,U,U,U,U,U,U,U,U,U,U,U,U,U,U,U,U,U,U,U,U,U,U,U,U,U,U,U,U,U,U,U,U,U,U,U,U,U,U,U,U,U,U,U,U,U,U,U,U,U,U,U,U,U,U,U,U,U,U,U,U,U,U,U,U,U,U,U,U,U,U,U,U,U,U,U,U,U,U,U,U,U,U,U,U,U,U,U,U,U,U,U,U,U,U,U,U,U,U,U,U,U,U,U,U,U,U,U,U,U,U,U,U,U,U,U,U,U,U,U,U,U,U,U,U,U,U,U,U,U,U,U,U,U,U,U,U,U,U,U,U,U,U,U,U,U,U,U,U,U,U] h e
@[simp] theorem c_w07_OrderWaits:cfun Tryd.prog n_w07_OrderWaits=some w07_OrderWaits:=by kernel_rfl
@[simp] theorem e_w07_OrderWaits:hasBody Tryd.prog n_w07_OrderWaits=true:=by kernel_rfl
abbrev yct:List AG:=[zz1 96 3,zz1 2 96]
abbrev ycu:List Bool:=[O,I,O,I,O,O,O,I,I,I,O,O,O,O,O,O,O,O,O,O,O,O,O,O,O,O,O,O,O,O,O,O,O,O,O,O,O,O,O,O,O,O,O,O,O,O,O,O,O,O,O,O,O,O,O,O,O,O,O,O,O,O,O,O,O,O,O,O,O,O,O,O,O,O,O,O,O,O,O,O,O,O,O,O,O,O,O,O,O,O,O,O,O,O,O,O,O]
abbrev ycv:List Bool:=[O,O,O,I,O,O,O,O,O,O,O,O,O,O,O,O,O,O,O,O,O,O,O,O,O,O,O,O,O,O,O,O,O,O,O,O,O,O,O,O,O,O,O,O,O,O,O,O,O,O,O,O,O,O,O,O,O,O,O,O,O,O,O,O,O,O,O,O,O,O,O,O,O,O,O,O,O,O,O,O,O,O,O,O,O,O,O,O,O,O,O,O,O,O,O,O,O]
abbrev ycw:List AG:=[zz1 49 9,zz6 50 49 1,zz1 9 50]
abbrev ycx:List AG:=[zzh 2]
abbrev ycy:ACode:=(.seq (.reg ycx) .ret)
abbrev ycz:List AG:=[zz1 90 7,zz1 91 9,zz5 92 1 90 91,zz2 93 1 92,zz1 94 10,o 95 (.cmp .neq (.sc .int) (.t 93) (.t 94))]
abbrev ycA:List Bool:=[O,I,O,I,O,O,O,I,I,I,I,I,O,O,O,O,O,O,O,O,O,O,O,O,O,O,O,O,O,O,O,O,O,O,O,O,O,O,O,O,O,O,O,O,O,O,O,O,O,O,O,O,O,O,O,O,O,O,O,O,O,O,O,O,O,O,O,O,O,O,O,O,O,O,O,O,O,O,O,O,O,O,O,O,O,O,O,O,O,O,O,O,O,O,O,O,O]
abbrev ycB:List Bool:=[O,I,O,I,O,O,O,I,I,I,I,O,O,O,O,O,O,O,O,O,O,O,O,O,O,O,O,O,O,O,O,O,O,O,O,O,O,O,O,O,O,O,O,O,O,O,O,O,O,O,O,O,O,O,O,O,O,O,O,O,O,O,O,O,O,O,O,O,O,O,O,O,O,O,O,O,O,O,O,O,O,O,O,O,O,O,O,O,O,O,O,O,O,O,O,O,O]
abbrev ycC:List AG:=[zz1 60 11,zz6 61 60 1,zz1 11 61]
abbrev ycD:List AG:=[zz1 83 10,zz1 84 7,zz1 85 12,zz5 86 1 84 85,zz2 87 1 86,zz6 88 87 1,o 89 (.max [(.t 83),(.t 88)]),zz1 10 89]
abbrev ycE:List AG:=[zz1 75 12,o 76 (.cmp .geq (.sc .int) (.t 75) (.c (.int .i64 0))),zz1 77 76,zze 78 77 12,zze 79 77 7,oy 80 77 (.len (.t 79)),oy 81 77 (.cmp .lss (.sc .int) (.t 78) (.t 80)),zz8 82 77 81]
abbrev ycF:List AG:=[zz3 62 4 1,zz4 63 3 1,zz2 64 1 63,zz1 65 9,zz5 66 5 64 65,zz4 67 2 66,zz2 68 1 67,zz1 69 11,zz5 70 1 68 69,zz2 71 1 70,zzg 72 n_net_Place 62 71,zz1 73 8,o 74 (.ibin .sub (.t 72) (.t 73)),zz1 12 74]
abbrev ycG:ACode:=(.seq (.dreg [O,O,O,O,O,O,O,O,O,O,O,O,O,O] [11,11,11,11,11,11,11,11,11,11,15,15,15,15] ycF) (.seq (.reg ycE) (.cond (.t 82) (.reg ycD) .skip)))
abbrev ycH:List AG:=[zz1 51 11,zz4 52 3 1,zz2 53 1 52,zz1 54 9,zz5 55 5 53 54,zz4 56 2 55,zz2 57 1 56,zza 58 57,zz7 59 51 58]
abbrev ycI:ACode:=(.seq (.seq (.reg ycH) (.cond (.t 59) .skip (.exit 2))) (.seq (.block 3 [] ycG) (.reg ycC)))
abbrev ycJ:List AG:=[zz9 11 0]
abbrev ycK:List AG:=[zz9 10 0]
abbrev ycL:ACode:=(.seq (.reg ycK) (.seq (.seq (.reg ycJ) (.block 2 ycB (.loop ycA ycI))) (.seq (.reg ycz) (.cond (.t 95) ycy .skip))))
abbrev ycM:List AG:=[zz1 45 9,zz1 46 7,zza 47 46,zz7 48 45 47]
abbrev ycN:ACode:=(.seq (.seq (.reg ycM) (.cond (.t 48) .skip (.exit 0))) (.seq (.block 1 [] ycL) (.reg ycw)))
abbrev ycO:List AG:=[zz9 9 0]
abbrev ycP:List AG:=[zz4 38 0 1,zz2 39 1 38,zza 40 39,zz4 41 2 1,zz2 42 1 41,zza 43 42,o 44 (.ibin .add (.t 40) (.t 43)),zz1 8 44]
abbrev ycQ:List AG:=[zzh 2]
abbrev ycR:ACode:=(.seq (.reg ycQ) .ret)
abbrev ycS:List AG:=[zz1 32 7,zza 33 32,zz4 34 3 1,zz2 35 1 34,zza 36 35,o 37 (.cmp .neq (.sc .int) (.t 33) (.t 36))]
abbrev ycT:List AG:=[zz3 30 4 1,zzf 31 n_order_Levels 30,zz1 7 31]
abbrev ycU:List AG:=[zz1 29 3,zz1 2 29]
abbrev ycV:ACode:=(.seq (.reg ycU) .ret)
abbrev ycW:List AG:=[zz1 23 4,o 24 (.not (.t 23)),zz1 25 24,on 26 25 (.mv (.t 5)),on 27 25 (.cmp .neq (.sc .int) (.t 26) (.c (.int .i64 0))),o 28 (.pick (.t 25) (.c (.bool true)) (.t 27))]
abbrev ycX:List AG:=[zz3 19 4 1,zzf 20 n_order_Check 19,zz1 18 20,zzc 21 18 0,zzc 22 18 1,zz1 5 21,zz1 6 22]
abbrev ycY:List AG:=[zz3 16 4 1,zzf 17 n_w06_Few 16,zz1 4 17]
abbrev ycZ:List AG:=[zzh 2]
abbrev yda:ACode:=(.seq (.reg ycZ) .ret)
abbrev ydb:List AG:=[zz1 14 3,o 15 (.not (.t 14))]
abbrev ydc:List AG:=[o 13 (.call (.f n_w07_works) []),zz1 3 13]
abbrev ydd:List AG:=[o 1 (.box 4 (.t 0)),zzh 2]
abbrev w07_OrderLevels:AFun:=⟨(.seq (.reg ydd) (.seq (.reg ydc) (.seq (.seq (.reg ydb) (.cond (.t 15) yda .skip)) (.seq (.reg ycY) (.seq (.reg ycX) (.seq (.seq (.reg ycW) (.cond (.t 28) ycV .skip)) (.seq (.reg ycT) (.seq (.seq (.reg ycS) (.cond (.t 37) ycR .skip)) (.seq (.reg ycP) (.seq (.seq (.reg ycO) (.block 0 ycv (.loop ycu ycN))) (.seq (.reg yct) .ret))))))))))),97,[.tmp 2]⟩
abbrev yde:List It:=[.code (.seq (.reg ycz) (.cond (.t 95) ycy .skip)),.inBlock 1 [],.code (.reg ycw),.inLoop ycu ycN,.inBlock 0 ycv,.code (.seq (.reg yct) .ret)]
abbrev ydf (x1 x3 x7 x8 x9 x10 x11:AV) (h:List Ob) (e:Cx:=cx):Cfg:=atC n_w07_OrderLevels (.code ycI::.inLoop ycA ycI::.inBlock 2 ycB::yde) [U,x1,U,x3,U,U,U,x7,x8,x9,x10,x11,U,U,U,U,U,U,U,U,U,U,U,U,U,U,U,U,U,U,U,U,U,U,U,U,U,U,U,U,U,U,U,U,U,U,U,U,U,U,U,U,U,U,U,U,U,U,U,U,U,U,U,U,U,U,U,U,U,U,U,U,U,U,U,U,U,U,U,U,U,U,U,U,U,U,U,U,U,U,U,U,U,U,U,U,U] h e
abbrev ydg (x1 x3 x7 x8 x9 x10:AV) (h:List Ob) (e:Cx:=cx):Cfg:=atC n_w07_OrderLevels yde [U,x1,U,x3,U,U,U,x7,x8,x9,x10,U,U,U,U,U,U,U,U,U,U,U,U,U,U,U,U,U,U,U,U,U,U,U,U,U,U,U,U,U,U,U,U,U,U,U,U,U,U,U,U,U,U,U,U,U,U,U,U,U,U,U,U,U,U,U,U,U,U,U,U,U,U,U,U,U,U,U,U,U,U,U,U,U,U,U,U,U,U,U,U,U,U,U,U,U,U] h e
abbrev ydh:List It:=[.code (.seq (.reg yct) .ret)]
abbrev ydi (x1 x3 x7 x8 x9:AV) (h:List Ob) (e:Cx:=cx):Cfg:=atC n_w07_OrderLevels (.code ycN::.inLoop ycu ycN::.inBlock 0 ycv::ydh) [U,x1,U,x3,U,U,U,x7,x8,x9,U,U,U,U,U,U,U,U,U,U,U,U,U,U,U,U,U,U,U,U,U,U,U,U,U,U,U,U,U,U,U,U,U,U,U,U,U,U,U,U,U,U,U,U,U,U,U,U,U,U,U,U,U,U,U,U,U,U,U,U,U,U,U,U,U,U,U,U,U,U,U,U,U,U,U,U,U,U,U,U,U,U,U,U,U,U,U] h e
@[simp] theorem c_w07_OrderLevels:cfun Tryd.prog n_w07_OrderLevels=some w07_OrderLevels:=by kernel_rfl
@[simp] theorem e_w07_OrderLevels:hasBody Tryd.prog n_w07_OrderLevels=true:=by kernel_rfl
abbrev ydj:List AG:=[zz1 46 2,o 47 (.lit 1 [(.int .i64 0),(.int .i64 0)] [(0,(.c (.int .i64 1))),(1,(.c (.int .i64 0)))]),zzg 48 n_r01_Ints 46 47,zz1 49 48,zze 50 49 3,oy 51 49 (.len (.t 50)),oy 52 49 (.cmp .eql (.sc .int) (.t 51) (.c (.int .i64 0))),zz8 53 49 52,zz1 54 53,zze 55 54 5,oy 56 54 (.cmp .eql (.sc .int) (.t 55) (.c (.int .i64 7))),zz8 57 54 56,zz1 58 57,zze 59 58 6,oy 60 58 (.cmp .eql (.sc .str) (.t 59) (.c (.str [122]))),zz8 61 58 60,zz1 62 61,zze 63 62 7,oy 64 62 (.cmp .eql (.sc .int) (.t 63) (.c (.int .i64 0))),zz8 65 62 64,zz1 66 65,zze 67 66 8,oy 68 66 (.cmp .eql (.sc .str) (.t 67) (.c (.str []))),zz8 69 66 68,zz1 70 69,oy 71 70 (.load true 4 (.t 1)),oy 72 70 (.call (.f n_order_Levels) [(.t 71)]),oy 73 70 (.lit 1 [(.int .i64 0),(.int .i64 0)] [(0,(.c (.int .i64 1))),(1,(.c (.int .i64 0)))]),oy 74 70 (.call (.f n_r01_Ints) [(.t 72),(.t 73)]),zz8 75 70 74,zz1 76 75,zze 77 76 9,oy 78 76 (.lit 1 [(.str []),(.str [])] [(0,(.c (.str [97]))),(1,(.c (.str [121])))]),oy 79 76 (.call (.f n_r01_Texts) [(.t 77),(.t 78)]),zz8 80 76 79,zz1 81 80,oy 82 81 (.off 3 (.t 10)),zzd 83 81 1 82,oy 84 81 (.len (.t 83)),oy 85 81 (.cmp .eql (.sc .int) (.t 84) (.c (.int .i64 1))),zz8 86 81 85,zz1 87 86,oy 88 87 (.off 0 (.t 10)),zzd 89 87 1 88,oy 90 87 (.len (.t 89)),oy 91 87 (.cmp .eql (.sc .int) (.t 90) (.c (.int .i64 1))),zz8 92 87 91,zz1 0 92]
abbrev ydk:List AG:=[zz3 44 4 1,zzf 45 n_order_Trim 44,o 10 (.alloc [(.own 1 t_string []),(.own 1 t_string []),(.own 3 t_api_Latch_2 []),(.own 5 t_api_Gate_2 [])]),zzb 4 10 45]
abbrev ydl:List AG:=[zz3 41 4 1,o 42 (.lit 1 [(.str [])] [(0,(.c (.str [121])))]),zzg 43 n_order_Cone 41 42,zz1 9 43]
abbrev ydm:List AG:=[zz3 37 4 1,zzf 38 n_order_Check 37,zz1 36 38,zzc 39 36 0,zzc 40 36 1,zz1 7 39,zz1 8 40]
abbrev ydn:List AG:=[zz3 32 4 4,zzf 33 n_order_Check 32,zz1 31 33,zzc 34 31 0,zzc 35 31 1,zz1 5 34,zz1 6 35]
abbrev ydo:List AG:=[o 25 (.lit 1 [(.str [])] [(0,(.c (.str [121])))]),o 26 (.build [(.str []),(.int .i64 0),(.list true 0 []),(.list true 0 []),(.bool false)] [(0,1,(.c (.str [122]))),(1,1,(.c (.int .i64 3))),(2,1,(.t 25))]),o 27 (.lit 1 [(.str [])] [(0,(.c (.str [122])))]),o 28 (.build [(.str []),(.int .i64 0),(.list true 0 []),(.list true 0 []),(.bool false)] [(0,1,(.c (.str [121]))),(1,1,(.c (.int .i64 2))),(2,1,(.t 27))]),o 29 (.lit 5 [(.agg [(.str []),(.int .i64 0),(.list true 0 []),(.list true 0 []),(.bool false)]),(.agg [(.str []),(.int .i64 0),(.list true 0 []),(.list true 0 []),(.bool false)])] [(0,(.t 26)),(1,(.t 28))]),zz4 30 3 4,zzb 1 30 29]
abbrev ydp:List AG:=[zz3 24 4 1,o 4 (.alloc [(.own 1 t_string []),(.own 1 t_string []),(.own 3 t_api_Latch_2 []),(.own 5 t_api_Gate_2 [])]),zzb 4 4 24]
abbrev ydq:List AG:=[zz3 20 4 1,zzf 21 n_order_Sort 20,zz1 19 21,zzc 22 19 0,zzc 23 19 1,zz1 2 22,zz1 3 23]
abbrev ydr:List AG:=[o 11 (.lit 1 [(.str [])] [(0,(.c (.str [97])))]),o 12 (.lit 1 [(.str [])] [(0,(.c (.str [121])))]),o 13 (.lit 1 [(.str [])] [(0,(.c (.str [121])))]),o 14 (.build [(.str []),(.int .i64 0),(.list true 0 []),(.list true 0 []),(.bool false)] [(0,1,(.c (.str [122]))),(1,1,(.c (.int .i64 3))),(2,1,(.t 13))]),o 15 (.lit 1 [(.str [])] [(0,(.c (.str [97])))]),o 16 (.build [(.str []),(.int .i64 0),(.list true 0 []),(.list true 0 []),(.bool false)] [(0,1,(.c (.str [121]))),(1,1,(.c (.int .i64 2))),(2,1,(.t 15))]),o 17 (.lit 5 [(.agg [(.str []),(.int .i64 0),(.list true 0 []),(.list true 0 []),(.bool false)]),(.agg [(.str []),(.int .i64 0),(.list true 0 []),(.list true 0 []),(.bool false)])] [(0,(.t 14)),(1,(.t 16))]),o 18 (.build [(.list true 0 []),(.list true 0 []),(.list true 0 []),(.list true 0 [])] [(0,1,(.t 11)),(1,1,(.t 12)),(3,1,(.t 17))]),o 1 (.alloc [(.own 1 t_string []),(.own 1 t_string []),(.own 3 t_api_Latch_2 []),(.own 5 t_api_Gate_2 [])]),zzb 4 1 18]
abbrev yds:List AG:=[zzh 0]
abbrev w07_works:AFun:=⟨(.seq (.reg yds) (.seq (.reg ydr) (.seq (.reg ydq) (.seq (.reg ydp) (.seq (.reg ydo) (.seq (.reg ydn) (.seq (.reg ydm) (.seq (.reg ydl) (.seq (.reg ydk) (.seq (.reg ydj) .ret)))))))))),93,[.tmp 0]⟩
@[simp] theorem c_w07_works:cfun Tryd.prog n_w07_works=some w07_works:=by kernel_rfl
@[simp] theorem e_w07_works:hasBody Tryd.prog n_w07_works=true:=by kernel_rfl
abbrev ydt:List AG:=[zz1 6 3,zz1 7 6,oy 8 7 (.off 3 (.t 1)),zzd 9 7 1 8,oy 10 7 (.len (.t 9)),oy 11 7 (.cmp .leq (.sc .int) (.t 10) (.c (.int .i64 24))),zz8 12 7 11,zz1 13 12,oy 14 13 (.off 0 (.t 1)),zzd 15 13 1 14,oy 16 13 (.len (.t 15)),oy 17 13 (.cmp .leq (.sc .int) (.t 16) (.c (.int .i64 24))),zz8 18 13 17,zz1 19 18,oy 20 19 (.off 2 (.t 1)),zzd 21 19 1 20,oy 22 19 (.len (.t 21)),oy 23 19 (.cmp .leq (.sc .int) (.t 22) (.c (.int .i64 24))),zz8 24 19 23,zz1 2 24]
abbrev ydu:List AG:=[zz3 4 4 1,zzf 5 n_w06_Few 4,zz1 3 5]
abbrev ydv:List AG:=[o 1 (.box 4 (.t 0)),zzh 2]
abbrev w07_Little:AFun:=⟨(.seq (.reg ydv) (.seq (.reg ydu) (.seq (.reg ydt) .ret))),25,[.tmp 2]⟩
@[simp] theorem c_w07_Little:cfun Tryd.prog n_w07_Little=some w07_Little:=by kernel_rfl
@[simp] theorem e_w07_Little:hasBody Tryd.prog n_w07_Little=true:=by kernel_rfl
abbrev ydw:List AG:=[zz2 52 1 4,zz1 53 7,zz1 2 52,zz1 3 53]
abbrev ydx:List Bool:=[O,O,O,O,I,I,O,I,O,O,O,O,O,O,O,O,O,O,O,O,O,O,O,O,O,O,O,O,O,O,O,O,I,I,I,O,O,O,O,O,O,O,O,O,O,O,O,O,O,O,O,O,O,O]
abbrev ydy:List Bool:=[O,O,O,O,I,O,O,I,O,O,O,O,O,O,O,O,O,O,O,O,O,O,O,O,O,O,O,O,O,O,O,O,O,O,O,O,O,O,O,O,O,O,O,O,O,O,O,O,O,O,O,O,O,O]
abbrev ydz:List AG:=[zz6 51 34 1,zz1 34 51]
abbrev ydA:List AG:=[zz1 46 7,zz4 47 0 9,zz2 48 1 47,o 49 (.lit 1 [(.str [])] [(0,(.t 48))]),o 50 (.append 1 t_string 16 (.t 46) (.t 49)),zz1 7 50]
abbrev ydB:List AG:=[zz1 45 11]
abbrev ydC:List AG:=[zz2 39 1 5,zz4 40 0 9,zz2 41 1 40,o 42 (.lookup (.sc .str) (.int .i64 0) (.t 39) (.t 41) true),zz1 38 42,zzc 43 38 0,zzc 44 38 1,zz1 10 43,zz1 11 44]
abbrev ydD:List AG:=[zz5 36 5 32 34,zz3 37 5 36,o 9 (.alloc [(.str []),(.int .i64 0),(.own 1 t_string []),(.own 1 t_string []),(.bool false)]),zzb 5 9 37]
abbrev ydE:ACode:=(.seq (.reg ydD) (.seq (.reg ydC) (.seq (.reg ydB) (.cond (.t 45) (.reg ydA) .skip))))
abbrev ydF:List AG:=[zz7 35 34 33]
abbrev ydG:ACode:=(.seq (.reg ydF) (.seq (.cond (.t 35) .skip (.exit 2)) (.seq (.block 3 [] ydE) (.reg ydz))))
abbrev ydH:List AG:=[zz4 31 3 1,zz2 32 1 31,zza 33 32,zz9 34 0]
abbrev ydI:List AG:=[o 7 (.nilrow 1 t_string)]
abbrev ydJ:List AG:=[zz1 6 19]
abbrev ydK:List AG:=[zz2 24 1 5,zz4 25 3 1,zz2 26 1 25,zz1 27 6,zz5 28 5 26 27,zz4 29 0 28,zz2 30 1 29,q (.delete (.sc .str) (.t 24) (.t 30))]
abbrev ydL:List AG:=[zz2 20 1 4,zz1 21 6,o 22 (.lit 1 [(.int .i64 0)] [(0,(.t 21))]),o 23 (.append 1 t_int 8 (.t 20) (.t 22)),zzb 1 4 23]
abbrev ydM:ACode:=(.seq (.reg ydL) (.dreg [O,O,O,O,O,O,O,O] [8,8,8,8,8,8,8,9] ydK))
abbrev ydN:ACode:=(.block 1 [] ydM)
abbrev ydO:ACode:=(.rangeFunc (.t 18) [19] [O,I,I,I,I,I,O,O,O,O,O,O,O,O,O,O,O,O,O,O,O,O,O,O,O,O,O,O,O,O,O,O,O,O,O,O,O,O,O,O,O,O,O,O,O,O,O,O,O,O,O,O,O,O] (.reg ydJ) ydN)
abbrev ydP:List AG:=[zz3 17 4 1,zzf 18 n_order_coming 17]
abbrev ydQ:List AG:=[zz3 15 4 1,zzf 16 n_order_places 15,o 5 (.alloc [.nilm]),zzb 1 5 16]
abbrev ydR:List AG:=[o 4 (.alloc [(.own 1 t_int [])])]
abbrev ydS:List AG:=[o 2 (.nilrow 1 t_int),o 3 (.nilrow 1 t_string)]
abbrev ydT:ACode:=(.seq (.reg ydS) .ret)
abbrev ydU:List AG:=[zz3 12 4 1,zzf 13 n_order_right 12,o 14 (.not (.t 13))]
abbrev ydV:List AG:=[o 1 (.box 4 (.t 0)),o 2 (.nilrow 1 t_int),o 3 (.nilrow 1 t_string)]
abbrev order_Sort:AFun:=⟨(.seq (.reg ydV) (.seq (.seq (.reg ydU) (.cond (.t 14) ydT .skip)) (.seq (.reg ydR) (.seq (.reg ydQ) (.seq (.seq (.reg ydP) (.block 0 [] ydO)) (.seq (.reg ydI) (.seq (.seq (.reg ydH) (.block 2 ydy (.loop ydx ydG))) (.seq (.reg ydw) .ret)))))))),54,[.tmp 2,.tmp 3]⟩
abbrev ydW:List It:=[.code (.seq (.reg ydw) .ret)]
abbrev ydX (x4 x5 x7 x32 x33 x34:AV) (h:List Ob) (e:Cx:=cx):Cfg:=atC n_order_Sort (.code ydG::.inLoop ydx ydG::.inBlock 2 ydy::ydW) [U,U,U,U,x4,x5,U,x7,U,U,U,U,U,U,U,U,U,U,U,U,U,U,U,U,U,U,U,U,U,U,U,U,x32,x33,x34,U,U,U,U,U,U,U,U,U,U,U,U,U,U,U,U,U,U,U] h e
@[simp] theorem c_order_Sort:cfun Tryd.prog n_order_Sort=some order_Sort:=by kernel_rfl
@[simp] theorem e_order_Sort:hasBody Tryd.prog n_order_Sort=true:=by kernel_rfl
abbrev ydY:List AG:=[zz1 75 4,zz1 76 5,zz1 2 75,zz1 3 76]
abbrev ydZ:List Bool:=[O,I,O,O,I,I,I,O,O,I,O,O,O,O,O,O,O,O,O,O,O,O,O,O,O,O,O,O,O,O,O,O,O,O,O,O,O,O,O,O,O,O,O,O,O,O,O,O,O,O,O,O,O,O,O,O,O,O,O,O,O,O,O,O,O,O,O,O,O,O,O,O,O,O,O,O,O]
abbrev yea:List Bool:=[O,O,O,O,I,I,O,O,O,O,O,O,O,O,O,O,O,O,O,O,O,O,O,O,O,O,O,O,O,O,O,O,O,O,O,O,O,O,O,O,O,O,O,O,O,O,O,O,O,O,O,O,O,O,O,O,O,O,O,O,O,O,O,O,O,O,O,O,O,O,O,O,O,O,O,O,O]
abbrev yeb:List AG:=[zz1 59 9,zz6 60 59 1,zz1 9 60]
abbrev yec:List AG:=[zz1 66 5,zz4 67 3 1,zz2 68 1 67,zz1 69 9,zz5 70 5 68 69,zz4 71 0 70,zz2 72 1 71,o 73 (.lit 1 [(.str [])] [(0,(.t 72))]),o 74 (.append 1 t_string 16 (.t 66) (.t 73)),zz1 5 74]
abbrev yed:List AG:=[zz1 61 6,zz1 62 9,zz5 63 1 61 62,zz2 64 1 63,o 65 (.not (.t 64))]
abbrev yee:ACode:=(.seq (.reg yed) (.cond (.t 65) (.reg yec) .skip))
abbrev yef:List AG:=[zz1 54 9,zz4 55 3 1,zz2 56 1 55,zza 57 56,zz7 58 54 57]
abbrev yeg:ACode:=(.seq (.seq (.reg yef) (.cond (.t 58) .skip (.exit 4))) (.seq (.block 5 [] yee) (.reg yeb)))
abbrev yeh:List AG:=[zz9 9 0]
abbrev yei:List Bool:=[O,I,O,O,I,I,I,I,O,O,O,O,O,O,O,O,O,O,O,O,O,O,O,O,O,O,O,O,O,O,O,O,O,O,O,O,O,O,O,O,O,O,O,O,O,O,O,O,O,O,O,O,O,O,O,O,O,O,O,O,O,O,O,O,O,O,O,O,O,O,O,O,O,O,O,O,O]
abbrev yej:List Bool:=[O,I,O,O,I,I,I,O,O,O,O,O,O,O,O,O,O,O,O,O,O,O,O,O,O,O,O,O,O,O,O,O,O,O,O,O,O,O,O,O,O,O,O,O,O,O,O,O,O,O,O,O,O,O,O,O,O,O,O,O,O,O,O,O,O,O,O,O,O,O,O,O,O,O,O,O,O]
abbrev yek:List AG:=[zz1 22 7,zz6 23 22 1,zz1 7 23]
abbrev yel:List Bool:=[O,I,O,O,I,I,I,I,I,O,O,O,O,O,O,O,O,O,O,O,O,O,O,O,O,O,O,O,O,O,O,O,O,O,O,O,O,O,O,O,O,O,O,O,O,O,O,O,O,O,O,O,O,O,O,O,O,O,O,O,O,O,O,O,O,O,O,O,O,O,O,O,O,O,O,O,O]
abbrev yem:List Bool:=[O,I,O,O,I,I,I,I,O,O,O,O,O,O,O,O,O,O,O,O,O,O,O,O,O,O,O,O,O,O,O,O,O,O,O,O,O,O,O,O,O,O,O,O,O,O,O,O,O,O,O,O,O,O,O,O,O,O,O,O,O,O,O,O,O,O,O,O,O,O,O,O,O,O,O,O,O]
abbrev yen:List AG:=[zz1 29 8,zz6 30 29 1,zz1 8 30]
abbrev yeo:List AG:=[zz1 50 4,zz1 51 8,o 52 (.lit 1 [(.int .i64 0)] [(0,(.t 51))]),o 53 (.append 1 t_int 8 (.t 50) (.t 52)),zz1 4 53]
abbrev yep:List AG:=[zz1 47 6,zz1 48 8,zz5 49 1 47 48,q (.store 1 (.t 49) (.c (.bool true)))]
abbrev yeq:ACode:=(.seq (.reg yep) (.seq (.reg yeo) (.exit 2)))
abbrev yer:List AG:=[zz1 31 6,zz1 32 8,zz5 33 1 31 32,zz2 34 1 33,o 35 (.not (.t 34)),zz1 36 35,oy 37 36 (.load true 4 (.t 1)),oy 38 36 (.off 3 (.t 1)),zzd 39 36 1 38,zze 40 36 8,oy 41 36 (.ixAddr 5 (.t 39) (.t 40)),oy 42 36 (.load true 5 (.t 41)),zze 43 36 6,oy 44 36 (.call (.f n_r07_waits) [(.t 37),(.t 42),(.t 43)]),oy 45 36 (.not (.t 44)),zz8 46 36 45]
abbrev yes:ACode:=(.seq (.dreg [O,O,O,O,O,O,O,O,O,O,O,O,O,O,O,O] [14,14,14,14,14,14,14,14,14,14,14,14,14,17,17,17] yer) (.cond (.t 46) yeq .skip))
abbrev yet:List AG:=[zz1 24 8,zz4 25 3 1,zz2 26 1 25,zza 27 26,zz7 28 24 27]
abbrev yeu:ACode:=(.seq (.seq (.reg yet) (.cond (.t 28) .skip (.exit 2))) (.seq (.block 3 [] yes) (.reg yen)))
abbrev yev:List AG:=[zz9 8 0]
abbrev yew:ACode:=(.seq (.reg yev) (.block 2 yem (.loop yel yeu)))
abbrev yex:List AG:=[zz1 17 7,zz4 18 3 1,zz2 19 1 18,zza 20 19,zz7 21 17 20]
abbrev yey:ACode:=(.seq (.seq (.reg yex) (.cond (.t 21) .skip (.exit 0))) (.seq (.block 1 [] yew) (.reg yek)))
abbrev yez:List AG:=[zz9 7 0]
abbrev yeA:List AG:=[zz4 13 3 1,zz2 14 1 13,zza 15 14,o 16 (.mkSlice 1 t_bool 1 (.bool false) (.t 15) (.t 15)),zz1 6 16]
abbrev yeB:List AG:=[o 2 (.nilrow 1 t_int),o 3 (.nilrow 1 t_string)]
abbrev yeC:ACode:=(.seq (.reg yeB) .ret)
abbrev yeD:List AG:=[zz3 10 4 1,zzf 11 n_r07_right 10,o 12 (.not (.t 11))]
abbrev yeE:List AG:=[o 5 (.nilrow 1 t_string)]
abbrev yeF:List AG:=[o 4 (.nilrow 1 t_int)]
abbrev yeG:List AG:=[o 1 (.box 4 (.t 0)),o 2 (.nilrow 1 t_int),o 3 (.nilrow 1 t_string)]
abbrev r07_Sort:AFun:=⟨(.seq (.reg yeG) (.seq (.reg yeF) (.seq (.reg yeE) (.seq (.seq (.reg yeD) (.cond (.t 12) yeC .skip)) (.seq (.reg yeA) (.seq (.seq (.reg yez) (.block 0 yej (.loop yei yey))) (.seq (.seq (.reg yeh) (.block 4 yea (.loop ydZ yeg))) (.seq (.reg ydY) .ret)))))))),77,[.tmp 2,.tmp 3]⟩
abbrev yeH:List It:=[.code (.seq (.reg ydY) .ret)]
abbrev yeI (x1 x4 x5 x6 x9:AV) (h:List Ob) (e:Cx:=cx):Cfg:=atC n_r07_Sort (.code yeg::.inLoop ydZ yeg::.inBlock 4 yea::yeH) [U,x1,U,U,x4,x5,x6,U,U,x9,U,U,U,U,U,U,U,U,U,U,U,U,U,U,U,U,U,U,U,U,U,U,U,U,U,U,U,U,U,U,U,U,U,U,U,U,U,U,U,U,U,U,U,U,U,U,U,U,U,U,U,U,U,U,U,U,U,U,U,U,U,U,U,U,U,U,U] h e
abbrev yeJ:List It:=[.inBlock 1 [],.code (.reg yek),.inLoop yei yey,.inBlock 0 yej,.code (.seq (.seq (.reg yeh) (.block 4 yea (.loop ydZ yeg))) (.seq (.reg ydY) .ret))]
abbrev yeK (x1 x4 x5 x6 x7 x8:AV) (h:List Ob) (e:Cx:=cx):Cfg:=atC n_r07_Sort (.code yeu::.inLoop yel yeu::.inBlock 2 yem::yeJ) [U,x1,U,U,x4,x5,x6,x7,x8,U,U,U,U,U,U,U,U,U,U,U,U,U,U,U,U,U,U,U,U,U,U,U,U,U,U,U,U,U,U,U,U,U,U,U,U,U,U,U,U,U,U,U,U,U,U,U,U,U,U,U,U,U,U,U,U,U,U,U,U,U,U,U,U,U,U,U,U] h e
abbrev yeL (x1 x4 x5 x6 x7:AV) (h:List Ob) (e:Cx:=cx):Cfg:=atC n_r07_Sort yeJ [U,x1,U,U,x4,x5,x6,x7,U,U,U,U,U,U,U,U,U,U,U,U,U,U,U,U,U,U,U,U,U,U,U,U,U,U,U,U,U,U,U,U,U,U,U,U,U,U,U,U,U,U,U,U,U,U,U,U,U,U,U,U,U,U,U,U,U,U,U,U,U,U,U,U,U,U,U,U,U] h e
abbrev yeM:List It:=[.code (.seq (.seq (.reg yeh) (.block 4 yea (.loop ydZ yeg))) (.seq (.reg ydY) .ret))]
abbrev yeN (x1 x4 x5 x6 x7:AV) (h:List Ob) (e:Cx:=cx):Cfg:=atC n_r07_Sort (.code yey::.inLoop yei yey::.inBlock 0 yej::yeM) [U,x1,U,U,x4,x5,x6,x7,U,U,U,U,U,U,U,U,U,U,U,U,U,U,U,U,U,U,U,U,U,U,U,U,U,U,U,U,U,U,U,U,U,U,U,U,U,U,U,U,U,U,U,U,U,U,U,U,U,U,U,U,U,U,U,U,U,U,U,U,U,U,U,U,U,U,U,U,U] h e
@[simp] theorem c_r07_Sort:cfun Tryd.prog n_r07_Sort=some r07_Sort:=by kernel_rfl
@[simp] theorem e_r07_Sort:hasBody Tryd.prog n_r07_Sort=true:=by kernel_rfl
abbrev yeO:List AG:=[zz9 2 0,o 3 (.mv (.c (.str [])))]
abbrev yeP:List AG:=[zz1 25 7,o 26 (.ixAddr 1 (.t 25) (.c (.int .i64 0))),zz2 27 1 26,zz9 2 7,zz1 3 27]
abbrev yeQ:ACode:=(.seq (.dreg [O,O,O,O,O] [6,6,6,6,6] yeP) .ret)
abbrev yeR:List AG:=[zz1 22 7,zza 23 22,o 24 (.cmp .gtr (.sc .int) (.t 23) (.c (.int .i64 0)))]
abbrev yeS:List AG:=[zz3 18 4 1,zzf 19 n_order_Sort 18,zz1 17 19,zzc 20 17 0,zzc 21 17 1,zz1 6 20,zz1 7 21]
abbrev yeT:List AG:=[zz1 15 4,zz1 16 5,zz1 2 15,zz1 3 16]
abbrev yeU:ACode:=(.seq (.reg yeT) .ret)
abbrev yeV:List AG:=[zz1 13 4,o 14 (.cmp .neq (.sc .int) (.t 13) (.c (.int .i64 0)))]
abbrev yeW:List AG:=[zz3 9 4 1,zzf 10 n_net_Check 9,zz1 8 10,zzc 11 8 0,zzc 12 8 1,zz1 4 11,zz1 5 12]
abbrev yeX:List AG:=[o 1 (.box 4 (.t 0)),zz9 2 0,o 3 (.mv (.c (.str [])))]
abbrev order_Check:AFun:=⟨(.seq (.reg yeX) (.seq (.seq (.reg yeW) (.seq (.reg yeV) (.cond (.t 14) yeU .skip))) (.seq (.seq (.reg yeS) (.seq (.reg yeR) (.cond (.t 24) yeQ .skip))) (.seq (.reg yeO) .ret)))),28,[.tmp 2,.tmp 3]⟩
@[simp] theorem c_order_Check:cfun Tryd.prog n_order_Check=some order_Check:=by kernel_rfl
@[simp] theorem e_order_Check:hasBody Tryd.prog n_order_Check=true:=by kernel_rfl
abbrev yeY:List AG:=[zz9 2 0,o 3 (.mv (.c (.str [])))]
abbrev yeZ:List AG:=[zz1 25 7,o 26 (.ixAddr 1 (.t 25) (.c (.int .i64 0))),zz2 27 1 26,zz9 2 7,zz1 3 27]
abbrev yfa:ACode:=(.seq (.dreg [O,O,O,O,O] [6,6,6,6,6] yeZ) .ret)
abbrev yfb:List AG:=[zz1 22 7,zza 23 22,o 24 (.cmp .gtr (.sc .int) (.t 23) (.c (.int .i64 0)))]
abbrev yfc:List AG:=[zz3 18 4 1,zzf 19 n_r07_Sort 18,zz1 17 19,zzc 20 17 0,zzc 21 17 1,zz1 6 20,zz1 7 21]
abbrev yfd:List AG:=[zz1 15 4,zz1 16 5,zz1 2 15,zz1 3 16]
abbrev yfe:ACode:=(.seq (.reg yfd) .ret)
abbrev yff:List AG:=[zz1 13 4,o 14 (.cmp .neq (.sc .int) (.t 13) (.c (.int .i64 0)))]
abbrev yfg:List AG:=[zz3 9 4 1,zzf 10 n_r06_Check 9,zz1 8 10,zzc 11 8 0,zzc 12 8 1,zz1 4 11,zz1 5 12]
abbrev yfh:List AG:=[o 1 (.box 4 (.t 0)),zz9 2 0,o 3 (.mv (.c (.str [])))]
abbrev r07_Check:AFun:=⟨(.seq (.reg yfh) (.seq (.reg yfg) (.seq (.seq (.reg yff) (.cond (.t 14) yfe .skip)) (.seq (.reg yfc) (.seq (.seq (.reg yfb) (.cond (.t 24) yfa .skip)) (.seq (.reg yeY) .ret)))))),28,[.tmp 2,.tmp 3]⟩
@[simp] theorem c_r07_Check:cfun Tryd.prog n_r07_Check=some r07_Check:=by kernel_rfl
@[simp] theorem e_r07_Check:hasBody Tryd.prog n_r07_Check=true:=by kernel_rfl
abbrev yfi:List AG:=[o 4 (.mv (.c (.bool true)))]
abbrev yfj:List Bool:=[I,I,O,O,O,I,O,O,O,O,O,O,O,O,O,O,O,O,O,O,O,O,O,O,O,O]
abbrev yfk:List Bool:=[O,O,O,O,O,O,O,O,O,O,O,O,O,O,O,O,O,O,O,O,O,O,O,O,O,O]
abbrev yfl:List AG:=[zz1 15 5,zz6 16 15 1,zz1 5 16]
abbrev yfm:List AG:=[zzh 4]
abbrev yfn:ACode:=(.seq (.reg yfm) .ret)
abbrev yfo:List AG:=[zz1 17 0,zz1 18 5,zz5 19 1 17 18,zz2 20 1 19,zz1 21 1,zz1 22 5,zz5 23 1 21 22,zz2 24 1 23,o 25 (.cmp .neq (.sc .int) (.t 20) (.t 24))]
abbrev yfp:ACode:=(.seq (.dreg [O,O,O,O,O,O,O,O,O] [10,10,10,10,10,10,10,10,10] yfo) (.cond (.t 25) yfn .skip))
abbrev yfq:List AG:=[zz1 11 5,zz1 12 0,zza 13 12,zz7 14 11 13]
abbrev yfr:ACode:=(.seq (.seq (.reg yfq) (.cond (.t 14) .skip (.exit 0))) (.seq (.block 1 [] yfp) (.reg yfl)))
abbrev yfs:List AG:=[zz9 5 0]
abbrev yft:List AG:=[zzh 4]
abbrev yfu:ACode:=(.seq (.reg yft) .ret)
abbrev yfv:List AG:=[zz1 6 0,zza 7 6,zz1 8 1,zza 9 8,o 10 (.cmp .neq (.sc .int) (.t 7) (.t 9))]
abbrev yfw:List AG:=[zzh 4]
abbrev r01_Ints:AFun:=⟨(.seq (.reg yfw) (.seq (.seq (.reg yfv) (.cond (.t 10) yfu .skip)) (.seq (.seq (.reg yfs) (.block 0 yfk (.loop yfj yfr))) (.seq (.reg yfi) .ret)))),26,[.tmp 4]⟩
abbrev yfx:List It:=[.code (.seq (.reg yfi) .ret)]
abbrev yfy (x0 x1 x5:AV) (h:List Ob) (e:Cx:=cx):Cfg:=atC n_r01_Ints (.code yfr::.inLoop yfj yfr::.inBlock 0 yfk::yfx) [x0,x1,U,U,U,x5,U,U,U,U,U,U,U,U,U,U,U,U,U,U,U,U,U,U,U,U] h e
@[simp] theorem c_r01_Ints:cfun Tryd.prog n_r01_Ints=some r01_Ints:=by kernel_rfl
@[simp] theorem e_r01_Ints:hasBody Tryd.prog n_r01_Ints=true:=by kernel_rfl
abbrev yfz:List AG:=[zz2 62 1 4,zz1 2 62]
abbrev yfA:List Bool:=[O,O,O,O,I,I,O,O,O,O,O,O,O,O,O,O,O,O,O,O,O,O,O,O,O,O,O,O,O,O,O,O,O,O,O,O,O,O,O,O,O,O,O,O,O,O,O,O,O,O,I,I,O,O,O,O,O,O,O,O,O,O,O]
abbrev yfB:List Bool:=[O,O,O,O,I,O,O,O,O,O,O,O,O,O,O,O,O,O,O,O,O,O,O,O,O,O,O,O,O,O,O,O,O,O,O,O,O,O,O,O,O,O,O,O,O,O,O,O,O,O,O,O,O,O,O,O,O,O,O,O,O,O,O]
abbrev yfC:List AG:=[zz6 61 51 1,zz1 51 61]
abbrev yfD:List AG:=[zz2 58 1 4,zz1 59 9,zz5 60 1 58 59,q (.store 1 (.t 60) (.c (.int .i64 (-1))))]
abbrev yfE:List AG:=[zz2 54 1 5,zz1 55 9,o 56 (.lookup (.sc .int) (.bool false) (.t 54) (.t 55) false),o 57 (.not (.t 56))]
abbrev yfF:List AG:=[zz1 53 51,zz1 9 53]
abbrev yfG:ACode:=(.seq (.reg yfF) (.seq (.reg yfE) (.cond (.t 57) (.reg yfD) .skip)))
abbrev yfH:List AG:=[zz7 52 51 50]
abbrev yfI:ACode:=(.seq (.reg yfH) (.seq (.cond (.t 52) .skip (.exit 4)) (.seq (.block 5 [] yfG) (.reg yfC))))
abbrev yfJ:List AG:=[zz2 49 1 4,zza 50 49,zz9 51 0]
abbrev yfK:List AG:=[zz1 6 22]
abbrev yfL:List Bool:=[O,O,I,O,I,O,I,O,O,O,O,O,O,O,O,O,O,O,O,O,O,O,O,O,O,O,O,O,O,I,I,I,O,O,O,O,O,O,O,O,O,O,O,O,O,O,O,O,O,O,O,O,O,O,O,O,O,O,O,O,O,O,O]
abbrev yfM:List Bool:=[O,O,I,O,O,O,O,O,O,O,O,O,O,O,O,O,O,O,O,O,O,O,O,O,O,O,O,O,O,O,O,O,O,O,O,O,O,O,O,O,O,O,O,O,O,O,O,O,O,O,O,O,O,O,O,O,O,O,O,O,O,O,O]
abbrev yfN:List AG:=[zz6 48 31 1,zz1 31 48]
abbrev yfO:List AG:=[zz2 35 1 4,zz1 36 8,zz2 37 1 4,zz1 38 8,zz5 39 1 37 38,zz2 40 1 39,zz2 41 1 4,zz1 42 6,zz5 43 1 41 42,zz2 44 1 43,zz6 45 44 1,o 46 (.max [(.t 40),(.t 45)]),zz5 47 1 35 36,zzb 1 47 46]
abbrev yfP:List AG:=[zz5 33 1 29 31,zz2 34 1 33,zz1 8 34]
abbrev yfQ:ACode:=(.seq (.reg yfP) (.dreg [O,O,O,O,O,O,O,O,O,O,O,O,O,O] [14,14,14,14,14,14,14,14,14,14,14,14,14,15] yfO))
abbrev yfR:List AG:=[zz7 32 31 30]
abbrev yfS:ACode:=(.seq (.reg yfR) (.seq (.cond (.t 32) .skip (.exit 2)) (.seq (.block 3 [] yfQ) (.reg yfN))))
abbrev yfT:List AG:=[zz4 25 1 3,zz2 26 1 25,zz1 27 6,zz5 28 1 26 27,zz2 29 1 28,zza 30 29,zz9 31 0]
abbrev yfU:List AG:=[zz2 23 1 5,zz1 24 6,q (.upd (.sc .int) (.t 23) (.t 24) (.c (.bool true)))]
abbrev yfV:ACode:=(.seq (.reg yfU) (.seq (.reg yfT) (.block 2 yfM (.loop yfL yfS))))
abbrev yfW:ACode:=(.block 1 [] yfV)
abbrev yfX:ACode:=(.rangeFunc (.t 21) [22] [O,O,I,I,I,I,O,O,O,O,O,O,O,O,O,O,O,O,O,O,O,O,O,O,O,O,O,O,O,O,O,O,O,O,O,O,O,O,O,O,O,O,O,O,O,O,O,O,O,O,O,O,O,O,O,O,O,O,O,O,O,O,O] (.reg yfK) yfW)
abbrev yfY:List AG:=[zz3 20 4 1,zzf 21 n_order_coming 20]
abbrev yfZ:List AG:=[o 19 (.mkMap),o 5 (.alloc [.nilm]),zzb 1 5 19]
abbrev yga:List AG:=[zz4 15 3 1,zz2 16 1 15,zza 17 16,o 18 (.mkSlice 1 t_int 8 (.int .i64 0) (.t 17) (.t 17)),o 4 (.alloc [(.own 1 t_int [])]),zzb 1 4 18]
abbrev ygb:List AG:=[zz3 13 4 1,zzf 14 n_order_wait 13,o 3 (.alloc [(.own 1 t_map_int_bool_2 []),(.own 1 t_int_2 [])]),zzb 2 3 14]
abbrev ygc:List AG:=[o 2 (.nilrow 1 t_int)]
abbrev ygd:ACode:=(.seq (.reg ygc) .ret)
abbrev yge:List AG:=[zz3 10 4 1,zzf 11 n_order_right 10,o 12 (.not (.t 11))]
abbrev ygf:List AG:=[o 1 (.box 4 (.t 0)),o 2 (.nilrow 1 t_int)]
abbrev order_Levels:AFun:=⟨(.seq (.reg ygf) (.seq (.seq (.reg yge) (.cond (.t 12) ygd .skip)) (.seq (.reg ygb) (.seq (.reg yga) (.seq (.reg yfZ) (.seq (.seq (.reg yfY) (.block 0 [] yfX)) (.seq (.seq (.reg yfJ) (.block 4 yfB (.loop yfA yfI))) (.seq (.reg yfz) .ret)))))))),63,[.tmp 2]⟩
abbrev ygg:List It:=[.code (.seq (.reg yfz) .ret)]
abbrev ygh (x4 x5 x50 x51:AV) (h:List Ob) (e:Cx:=cx):Cfg:=atC n_order_Levels (.code yfI::.inLoop yfA yfI::.inBlock 4 yfB::ygg) [U,U,U,U,x4,x5,U,U,U,U,U,U,U,U,U,U,U,U,U,U,U,U,U,U,U,U,U,U,U,U,U,U,U,U,U,U,U,U,U,U,U,U,U,U,U,U,U,U,U,U,x50,x51,U,U,U,U,U,U,U,U,U,U,U] h e
abbrev ygi:List It:=[.inBlock 1 []]
abbrev ygj (x2 x4 x6 x29 x30 x31:AV) (h:List Ob) (e:Cx:=cx):Cfg:=atC n_order_Levels (.code yfS::.inLoop yfL yfS::.inBlock 2 yfM::ygi) [U,U,x2,U,x4,U,x6,U,U,U,U,U,U,U,U,U,U,U,U,U,U,U,U,U,U,U,U,U,U,x29,x30,x31,U,U,U,U,U,U,U,U,U,U,U,U,U,U,U,U,U,U,U,U,U,U,U,U,U,U,U,U,U,U,U] h e
abbrev ygk (x2:AV) (h:List Ob) (e:Cx:=cx):Cfg:=atC n_order_Levels ygi [U,U,x2,U,U,U,U,U,U,U,U,U,U,U,U,U,U,U,U,U,U,U,U,U,U,U,U,U,U,U,U,U,U,U,U,U,U,U,U,U,U,U,U,U,U,U,U,U,U,U,U,U,U,U,U,U,U,U,U,U,U,U,U] h e
@[simp] theorem c_order_Levels:cfun Tryd.prog n_order_Levels=some order_Levels:=by kernel_rfl
@[simp] theorem e_order_Levels:hasBody Tryd.prog n_order_Levels=true:=by kernel_rfl
abbrev ygl:List AG:=[zz1 71 3,zz1 2 71]
abbrev ygm:List Bool:=[O,I,O,I,O,I,O,I,O,O,O,O,O,O,O,O,O,O,O,O,O,O,O,O,O,O,O,O,O,O,O,O,O,O,O,O,O,O,O,O,O,O,O,O,O,O,O,O,O,O,O,O,O,O,O,O,O,O,O,O,O,O,O,O,O,O,O,O,O,O,O,O]
abbrev ygn:List Bool:=[O,O,O,I,O,O,O,O,O,O,O,O,O,O,O,O,O,O,O,O,O,O,O,O,O,O,O,O,O,O,O,O,O,O,O,O,O,O,O,O,O,O,O,O,O,O,O,O,O,O,O,O,O,O,O,O,O,O,O,O,O,O,O,O,O,O,O,O,O,O,O,O]
abbrev ygo:List AG:=[zz1 32 7,zz6 33 32 1,zz1 7 33]
abbrev ygp:List AG:=[zz1 64 3,zz1 65 5,zz1 66 7,zz5 67 1 65 66,zz2 68 1 67,zz1 69 8,zz5 70 1 64 68,zzb 1 70 69]
abbrev ygq:List Bool:=[O,I,O,I,O,I,O,I,I,I,O,O,O,O,O,O,O,O,O,O,O,O,O,O,O,O,O,O,O,O,O,O,O,O,O,O,O,O,O,O,O,O,O,O,O,O,O,O,O,O,O,O,O,O,O,O,O,O,O,O,O,O,O,O,O,O,O,O,O,O,O,O]
abbrev ygr:List Bool:=[O,I,O,I,O,I,O,I,I,O,O,O,O,O,O,O,O,O,O,O,O,O,O,O,O,O,O,O,O,O,O,O,O,O,O,O,O,O,O,O,O,O,O,O,O,O,O,O,O,O,O,O,O,O,O,O,O,O,O,O,O,O,O,O,O,O,O,O,O,O,O,O]
abbrev ygs:List AG:=[zz1 39 9,zz6 40 39 1,zz1 9 40]
abbrev ygt:List AG:=[zz1 57 8,zz1 58 3,zz1 59 9,zz5 60 1 58 59,zz2 61 1 60,zz6 62 61 1,o 63 (.max [(.t 57),(.t 62)]),zz1 8 63]
abbrev ygu:List AG:=[zz4 41 3 1,zz2 42 1 41,zz1 43 5,zz1 44 7,zz5 45 1 43 44,zz2 46 1 45,zz5 47 5 42 46,zz4 48 2 47,zz2 49 1 48,zz4 50 3 1,zz2 51 1 50,zz1 52 9,zz5 53 5 51 52,zz4 54 0 53,zz2 55 1 54,zzg 56 n_r01_Has 49 55]
abbrev ygv:ACode:=(.seq (.dreg [O,O,O,O,O,O,O,O,O,O,O,O,O,O,O,O] [16,16,16,16,16,16,16,16,16,16,16,16,16,16,16,17] ygu) (.cond (.t 56) (.reg ygt) .skip))
abbrev ygw:List AG:=[zz1 34 9,zz4 35 3 1,zz2 36 1 35,zza 37 36,zz7 38 34 37]
abbrev ygx:ACode:=(.seq (.seq (.reg ygw) (.cond (.t 38) .skip (.exit 4))) (.seq (.block 5 [] ygv) (.reg ygs)))
abbrev ygy:List AG:=[zz9 9 0]
abbrev ygz:List AG:=[zz9 8 0]
abbrev ygA:ACode:=(.seq (.reg ygz) (.seq (.seq (.reg ygy) (.block 4 ygr (.loop ygq ygx))) (.reg ygp)))
abbrev ygB:List AG:=[zz1 28 7,zz1 29 5,zza 30 29,zz7 31 28 30]
abbrev ygC:ACode:=(.seq (.seq (.reg ygB) (.cond (.t 31) .skip (.exit 2))) (.seq (.block 3 [] ygA) (.reg ygo)))
abbrev ygD:List AG:=[zz9 7 0]
abbrev ygE:List AG:=[zz3 24 4 1,zzf 25 n_r07_Sort 24,zz1 23 25,zzc 26 23 0,zzc 27 23 1,zz1 5 26,zz1 6 27]
abbrev ygF:List Bool:=[O,I,O,I,I,O,O,O,O,O,O,O,O,O,O,O,O,O,O,O,O,O,O,O,O,O,O,O,O,O,O,O,O,O,O,O,O,O,O,O,O,O,O,O,O,O,O,O,O,O,O,O,O,O,O,O,O,O,O,O,O,O,O,O,O,O,O,O,O,O,O,O]
abbrev ygG:List Bool:=[O,I,O,I,O,O,O,O,O,O,O,O,O,O,O,O,O,O,O,O,O,O,O,O,O,O,O,O,O,O,O,O,O,O,O,O,O,O,O,O,O,O,O,O,O,O,O,O,O,O,O,O,O,O,O,O,O,O,O,O,O,O,O,O,O,O,O,O,O,O,O,O]
abbrev ygH:List AG:=[zz1 18 4,zz6 19 18 1,zz1 4 19]
abbrev ygI:List AG:=[zz1 20 3,o 21 (.lit 1 [(.int .i64 0)] [(0,(.c (.int .i64 (-1))))]),o 22 (.append 1 t_int 8 (.t 20) (.t 21)),zz1 3 22]
abbrev ygJ:List AG:=[zz1 13 4,zz4 14 3 1,zz2 15 1 14,zza 16 15,zz7 17 13 16]
abbrev ygK:ACode:=(.seq (.seq (.reg ygJ) (.cond (.t 17) .skip (.exit 0))) (.seq (.block 1 [] (.reg ygI)) (.reg ygH)))
abbrev ygL:List AG:=[zz9 4 0]
abbrev ygM:List AG:=[o 2 (.nilrow 1 t_int)]
abbrev ygN:ACode:=(.seq (.reg ygM) .ret)
abbrev ygO:List AG:=[zz3 10 4 1,zzf 11 n_r07_right 10,o 12 (.not (.t 11))]
abbrev ygP:List AG:=[o 3 (.nilrow 1 t_int)]
abbrev ygQ:List AG:=[o 1 (.box 4 (.t 0)),o 2 (.nilrow 1 t_int)]
abbrev r07_Levels:AFun:=⟨(.seq (.reg ygQ) (.seq (.reg ygP) (.seq (.seq (.reg ygO) (.cond (.t 12) ygN .skip)) (.seq (.seq (.reg ygL) (.block 0 ygG (.loop ygF ygK))) (.seq (.reg ygE) (.seq (.seq (.reg ygD) (.block 2 ygn (.loop ygm ygC))) (.seq (.reg ygl) .ret))))))),72,[.tmp 2]⟩
abbrev ygR:List It:=[.code (.reg ygp),.inBlock 3 [],.code (.reg ygo),.inLoop ygm ygC,.inBlock 2 ygn,.code (.seq (.reg ygl) .ret)]
abbrev ygS (x1 x3 x5 x7 x8 x9:AV) (h:List Ob) (e:Cx:=cx):Cfg:=atC n_r07_Levels (.code ygx::.inLoop ygq ygx::.inBlock 4 ygr::ygR) [U,x1,U,x3,U,x5,U,x7,x8,x9,U,U,U,U,U,U,U,U,U,U,U,U,U,U,U,U,U,U,U,U,U,U,U,U,U,U,U,U,U,U,U,U,U,U,U,U,U,U,U,U,U,U,U,U,U,U,U,U,U,U,U,U,U,U,U,U,U,U,U,U,U,U] h e
abbrev ygT (x1 x3 x5 x7 x8:AV) (h:List Ob) (e:Cx:=cx):Cfg:=atC n_r07_Levels ygR [U,x1,U,x3,U,x5,U,x7,x8,U,U,U,U,U,U,U,U,U,U,U,U,U,U,U,U,U,U,U,U,U,U,U,U,U,U,U,U,U,U,U,U,U,U,U,U,U,U,U,U,U,U,U,U,U,U,U,U,U,U,U,U,U,U,U,U,U,U,U,U,U,U,U] h e
abbrev ygU:List It:=[.code (.seq (.reg ygl) .ret)]
abbrev ygV (x1 x3 x5 x7:AV) (h:List Ob) (e:Cx:=cx):Cfg:=atC n_r07_Levels (.code ygC::.inLoop ygm ygC::.inBlock 2 ygn::ygU) [U,x1,U,x3,U,x5,U,x7,U,U,U,U,U,U,U,U,U,U,U,U,U,U,U,U,U,U,U,U,U,U,U,U,U,U,U,U,U,U,U,U,U,U,U,U,U,U,U,U,U,U,U,U,U,U,U,U,U,U,U,U,U,U,U,U,U,U,U,U,U,U,U,U] h e
abbrev ygW:List It:=[.code (.seq (.reg ygE) (.seq (.seq (.reg ygD) (.block 2 ygn (.loop ygm ygC))) (.seq (.reg ygl) .ret)))]
abbrev ygX (x1 x3 x4:AV) (h:List Ob) (e:Cx:=cx):Cfg:=atC n_r07_Levels (.code ygK::.inLoop ygF ygK::.inBlock 0 ygG::ygW) [U,x1,U,x3,x4,U,U,U,U,U,U,U,U,U,U,U,U,U,U,U,U,U,U,U,U,U,U,U,U,U,U,U,U,U,U,U,U,U,U,U,U,U,U,U,U,U,U,U,U,U,U,U,U,U,U,U,U,U,U,U,U,U,U,U,U,U,U,U,U,U,U,U] h e
abbrev ygY (x1 x3:AV) (h:List Ob) (e:Cx:=cx):Cfg:=atC n_r07_Levels ygW [U,x1,U,x3,U,U,U,U,U,U,U,U,U,U,U,U,U,U,U,U,U,U,U,U,U,U,U,U,U,U,U,U,U,U,U,U,U,U,U,U,U,U,U,U,U,U,U,U,U,U,U,U,U,U,U,U,U,U,U,U,U,U,U,U,U,U,U,U,U,U,U,U] h e
@[simp] theorem c_r07_Levels:cfun Tryd.prog n_r07_Levels=some r07_Levels:=by kernel_rfl
@[simp] theorem e_r07_Levels:hasBody Tryd.prog n_r07_Levels=true:=by kernel_rfl
abbrev ygZ:List AG:=[o 4 (.mv (.c (.bool true)))]
abbrev yha:List Bool:=[I,I,O,O,O,I,O,O,O,O,O,O,O,O,O,O,O,O,O,O,O,O,O,O,O,O]
abbrev yhb:List Bool:=[O,O,O,O,O,O,O,O,O,O,O,O,O,O,O,O,O,O,O,O,O,O,O,O,O,O]
abbrev yhc:List AG:=[zz1 15 5,zz6 16 15 1,zz1 5 16]
abbrev yhd:List AG:=[zzh 4]
abbrev yhe:ACode:=(.seq (.reg yhd) .ret)
abbrev yhf:List AG:=[zz1 17 0,zz1 18 5,zz5 19 1 17 18,zz2 20 1 19,zz1 21 1,zz1 22 5,zz5 23 1 21 22,zz2 24 1 23,o 25 (.cmp .neq (.sc .str) (.t 20) (.t 24))]
abbrev yhg:ACode:=(.seq (.dreg [O,O,O,O,O,O,O,O,O] [10,10,10,10,10,10,10,10,10] yhf) (.cond (.t 25) yhe .skip))
abbrev yhh:List AG:=[zz1 11 5,zz1 12 0,zza 13 12,zz7 14 11 13]
abbrev yhi:ACode:=(.seq (.seq (.reg yhh) (.cond (.t 14) .skip (.exit 0))) (.seq (.block 1 [] yhg) (.reg yhc)))
abbrev yhj:List AG:=[zz9 5 0]
abbrev yhk:List AG:=[zzh 4]
abbrev yhl:ACode:=(.seq (.reg yhk) .ret)
abbrev yhm:List AG:=[zz1 6 0,zza 7 6,zz1 8 1,zza 9 8,o 10 (.cmp .neq (.sc .int) (.t 7) (.t 9))]
abbrev yhn:List AG:=[zzh 4]
abbrev r01_Texts:AFun:=⟨(.seq (.reg yhn) (.seq (.seq (.reg yhm) (.cond (.t 10) yhl .skip)) (.seq (.seq (.reg yhj) (.block 0 yhb (.loop yha yhi))) (.seq (.reg ygZ) .ret)))),26,[.tmp 4]⟩
abbrev yho:List It:=[.code (.seq (.reg ygZ) .ret)]
abbrev yhp (x0 x1 x5:AV) (h:List Ob) (e:Cx:=cx):Cfg:=atC n_r01_Texts (.code yhi::.inLoop yha yhi::.inBlock 0 yhb::yho) [x0,x1,U,U,U,x5,U,U,U,U,U,U,U,U,U,U,U,U,U,U,U,U,U,U,U,U] h e
@[simp] theorem c_r01_Texts:cfun Tryd.prog n_r01_Texts=some r01_Texts:=by kernel_rfl
@[simp] theorem e_r01_Texts:hasBody Tryd.prog n_r01_Texts=true:=by kernel_rfl
abbrev yhq:List AG:=[zz1 23 0,zza 24 23,zz1 25 1,o 26 (.cmp .leq (.sc .int) (.t 24) (.t 25)),zz1 4 26]
abbrev yhr:List Bool:=[I,I,O,O,O,I,O,O,O,O,O,O,O,O,O,O,O,O,O,O,O,O,O,O,O,O,O]
abbrev yhs:List Bool:=[I,I,O,O,O,O,O,O,O,O,O,O,O,O,O,O,O,O,O,O,O,O,O,O,O,O,O]
abbrev yht:List AG:=[zz1 15 5,zz6 16 15 1,zz1 5 16]
abbrev yhu:List AG:=[zzh 4]
abbrev yhv:ACode:=(.seq (.reg yhu) .ret)
abbrev yhw:List AG:=[zz1 17 0,zz1 18 5,zz5 19 1 17 18,zz2 20 1 19,o 21 (.lenStr (.t 20)),o 22 (.cmp .gtr (.sc .int) (.t 21) (.c (.int .i64 60)))]
abbrev yhx:ACode:=(.seq (.reg yhw) (.cond (.t 22) yhv .skip))
abbrev yhy:List AG:=[zz1 6 5,zz1 7 0,zza 8 7,zz7 9 6 8,zz1 10 9,zze 11 10 5,zze 12 10 1,oy 13 10 (.cmp .leq (.sc .int) (.t 11) (.t 12)),zz8 14 10 13]
abbrev yhz:ACode:=(.seq (.seq (.reg yhy) (.cond (.t 14) .skip (.exit 0))) (.seq (.block 1 [] yhx) (.reg yht)))
abbrev yhA:List AG:=[zz9 5 0]
abbrev yhB:List AG:=[zzh 4]
abbrev w05_Texts:AFun:=⟨(.seq (.reg yhB) (.seq (.seq (.reg yhA) (.block 0 yhs (.loop yhr yhz))) (.seq (.reg yhq) .ret))),27,[.tmp 4]⟩
abbrev yhC:List It:=[.code (.seq (.reg yhq) .ret)]
abbrev yhD (x0 x1 x5:AV) (h:List Ob) (e:Cx:=cx):Cfg:=atC n_w05_Texts (.code yhz::.inLoop yhr yhz::.inBlock 0 yhs::yhC) [x0,x1,U,U,U,x5,U,U,U,U,U,U,U,U,U,U,U,U,U,U,U,U,U,U,U,U,U] h e
@[simp] theorem c_w05_Texts:cfun Tryd.prog n_w05_Texts=some w05_Texts:=by kernel_rfl
@[simp] theorem e_w05_Texts:hasBody Tryd.prog n_w05_Texts=true:=by kernel_rfl
abbrev yhE:List AG:=[zz1 84 13,zz1 4 84]
abbrev yhF:List Bool:=[O,O,O,O,O,O,O,O,O,O,I,O,O,I,O,O,O,O,O,O,O,O,O,O,O,O,O,O,O,O,O,O,O,O,O,O,O,O,O,O,O,O,O,O,O,O,O,O,O,O,O,O,O,O,O,O,O,O,O,O,O,O,O,O,O,O,O,O,O,O,I,I,I,O,O,O,O,O,O,O,O,O,O,O,O]
abbrev yhG:List Bool:=[O,O,O,O,O,O,O,O,O,O,O,O,O,I,O,O,O,O,O,O,O,O,O,O,O,O,O,O,O,O,O,O,O,O,O,O,O,O,O,O,O,O,O,O,O,O,O,O,O,O,O,O,O,O,O,O,O,O,O,O,O,O,O,O,O,O,O,O,O,O,O,O,O,O,O,O,O,O,O,O,O,O,O,O,O]
abbrev yhH:List AG:=[zz6 83 72 1,zz1 72 83]
abbrev yhI:List AG:=[zz1 79 13,zz1 80 15,o 81 (.lit 1 [(.str [])] [(0,(.t 80))]),o 82 (.append 1 t_string 16 (.t 79) (.t 81)),zz1 13 82]
abbrev yhJ:List AG:=[zz1 76 10,zz1 77 15,o 78 (.lookup (.sc .str) (.bool false) (.t 76) (.t 77) false)]
abbrev yhK:List AG:=[zz5 74 1 70 72,zz2 75 1 74,zz1 15 75]
abbrev yhL:ACode:=(.seq (.reg yhK) (.seq (.reg yhJ) (.cond (.t 78) (.reg yhI) .skip)))
abbrev yhM:List AG:=[zz7 73 72 71]
abbrev yhN:ACode:=(.seq (.reg yhM) (.seq (.cond (.t 73) .skip (.exit 6)) (.seq (.block 7 [] yhL) (.reg yhH))))
abbrev yhO:List AG:=[zz3 69 4 2,zzf 70 n_net_Nets 69,zza 71 70,zz9 72 0]
abbrev yhP:List AG:=[o 13 (.nilrow 1 t_string)]
abbrev yhQ:List Bool:=[O,O,I,O,O,I,O,O,O,O,I,I,O,O,O,O,O,O,O,O,O,O,O,O,O,O,O,O,O,O,O,O,O,O,O,O,O,O,O,O,O,O,O,O,O,O,O,O,O,O,O,O,O,O,O,O,O,O,O,O,O,O,O,O,O,O,O,O,O,O,O,O,O,O,O,O,O,O,O,O,O,O,O,O,O]
abbrev yhR:List Bool:=[O,O,I,O,O,O,O,O,O,O,I,O,O,O,O,O,O,O,O,O,O,O,O,O,O,O,O,O,O,O,O,O,O,O,O,O,O,O,O,O,O,O,O,O,O,O,O,O,O,O,O,O,O,O,O,O,O,O,O,O,O,O,O,O,O,O,O,O,O,O,O,O,O,O,O,O,O,O,O,O,O,O,O,O,O]
abbrev yhS:List AG:=[zz1 64 11,zz1 65 5,zz1 66 12,o 67 (.lookup (.sc .str) (.list true 0 []) (.t 65) (.t 66) false),o 68 (.append 1 t_string 16 (.t 64) (.t 67)),zz1 11 68]
abbrev yhT:List AG:=[zz1 62 10,zz1 63 12,q (.upd (.sc .str) (.t 62) (.t 63) (.c (.bool true)))]
abbrev yhU:ACode:=(.seq (.reg yhT) (.reg yhS))
abbrev yhV:List AG:=[zz1 58 10,zz1 59 12,o 60 (.lookup (.sc .str) (.bool false) (.t 58) (.t 59) false),o 61 (.not (.t 60))]
abbrev yhW:List AG:=[zz1 56 11,o 57 (.slice 1 (.t 56) (some (.c (.int .i64 1))) none),zz1 11 57]
abbrev yhX:List AG:=[zz1 53 11,o 54 (.ixAddr 1 (.t 53) (.c (.int .i64 0))),zz2 55 1 54,zz1 12 55]
abbrev yhY:ACode:=(.seq (.reg yhX) (.seq (.reg yhW) (.seq (.reg yhV) (.cond (.t 61) yhU .skip))))
abbrev yhZ:List AG:=[zz1 50 11,zza 51 50,o 52 (.cmp .gtr (.sc .int) (.t 51) (.c (.int .i64 0)))]
abbrev yia:ACode:=(.seq (.seq (.reg yhZ) (.cond (.t 52) .skip (.exit 4))) (.block 5 [] yhY))
abbrev yib:List AG:=[zz1 48 1,zzf 49 n_slices_Clone_string_string 48,zz1 11 49]
abbrev yic:List AG:=[o 47 (.mkMap),zz1 10 47]
abbrev yid:List Bool:=[O,I,I,O,O,I,O,O,O,O,O,O,O,O,O,O,O,O,O,O,O,O,O,O,O,O,O,O,O,O,O,O,O,O,O,I,I,I,O,O,O,O,O,O,O,O,O,O,O,O,O,O,O,O,O,O,O,O,O,O,O,O,O,O,O,O,O,O,O,O,O,O,O,O,O,O,O,O,O,O,O,O,O,O,O]
abbrev yie:List Bool:=[O,I,I,O,O,I,O,O,O,O,O,O,O,O,O,O,O,O,O,O,O,O,O,O,O,O,O,O,O,O,O,O,O,O,O,O,O,O,O,O,O,O,O,O,O,O,O,O,O,O,O,O,O,O,O,O,O,O,O,O,O,O,O,O,O,O,O,O,O,O,O,O,O,O,O,O,O,O,O,O,O,O,O,O,O]
abbrev yif:List AG:=[zz6 46 37 1,zz1 37 46]
abbrev yig:List AG:=[zz1 41 5,zz4 42 0 9,zz2 43 1 42,zz4 44 2 9,zz2 45 1 44,q (.upd (.sc .str) (.t 41) (.t 43) (.t 45))]
abbrev yih:List AG:=[zz5 39 5 35 37,zz3 40 5 39,o 9 (.alloc [(.str []),(.int .i64 0),(.own 1 t_string []),(.own 1 t_string []),(.bool false)]),zzb 5 9 40]
abbrev yii:ACode:=(.seq (.reg yih) (.reg yig))
abbrev yij:List AG:=[zz7 38 37 36]
abbrev yik:ACode:=(.seq (.reg yij) (.seq (.cond (.t 38) .skip (.exit 2)) (.seq (.block 3 [] yii) (.reg yif))))
abbrev yil:List AG:=[zz4 34 3 2,zz2 35 1 34,zza 36 35,zz9 37 0]
abbrev yim:List Bool:=[O,I,I,O,O,I,O,O,O,O,O,O,O,O,O,O,O,O,O,O,O,I,I,I,O,O,O,O,O,O,O,O,O,O,O,O,O,O,O,O,O,O,O,O,O,O,O,O,O,O,O,O,O,O,O,O,O,O,O,O,O,O,O,O,O,O,O,O,O,O,O,O,O,O,O,O,O,O,O,O,O,O,O,O,O]
abbrev yin:List Bool:=[O,I,I,O,O,I,O,O,O,O,O,O,O,O,O,O,O,O,O,O,O,O,O,O,O,O,O,O,O,O,O,O,O,O,O,O,O,O,O,O,O,O,O,O,O,O,O,O,O,O,O,O,O,O,O,O,O,O,O,O,O,O,O,O,O,O,O,O,O,O,O,O,O,O,O,O,O,O,O,O,O,O,O,O,O]
abbrev yio:List AG:=[zz6 33 23 1,zz1 23 33]
abbrev yip:List AG:=[zz1 27 5,zz4 28 0 7,zz2 29 1 28,zz4 30 1 7,zz2 31 1 30,o 32 (.lit 1 [(.str [])] [(0,(.t 31))]),q (.upd (.sc .str) (.t 27) (.t 29) (.t 32))]
abbrev yiq:List AG:=[zz5 25 3 21 23,zz3 26 3 25,o 7 (.alloc [(.str []),(.str []),(.int .i64 0)]),zzb 3 7 26]
abbrev yir:ACode:=(.seq (.reg yiq) (.reg yip))
abbrev yis:List AG:=[zz7 24 23 22]
abbrev yit:ACode:=(.seq (.reg yis) (.seq (.cond (.t 24) .skip (.exit 0)) (.seq (.block 1 [] yir) (.reg yio))))
abbrev yiu:List AG:=[zz4 20 2 2,zz2 21 1 20,zza 22 21,zz9 23 0]
abbrev yiv:List AG:=[o 19 (.mkMap),zz1 5 19]
abbrev yiw:List AG:=[o 4 (.nilrow 1 t_string)]
abbrev yix:ACode:=(.seq (.reg yiw) .ret)
abbrev yiy:List AG:=[zz3 16 4 2,zzf 17 n_order_right 16,o 18 (.not (.t 17))]
abbrev yiz:List AG:=[o 2 (.box 4 (.t 0)),o 4 (.nilrow 1 t_string)]
abbrev order_Cone:AFun:=⟨(.seq (.reg yiz) (.seq (.seq (.reg yiy) (.cond (.t 18) yix .skip)) (.seq (.reg yiv) (.seq (.seq (.reg yiu) (.block 0 yin (.loop yim yit))) (.seq (.seq (.reg yil) (.block 2 yie (.loop yid yik))) (.seq (.reg yic) (.seq (.seq (.reg yib) (.block 4 yhR (.loop yhQ yia))) (.seq (.reg yhP) (.seq (.seq (.reg yhO) (.block 6 yhG (.loop yhF yhN))) (.seq (.reg yhE) .ret)))))))))),85,[.tmp 4]⟩
abbrev yiA:List It:=[.code (.seq (.reg yhE) .ret)]
abbrev yiB (x10 x13 x70 x71 x72:AV) (h:List Ob) (e:Cx:=cx):Cfg:=atC n_order_Cone (.code yhN::.inLoop yhF yhN::.inBlock 6 yhG::yiA) [U,U,U,U,U,U,U,U,U,U,x10,U,U,x13,U,U,U,U,U,U,U,U,U,U,U,U,U,U,U,U,U,U,U,U,U,U,U,U,U,U,U,U,U,U,U,U,U,U,U,U,U,U,U,U,U,U,U,U,U,U,U,U,U,U,U,U,U,U,U,U,x70,x71,x72,U,U,U,U,U,U,U,U,U,U,U,U] h e
abbrev yiC:List It:=[.code (.seq (.reg yhP) (.seq (.seq (.reg yhO) (.block 6 yhG (.loop yhF yhN))) (.seq (.reg yhE) .ret)))]
abbrev yiD (x2 x5 x10 x11:AV) (h:List Ob) (e:Cx:=cx):Cfg:=atC n_order_Cone (.code yia::.inLoop yhQ yia::.inBlock 4 yhR::yiC) [U,U,x2,U,U,x5,U,U,U,U,x10,x11,U,U,U,U,U,U,U,U,U,U,U,U,U,U,U,U,U,U,U,U,U,U,U,U,U,U,U,U,U,U,U,U,U,U,U,U,U,U,U,U,U,U,U,U,U,U,U,U,U,U,U,U,U,U,U,U,U,U,U,U,U,U,U,U,U,U,U,U,U,U,U,U,U] h e
abbrev yiE:List It:=[.code (.seq (.reg yic) (.seq (.seq (.reg yib) (.block 4 yhR (.loop yhQ yia))) (.seq (.reg yhP) (.seq (.seq (.reg yhO) (.block 6 yhG (.loop yhF yhN))) (.seq (.reg yhE) .ret)))))]
abbrev yiF (x1 x2 x5 x35 x36 x37:AV) (h:List Ob) (e:Cx:=cx):Cfg:=atC n_order_Cone (.code yik::.inLoop yid yik::.inBlock 2 yie::yiE) [U,x1,x2,U,U,x5,U,U,U,U,U,U,U,U,U,U,U,U,U,U,U,U,U,U,U,U,U,U,U,U,U,U,U,U,U,x35,x36,x37,U,U,U,U,U,U,U,U,U,U,U,U,U,U,U,U,U,U,U,U,U,U,U,U,U,U,U,U,U,U,U,U,U,U,U,U,U,U,U,U,U,U,U,U,U,U,U] h e
abbrev yiG:List It:=[.code (.seq (.seq (.reg yil) (.block 2 yie (.loop yid yik))) (.seq (.reg yic) (.seq (.seq (.reg yib) (.block 4 yhR (.loop yhQ yia))) (.seq (.reg yhP) (.seq (.seq (.reg yhO) (.block 6 yhG (.loop yhF yhN))) (.seq (.reg yhE) .ret))))))]
abbrev yiH (x1 x2 x5 x21 x22 x23:AV) (h:List Ob) (e:Cx:=cx):Cfg:=atC n_order_Cone (.code yit::.inLoop yim yit::.inBlock 0 yin::yiG) [U,x1,x2,U,U,x5,U,U,U,U,U,U,U,U,U,U,U,U,U,U,U,x21,x22,x23,U,U,U,U,U,U,U,U,U,U,U,U,U,U,U,U,U,U,U,U,U,U,U,U,U,U,U,U,U,U,U,U,U,U,U,U,U,U,U,U,U,U,U,U,U,U,U,U,U,U,U,U,U,U,U,U,U,U,U,U,U] h e
@[simp] theorem c_order_Cone:cfun Tryd.prog n_order_Cone=some order_Cone:=by kernel_rfl
@[simp] theorem e_order_Cone:hasBody Tryd.prog n_order_Cone=true:=by kernel_rfl
abbrev yiI:List AG:=[zz1 84 10,zz1 4 84]
abbrev yiJ:List Bool:=[O,O,O,O,O,I,I,O,O,O,I,I,O,O,O,O,O,O,O,O,O,O,O,O,O,O,O,O,O,O,O,O,O,O,O,O,O,O,O,O,O,O,O,O,O,O,O,O,O,O,O,O,O,O,O,O,O,O,O,O,O,O,O,O,O,O,O,O,O,O,O,O,O,O,O,O,O,O,O,O,O,O,O,O,O]
abbrev yiK:List Bool:=[O,O,O,O,O,O,O,O,O,O,I,O,O,O,O,O,O,O,O,O,O,O,O,O,O,O,O,O,O,O,O,O,O,O,O,O,O,O,O,O,O,O,O,O,O,O,O,O,O,O,O,O,O,O,O,O,O,O,O,O,O,O,O,O,O,O,O,O,O,O,O,O,O,O,O,O,O,O,O,O,O,O,O,O,O]
abbrev yiL:List AG:=[zz1 71 11,zz6 72 71 1,zz1 11 72]
abbrev yiM:List AG:=[zz1 77 10,zz1 78 5,zz1 79 11,zz5 80 1 78 79,zz2 81 1 80,o 82 (.lit 1 [(.str [])] [(0,(.t 81))]),o 83 (.append 1 t_string 16 (.t 77) (.t 82)),zz1 10 83]
abbrev yiN:List AG:=[zz1 73 6,zz1 74 11,zz5 75 1 73 74,zz2 76 1 75]
abbrev yiO:ACode:=(.seq (.reg yiN) (.cond (.t 76) (.reg yiM) .skip))
abbrev yiP:List AG:=[zz1 67 11,zz1 68 5,zza 69 68,zz7 70 67 69]
abbrev yiQ:ACode:=(.seq (.seq (.reg yiP) (.cond (.t 70) .skip (.exit 6))) (.seq (.block 7 [] yiO) (.reg yiL)))
abbrev yiR:List AG:=[zz9 11 0]
abbrev yiS:List AG:=[o 10 (.nilrow 1 t_string)]
abbrev yiT:List Bool:=[O,I,I,O,O,I,I,I,O,O,O,O,O,O,O,O,O,O,O,O,O,O,O,O,O,O,O,O,O,O,O,O,O,O,O,O,O,O,O,O,O,O,O,O,O,O,O,O,O,O,O,O,O,O,O,O,O,O,O,O,O,O,O,O,O,O,O,O,O,O,O,O,O,O,O,O,O,O,O,O,O,O,O,O,O]
abbrev yiU:List Bool:=[O,O,O,O,O,I,I,O,O,O,O,O,O,O,O,O,O,O,O,O,O,O,O,O,O,O,O,O,O,O,O,O,O,O,O,O,O,O,O,O,O,O,O,O,O,O,O,O,O,O,O,O,O,O,O,O,O,O,O,O,O,O,O,O,O,O,O,O,O,O,O,O,O,O,O,O,O,O,O,O,O,O,O,O,O]
abbrev yiV:List AG:=[zz1 24 7,zz6 25 24 1,zz1 7 25]
abbrev yiW:List Bool:=[O,I,I,O,O,I,I,I,I,O,O,O,O,O,O,O,O,O,O,O,O,O,O,O,O,O,O,O,O,O,O,O,O,O,O,O,O,O,O,O,O,O,O,O,O,O,O,O,O,O,O,O,O,O,O,O,O,O,O,O,O,O,O,O,O,O,O,O,O,O,O,O,O,O,O,O,O,O,O,O,O,O,O,O,O]
abbrev yiX:List Bool:=[O,I,I,O,O,I,I,I,O,O,O,O,O,O,O,O,O,O,O,O,O,O,O,O,O,O,O,O,O,O,O,O,O,O,O,O,O,O,O,O,O,O,O,O,O,O,O,O,O,O,O,O,O,O,O,O,O,O,O,O,O,O,O,O,O,O,O,O,O,O,O,O,O,O,O,O,O,O,O,O,O,O,O,O,O]
abbrev yiY:List AG:=[zz1 30 8,zz6 31 30 1,zz1 8 31]
abbrev yiZ:List Bool:=[O,I,I,O,O,I,I,I,I,I,O,O,O,O,O,O,O,O,O,O,O,O,O,O,O,O,O,O,O,O,O,O,O,O,O,O,O,O,O,O,O,O,O,O,O,O,O,O,O,O,O,O,O,O,O,O,O,O,O,O,O,O,O,O,O,O,O,O,O,O,O,O,O,O,O,O,O,O,O,O,O,O,O,O,O]
abbrev yja:List Bool:=[O,I,I,O,O,I,I,I,I,O,O,O,O,O,O,O,O,O,O,O,O,O,O,O,O,O,O,O,O,O,O,O,O,O,O,O,O,O,O,O,O,O,O,O,O,O,O,O,O,O,O,O,O,O,O,O,O,O,O,O,O,O,O,O,O,O,O,O,O,O,O,O,O,O,O,O,O,O,O,O,O,O,O,O,O]
abbrev yjb:List AG:=[zz1 45 9,zz6 46 45 1,zz1 9 46]
abbrev yjc:List AG:=[zz1 64 6,zz1 65 8,zz5 66 1 64 65,q (.store 1 (.t 66) (.c (.bool true)))]
abbrev yjd:List AG:=[zz1 47 6,zz1 48 9,zz5 49 1 47 48,zz2 50 1 49,zz1 51 50,oy 52 51 (.load true 4 (.t 2)),zze 53 51 5,zze 54 51 9,oy 55 51 (.ixAddr 1 (.t 53) (.t 54)),zzd 56 51 1 55,oy 57 51 (.call (.f n_r07_leads) [(.t 52),(.t 56)]),zze 58 51 5,zze 59 51 8,oy 60 51 (.ixAddr 1 (.t 58) (.t 59)),zzd 61 51 1 60,oy 62 51 (.call (.f n_r01_Has) [(.t 57),(.t 61)]),zz8 63 51 62]
abbrev yje:ACode:=(.seq (.dreg [O,O,O,O,O,O,O,O,O,O,O,O,O,O,I,O,O] [11,11,11,11,11,11,11,11,11,11,16,16,16,16,16,18,18] yjd) (.cond (.t 63) (.reg yjc) .skip))
abbrev yjf:List AG:=[zz1 41 9,zz1 42 5,zza 43 42,zz7 44 41 43]
abbrev yjg:ACode:=(.seq (.seq (.reg yjf) (.cond (.t 44) .skip (.exit 4))) (.seq (.block 5 [] yje) (.reg yjb)))
abbrev yjh:List AG:=[zz9 9 0]
abbrev yji:List AG:=[zz1 38 6,zz1 39 8,zz5 40 1 38 39,q (.store 1 (.t 40) (.c (.bool true)))]
abbrev yjj:List AG:=[zz1 32 1,zz1 33 5,zz1 34 8,zz5 35 1 33 34,zz2 36 1 35,zzg 37 n_r01_Has 32 36]
abbrev yjk:ACode:=(.seq (.seq (.reg yjj) (.cond (.t 37) (.reg yji) .skip)) (.seq (.reg yjh) (.block 4 yja (.loop yiZ yjg))))
abbrev yjl:List AG:=[zz1 26 8,zz1 27 5,zza 28 27,zz7 29 26 28]
abbrev yjm:ACode:=(.seq (.seq (.reg yjl) (.cond (.t 29) .skip (.exit 2))) (.seq (.block 3 [] yjk) (.reg yiY)))
abbrev yjn:List AG:=[zz9 8 0]
abbrev yjo:ACode:=(.seq (.reg yjn) (.block 2 yiX (.loop yiW yjm)))
abbrev yjp:List AG:=[zz1 20 7,zz1 21 5,zza 22 21,o 23 (.cmp .leq (.sc .int) (.t 20) (.t 22))]
abbrev yjq:ACode:=(.seq (.seq (.reg yjp) (.cond (.t 23) .skip (.exit 0))) (.seq (.block 1 [] yjo) (.reg yiV)))
abbrev yjr:List AG:=[zz9 7 0]
abbrev yjs:List AG:=[zz1 17 5,zza 18 17,o 19 (.mkSlice 1 t_bool 1 (.bool false) (.t 18) (.t 18)),zz1 6 19]
abbrev yjt:List AG:=[zz3 15 4 2,zzf 16 n_r06_Nets 15,zz1 5 16]
abbrev yju:List AG:=[o 4 (.nilrow 1 t_string)]
abbrev yjv:ACode:=(.seq (.reg yju) .ret)
abbrev yjw:List AG:=[zz3 12 4 2,zzf 13 n_r07_right 12,o 14 (.not (.t 13))]
abbrev yjx:List AG:=[o 2 (.box 4 (.t 0)),o 4 (.nilrow 1 t_string)]
abbrev r07_Cone:AFun:=⟨(.seq (.reg yjx) (.seq (.seq (.reg yjw) (.cond (.t 14) yjv .skip)) (.seq (.reg yjt) (.seq (.reg yjs) (.seq (.seq (.reg yjr) (.block 0 yiU (.loop yiT yjq))) (.seq (.reg yiS) (.seq (.seq (.reg yiR) (.block 6 yiK (.loop yiJ yiQ))) (.seq (.reg yiI) .ret)))))))),85,[.tmp 4]⟩
abbrev yjy:List It:=[.code (.seq (.reg yiI) .ret)]
abbrev yjz (x5 x6 x10 x11:AV) (h:List Ob) (e:Cx:=cx):Cfg:=atC n_r07_Cone (.code yiQ::.inLoop yiJ yiQ::.inBlock 6 yiK::yjy) [U,U,U,U,U,x5,x6,U,U,U,x10,x11,U,U,U,U,U,U,U,U,U,U,U,U,U,U,U,U,U,U,U,U,U,U,U,U,U,U,U,U,U,U,U,U,U,U,U,U,U,U,U,U,U,U,U,U,U,U,U,U,U,U,U,U,U,U,U,U,U,U,U,U,U,U,U,U,U,U,U,U,U,U,U,U,U] h e
abbrev yjA:List It:=[.inBlock 3 [],.code (.reg yiY),.inLoop yiW yjm,.inBlock 2 yiX,.inBlock 1 [],.code (.reg yiV),.inLoop yiT yjq,.inBlock 0 yiU,.code (.seq (.reg yiS) (.seq (.seq (.reg yiR) (.block 6 yiK (.loop yiJ yiQ))) (.seq (.reg yiI) .ret)))]
abbrev yjB (x1 x2 x5 x6 x7 x8 x9:AV) (h:List Ob) (e:Cx:=cx):Cfg:=atC n_r07_Cone (.code yjg::.inLoop yiZ yjg::.inBlock 4 yja::yjA) [U,x1,x2,U,U,x5,x6,x7,x8,x9,U,U,U,U,U,U,U,U,U,U,U,U,U,U,U,U,U,U,U,U,U,U,U,U,U,U,U,U,U,U,U,U,U,U,U,U,U,U,U,U,U,U,U,U,U,U,U,U,U,U,U,U,U,U,U,U,U,U,U,U,U,U,U,U,U,U,U,U,U,U,U,U,U,U,U] h e
abbrev yjC (x1 x2 x5 x6 x7 x8:AV) (h:List Ob) (e:Cx:=cx):Cfg:=atC n_r07_Cone yjA [U,x1,x2,U,U,x5,x6,x7,x8,U,U,U,U,U,U,U,U,U,U,U,U,U,U,U,U,U,U,U,U,U,U,U,U,U,U,U,U,U,U,U,U,U,U,U,U,U,U,U,U,U,U,U,U,U,U,U,U,U,U,U,U,U,U,U,U,U,U,U,U,U,U,U,U,U,U,U,U,U,U,U,U,U,U,U,U] h e
abbrev yjD:List It:=[.inBlock 1 [],.code (.reg yiV),.inLoop yiT yjq,.inBlock 0 yiU,.code (.seq (.reg yiS) (.seq (.seq (.reg yiR) (.block 6 yiK (.loop yiJ yiQ))) (.seq (.reg yiI) .ret)))]
abbrev yjE (x1 x2 x5 x6 x7 x8:AV) (h:List Ob) (e:Cx:=cx):Cfg:=atC n_r07_Cone (.code yjm::.inLoop yiW yjm::.inBlock 2 yiX::yjD) [U,x1,x2,U,U,x5,x6,x7,x8,U,U,U,U,U,U,U,U,U,U,U,U,U,U,U,U,U,U,U,U,U,U,U,U,U,U,U,U,U,U,U,U,U,U,U,U,U,U,U,U,U,U,U,U,U,U,U,U,U,U,U,U,U,U,U,U,U,U,U,U,U,U,U,U,U,U,U,U,U,U,U,U,U,U,U,U] h e
abbrev yjF (x1 x2 x5 x6 x7:AV) (h:List Ob) (e:Cx:=cx):Cfg:=atC n_r07_Cone yjD [U,x1,x2,U,U,x5,x6,x7,U,U,U,U,U,U,U,U,U,U,U,U,U,U,U,U,U,U,U,U,U,U,U,U,U,U,U,U,U,U,U,U,U,U,U,U,U,U,U,U,U,U,U,U,U,U,U,U,U,U,U,U,U,U,U,U,U,U,U,U,U,U,U,U,U,U,U,U,U,U,U,U,U,U,U,U,U] h e
abbrev yjG:List It:=[.code (.seq (.reg yiS) (.seq (.seq (.reg yiR) (.block 6 yiK (.loop yiJ yiQ))) (.seq (.reg yiI) .ret)))]
abbrev yjH (x1 x2 x5 x6 x7:AV) (h:List Ob) (e:Cx:=cx):Cfg:=atC n_r07_Cone (.code yjq::.inLoop yiT yjq::.inBlock 0 yiU::yjG) [U,x1,x2,U,U,x5,x6,x7,U,U,U,U,U,U,U,U,U,U,U,U,U,U,U,U,U,U,U,U,U,U,U,U,U,U,U,U,U,U,U,U,U,U,U,U,U,U,U,U,U,U,U,U,U,U,U,U,U,U,U,U,U,U,U,U,U,U,U,U,U,U,U,U,U,U,U,U,U,U,U,U,U,U,U,U,U] h e
abbrev yjI (x5 x6:AV) (h:List Ob) (e:Cx:=cx):Cfg:=atC n_r07_Cone yjG [U,U,U,U,U,x5,x6,U,U,U,U,U,U,U,U,U,U,U,U,U,U,U,U,U,U,U,U,U,U,U,U,U,U,U,U,U,U,U,U,U,U,U,U,U,U,U,U,U,U,U,U,U,U,U,U,U,U,U,U,U,U,U,U,U,U,U,U,U,U,U,U,U,U,U,U,U,U,U,U,U,U,U,U,U,U] h e
set_option maxRecDepth 100000 in
@[simp] theorem c_r07_Cone:cfun Tryd.prog n_r07_Cone=some r07_Cone:=by kernel_rfl
@[simp] theorem e_r07_Cone:hasBody Tryd.prog n_r07_Cone=true:=by kernel_rfl
abbrev yjJ:List AG:=[o 4 (.mv (.c (.bool true)))]
abbrev yjK:List Bool:=[O,O,I,I,O,O,I,O,O,O,O,O,O,O,O,O,O,O,O,O,O,O,O,O,O,O,O,O,O,O,O,O,O,O,O,O,O,O,O,O,O,O,O,O,O,O,O,O,O,O,O,O,O,O,O,O,O,O,O,O,O,O,O,O,O,O,O,O,O,O,O,O,O,O,O,O]
abbrev yjL:List Bool:=[O,O,O,O,O,O,O,O,O,O,O,O,O,O,O,O,O,O,O,O,O,O,O,O,O,O,O,O,O,O,O,O,O,O,O,O,O,O,O,O,O,O,O,O,O,O,O,O,O,O,O,O,O,O,O,O,O,O,O,O,O,O,O,O,O,O,O,O,O,O,O,O,O,O,O,O]
abbrev yjM:List AG:=[zz1 62 6,zz6 63 62 1,zz1 6 63]
abbrev yjN:List AG:=[zzh 4]
abbrev yjO:ACode:=(.seq (.reg yjN) .ret)
abbrev yjP:List AG:=[zz4 64 3 2,zz2 65 1 64,zz1 66 6,zz5 67 5 65 66,zz3 68 5 67,zz4 69 3 3,zz2 70 1 69,zz1 71 6,zz5 72 5 70 71,zz3 73 5 72,zzg 74 n_r06_SameGate 68 73,o 75 (.not (.t 74))]
abbrev yjQ:ACode:=(.seq (.dreg [O,O,O,O,O,O,O,O,O,O,O,O] [11,11,11,11,11,11,11,11,11,11,13,13] yjP) (.cond (.t 75) yjO .skip))
abbrev yjR:List AG:=[zz1 57 6,zz4 58 3 2,zz2 59 1 58,zza 60 59,zz7 61 57 60]
abbrev yjS:ACode:=(.seq (.seq (.reg yjR) (.cond (.t 61) .skip (.exit 2))) (.seq (.block 3 [] yjQ) (.reg yjM)))
abbrev yjT:List AG:=[zz9 6 0]
abbrev yjU:List Bool:=[O,O,I,I,O,I,O,O,O,O,O,O,O,O,O,O,O,O,O,O,O,O,O,O,O,O,O,O,O,O,O,O,O,O,O,O,O,O,O,O,O,O,O,O,O,O,O,O,O,O,O,O,O,O,O,O,O,O,O,O,O,O,O,O,O,O,O,O,O,O,O,O,O,O,O,O]
abbrev yjV:List Bool:=[O,O,I,I,O,O,O,O,O,O,O,O,O,O,O,O,O,O,O,O,O,O,O,O,O,O,O,O,O,O,O,O,O,O,O,O,O,O,O,O,O,O,O,O,O,O,O,O,O,O,O,O,O,O,O,O,O,O,O,O,O,O,O,O,O,O,O,O,O,O,O,O,O,O,O,O]
abbrev yjW:List AG:=[zz1 44 5,zz6 45 44 1,zz1 5 45]
abbrev yjX:List AG:=[zzh 4]
abbrev yjY:ACode:=(.seq (.reg yjX) .ret)
abbrev yjZ:List AG:=[zz4 46 2 2,zz2 47 1 46,zz1 48 5,zz5 49 3 47 48,zz3 50 3 49,zz4 51 2 3,zz2 52 1 51,zz1 53 5,zz5 54 3 52 53,zz3 55 3 54,o 56 (.cmp .neq (.strct [.str,.str,.int]) (.t 50) (.t 55))]
abbrev yka:ACode:=(.seq (.dreg [O,O,O,O,O,O,O,O,O,O,O] [12,12,12,12,12,12,12,12,12,12,12] yjZ) (.cond (.t 56) yjY .skip))
abbrev ykb:List AG:=[zz1 39 5,zz4 40 2 2,zz2 41 1 40,zza 42 41,zz7 43 39 42]
abbrev ykc:ACode:=(.seq (.seq (.reg ykb) (.cond (.t 43) .skip (.exit 0))) (.seq (.block 1 [] yka) (.reg yjW)))
abbrev ykd:List AG:=[zz9 5 0]
abbrev yke:List AG:=[zzh 4]
abbrev ykf:ACode:=(.seq (.reg yke) .ret)
abbrev ykg:List AG:=[zz4 7 0 2,zz2 8 1 7,zz4 9 0 3,zz2 10 1 9,zzg 11 n_r01_Texts 8 10,o 12 (.not (.t 11)),zz1 13 12,on 14 13 (.off 1 (.t 2)),on 15 13 (.load false 1 (.t 14)),on 16 13 (.off 1 (.t 3)),on 17 13 (.load false 1 (.t 16)),on 18 13 (.call (.f n_r01_Texts) [(.t 15),(.t 17)]),on 19 13 (.not (.t 18)),o 20 (.pick (.t 13) (.c (.bool true)) (.t 19)),zz1 21 20,on 22 21 (.off 2 (.t 2)),on 23 21 (.load false 1 (.t 22)),on 24 21 (.len (.t 23)),on 25 21 (.off 2 (.t 3)),on 26 21 (.load false 1 (.t 25)),on 27 21 (.len (.t 26)),on 28 21 (.cmp .neq (.sc .int) (.t 24) (.t 27)),o 29 (.pick (.t 21) (.c (.bool true)) (.t 28)),zz1 30 29,on 31 30 (.off 3 (.t 2)),on 32 30 (.load false 1 (.t 31)),on 33 30 (.len (.t 32)),on 34 30 (.off 3 (.t 3)),on 35 30 (.load false 1 (.t 34)),on 36 30 (.len (.t 35)),on 37 30 (.cmp .neq (.sc .int) (.t 33) (.t 36)),o 38 (.pick (.t 30) (.c (.bool true)) (.t 37))]
abbrev ykh:List AG:=[o 2 (.box 4 (.t 0)),o 3 (.box 4 (.t 1)),zzh 4]
abbrev r06_Same:AFun:=⟨(.seq (.reg ykh) (.seq (.seq (.reg ykg) (.cond (.t 38) ykf .skip)) (.seq (.seq (.reg ykd) (.block 0 yjV (.loop yjU ykc))) (.seq (.seq (.reg yjT) (.block 2 yjL (.loop yjK yjS))) (.seq (.reg yjJ) .ret))))),76,[.tmp 4]⟩
abbrev yki:List It:=[.code (.seq (.reg yjJ) .ret)]
abbrev ykj (x2 x3 x6:AV) (h:List Ob) (e:Cx:=cx):Cfg:=atC n_r06_Same (.code yjS::.inLoop yjK yjS::.inBlock 2 yjL::yki) [U,U,x2,x3,U,U,x6,U,U,U,U,U,U,U,U,U,U,U,U,U,U,U,U,U,U,U,U,U,U,U,U,U,U,U,U,U,U,U,U,U,U,U,U,U,U,U,U,U,U,U,U,U,U,U,U,U,U,U,U,U,U,U,U,U,U,U,U,U,U,U,U,U,U,U,U,U] h e
abbrev ykk:List It:=[.code (.seq (.seq (.reg yjT) (.block 2 yjL (.loop yjK yjS))) (.seq (.reg yjJ) .ret))]
abbrev ykl (x2 x3 x5:AV) (h:List Ob) (e:Cx:=cx):Cfg:=atC n_r06_Same (.code ykc::.inLoop yjU ykc::.inBlock 0 yjV::ykk) [U,U,x2,x3,U,x5,U,U,U,U,U,U,U,U,U,U,U,U,U,U,U,U,U,U,U,U,U,U,U,U,U,U,U,U,U,U,U,U,U,U,U,U,U,U,U,U,U,U,U,U,U,U,U,U,U,U,U,U,U,U,U,U,U,U,U,U,U,U,U,U,U,U,U,U,U,U] h e
@[simp] theorem c_r06_Same:cfun Tryd.prog n_r06_Same=some r06_Same:=by kernel_rfl
@[simp] theorem e_r06_Same:hasBody Tryd.prog n_r06_Same=true:=by kernel_rfl
abbrev ykm:List AG:=[zz3 60 4 4,zzb 4 2 60]
abbrev ykn:List Bool:=[O,O,I,I,I,O,O,O,O,O,O,O,O,O,O,O,O,O,O,O,O,O,O,O,O,O,O,O,O,O,O,O,O,O,O,O,O,O,O,O,O,O,O,I,I,I,O,O,O,O,O,O,O,O,O,O,O,O,O,O,O]
abbrev yko:List Bool:=[O,O,I,O,I,O,O,O,O,O,O,O,O,O,O,O,O,O,O,O,O,O,O,O,O,O,O,O,O,O,O,O,O,O,O,O,O,O,O,O,O,O,O,O,O,O,O,O,O,O,O,O,O,O,O,O,O,O,O,O,O]
abbrev ykp:List AG:=[zz6 59 45 1,zz1 45 59]
abbrev ykq:List AG:=[zz4 53 3 4,zz2 54 1 53,zz3 55 5 8,o 56 (.lit 5 [(.agg [(.str []),(.int .i64 0),(.list true 0 []),(.list true 0 []),(.bool false)])] [(0,(.t 55))]),o 57 (.append 5 t_api_Gate_2 80 (.t 54) (.t 56)),zz4 58 3 4,zzb 1 58 57]
abbrev ykr:List AG:=[zz1 49 3,zz4 50 0 8,zz2 51 1 50,zzg 52 n_slices_Contains_string_string 49 51]
abbrev yks:List AG:=[zz5 47 5 43 45,zz3 48 5 47,o 8 (.alloc [(.str []),(.int .i64 0),(.own 1 t_string []),(.own 1 t_string []),(.bool false)]),zzb 5 8 48]
abbrev ykt:ACode:=(.seq (.reg yks) (.seq (.reg ykr) (.cond (.t 52) (.reg ykq) .skip)))
abbrev yku:List AG:=[zz7 46 45 44]
abbrev ykv:ACode:=(.seq (.reg yku) (.seq (.cond (.t 46) .skip (.exit 2)) (.seq (.block 3 [] ykt) (.reg ykp))))
abbrev ykw:List AG:=[zz4 42 3 1,zz2 43 1 42,zza 44 43,zz9 45 0]
abbrev ykx:List Bool:=[O,I,I,I,I,O,O,O,O,O,O,O,O,O,O,O,O,O,O,O,O,O,O,O,O,I,I,I,O,O,O,O,O,O,O,O,O,O,O,O,O,O,O,O,O,O,O,O,O,O,O,O,O,O,O,O,O,O,O,O,O]
abbrev yky:List Bool:=[O,I,I,I,I,O,O,O,O,O,O,O,O,O,O,O,O,O,O,O,O,O,O,O,O,O,O,O,O,O,O,O,O,O,O,O,O,O,O,O,O,O,O,O,O,O,O,O,O,O,O,O,O,O,O,O,O,O,O,O,O]
abbrev ykz:List AG:=[zz6 41 27 1,zz1 27 41]
abbrev ykA:List AG:=[zz4 35 2 4,zz2 36 1 35,zz3 37 3 6,o 38 (.lit 3 [(.agg [(.str []),(.str []),(.int .i64 0)])] [(0,(.t 37))]),o 39 (.append 3 t_api_Latch_2 40 (.t 36) (.t 38)),zz4 40 2 4,zzb 1 40 39]
abbrev ykB:List AG:=[zz1 31 3,zz4 32 0 6,zz2 33 1 32,zzg 34 n_slices_Contains_string_string 31 33]
abbrev ykC:List AG:=[zz5 29 3 25 27,zz3 30 3 29,o 6 (.alloc [(.str []),(.str []),(.int .i64 0)]),zzb 3 6 30]
abbrev ykD:ACode:=(.seq (.reg ykC) (.seq (.reg ykB) (.cond (.t 34) (.reg ykA) .skip)))
abbrev ykE:List AG:=[zz7 28 27 26]
abbrev ykF:ACode:=(.seq (.reg ykE) (.seq (.cond (.t 28) .skip (.exit 0)) (.seq (.block 1 [] ykD) (.reg ykz))))
abbrev ykG:List AG:=[zz4 24 2 1,zz2 25 1 24,zza 26 25,zz9 27 0]
abbrev ykH:List AG:=[zz4 17 0 1,zz2 18 1 17,zzf 19 n_slices_Clone_string_string 18,zz4 20 1 1,zz2 21 1 20,zzf 22 n_slices_Clone_string_string 21,o 23 (.build [(.list true 0 []),(.list true 0 []),(.list true 0 []),(.list true 0 [])] [(0,1,(.t 19)),(1,1,(.t 22))]),o 4 (.alloc [(.own 1 t_string []),(.own 1 t_string []),(.own 3 t_api_Latch_2 []),(.own 5 t_api_Gate_2 [])]),zzb 4 4 23]
abbrev ykI:List AG:=[zz3 13 4 1,zz4 14 1 1,zz2 15 1 14,zzg 16 n_order_Cone 13 15,zz1 3 16]
abbrev ykJ:List AG:=[o 12 (.build [(.list true 0 []),(.list true 0 []),(.list true 0 []),(.list true 0 [])] []),zzb 4 2 12]
abbrev ykK:ACode:=(.seq (.reg ykJ) .ret)
abbrev ykL:List AG:=[zz3 9 4 1,zzf 10 n_order_right 9,o 11 (.not (.t 10))]
abbrev ykM:List AG:=[o 1 (.box 4 (.t 0)),o 2 (.alloc [(.own 1 t_string []),(.own 1 t_string []),(.own 3 t_api_Latch_2 []),(.own 5 t_api_Gate_2 [])])]
abbrev order_Trim:AFun:=⟨(.seq (.reg ykM) (.seq (.seq (.reg ykL) (.cond (.t 11) ykK .skip)) (.seq (.reg ykI) (.seq (.dreg [O,I,I,O,I,I,O,O,O] [9,9,9,9,9,9,9,9,10] ykH) (.seq (.seq (.reg ykG) (.block 0 yky (.loop ykx ykF))) (.seq (.seq (.reg ykw) (.block 2 yko (.loop ykn ykv))) (.seq (.reg ykm) .ret))))))),61,[.cell 2 true 4]⟩
abbrev ykN:List It:=[.code (.seq (.reg ykm) .ret)]
abbrev ykO (x2 x3 x4 x43 x44 x45:AV) (h:List Ob) (e:Cx:=cx):Cfg:=atC n_order_Trim (.code ykv::.inLoop ykn ykv::.inBlock 2 yko::ykN) [U,U,x2,x3,x4,U,U,U,U,U,U,U,U,U,U,U,U,U,U,U,U,U,U,U,U,U,U,U,U,U,U,U,U,U,U,U,U,U,U,U,U,U,U,x43,x44,x45,U,U,U,U,U,U,U,U,U,U,U,U,U,U,U] h e
abbrev ykP:List It:=[.code (.seq (.seq (.reg ykw) (.block 2 yko (.loop ykn ykv))) (.seq (.reg ykm) .ret))]
abbrev ykQ (x1 x2 x3 x4 x25 x26 x27:AV) (h:List Ob) (e:Cx:=cx):Cfg:=atC n_order_Trim (.code ykF::.inLoop ykx ykF::.inBlock 0 yky::ykP) [U,x1,x2,x3,x4,U,U,U,U,U,U,U,U,U,U,U,U,U,U,U,U,U,U,U,U,x25,x26,x27,U,U,U,U,U,U,U,U,U,U,U,U,U,U,U,U,U,U,U,U,U,U,U,U,U,U,U,U,U,U,U,U,U] h e
@[simp] theorem c_order_Trim:cfun Tryd.prog n_order_Trim=some order_Trim:=by kernel_rfl
@[simp] theorem e_order_Trim:hasBody Tryd.prog n_order_Trim=true:=by kernel_rfl
abbrev ykR:List AG:=[zz3 70 4 4,zzb 4 2 70]
abbrev ykS:List Bool:=[O,I,I,I,I,O,I,O,O,O,O,O,O,O,O,O,O,O,O,O,O,O,O,O,O,O,O,O,O,O,O,O,O,O,O,O,O,O,O,O,O,O,O,O,O,O,O,O,O,O,O,O,O,O,O,O,O,O,O,O,O,O,O,O,O,O,O,O,O,O,O]
abbrev ykT:List Bool:=[O,O,I,O,I,O,O,O,O,O,O,O,O,O,O,O,O,O,O,O,O,O,O,O,O,O,O,O,O,O,O,O,O,O,O,O,O,O,O,O,O,O,O,O,O,O,O,O,O,O,O,O,O,O,O,O,O,O,O,O,O,O,O,O,O,O,O,O,O,O,O]
abbrev ykU:List AG:=[zz1 50 6,zz6 51 50 1,zz1 6 51]
abbrev ykV:List AG:=[zz4 60 3 4,zz2 61 1 60,zz4 62 3 1,zz2 63 1 62,zz1 64 6,zz5 65 5 63 64,zz3 66 5 65,o 67 (.lit 5 [(.agg [(.str []),(.int .i64 0),(.list true 0 []),(.list true 0 []),(.bool false)])] [(0,(.t 66))]),o 68 (.append 5 t_api_Gate_2 80 (.t 61) (.t 67)),zz4 69 3 4,zzb 1 69 68]
abbrev ykW:List AG:=[zz1 52 3,zz4 53 3 1,zz2 54 1 53,zz1 55 6,zz5 56 5 54 55,zz4 57 0 56,zz2 58 1 57,zzg 59 n_r01_Has 52 58]
abbrev ykX:ACode:=(.seq (.reg ykW) (.cond (.t 59) (.dreg [O,I,O,O,O,O,O,O,O,O,O] [9,9,8,8,8,8,8,9,11,11,12] ykV) .skip))
abbrev ykY:List AG:=[zz1 45 6,zz4 46 3 1,zz2 47 1 46,zza 48 47,zz7 49 45 48]
abbrev ykZ:ACode:=(.seq (.seq (.reg ykY) (.cond (.t 49) .skip (.exit 2))) (.seq (.block 3 [] ykX) (.reg ykU)))
abbrev yla:List AG:=[zz9 6 0]
abbrev ylb:List Bool:=[O,I,I,I,I,I,O,O,O,O,O,O,O,O,O,O,O,O,O,O,O,O,O,O,O,O,O,O,O,O,O,O,O,O,O,O,O,O,O,O,O,O,O,O,O,O,O,O,O,O,O,O,O,O,O,O,O,O,O,O,O,O,O,O,O,O,O,O,O,O,O]
abbrev ylc:List Bool:=[O,I,I,I,I,O,O,O,O,O,O,O,O,O,O,O,O,O,O,O,O,O,O,O,O,O,O,O,O,O,O,O,O,O,O,O,O,O,O,O,O,O,O,O,O,O,O,O,O,O,O,O,O,O,O,O,O,O,O,O,O,O,O,O,O,O,O,O,O,O,O]
abbrev yle:List AG:=[zz1 25 5,zz6 26 25 1,zz1 5 26]
abbrev ylf:List AG:=[zz4 35 2 4,zz2 36 1 35,zz4 37 2 1,zz2 38 1 37,zz1 39 5,zz5 40 3 38 39,zz3 41 3 40,o 42 (.lit 3 [(.agg [(.str []),(.str []),(.int .i64 0)])] [(0,(.t 41))]),o 43 (.append 3 t_api_Latch_2 40 (.t 36) (.t 42)),zz4 44 2 4,zzb 1 44 43]
abbrev ylg:List AG:=[zz1 27 3,zz4 28 2 1,zz2 29 1 28,zz1 30 5,zz5 31 3 29 30,zz4 32 0 31,zz2 33 1 32,zzg 34 n_r01_Has 27 33]
abbrev ylh:ACode:=(.seq (.reg ylg) (.cond (.t 34) (.dreg [O,I,O,O,O,O,O,O,O,O,O] [9,9,8,8,8,8,8,9,11,11,12] ylf) .skip))
abbrev yli:List AG:=[zz1 20 5,zz4 21 2 1,zz2 22 1 21,zza 23 22,zz7 24 20 23]
abbrev ylj:ACode:=(.seq (.seq (.reg yli) (.cond (.t 24) .skip (.exit 0))) (.seq (.block 1 [] ylh) (.reg yle)))
abbrev ylk:List AG:=[zz9 5 0]
abbrev yll:List AG:=[zz4 15 0 1,zz2 16 1 15,zz4 17 1 1,zz2 18 1 17,o 19 (.build [(.list true 0 []),(.list true 0 []),(.list true 0 []),(.list true 0 [])] [(0,1,(.t 16)),(1,1,(.t 18))]),o 4 (.alloc [(.own 1 t_string []),(.own 1 t_string []),(.own 3 t_api_Latch_2 []),(.own 5 t_api_Gate_2 [])]),zzb 4 4 19]
abbrev ylm:List AG:=[zz3 11 4 1,zz4 12 1 1,zz2 13 1 12,zzg 14 n_r07_Cone 11 13,zz1 3 14]
abbrev yln:List AG:=[o 10 (.build [(.list true 0 []),(.list true 0 []),(.list true 0 []),(.list true 0 [])] []),zzb 4 2 10]
abbrev ylo:ACode:=(.seq (.reg yln) .ret)
abbrev ylp:List AG:=[zz3 7 4 1,zzf 8 n_r07_right 7,o 9 (.not (.t 8))]
abbrev ylq:List AG:=[o 1 (.box 4 (.t 0)),o 2 (.alloc [(.own 1 t_string []),(.own 1 t_string []),(.own 3 t_api_Latch_2 []),(.own 5 t_api_Gate_2 [])])]
abbrev r07_Trim:AFun:=⟨(.seq (.reg ylq) (.seq (.seq (.reg ylp) (.cond (.t 9) ylo .skip)) (.seq (.reg ylm) (.seq (.reg yll) (.seq (.seq (.reg ylk) (.block 0 ylc (.loop ylb ylj))) (.seq (.seq (.reg yla) (.block 2 ykT (.loop ykS ykZ))) (.seq (.reg ykR) .ret))))))),71,[.cell 2 true 4]⟩
abbrev ylr:List It:=[.code (.seq (.reg ykR) .ret)]
abbrev yls (x1 x2 x3 x4 x6:AV) (h:List Ob) (e:Cx:=cx):Cfg:=atC n_r07_Trim (.code ykZ::.inLoop ykS ykZ::.inBlock 2 ykT::ylr) [U,x1,x2,x3,x4,U,x6,U,U,U,U,U,U,U,U,U,U,U,U,U,U,U,U,U,U,U,U,U,U,U,U,U,U,U,U,U,U,U,U,U,U,U,U,U,U,U,U,U,U,U,U,U,U,U,U,U,U,U,U,U,U,U,U,U,U,U,U,U,U,U,U] h e
abbrev ylt:List It:=[.code (.seq (.seq (.reg yla) (.block 2 ykT (.loop ykS ykZ))) (.seq (.reg ykR) .ret))]
abbrev ylu (x1 x2 x3 x4 x5:AV) (h:List Ob) (e:Cx:=cx):Cfg:=atC n_r07_Trim (.code ylj::.inLoop ylb ylj::.inBlock 0 ylc::ylt) [U,x1,x2,x3,x4,x5,U,U,U,U,U,U,U,U,U,U,U,U,U,U,U,U,U,U,U,U,U,U,U,U,U,U,U,U,U,U,U,U,U,U,U,U,U,U,U,U,U,U,U,U,U,U,U,U,U,U,U,U,U,U,U,U,U,U,U,U,U,U,U,U,U] h e
@[simp] theorem c_r07_Trim:cfun Tryd.prog n_r07_Trim=some r07_Trim:=by kernel_rfl
@[simp] theorem e_r07_Trim:hasBody Tryd.prog n_r07_Trim=true:=by kernel_rfl
abbrev ylv:List AG:=[zz1 62 6,zz1 63 62,zze 64 63 7,zz8 65 63 64,zz1 66 65,oy 67 66 (.off 3 (.t 1)),zzd 68 66 1 67,oy 69 66 (.len (.t 68)),oy 70 66 (.cmp .leq (.sc .int) (.t 69) (.c (.int .i64 210))),zz8 71 66 70,zz1 72 71,oy 73 72 (.off 2 (.t 1)),zzd 74 72 1 73,oy 75 72 (.len (.t 74)),oy 76 72 (.cmp .leq (.sc .int) (.t 75) (.c (.int .i64 210))),zz8 77 72 76,zz1 2 77]
abbrev ylw:List AG:=[zz4 59 1 1,zz2 60 1 59,o 61 (.call (.f n_w05_Texts) [(.t 60),(.c (.int .i64 210))]),zz1 7 61]
abbrev ylx:List AG:=[zz4 56 0 1,zz2 57 1 56,o 58 (.call (.f n_w05_Texts) [(.t 57),(.c (.int .i64 210))]),zz1 6 58]
abbrev yly:List Bool:=[O,I,O,O,O,I,O,O,O,O,O,O,O,O,O,O,O,O,O,O,O,O,O,O,O,O,O,O,O,O,O,O,O,O,O,O,O,O,O,O,O,O,O,O,O,O,O,O,O,O,O,O,O,O,O,O,O,O,O,O,O,O,O,O,O,O,O,O,O,O,O,O,O,O,O,O,O,O]
abbrev ylz:List Bool:=[O,I,O,O,O,O,O,O,O,O,O,O,O,O,O,O,O,O,O,O,O,O,O,O,O,O,O,O,O,O,O,O,O,O,O,O,O,O,O,O,O,O,O,O,O,O,O,O,O,O,O,O,O,O,O,O,O,O,O,O,O,O,O,O,O,O,O,O,O,O,O,O,O,O,O,O,O,O]
abbrev ylA:List AG:=[zz1 36 5,zz6 37 36 1,zz1 5 37]
abbrev ylB:List AG:=[zzh 2]
abbrev ylC:ACode:=(.seq (.reg ylB) .ret)
abbrev ylD:List AG:=[zz4 38 2 1,zz2 39 1 38,zz1 40 5,zz5 41 3 39 40,zz4 42 0 41,zz2 43 1 42,o 44 (.lenStr (.t 43)),o 45 (.cmp .gtr (.sc .int) (.t 44) (.c (.int .i64 60))),zz1 46 45,on 47 46 (.off 2 (.t 1)),on 48 46 (.load false 1 (.t 47)),on 49 46 (.mv (.t 5)),on 50 46 (.ixAddr 3 (.t 48) (.t 49)),on 51 46 (.off 1 (.t 50)),on 52 46 (.load false 1 (.t 51)),on 53 46 (.lenStr (.t 52)),on 54 46 (.cmp .gtr (.sc .int) (.t 53) (.c (.int .i64 60))),o 55 (.pick (.t 46) (.c (.bool true)) (.t 54))]
abbrev ylE:ACode:=(.seq (.reg ylD) (.cond (.t 55) ylC .skip))
abbrev ylF:List AG:=[zz1 27 5,zz4 28 2 1,zz2 29 1 28,zza 30 29,zz7 31 27 30,zz1 32 31,zze 33 32 5,oy 34 32 (.cmp .leq (.sc .int) (.t 33) (.c (.int .i64 210))),zz8 35 32 34]
abbrev ylG:ACode:=(.seq (.seq (.reg ylF) (.cond (.t 35) .skip (.exit 2))) (.seq (.block 3 [] ylE) (.reg ylA)))
abbrev ylH:List AG:=[zz9 5 0]
abbrev ylI:List Bool:=[O,I,O,I,O,O,O,O,O,O,O,O,O,O,O,O,O,O,O,O,O,O,O,O,O,O,O,O,O,O,O,O,O,O,O,O,O,O,O,O,O,O,O,O,O,O,O,O,O,O,O,O,O,O,O,O,O,O,O,O,O,O,O,O,O,O,O,O,O,O,O,O,O,O,O,O,O,O]
abbrev ylJ:List Bool:=[O,I,O,O,O,O,O,O,O,O,O,O,O,O,O,O,O,O,O,O,O,O,O,O,O,O,O,O,O,O,O,O,O,O,O,O,O,O,O,O,O,O,O,O,O,O,O,O,O,O,O,O,O,O,O,O,O,O,O,O,O,O,O,O,O,O,O,O,O,O,O,O,O,O,O,O,O,O]
abbrev ylK:List AG:=[zz1 17 3,zz6 18 17 1,zz1 3 18]
abbrev ylL:List AG:=[zzh 2]
abbrev ylM:ACode:=(.seq (.reg ylL) .ret)
abbrev ylN:List AG:=[zz1 25 4,o 26 (.not (.t 25))]
abbrev ylO:List AG:=[zz4 19 3 1,zz2 20 1 19,zz1 21 3,zz5 22 5 20 21,zz3 23 5 22,zzf 24 n_w06_FewGate 23,zz1 4 24]
abbrev ylP:ACode:=(.seq (.reg ylO) (.seq (.reg ylN) (.cond (.t 26) ylM .skip)))
abbrev ylQ:List AG:=[zz1 8 3,zz4 9 3 1,zz2 10 1 9,zza 11 10,zz7 12 8 11,zz1 13 12,zze 14 13 3,oy 15 13 (.cmp .leq (.sc .int) (.t 14) (.c (.int .i64 210))),zz8 16 13 15]
abbrev ylR:ACode:=(.seq (.seq (.reg ylQ) (.cond (.t 16) .skip (.exit 0))) (.seq (.block 1 [] ylP) (.reg ylK)))
abbrev ylS:List AG:=[zz9 3 0]
abbrev ylT:List AG:=[o 1 (.box 4 (.t 0)),zzh 2]
abbrev w06_Few:AFun:=⟨(.seq (.reg ylT) (.seq (.seq (.reg ylS) (.block 0 ylJ (.loop ylI ylR))) (.seq (.seq (.reg ylH) (.block 2 ylz (.loop yly ylG))) (.seq (.reg ylx) (.seq (.reg ylw) (.seq (.reg ylv) .ret)))))),78,[.tmp 2]⟩
abbrev ylU:List It:=[.code (.seq (.reg ylx) (.seq (.reg ylw) (.seq (.reg ylv) .ret)))]
abbrev ylV (x1 x5:AV) (h:List Ob) (e:Cx:=cx):Cfg:=atC n_w06_Few (.code ylG::.inLoop yly ylG::.inBlock 2 ylz::ylU) [U,x1,U,U,U,x5,U,U,U,U,U,U,U,U,U,U,U,U,U,U,U,U,U,U,U,U,U,U,U,U,U,U,U,U,U,U,U,U,U,U,U,U,U,U,U,U,U,U,U,U,U,U,U,U,U,U,U,U,U,U,U,U,U,U,U,U,U,U,U,U,U,U,U,U,U,U,U,U] h e
abbrev ylW (x1:AV) (h:List Ob) (e:Cx:=cx):Cfg:=atC n_w06_Few ylU [U,x1,U,U,U,U,U,U,U,U,U,U,U,U,U,U,U,U,U,U,U,U,U,U,U,U,U,U,U,U,U,U,U,U,U,U,U,U,U,U,U,U,U,U,U,U,U,U,U,U,U,U,U,U,U,U,U,U,U,U,U,U,U,U,U,U,U,U,U,U,U,U,U,U,U,U,U,U] h e
abbrev ylX:List It:=[.code (.seq (.seq (.reg ylH) (.block 2 ylz (.loop yly ylG))) (.seq (.reg ylx) (.seq (.reg ylw) (.seq (.reg ylv) .ret))))]
abbrev ylY (x1 x3:AV) (h:List Ob) (e:Cx:=cx):Cfg:=atC n_w06_Few (.code ylR::.inLoop ylI ylR::.inBlock 0 ylJ::ylX) [U,x1,U,x3,U,U,U,U,U,U,U,U,U,U,U,U,U,U,U,U,U,U,U,U,U,U,U,U,U,U,U,U,U,U,U,U,U,U,U,U,U,U,U,U,U,U,U,U,U,U,U,U,U,U,U,U,U,U,U,U,U,U,U,U,U,U,U,U,U,U,U,U,U,U,U,U,U,U] h e
@[simp] theorem c_w06_Few:cfun Tryd.prog n_w06_Few=some w06_Few:=by kernel_rfl
@[simp] theorem e_w06_Few:hasBody Tryd.prog n_w06_Few=true:=by kernel_rfl
abbrev ylZ:List AG:=[q (.store 1 (.t 2) (.c (.int .i64 0))),q (.store 1 (.t 3) (.c (.str [])))]
abbrev yma:List Bool:=[O,O,I,I,O,O,O,I,O,O,O,O,O,O,O,O,O,O,O,O,O,O,O,O,O,O,O,O,O,O,O,O,O,O,O,O,O,O,O,O,O,O,O,O,O,O,O,O,O,O,O,O,O,O,O,O,O,O,O,O,O,O,O,O,O,O,O,O,O,O,O,O,O,O,O,O,O,O,O,O,O,O,O,O,O,O,O,O,O,O,O,O,I,I,I,O,O,O,O,O,O,O,O,O]
abbrev ymb:List Bool:=[O,O,I,I,O,O,O,O,O,O,O,O,O,O,O,O,O,O,O,O,O,O,O,O,O,O,O,O,O,O,O,O,O,O,O,O,O,O,O,O,O,O,O,O,O,O,O,O,O,O,O,O,O,O,O,O,O,O,O,O,O,O,O,O,O,O,O,O,O,O,O,O,O,O,O,O,O,O,O,O,O,O,O,O,O,O,O,O,O,O,O,O,O,O,O,O,O,O,O,O,O,O,O,O]
abbrev ymc:List AG:=[zz6 103 94 1,zz1 94 103]
abbrev ymd:List AG:=[zz1 98 7,zz1 99 13,o 100 (.lookup (.sc .str) (.bool false) (.t 98) (.t 99) false),zz1 101 13,o 102 (.call (.f n_net_need) [(.t 100),(.c (.int .i64 6)),(.t 101)])]
abbrev yme:List AG:=[zz5 96 1 92 94,zz2 97 1 96,zz1 13 97]
abbrev ymf:ACode:=(.seq (.reg yme) (.reg ymd))
abbrev ymg:List AG:=[zz7 95 94 93]
abbrev ymh:ACode:=(.seq (.reg ymg) (.seq (.cond (.t 95) .skip (.exit 6)) (.seq (.block 7 [] ymf) (.reg ymc))))
abbrev ymi:List AG:=[zz3 91 4 1,zzf 92 n_net_used 91,zza 93 92,zz9 94 0]
abbrev ymj:List Bool:=[O,I,I,I,O,O,O,I,O,O,O,O,O,O,O,O,O,O,O,O,O,O,O,O,O,O,O,O,O,O,O,O,O,O,O,O,O,O,O,O,O,O,O,O,O,O,O,O,O,O,O,O,O,O,O,O,O,O,O,O,O,O,O,O,O,O,O,O,O,O,O,O,O,O,O,O,O,O,O,I,I,I,O,O,O,O,O,O,O,O,O,O,O,O,O,O,O,O,O,O,O,O,O,O]
abbrev ymk:List Bool:=[O,I,I,I,O,O,O,I,O,O,O,O,O,O,O,O,O,O,O,O,O,O,O,O,O,O,O,O,O,O,O,O,O,O,O,O,O,O,O,O,O,O,O,O,O,O,O,O,O,O,O,O,O,O,O,O,O,O,O,O,O,O,O,O,O,O,O,O,O,O,O,O,O,O,O,O,O,O,O,O,O,O,O,O,O,O,O,O,O,O,O,O,O,O,O,O,O,O,O,O,O,O,O,O]
abbrev yml:List AG:=[zz6 90 81 1,zz1 81 90]
abbrev ymm:List AG:=[zz3 85 5 11,zzf 86 n_net_Gate 85,zz4 87 0 11,zz2 88 1 87,o 89 (.call (.f n_net_need) [(.t 86),(.c (.int .i64 1)),(.t 88)])]
abbrev ymn:List AG:=[zz5 83 5 79 81,zz3 84 5 83,o 11 (.alloc [(.str []),(.int .i64 0),(.own 1 t_string []),(.own 1 t_string []),(.bool false)]),zzb 5 11 84]
abbrev ymo:ACode:=(.seq (.reg ymn) (.dreg [O,O,O,I,O] [2,5,5,5,6] ymm))
abbrev ymp:List AG:=[zz7 82 81 80]
abbrev ymq:ACode:=(.seq (.reg ymp) (.seq (.cond (.t 82) .skip (.exit 4)) (.seq (.block 5 [] ymo) (.reg yml))))
abbrev ymr:List AG:=[zz4 78 3 1,zz2 79 1 78,zza 80 79,zz9 81 0]
abbrev yms:List Bool:=[O,I,I,I,O,O,O,I,O,O,O,O,O,O,O,O,O,O,O,O,O,O,O,O,O,O,O,O,O,O,O,O,O,O,O,O,O,O,O,O,O,O,O,O,O,O,O,O,O,O,O,O,O,O,O,O,O,O,O,O,I,I,I,O,O,O,O,O,O,O,O,O,O,O,O,O,O,O,O,O,O,O,O,O,O,O,O,O,O,O,O,O,O,O,O,O,O,O,O,O,O,O,O,O]
abbrev ymt:List Bool:=[O,I,I,I,O,O,O,I,O,O,O,O,O,O,O,O,O,O,O,O,O,O,O,O,O,O,O,O,O,O,O,O,O,O,O,O,O,O,O,O,O,O,O,O,O,O,O,O,O,O,O,O,O,O,O,O,O,O,O,O,O,O,O,O,O,O,O,O,O,O,O,O,O,O,O,O,O,O,O,O,O,O,O,O,O,O,O,O,O,O,O,O,O,O,O,O,O,O,O,O,O,O,O,O]
abbrev ymu:List AG:=[zz6 77 62 1,zz1 62 77]
abbrev ymv:List AG:=[zz4 66 2 9,zz2 67 1 66,o 68 (.cmp .geq (.sc .int) (.t 67) (.c (.int .i64 0))),zz1 69 68,oy 70 69 (.off 2 (.t 9)),zzd 71 69 1 70,oy 72 69 (.cmp .leq (.sc .int) (.t 71) (.c (.int .i64 2))),zz8 73 69 72,zz4 74 0 9,zz2 75 1 74,o 76 (.call (.f n_net_need) [(.t 73),(.c (.int .i64 1)),(.t 75)])]
abbrev ymw:List AG:=[zz5 64 3 60 62,zz3 65 3 64,o 9 (.alloc [(.str []),(.str []),(.int .i64 0)]),zzb 3 9 65]
abbrev ymx:ACode:=(.seq (.reg ymw) (.reg ymv))
abbrev ymy:List AG:=[zz7 63 62 61]
abbrev ymz:ACode:=(.seq (.reg ymy) (.seq (.cond (.t 63) .skip (.exit 2)) (.seq (.block 3 [] ymx) (.reg ymu))))
abbrev ymA:List AG:=[zz4 59 2 1,zz2 60 1 59,zza 61 60,zz9 62 0]
abbrev ymB:List AG:=[zz4 56 1 1,zz2 57 1 56,zzf 58 n_net_once 57]
abbrev ymC:List AG:=[zz3 53 4 1,zzf 54 n_net_Nets 53,zzf 55 n_net_once 54,zz1 7 55]
abbrev ymD:List Bool:=[O,I,I,I,O,O,O,O,O,O,O,O,O,O,O,O,O,O,O,O,O,O,O,O,O,O,O,O,O,O,O,O,O,O,O,O,O,O,O,O,O,O,I,I,I,O,O,O,O,O,O,O,O,O,O,O,O,O,O,O,O,O,O,O,O,O,O,O,O,O,O,O,O,O,O,O,O,O,O,O,O,O,O,O,O,O,O,O,O,O,O,O,O,O,O,O,O,O,O,O,O,O,O,O]
abbrev ymE:List Bool:=[O,I,I,I,O,O,O,O,O,O,O,O,O,O,O,O,O,O,O,O,O,O,O,O,O,O,O,O,O,O,O,O,O,O,O,O,O,O,O,O,O,O,O,O,O,O,O,O,O,O,O,O,O,O,O,O,O,O,O,O,O,O,O,O,O,O,O,O,O,O,O,O,O,O,O,O,O,O,O,O,O,O,O,O,O,O,O,O,O,O,O,O,O,O,O,O,O,O,O,O,O,O,O,O]
abbrev ymF:List AG:=[zz6 52 44 1,zz1 44 52]
abbrev ymG:List AG:=[zz1 48 6,zzf 49 n_ident_Name 48,zz1 50 6,o 51 (.call (.f n_net_need) [(.t 49),(.c (.int .i64 4)),(.t 50)])]
abbrev ymH:List AG:=[zz5 46 1 42 44,zz2 47 1 46,zz1 6 47]
abbrev ymI:ACode:=(.seq (.reg ymH) (.reg ymG))
abbrev ymJ:List AG:=[zz7 45 44 43]
abbrev ymK:ACode:=(.seq (.reg ymJ) (.seq (.cond (.t 45) .skip (.exit 0)) (.seq (.block 1 [] ymI) (.reg ymF))))
abbrev ymL:List AG:=[zz3 41 4 1,zzf 42 n_net_told 41,zza 43 42,zz9 44 0]
abbrev ymM:List AG:=[zz4 15 0 1,zz2 16 1 15,zza 17 16,zz4 18 2 1,zz2 19 1 18,zza 20 19,o 21 (.ibin .add (.t 17) (.t 20)),zz4 22 3 1,zz2 23 1 22,zza 24 23,o 25 (.ibin .add (.t 21) (.t 24)),o 26 (.cmp .leq (.sc .int) (.t 25) (.c (.int .i64 200))),zz1 27 26,oy 28 27 (.off 1 (.t 1)),zzd 29 27 1 28,oy 30 27 (.len (.t 29)),oy 31 27 (.cmp .leq (.sc .int) (.t 30) (.c (.int .i64 200))),zz8 32 27 31,zz1 33 32,oy 34 33 (.off 3 (.t 1)),zzd 35 33 1 34,zze 36 33 4,oy 37 33 (.call (.f n_slices_ContainsFunc_api_Gate_api_Gate) [(.t 35),(.t 36)]),oy 38 33 (.not (.t 37)),zz8 39 33 38,o 40 (.call (.f n_net_need) [(.t 39),(.c (.int .i64 8)),(.c (.str []))])]
abbrev ymN:List AG:=[o 4 (.mv (.f n_net_Check_2))]
abbrev ymO:List AG:=[o 14 (.mkFunc (.func n_net_Check_1) [] [(.t 2),(.t 3)]),q (.defer (.t 14) [])]
abbrev ymP:List AG:=[o 1 (.box 4 (.t 0)),o 2 (.alloc [(.int .i64 0)]),o 3 (.alloc [(.str [])])]
abbrev net_Check:AFun:=⟨(.seq (.reg ymP) (.seq (.reg ymO) (.seq (.reg ymN) (.seq (.reg ymM) (.seq (.seq (.reg ymL) (.block 0 ymE (.loop ymD ymK))) (.seq (.reg ymC) (.seq (.reg ymB) (.seq (.seq (.reg ymA) (.block 2 ymt (.loop yms ymz))) (.seq (.seq (.reg ymr) (.block 4 ymk (.loop ymj ymq))) (.seq (.seq (.reg ymi) (.block 6 ymb (.loop yma ymh))) (.seq (.reg ylZ) .ret))))))))))),104,[.cell 2 false 1,.cell 3 false 1]⟩
abbrev ymQ:List It:=[.code (.seq (.reg ylZ) .ret)]
abbrev ymR (x2 x3 x7 x92 x93 x94:AV) (h:List Ob) (e:Cx:=cx):Cfg:=atC n_net_Check (.code ymh::.inLoop yma ymh::.inBlock 6 ymb::ymQ) [U,U,x2,x3,U,U,U,x7,U,U,U,U,U,U,U,U,U,U,U,U,U,U,U,U,U,U,U,U,U,U,U,U,U,U,U,U,U,U,U,U,U,U,U,U,U,U,U,U,U,U,U,U,U,U,U,U,U,U,U,U,U,U,U,U,U,U,U,U,U,U,U,U,U,U,U,U,U,U,U,U,U,U,U,U,U,U,U,U,U,U,U,U,x92,x93,x94,U,U,U,U,U,U,U,U,U] h e
abbrev ymS:List It:=[.code (.seq (.seq (.reg ymi) (.block 6 ymb (.loop yma ymh))) (.seq (.reg ylZ) .ret))]
abbrev ymT (x1 x2 x3 x7 x79 x80 x81:AV) (h:List Ob) (e:Cx:=cx):Cfg:=atC n_net_Check (.code ymq::.inLoop ymj ymq::.inBlock 4 ymk::ymS) [U,x1,x2,x3,U,U,U,x7,U,U,U,U,U,U,U,U,U,U,U,U,U,U,U,U,U,U,U,U,U,U,U,U,U,U,U,U,U,U,U,U,U,U,U,U,U,U,U,U,U,U,U,U,U,U,U,U,U,U,U,U,U,U,U,U,U,U,U,U,U,U,U,U,U,U,U,U,U,U,U,x79,x80,x81,U,U,U,U,U,U,U,U,U,U,U,U,U,U,U,U,U,U,U,U,U,U] h e
abbrev ymU:List It:=[.code (.seq (.seq (.reg ymr) (.block 4 ymk (.loop ymj ymq))) (.seq (.seq (.reg ymi) (.block 6 ymb (.loop yma ymh))) (.seq (.reg ylZ) .ret)))]
abbrev ymV (x1 x2 x3 x7 x60 x61 x62:AV) (h:List Ob) (e:Cx:=cx):Cfg:=atC n_net_Check (.code ymz::.inLoop yms ymz::.inBlock 2 ymt::ymU) [U,x1,x2,x3,U,U,U,x7,U,U,U,U,U,U,U,U,U,U,U,U,U,U,U,U,U,U,U,U,U,U,U,U,U,U,U,U,U,U,U,U,U,U,U,U,U,U,U,U,U,U,U,U,U,U,U,U,U,U,U,U,x60,x61,x62,U,U,U,U,U,U,U,U,U,U,U,U,U,U,U,U,U,U,U,U,U,U,U,U,U,U,U,U,U,U,U,U,U,U,U,U,U,U,U,U,U] h e
abbrev ymW:List It:=[.code (.seq (.reg ymC) (.seq (.reg ymB) (.seq (.seq (.reg ymA) (.block 2 ymt (.loop yms ymz))) (.seq (.seq (.reg ymr) (.block 4 ymk (.loop ymj ymq))) (.seq (.seq (.reg ymi) (.block 6 ymb (.loop yma ymh))) (.seq (.reg ylZ) .ret))))))]
abbrev ymX (x1 x2 x3 x42 x43 x44:AV) (h:List Ob) (e:Cx:=cx):Cfg:=atC n_net_Check (.code ymK::.inLoop ymD ymK::.inBlock 0 ymE::ymW) [U,x1,x2,x3,U,U,U,U,U,U,U,U,U,U,U,U,U,U,U,U,U,U,U,U,U,U,U,U,U,U,U,U,U,U,U,U,U,U,U,U,U,U,x42,x43,x44,U,U,U,U,U,U,U,U,U,U,U,U,U,U,U,U,U,U,U,U,U,U,U,U,U,U,U,U,U,U,U,U,U,U,U,U,U,U,U,U,U,U,U,U,U,U,U,U,U,U,U,U,U,U,U,U,U,U,U] h e
@[simp] theorem c_net_Check:cfun Tryd.prog n_net_Check=some net_Check:=by kernel_rfl
@[simp] theorem e_net_Check:hasBody Tryd.prog n_net_Check=true:=by kernel_rfl
abbrev ymY:List AG:=[zz3 5 4 2,zzf 6 n_net_Nets 5,zz1 7 1,zzg 8 n_slices_Index_string_string 6 7,zz1 4 8]
abbrev ymZ:List AG:=[o 2 (.box 4 (.t 0)),zz9 4 0]
abbrev net_Place:AFun:=⟨(.seq (.reg ymZ) (.seq (.reg ymY) .ret)),9,[.tmp 4]⟩
@[simp] theorem c_net_Place:cfun Tryd.prog n_net_Place=some net_Place:=by kernel_rfl
@[simp] theorem e_net_Place:hasBody Tryd.prog n_net_Place=true:=by kernel_rfl
abbrev yna:List AG:=[zzh 4]
abbrev ynb:List Bool:=[I,I,O,O,O,I,O,O,O,O,O,O,O,O,O,O,O,O]
abbrev ync:List Bool:=[O,O,O,O,O,O,O,O,O,O,O,O,O,O,O,O,O,O]
abbrev ynd:List AG:=[zz1 10 5,zz6 11 10 1,zz1 5 11]
abbrev yne:List AG:=[o 4 (.mv (.c (.bool true)))]
abbrev ynf:ACode:=(.seq (.reg yne) .ret)
abbrev yng:List AG:=[zz1 12 0,zz1 13 5,zz5 14 1 12 13,zz2 15 1 14,zz1 16 1,o 17 (.cmp .eql (.sc .str) (.t 15) (.t 16))]
abbrev ynh:ACode:=(.seq (.reg yng) (.cond (.t 17) ynf .skip))
abbrev yni:List AG:=[zz1 6 5,zz1 7 0,zza 8 7,zz7 9 6 8]
abbrev ynj:ACode:=(.seq (.seq (.reg yni) (.cond (.t 9) .skip (.exit 0))) (.seq (.block 1 [] ynh) (.reg ynd)))
abbrev ynk:List AG:=[zz9 5 0]
abbrev ynl:List AG:=[zzh 4]
abbrev r01_Has:AFun:=⟨(.seq (.reg ynl) (.seq (.seq (.reg ynk) (.block 0 ync (.loop ynb ynj))) (.seq (.reg yna) .ret))),18,[.tmp 4]⟩
abbrev ynm:List It:=[.code (.seq (.reg yna) .ret)]
abbrev ynn (x0 x1 x5:AV) (h:List Ob) (e:Cx:=cx):Cfg:=atC n_r01_Has (.code ynj::.inLoop ynb ynj::.inBlock 0 ync::ynm) [x0,x1,U,U,U,x5,U,U,U,U,U,U,U,U,U,U,U,U] h e
@[simp] theorem c_r01_Has:cfun Tryd.prog n_r01_Has=some r01_Has:=by kernel_rfl
@[simp] theorem e_r01_Has:hasBody Tryd.prog n_r01_Has=true:=by kernel_rfl
abbrev yno:List AG:=[zz1 10 3,o 11 (.cmp .eql (.sc .int) (.t 10) (.c (.int .i64 0))),zz1 2 11]
abbrev ynp:List AG:=[zz3 6 4 1,zzf 7 n_net_Check 6,zz1 5 7,zzc 8 5 0,zzc 9 5 1,zz1 3 8,zz1 4 9]
abbrev ynq:List AG:=[o 1 (.box 4 (.t 0)),zzh 2]
abbrev order_right:AFun:=⟨(.seq (.reg ynq) (.seq (.reg ynp) (.seq (.reg yno) .ret))),12,[.tmp 2]⟩
@[simp] theorem c_order_right:cfun Tryd.prog n_order_right=some order_right:=by kernel_rfl
@[simp] theorem e_order_right:hasBody Tryd.prog n_order_right=true:=by kernel_rfl
abbrev ynr:List AG:=[zz1 20 3,zz1 2 20]
abbrev yns:List Bool:=[O,O,O,I,O,O,O,O,I,I,I,O,O,O,O,O,O,O,O,O,O]
abbrev ynt:List Bool:=[O,O,O,I,O,O,O,O,O,O,O,O,O,O,O,O,O,O,O,O,O]
abbrev ynu:List AG:=[zz6 19 10 1,zz1 10 19]
abbrev ynv:List AG:=[zz1 15 3,zz4 16 0 5,zz2 17 1 16,zz1 18 4,q (.upd (.sc .str) (.t 15) (.t 17) (.t 18))]
abbrev ynw:List AG:=[zz1 12 10,zz5 13 5 8 10,zz3 14 5 13,o 5 (.alloc [(.str []),(.int .i64 0),(.own 1 t_string []),(.own 1 t_string []),(.bool false)]),zz1 4 12,zzb 5 5 14]
abbrev ynx:ACode:=(.seq (.reg ynw) (.reg ynv))
abbrev yny:List AG:=[zz7 11 10 9]
abbrev ynz:ACode:=(.seq (.reg yny) (.seq (.cond (.t 11) .skip (.exit 0)) (.seq (.block 1 [] ynx) (.reg ynu))))
abbrev ynA:List AG:=[zz4 7 3 1,zz2 8 1 7,zza 9 8,zz9 10 0]
abbrev ynB:List AG:=[o 6 (.mkMap),zz1 3 6]
abbrev ynC:List AG:=[o 1 (.box 4 (.t 0)),o 2 (.mv (.c .nilm))]
abbrev order_places:AFun:=⟨(.seq (.reg ynC) (.seq (.reg ynB) (.seq (.seq (.reg ynA) (.block 0 ynt (.loop yns ynz))) (.seq (.reg ynr) .ret)))),21,[.tmp 2]⟩
abbrev ynD:List It:=[.code (.seq (.reg ynr) .ret)]
abbrev ynE (x3 x8 x9 x10:AV) (h:List Ob) (e:Cx:=cx):Cfg:=atC n_order_places (.code ynz::.inLoop yns ynz::.inBlock 0 ynt::ynD) [U,U,U,x3,U,U,U,U,x8,x9,x10,U,U,U,U,U,U,U,U,U,U] h e
@[simp] theorem c_order_places:cfun Tryd.prog n_order_places=some order_places:=by kernel_rfl
@[simp] theorem e_order_places:hasBody Tryd.prog n_order_places=true:=by kernel_rfl
abbrev ynF:List AG:=[o 3 (.mkFunc (.func n_order_coming_1) [] [(.t 1)]),zz1 2 3]
abbrev ynG:List AG:=[o 1 (.box 4 (.t 0)),o 2 (.mv (.c .nilf))]
abbrev order_coming:AFun:=⟨(.seq (.reg ynG) (.seq (.reg ynF) .ret)),4,[.tmp 2]⟩
@[simp] theorem c_order_coming:cfun Tryd.prog n_order_coming=some order_coming:=by kernel_rfl
@[simp] theorem e_order_coming:hasBody Tryd.prog n_order_coming=true:=by kernel_rfl
abbrev ynH:List AG:=[zz1 10 3,o 11 (.cmp .eql (.sc .int) (.t 10) (.c (.int .i64 0))),zz1 2 11]
abbrev ynI:List AG:=[zz3 6 4 1,zzf 7 n_r06_Check 6,zz1 5 7,zzc 8 5 0,zzc 9 5 1,zz1 3 8,zz1 4 9]
abbrev ynJ:List AG:=[o 1 (.box 4 (.t 0)),zzh 2]
abbrev r07_right:AFun:=⟨(.seq (.reg ynJ) (.seq (.reg ynI) (.seq (.reg ynH) .ret))),12,[.tmp 2]⟩
@[simp] theorem c_r07_right:cfun Tryd.prog n_r07_right=some r07_right:=by kernel_rfl
@[simp] theorem e_r07_right:hasBody Tryd.prog n_r07_right=true:=by kernel_rfl
abbrev ynK:List AG:=[zzh 6]
abbrev ynL:List Bool:=[O,O,I,I,I,O,O,I,O,O,O,O,O,O,O,O,O,O,O,O,O,O,O,O,O,O,O,O,O,O,O,O,O,O,O,O,O,O,O,O,O,O]
abbrev ynM:List Bool:=[O,O,O,O,O,O,O,O,O,O,O,O,O,O,O,O,O,O,O,O,O,O,O,O,O,O,O,O,O,O,O,O,O,O,O,O,O,O,O,O,O,O]
abbrev ynN:List AG:=[zz1 14 7,zz6 15 14 1,zz1 7 15]
abbrev ynO:List Bool:=[O,O,I,I,I,O,O,I,I,O,O,O,O,O,O,O,O,O,O,O,O,O,O,O,O,O,O,O,O,O,O,O,O,O,O,O,O,O,O,O,O,O]
abbrev ynP:List Bool:=[O,O,I,I,I,O,O,I,O,O,O,O,O,O,O,O,O,O,O,O,O,O,O,O,O,O,O,O,O,O,O,O,O,O,O,O,O,O,O,O,O,O]
abbrev ynQ:List AG:=[zz1 21 8,zz6 22 21 1,zz1 8 22]
abbrev ynR:List AG:=[o 6 (.mv (.c (.bool true)))]
abbrev ynS:ACode:=(.seq (.reg ynR) .ret)
abbrev ynT:List AG:=[zz4 23 3 3,zz2 24 1 23,zz1 25 8,zz5 26 5 24 25,zz4 27 0 26,zz2 28 1 27,zz4 29 2 4,zz2 30 1 29,zz1 31 7,zz5 32 1 30 31,zz2 33 1 32,o 34 (.cmp .eql (.sc .str) (.t 28) (.t 33)),zz1 35 34,zze 36 35 2,zze 37 35 8,oy 38 35 (.ixAddr 1 (.t 36) (.t 37)),zzd 39 35 1 38,oy 40 35 (.not (.t 39)),zz8 41 35 40]
abbrev ynU:ACode:=(.seq (.dreg [O,O,O,O,O,O,O,O,O,O,O,O,O,O,O,O,O,O,O] [20,20,20,20,20,20,20,20,20,20,20,20,20,20,20,20,20,20,20] ynT) (.cond (.t 41) ynS .skip))
abbrev ynV:List AG:=[zz1 16 8,zz4 17 3 3,zz2 18 1 17,zza 19 18,zz7 20 16 19]
abbrev ynW:ACode:=(.seq (.seq (.reg ynV) (.cond (.t 20) .skip (.exit 2))) (.seq (.block 3 [] ynU) (.reg ynQ)))
abbrev ynX:List AG:=[zz9 8 0]
abbrev ynY:ACode:=(.seq (.reg ynX) (.block 2 ynP (.loop ynO ynW)))
abbrev ynZ:List AG:=[zz1 9 7,zz4 10 2 4,zz2 11 1 10,zza 12 11,zz7 13 9 12]
abbrev yoa:ACode:=(.seq (.seq (.reg ynZ) (.cond (.t 13) .skip (.exit 0))) (.seq (.block 1 [] ynY) (.reg ynN)))
abbrev yob:List AG:=[zz9 7 0]
abbrev yoc:List AG:=[o 3 (.box 4 (.t 0)),o 4 (.box 5 (.t 1)),zzh 6]
abbrev r07_waits:AFun:=⟨(.seq (.reg yoc) (.seq (.seq (.reg yob) (.block 0 ynM (.loop ynL yoa))) (.seq (.reg ynK) .ret))),42,[.tmp 6]⟩
abbrev yod:List It:=[.inBlock 1 [],.code (.reg ynN),.inLoop ynL yoa,.inBlock 0 ynM,.code (.seq (.reg ynK) .ret)]
abbrev yoe (x2 x3 x4 x7 x8:AV) (h:List Ob) (e:Cx:=cx):Cfg:=atC n_r07_waits (.code ynW::.inLoop ynO ynW::.inBlock 2 ynP::yod) [U,U,x2,x3,x4,U,U,x7,x8,U,U,U,U,U,U,U,U,U,U,U,U,U,U,U,U,U,U,U,U,U,U,U,U,U,U,U,U,U,U,U,U,U] h e
abbrev yof (x2 x3 x4 x7:AV) (h:List Ob) (e:Cx:=cx):Cfg:=atC n_r07_waits yod [U,U,x2,x3,x4,U,U,x7,U,U,U,U,U,U,U,U,U,U,U,U,U,U,U,U,U,U,U,U,U,U,U,U,U,U,U,U,U,U,U,U,U,U] h e
abbrev yog:List It:=[.code (.seq (.reg ynK) .ret)]
abbrev yoh (x2 x3 x4 x7:AV) (h:List Ob) (e:Cx:=cx):Cfg:=atC n_r07_waits (.code yoa::.inLoop ynL yoa::.inBlock 0 ynM::yog) [U,U,x2,x3,x4,U,U,x7,U,U,U,U,U,U,U,U,U,U,U,U,U,U,U,U,U,U,U,U,U,U,U,U,U,U,U,U,U,U,U,U,U,U] h e
@[simp] theorem c_r07_waits:cfun Tryd.prog n_r07_waits=some r07_waits:=by kernel_rfl
@[simp] theorem e_r07_waits:hasBody Tryd.prog n_r07_waits=true:=by kernel_rfl
abbrev yoi:List AG:=[zz9 2 0,o 3 (.mv (.c (.str [])))]
abbrev yoj:List Bool:=[O,O,O,O,O,O,I,O,O,O,O,O,O,I,I,O,O,O,O,O,O,O,O,O,O,O,O,O,O,O,O,O,O,O,O,O,O,O,O,O,O,O,O,O,O,O,O,O,O,O,O,O,O,O,O,O,O,O,O,O,O,O,O,O,O,O,O,O,O,O,O,O,O,O,O,O,O,O,O,O,O,O,O,O,O,O,O,O,O,O,O,O,O,O,O,O,O,O,O,O,O,O,O,O,O,O,O,O,O,O,O,O,O,O,O,O,O,O,O,O]
abbrev yok:List Bool:=[O,O,O,O,O,O,O,O,O,O,O,O,O,O,O,O,O,O,O,O,O,O,O,O,O,O,O,O,O,O,O,O,O,O,O,O,O,O,O,O,O,O,O,O,O,O,O,O,O,O,O,O,O,O,O,O,O,O,O,O,O,O,O,O,O,O,O,O,O,O,O,O,O,O,O,O,O,O,O,O,O,O,O,O,O,O,O,O,O,O,O,O,O,O,O,O,O,O,O,O,O,O,O,O,O,O,O,O,O,O,O,O,O,O,O,O,O,O,O,O]
abbrev yol:List AG:=[zz1 107 14,zz6 108 107 1,zz1 14 108]
abbrev yom:List AG:=[zz1 116 13,zz1 117 14,zz5 118 1 116 117,zz2 119 1 118,zz9 2 6,zz1 3 119]
abbrev yon:ACode:=(.seq (.dreg [O,O,O,O,O,O] [7,7,7,7,7,7] yom) .ret)
abbrev yoo:List AG:=[zz1 109 6,zz1 110 13,zz1 111 14,zz5 112 1 110 111,zz2 113 1 112,zzg 114 n_r01_Has 109 113,o 115 (.not (.t 114))]
abbrev yop:ACode:=(.seq (.reg yoo) (.cond (.t 115) yon .skip))
abbrev yoq:List AG:=[zz1 103 14,zz1 104 13,zza 105 104,zz7 106 103 105]
abbrev yor:ACode:=(.seq (.seq (.reg yoq) (.cond (.t 106) .skip (.exit 6))) (.seq (.block 7 [] yop) (.reg yol)))
abbrev yos:List AG:=[zz9 14 0]
abbrev yot:List AG:=[zz3 101 4 1,zzf 102 n_r06_Used 101,zz1 13 102]
abbrev you:List Bool:=[O,I,O,O,O,O,I,O,O,O,O,O,I,O,O,O,O,O,O,O,O,O,O,O,O,O,O,O,O,O,O,O,O,O,O,O,O,O,O,O,O,O,O,O,O,O,O,O,O,O,O,O,O,O,O,O,O,O,O,O,O,O,O,O,O,O,O,O,O,O,O,O,O,O,O,O,O,O,O,O,O,O,O,O,O,O,O,O,O,O,O,O,O,O,O,O,O,O,O,O,O,O,O,O,O,O,O,O,O,O,O,O,O,O,O,O,O,O,O,O]
abbrev yov:List Bool:=[O,I,O,O,O,O,I,O,O,O,O,O,O,O,O,O,O,O,O,O,O,O,O,O,O,O,O,O,O,O,O,O,O,O,O,O,O,O,O,O,O,O,O,O,O,O,O,O,O,O,O,O,O,O,O,O,O,O,O,O,O,O,O,O,O,O,O,O,O,O,O,O,O,O,O,O,O,O,O,O,O,O,O,O,O,O,O,O,O,O,O,O,O,O,O,O,O,O,O,O,O,O,O,O,O,O,O,O,O,O,O,O,O,O,O,O,O,O,O,O]
abbrev yow:List AG:=[zz1 86 12,zz6 87 86 1,zz1 12 87]
abbrev yox:List AG:=[zz4 95 3 1,zz2 96 1 95,zz1 97 12,zz5 98 5 96 97,zz4 99 0 98,zz2 100 1 99,zz9 2 1,zz1 3 100]
abbrev yoy:ACode:=(.seq (.dreg [O,O,O,O,O,O,O,O] [9,9,9,9,9,9,9,9] yox) .ret)
abbrev yoz:List AG:=[zz4 88 3 1,zz2 89 1 88,zz1 90 12,zz5 91 5 89 90,zz3 92 5 91,zzf 93 n_r06_Gate 92,o 94 (.not (.t 93))]
abbrev yoA:ACode:=(.seq (.reg yoz) (.cond (.t 94) yoy .skip))
abbrev yoB:List AG:=[zz1 81 12,zz4 82 3 1,zz2 83 1 82,zza 84 83,zz7 85 81 84]
abbrev yoC:ACode:=(.seq (.seq (.reg yoB) (.cond (.t 85) .skip (.exit 4))) (.seq (.block 5 [] yoA) (.reg yow)))
abbrev yoD:List AG:=[zz9 12 0]
abbrev yoE:List Bool:=[O,I,O,O,O,O,I,O,O,O,O,I,O,O,O,O,O,O,O,O,O,O,O,O,O,O,O,O,O,O,O,O,O,O,O,O,O,O,O,O,O,O,O,O,O,O,O,O,O,O,O,O,O,O,O,O,O,O,O,O,O,O,O,O,O,O,O,O,O,O,O,O,O,O,O,O,O,O,O,O,O,O,O,O,O,O,O,O,O,O,O,O,O,O,O,O,O,O,O,O,O,O,O,O,O,O,O,O,O,O,O,O,O,O,O,O,O,O,O,O]
abbrev yoF:List Bool:=[O,I,O,O,O,O,I,O,O,O,O,O,O,O,O,O,O,O,O,O,O,O,O,O,O,O,O,O,O,O,O,O,O,O,O,O,O,O,O,O,O,O,O,O,O,O,O,O,O,O,O,O,O,O,O,O,O,O,O,O,O,O,O,O,O,O,O,O,O,O,O,O,O,O,O,O,O,O,O,O,O,O,O,O,O,O,O,O,O,O,O,O,O,O,O,O,O,O,O,O,O,O,O,O,O,O,O,O,O,O,O,O,O,O,O,O,O,O,O,O]
abbrev yoG:List AG:=[zz1 57 11,zz6 58 57 1,zz1 11 58]
abbrev yoH:List AG:=[zz4 75 2 1,zz2 76 1 75,zz1 77 11,zz5 78 3 76 77,zz4 79 0 78,zz2 80 1 79,zz9 2 1,zz1 3 80]
abbrev yoI:ACode:=(.seq (.dreg [O,O,O,O,O,O,O,O] [9,9,9,9,9,9,9,9] yoH) .ret)
abbrev yoJ:List AG:=[zz4 59 2 1,zz2 60 1 59,zz1 61 11,zz5 62 3 60 61,zz4 63 2 62,zz2 64 1 63,o 65 (.cmp .lss (.sc .int) (.t 64) (.c (.int .i64 0))),zz1 66 65,on 67 66 (.off 2 (.t 1)),on 68 66 (.load false 1 (.t 67)),on 69 66 (.mv (.t 11)),on 70 66 (.ixAddr 3 (.t 68) (.t 69)),on 71 66 (.off 2 (.t 70)),on 72 66 (.load false 1 (.t 71)),on 73 66 (.cmp .gtr (.sc .int) (.t 72) (.c (.int .i64 2))),o 74 (.pick (.t 66) (.c (.bool true)) (.t 73))]
abbrev yoK:ACode:=(.seq (.reg yoJ) (.cond (.t 74) yoI .skip))
abbrev yoL:List AG:=[zz1 52 11,zz4 53 2 1,zz2 54 1 53,zza 55 54,zz7 56 52 55]
abbrev yoM:ACode:=(.seq (.seq (.reg yoL) (.cond (.t 56) .skip (.exit 2))) (.seq (.block 3 [] yoK) (.reg yoG)))
abbrev yoN:List AG:=[zz9 11 0]
abbrev yoO:List AG:=[zz1 51 9,zz9 2 5,zz1 3 51]
abbrev yoP:ACode:=(.seq (.reg yoO) .ret)
abbrev yoQ:List AG:=[zz1 50 10]
abbrev yoR:List AG:=[zz4 45 1 1,zz2 46 1 45,zzf 47 n_r06_twice 46,zz1 44 47,zzc 48 44 0,zzc 49 44 1,zz1 9 48,zz1 10 49]
abbrev yoS:List AG:=[zz1 43 7,zz9 2 5,zz1 3 43]
abbrev yoT:ACode:=(.seq (.reg yoS) .ret)
abbrev yoU:List AG:=[zz1 42 8]
abbrev yoV:List AG:=[zz1 38 6,zzf 39 n_r06_twice 38,zz1 37 39,zzc 40 37 0,zzc 41 37 1,zz1 7 40,zz1 8 41]
abbrev yoW:List AG:=[zz3 35 4 1,zzf 36 n_r06_Nets 35,zz1 6 36]
abbrev yoX:List Bool:=[O,I,O,O,I,I,O,O,O,O,O,O,O,O,O,O,O,O,O,O,O,O,O,O,O,O,O,O,O,O,O,O,O,O,O,O,O,O,O,O,O,O,O,O,O,O,O,O,O,O,O,O,O,O,O,O,O,O,O,O,O,O,O,O,O,O,O,O,O,O,O,O,O,O,O,O,O,O,O,O,O,O,O,O,O,O,O,O,O,O,O,O,O,O,O,O,O,O,O,O,O,O,O,O,O,O,O,O,O,O,O,O,O,O,O,O,O,O,O,O]
abbrev yoY:List Bool:=[O,I,O,O,O,O,O,O,O,O,O,O,O,O,O,O,O,O,O,O,O,O,O,O,O,O,O,O,O,O,O,O,O,O,O,O,O,O,O,O,O,O,O,O,O,O,O,O,O,O,O,O,O,O,O,O,O,O,O,O,O,O,O,O,O,O,O,O,O,O,O,O,O,O,O,O,O,O,O,O,O,O,O,O,O,O,O,O,O,O,O,O,O,O,O,O,O,O,O,O,O,O,O,O,O,O,O,O,O,O,O,O,O,O,O,O,O,O,O,O]
abbrev yoZ:List AG:=[zz1 23 5,zz6 24 23 1,zz1 5 24]
abbrev ypa:List AG:=[zz1 31 4,zz1 32 5,zz5 33 1 31 32,zz2 34 1 33,zz9 2 4,zz1 3 34]
abbrev ypb:ACode:=(.seq (.dreg [O,O,O,O,O,O] [7,7,7,7,7,7] ypa) .ret)
abbrev ypc:List AG:=[zz1 25 4,zz1 26 5,zz5 27 1 25 26,zz2 28 1 27,zzf 29 n_r04_Name 28,o 30 (.not (.t 29))]
abbrev ypd:ACode:=(.seq (.reg ypc) (.cond (.t 30) ypb .skip))
abbrev ype:List AG:=[zz1 19 5,zz1 20 4,zza 21 20,zz7 22 19 21]
abbrev ypf:ACode:=(.seq (.seq (.reg ype) (.cond (.t 22) .skip (.exit 0))) (.seq (.block 1 [] ypd) (.reg yoZ)))
abbrev ypg:List AG:=[zz9 5 0]
abbrev yph:List AG:=[zz3 17 4 1,zzf 18 n_r06_Told 17,zz1 4 18]
abbrev ypi:List AG:=[zz9 2 8,o 3 (.mv (.c (.str [])))]
abbrev ypj:ACode:=(.seq (.reg ypi) .ret)
abbrev ypk:List AG:=[zz3 15 4 1,zzf 16 n_r06_limit 15]
abbrev ypl:List AG:=[o 1 (.box 4 (.t 0)),zz9 2 0,o 3 (.mv (.c (.str [])))]
abbrev r06_Check:AFun:=⟨(.seq (.reg ypl) (.seq (.seq (.reg ypk) (.cond (.t 16) ypj .skip)) (.seq (.reg yph) (.seq (.seq (.reg ypg) (.block 0 yoY (.loop yoX ypf))) (.seq (.reg yoW) (.seq (.reg yoV) (.seq (.seq (.reg yoU) (.cond (.t 42) yoT .skip)) (.seq (.reg yoR) (.seq (.seq (.reg yoQ) (.cond (.t 50) yoP .skip)) (.seq (.seq (.reg yoN) (.block 2 yoF (.loop yoE yoM))) (.seq (.seq (.reg yoD) (.block 4 yov (.loop you yoC))) (.seq (.reg yot) (.seq (.seq (.reg yos) (.block 6 yok (.loop yoj yor))) (.seq (.reg yoi) .ret)))))))))))))),120,[.tmp 2,.tmp 3]⟩
abbrev ypm:List It:=[.code (.seq (.reg yoi) .ret)]
abbrev ypn (x6 x13 x14:AV) (h:List Ob) (e:Cx:=cx):Cfg:=atC n_r06_Check (.code yor::.inLoop yoj yor::.inBlock 6 yok::ypm) [U,U,U,U,U,U,x6,U,U,U,U,U,U,x13,x14,U,U,U,U,U,U,U,U,U,U,U,U,U,U,U,U,U,U,U,U,U,U,U,U,U,U,U,U,U,U,U,U,U,U,U,U,U,U,U,U,U,U,U,U,U,U,U,U,U,U,U,U,U,U,U,U,U,U,U,U,U,U,U,U,U,U,U,U,U,U,U,U,U,U,U,U,U,U,U,U,U,U,U,U,U,U,U,U,U,U,U,U,U,U,U,U,U,U,U,U,U,U,U,U,U] h e
abbrev ypo:List It:=[.code (.seq (.reg yot) (.seq (.seq (.reg yos) (.block 6 yok (.loop yoj yor))) (.seq (.reg yoi) .ret)))]
abbrev ypp (x1 x6 x12:AV) (h:List Ob) (e:Cx:=cx):Cfg:=atC n_r06_Check (.code yoC::.inLoop you yoC::.inBlock 4 yov::ypo) [U,x1,U,U,U,U,x6,U,U,U,U,U,x12,U,U,U,U,U,U,U,U,U,U,U,U,U,U,U,U,U,U,U,U,U,U,U,U,U,U,U,U,U,U,U,U,U,U,U,U,U,U,U,U,U,U,U,U,U,U,U,U,U,U,U,U,U,U,U,U,U,U,U,U,U,U,U,U,U,U,U,U,U,U,U,U,U,U,U,U,U,U,U,U,U,U,U,U,U,U,U,U,U,U,U,U,U,U,U,U,U,U,U,U,U,U,U,U,U,U,U] h e
abbrev ypq:List It:=[.code (.seq (.seq (.reg yoD) (.block 4 yov (.loop you yoC))) (.seq (.reg yot) (.seq (.seq (.reg yos) (.block 6 yok (.loop yoj yor))) (.seq (.reg yoi) .ret))))]
abbrev ypr (x1 x6 x11:AV) (h:List Ob) (e:Cx:=cx):Cfg:=atC n_r06_Check (.code yoM::.inLoop yoE yoM::.inBlock 2 yoF::ypq) [U,x1,U,U,U,U,x6,U,U,U,U,x11,U,U,U,U,U,U,U,U,U,U,U,U,U,U,U,U,U,U,U,U,U,U,U,U,U,U,U,U,U,U,U,U,U,U,U,U,U,U,U,U,U,U,U,U,U,U,U,U,U,U,U,U,U,U,U,U,U,U,U,U,U,U,U,U,U,U,U,U,U,U,U,U,U,U,U,U,U,U,U,U,U,U,U,U,U,U,U,U,U,U,U,U,U,U,U,U,U,U,U,U,U,U,U,U,U,U,U,U] h e
abbrev yps:List It:=[.code (.seq (.reg yoW) (.seq (.reg yoV) (.seq (.seq (.reg yoU) (.cond (.t 42) yoT .skip)) (.seq (.reg yoR) (.seq (.seq (.reg yoQ) (.cond (.t 50) yoP .skip)) (.seq (.seq (.reg yoN) (.block 2 yoF (.loop yoE yoM))) (.seq (.seq (.reg yoD) (.block 4 yov (.loop you yoC))) (.seq (.reg yot) (.seq (.seq (.reg yos) (.block 6 yok (.loop yoj yor))) (.seq (.reg yoi) .ret))))))))))]
abbrev ypt (x1 x4 x5:AV) (h:List Ob) (e:Cx:=cx):Cfg:=atC n_r06_Check (.code ypf::.inLoop yoX ypf::.inBlock 0 yoY::yps) [U,x1,U,U,x4,x5,U,U,U,U,U,U,U,U,U,U,U,U,U,U,U,U,U,U,U,U,U,U,U,U,U,U,U,U,U,U,U,U,U,U,U,U,U,U,U,U,U,U,U,U,U,U,U,U,U,U,U,U,U,U,U,U,U,U,U,U,U,U,U,U,U,U,U,U,U,U,U,U,U,U,U,U,U,U,U,U,U,U,U,U,U,U,U,U,U,U,U,U,U,U,U,U,U,U,U,U,U,U,U,U,U,U,U,U,U,U,U,U,U,U] h e
@[simp] theorem c_r06_Check:cfun Tryd.prog n_r06_Check=some r06_Check:=by kernel_rfl
@[simp] theorem e_r06_Check:hasBody Tryd.prog n_r06_Check=true:=by kernel_rfl
abbrev ypu:List AG:=[zz3 79 2 4,zzb 2 2 79]
abbrev ypv:List Bool:=[O,O,I,I,I,O,O,O,O,O,O,O,O,O,O,O,O,O,O,O,O,O,O,I,I,I,O,O,O,O,O,O,O,O,O,O,O,O,O,O,O,O,O,O,O,O,O,O,O,O,O,O,O,O,O,O,O,O,O,O,O,O,O,O,O,O,O,O,O,O,O,O,O,O,O,O,O,O,O,O]
abbrev ypw:List Bool:=[O,O,I,O,I,O,O,O,O,O,O,O,O,O,O,O,O,O,O,O,O,O,O,O,O,O,O,O,O,O,O,O,O,O,O,O,O,O,O,O,O,O,O,O,O,O,O,O,O,O,O,O,O,O,O,O,O,O,O,O,O,O,O,O,O,O,O,O,O,O,O,O,O,O,O,O,O,O,O,O]
abbrev ypx:List AG:=[zz6 78 25 1,zz1 25 78]
abbrev ypy:List Bool:=[O,O,I,I,I,I,O,O,O,O,O,O,O,O,O,O,O,O,O,O,O,O,O,I,I,I,O,O,O,O,O,O,O,O,O,O,I,I,I,O,O,O,O,O,O,O,O,O,O,O,O,O,O,O,O,O,O,O,O,O,O,O,O,O,O,O,O,O,O,O,O,O,O,O,O,O,O,O,O,O]
abbrev ypz:List Bool:=[O,O,I,I,I,O,O,O,O,O,O,O,O,O,O,O,O,O,O,O,O,O,O,I,I,I,O,O,O,O,O,O,O,O,O,O,O,O,O,O,O,O,O,O,O,O,O,O,O,O,O,O,O,O,O,O,O,O,O,O,O,O,O,O,O,O,O,O,O,O,O,O,O,O,O,O,O,O,O,O]
abbrev ypA:List AG:=[zz6 77 38 1,zz1 38 77]
abbrev ypB:List AG:=[zz4 65 1 4,zz2 66 1 65,zz1 67 9,zz4 68 1 4,zz2 69 1 68,zz1 70 9,zz5 71 1 69 70,zz2 72 1 71,zz1 73 5,o 74 (.lit 1 [(.int .i64 0)] [(0,(.t 73))]),o 75 (.append 1 t_int 8 (.t 72) (.t 74)),zz5 76 1 66 67,zzb 1 76 75]
abbrev ypC:List AG:=[zz4 59 0 4,zz2 60 1 59,zz1 61 5,zz5 62 1 60 61,zz2 63 1 62,zz1 64 9,q (.upd (.sc .int) (.t 63) (.t 64) (.c (.bool true)))]
abbrev ypD:ACode:=(.seq (.reg ypC) (.dreg [O,I,O,O,I,O,O,I,O,O,O,O,O] [13,13,13,11,11,11,11,11,10,11,13,13,14] ypB))
abbrev ypE:List AG:=[zz1 48 10,zz1 49 48,oy 50 49 (.off 0 (.t 4)),zzd 51 49 1 50,zze 52 49 5,oy 53 49 (.ixAddr 1 (.t 51) (.t 52)),zzd 54 49 1 53,zze 55 49 9,oy 56 49 (.lookup (.sc .int) (.bool false) (.t 54) (.t 55) false),oy 57 49 (.not (.t 56)),zz8 58 49 57]
abbrev ypF:List AG:=[zz1 43 3,zz1 44 8,o 45 (.lookup (.sc .str) (.int .i64 0) (.t 43) (.t 44) true),zz1 42 45,zzc 46 42 0,zzc 47 42 1,zz1 9 46,zz1 10 47]
abbrev ypG:List AG:=[zz5 40 1 36 38,zz2 41 1 40,zz1 8 41]
abbrev ypH:ACode:=(.seq (.reg ypG) (.seq (.reg ypF) (.seq (.reg ypE) (.cond (.t 58) ypD .skip))))
abbrev ypI:List AG:=[zz7 39 38 37]
abbrev ypJ:ACode:=(.seq (.reg ypI) (.seq (.cond (.t 39) .skip (.exit 2)) (.seq (.block 3 [] ypH) (.reg ypA))))
abbrev ypK:List AG:=[zz4 35 2 6,zz2 36 1 35,zza 37 36,zz9 38 0]
abbrev ypL:List AG:=[zz4 30 0 4,zz2 31 1 30,zz1 32 5,o 33 (.mkMap),zz5 34 1 31 32,zzb 1 34 33]
abbrev ypM:List AG:=[zz1 27 25,zz5 28 5 23 25,zz3 29 5 28,o 6 (.alloc [(.str []),(.int .i64 0),(.own 1 t_string []),(.own 1 t_string []),(.bool false)]),zz1 5 27,zzb 5 6 29]
abbrev ypN:ACode:=(.seq (.reg ypM) (.seq (.reg ypL) (.seq (.reg ypK) (.block 2 ypz (.loop ypy ypJ)))))
abbrev ypO:List AG:=[zz7 26 25 24]
abbrev ypP:ACode:=(.seq (.reg ypO) (.seq (.cond (.t 26) .skip (.exit 0)) (.seq (.block 1 [] ypN) (.reg ypx))))
abbrev ypQ:List AG:=[zz4 22 3 1,zz2 23 1 22,zza 24 23,zz9 25 0]
abbrev ypR:List AG:=[zz4 13 3 1,zz2 14 1 13,zza 15 14,o 16 (.mkSlice 1 t_map_int_bool_2 8 .nilm (.t 15) (.t 15)),zz4 17 3 1,zz2 18 1 17,zza 19 18,o 20 (.mkSlice 1 t_int_2 24 (.list true 0 []) (.t 19) (.t 19)),o 21 (.build [(.list true 0 []),(.list true 0 [])] [(0,1,(.t 16)),(1,1,(.t 20))]),o 4 (.alloc [(.own 1 t_map_int_bool_2 []),(.own 1 t_int_2 [])]),zzb 2 4 21]
abbrev ypS:List AG:=[zz3 11 4 1,zzf 12 n_order_places 11,zz1 3 12]
abbrev ypT:List AG:=[o 1 (.box 4 (.t 0)),o 2 (.alloc [(.own 1 t_map_int_bool_2 []),(.own 1 t_int_2 [])])]
abbrev order_wait:AFun:=⟨(.seq (.reg ypT) (.seq (.reg ypS) (.seq (.oreg [[],[0],[1],[2,2],[],[4],[5],[6,6],[3,7],[],[9,8,0,1,2,3,4,5,6,7,8,9]] ypR) (.seq (.seq (.reg ypQ) (.block 0 ypw (.loop ypv ypP))) (.seq (.reg ypu) .ret))))),80,[.cell 2 true 2]⟩
abbrev ypU:List It:=[.inBlock 1 [],.code (.reg ypx),.inLoop ypv ypP,.inBlock 0 ypw,.code (.seq (.reg ypu) .ret)]
abbrev ypV (x2 x3 x4 x5 x23 x24 x25 x36 x37 x38:AV) (h:List Ob) (e:Cx:=cx):Cfg:=atC n_order_wait (.code ypJ::.inLoop ypy ypJ::.inBlock 2 ypz::ypU) [U,U,x2,x3,x4,x5,U,U,U,U,U,U,U,U,U,U,U,U,U,U,U,U,U,x23,x24,x25,U,U,U,U,U,U,U,U,U,U,x36,x37,x38,U,U,U,U,U,U,U,U,U,U,U,U,U,U,U,U,U,U,U,U,U,U,U,U,U,U,U,U,U,U,U,U,U,U,U,U,U,U,U,U,U] h e
abbrev ypW (x2 x3 x4 x23 x24 x25:AV) (h:List Ob) (e:Cx:=cx):Cfg:=atC n_order_wait ypU [U,U,x2,x3,x4,U,U,U,U,U,U,U,U,U,U,U,U,U,U,U,U,U,U,x23,x24,x25,U,U,U,U,U,U,U,U,U,U,U,U,U,U,U,U,U,U,U,U,U,U,U,U,U,U,U,U,U,U,U,U,U,U,U,U,U,U,U,U,U,U,U,U,U,U,U,U,U,U,U,U,U,U] h e
abbrev ypX:List It:=[.code (.seq (.reg ypu) .ret)]
abbrev ypY (x2 x3 x4 x23 x24 x25:AV) (h:List Ob) (e:Cx:=cx):Cfg:=atC n_order_wait (.code ypP::.inLoop ypv ypP::.inBlock 0 ypw::ypX) [U,U,x2,x3,x4,U,U,U,U,U,U,U,U,U,U,U,U,U,U,U,U,U,U,x23,x24,x25,U,U,U,U,U,U,U,U,U,U,U,U,U,U,U,U,U,U,U,U,U,U,U,U,U,U,U,U,U,U,U,U,U,U,U,U,U,U,U,U,U,U,U,U,U,U,U,U,U,U,U,U,U,U] h e
@[simp] theorem c_order_wait:cfun Tryd.prog n_order_wait=some order_wait:=by kernel_rfl
@[simp] theorem e_order_wait:hasBody Tryd.prog n_order_wait=true:=by kernel_rfl
abbrev ypZ:List AG:=[o 5 (.lit 1 [] []),zz1 6 0,o 7 (.append 1 t_string 16 (.t 5) (.t 6)),zz1 2 7]
abbrev yqa:List AG:=[o 2 (.nilrow 1 t_string)]
abbrev yqb:ACode:=(.seq (.reg yqa) .ret)
abbrev yqc:List AG:=[zz1 3 0,o 4 (.isnil false (.t 3))]
abbrev yqd:List AG:=[o 2 (.nilrow 1 t_string)]
abbrev slices_Clone_string_string:AFun:=⟨(.seq (.reg yqd) (.seq (.seq (.reg yqc) (.cond (.t 4) yqb .skip)) (.seq (.reg ypZ) .ret))),8,[.tmp 2]⟩
@[simp] theorem c_slices_Clone_string_string:cfun Tryd.prog n_slices_Clone_string_string=some slices_Clone_string_string:=by kernel_rfl
@[simp] theorem e_slices_Clone_string_string:hasBody Tryd.prog n_slices_Clone_string_string=true:=by kernel_rfl
abbrev yqe:List AG:=[zz1 37 3,zz1 2 37]
abbrev yqf:List Bool:=[O,O,O,I,O,O,O,O,O,O,O,O,O,O,O,O,O,O,O,O,O,O,O,O,O,I,I,I,O,O,O,O,O,O,O,O,O,O]
abbrev yqg:List Bool:=[O,O,O,I,O,O,O,O,O,O,O,O,O,O,O,O,O,O,O,O,O,O,O,O,O,O,O,O,O,O,O,O,O,O,O,O,O,O]
abbrev yqh:List AG:=[zz6 36 27 1,zz1 27 36]
abbrev yqi:List AG:=[zz1 31 3,zz4 32 0 7,zz2 33 1 32,o 34 (.lit 1 [(.str [])] [(0,(.t 33))]),o 35 (.append 1 t_string 16 (.t 31) (.t 34)),zz1 3 35]
abbrev yqj:List AG:=[zz5 29 5 25 27,zz3 30 5 29,o 7 (.alloc [(.str []),(.int .i64 0),(.own 1 t_string []),(.own 1 t_string []),(.bool false)]),zzb 5 7 30]
abbrev yqk:ACode:=(.seq (.reg yqj) (.reg yqi))
abbrev yql:List AG:=[zz7 28 27 26]
abbrev yqm:ACode:=(.seq (.reg yql) (.seq (.cond (.t 28) .skip (.exit 2)) (.seq (.block 3 [] yqk) (.reg yqh))))
abbrev yqn:List AG:=[zz4 24 3 1,zz2 25 1 24,zza 26 25,zz9 27 0]
abbrev yqo:List Bool:=[O,I,O,I,O,O,O,O,O,O,O,O,I,I,I,O,O,O,O,O,O,O,O,O,O,O,O,O,O,O,O,O,O,O,O,O,O,O]
abbrev yqp:List Bool:=[O,I,O,I,O,O,O,O,O,O,O,O,O,O,O,O,O,O,O,O,O,O,O,O,O,O,O,O,O,O,O,O,O,O,O,O,O,O]
abbrev yqq:List AG:=[zz6 23 14 1,zz1 14 23]
abbrev yqr:List AG:=[zz1 18 3,zz4 19 0 5,zz2 20 1 19,o 21 (.lit 1 [(.str [])] [(0,(.t 20))]),o 22 (.append 1 t_string 16 (.t 18) (.t 21)),zz1 3 22]
abbrev yqs:List AG:=[zz5 16 3 12 14,zz3 17 3 16,o 5 (.alloc [(.str []),(.str []),(.int .i64 0)]),zzb 3 5 17]
abbrev yqt:ACode:=(.seq (.reg yqs) (.reg yqr))
abbrev yqu:List AG:=[zz7 15 14 13]
abbrev yqv:ACode:=(.seq (.reg yqu) (.seq (.cond (.t 15) .skip (.exit 0)) (.seq (.block 1 [] yqt) (.reg yqq))))
abbrev yqw:List AG:=[zz4 11 2 1,zz2 12 1 11,zza 13 12,zz9 14 0]
abbrev yqx:List AG:=[zz4 8 0 1,zz2 9 1 8,zzf 10 n_slices_Clone_string_string 9,zz1 3 10]
abbrev yqy:List AG:=[o 1 (.box 4 (.t 0)),o 2 (.nilrow 1 t_string)]
abbrev net_Nets:AFun:=⟨(.seq (.reg yqy) (.seq (.reg yqx) (.seq (.seq (.reg yqw) (.block 0 yqp (.loop yqo yqv))) (.seq (.seq (.reg yqn) (.block 2 yqg (.loop yqf yqm))) (.seq (.reg yqe) .ret))))),38,[.tmp 2]⟩
abbrev yqz:List It:=[.code (.seq (.reg yqe) .ret)]
abbrev yqA (x3 x25 x26 x27:AV) (h:List Ob) (e:Cx:=cx):Cfg:=atC n_net_Nets (.code yqm::.inLoop yqf yqm::.inBlock 2 yqg::yqz) [U,U,U,x3,U,U,U,U,U,U,U,U,U,U,U,U,U,U,U,U,U,U,U,U,U,x25,x26,x27,U,U,U,U,U,U,U,U,U,U] h e
abbrev yqB:List It:=[.code (.seq (.seq (.reg yqn) (.block 2 yqg (.loop yqf yqm))) (.seq (.reg yqe) .ret))]
abbrev yqC (x1 x3 x12 x13 x14:AV) (h:List Ob) (e:Cx:=cx):Cfg:=atC n_net_Nets (.code yqv::.inLoop yqo yqv::.inBlock 0 yqp::yqB) [U,x1,U,x3,U,U,U,U,U,U,U,U,x12,x13,x14,U,U,U,U,U,U,U,U,U,U,U,U,U,U,U,U,U,U,U,U,U,U,U] h e
@[simp] theorem c_net_Nets:cfun Tryd.prog n_net_Nets=some net_Nets:=by kernel_rfl
@[simp] theorem e_net_Nets:hasBody Tryd.prog n_net_Nets=true:=by kernel_rfl
abbrev yqD:List AG:=[zz1 42 3,zz1 2 42]
abbrev yqE:List Bool:=[O,I,O,I,O,I,O,O,O,O,O,O,O,O,O,O,O,O,O,O,O,O,O,O,O,O,O,O,O,O,O,O,O,O,O,O,O,O,O,O,O,O,O]
abbrev yqF:List Bool:=[O,O,O,I,O,O,O,O,O,O,O,O,O,O,O,O,O,O,O,O,O,O,O,O,O,O,O,O,O,O,O,O,O,O,O,O,O,O,O,O,O,O,O]
abbrev yqG:List AG:=[zz1 31 5,zz6 32 31 1,zz1 5 32]
abbrev yqH:List AG:=[zz1 33 3,zz4 34 3 1,zz2 35 1 34,zz1 36 5,zz5 37 5 35 36,zz4 38 0 37,zz2 39 1 38,o 40 (.lit 1 [(.str [])] [(0,(.t 39))]),o 41 (.append 1 t_string 16 (.t 33) (.t 40)),zz1 3 41]
abbrev yqI:List AG:=[zz1 26 5,zz4 27 3 1,zz2 28 1 27,zza 29 28,zz7 30 26 29]
abbrev yqJ:ACode:=(.seq (.seq (.reg yqI) (.cond (.t 30) .skip (.exit 2))) (.seq (.block 3 [] (.reg yqH)) (.reg yqG)))
abbrev yqK:List AG:=[zz9 5 0]
abbrev yqL:List Bool:=[O,I,O,I,I,O,O,O,O,O,O,O,O,O,O,O,O,O,O,O,O,O,O,O,O,O,O,O,O,O,O,O,O,O,O,O,O,O,O,O,O,O,O]
abbrev yqM:List Bool:=[O,I,O,I,O,O,O,O,O,O,O,O,O,O,O,O,O,O,O,O,O,O,O,O,O,O,O,O,O,O,O,O,O,O,O,O,O,O,O,O,O,O,O]
abbrev yqN:List AG:=[zz1 15 4,zz6 16 15 1,zz1 4 16]
abbrev yqO:List AG:=[zz1 17 3,zz4 18 2 1,zz2 19 1 18,zz1 20 4,zz5 21 3 19 20,zz4 22 0 21,zz2 23 1 22,o 24 (.lit 1 [(.str [])] [(0,(.t 23))]),o 25 (.append 1 t_string 16 (.t 17) (.t 24)),zz1 3 25]
abbrev yqP:List AG:=[zz1 10 4,zz4 11 2 1,zz2 12 1 11,zza 13 12,zz7 14 10 13]
abbrev yqQ:ACode:=(.seq (.seq (.reg yqP) (.cond (.t 14) .skip (.exit 0))) (.seq (.block 1 [] (.reg yqO)) (.reg yqN)))
abbrev yqR:List AG:=[zz9 4 0]
abbrev yqS:List AG:=[zz1 6 3,zz4 7 0 1,zz2 8 1 7,o 9 (.append 1 t_string 16 (.t 6) (.t 8)),zz1 3 9]
abbrev yqT:List AG:=[o 3 (.nilrow 1 t_string)]
abbrev yqU:List AG:=[o 1 (.box 4 (.t 0)),o 2 (.nilrow 1 t_string)]
abbrev r06_Nets:AFun:=⟨(.seq (.reg yqU) (.seq (.reg yqT) (.seq (.reg yqS) (.seq (.seq (.reg yqR) (.block 0 yqM (.loop yqL yqQ))) (.seq (.seq (.reg yqK) (.block 2 yqF (.loop yqE yqJ))) (.seq (.reg yqD) .ret)))))),43,[.tmp 2]⟩
abbrev yqV:List It:=[.code (.seq (.reg yqD) .ret)]
abbrev yqW (x1 x3 x5:AV) (h:List Ob) (e:Cx:=cx):Cfg:=atC n_r06_Nets (.code yqJ::.inLoop yqE yqJ::.inBlock 2 yqF::yqV) [U,x1,U,x3,U,x5,U,U,U,U,U,U,U,U,U,U,U,U,U,U,U,U,U,U,U,U,U,U,U,U,U,U,U,U,U,U,U,U,U,U,U,U,U] h e
abbrev yqX:List It:=[.code (.seq (.seq (.reg yqK) (.block 2 yqF (.loop yqE yqJ))) (.seq (.reg yqD) .ret))]
abbrev yqY (x1 x3 x4:AV) (h:List Ob) (e:Cx:=cx):Cfg:=atC n_r06_Nets (.code yqQ::.inLoop yqL yqQ::.inBlock 0 yqM::yqX) [U,x1,U,x3,x4,U,U,U,U,U,U,U,U,U,U,U,U,U,U,U,U,U,U,U,U,U,U,U,U,U,U,U,U,U,U,U,U,U,U,U,U,U,U] h e
@[simp] theorem c_r06_Nets:cfun Tryd.prog n_r06_Nets=some r06_Nets:=by kernel_rfl
@[simp] theorem e_r06_Nets:hasBody Tryd.prog n_r06_Nets=true:=by kernel_rfl
abbrev yqZ:List AG:=[o 4 (.nilrow 1 t_string)]
abbrev yra:List Bool:=[O,I,I,O,O,O,I,O,O,O,O,O,O,O,O,O,O,O,O,O,O,O,O,O,O,O,O,O,O,O,O,O,O,O,O,O,O,O,O,O,O,O,O,O,O,O,O,O,O,O]
abbrev yrb:List Bool:=[O,O,O,O,O,O,O,O,O,O,O,O,O,O,O,O,O,O,O,O,O,O,O,O,O,O,O,O,O,O,O,O,O,O,O,O,O,O,O,O,O,O,O,O,O,O,O,O,O,O]
abbrev yrc:List AG:=[zz1 34 6,zz6 35 34 1,zz1 6 35]
abbrev yrd:List AG:=[zz4 44 3 2,zz2 45 1 44,zz1 46 6,zz5 47 5 45 46,zz4 48 2 47,zz2 49 1 48,zz1 4 49]
abbrev yre:ACode:=(.seq (.reg yrd) .ret)
abbrev yrf:List AG:=[zz4 36 3 2,zz2 37 1 36,zz1 38 6,zz5 39 5 37 38,zz4 40 0 39,zz2 41 1 40,zz1 42 1,o 43 (.cmp .eql (.sc .str) (.t 41) (.t 42))]
abbrev yrg:ACode:=(.seq (.reg yrf) (.cond (.t 43) yre .skip))
abbrev yrh:List AG:=[zz1 29 6,zz4 30 3 2,zz2 31 1 30,zza 32 31,zz7 33 29 32]
abbrev yri:ACode:=(.seq (.seq (.reg yrh) (.cond (.t 33) .skip (.exit 2))) (.seq (.block 3 [] yrg) (.reg yrc)))
abbrev yrj:List AG:=[zz9 6 0]
abbrev yrk:List Bool:=[O,I,I,O,O,I,O,O,O,O,O,O,O,O,O,O,O,O,O,O,O,O,O,O,O,O,O,O,O,O,O,O,O,O,O,O,O,O,O,O,O,O,O,O,O,O,O,O,O,O]
abbrev yrl:List Bool:=[O,I,I,O,O,O,O,O,O,O,O,O,O,O,O,O,O,O,O,O,O,O,O,O,O,O,O,O,O,O,O,O,O,O,O,O,O,O,O,O,O,O,O,O,O,O,O,O,O,O]
abbrev yrm:List AG:=[zz1 12 5,zz6 13 12 1,zz1 5 13]
abbrev yrn:List AG:=[zz4 22 2 2,zz2 23 1 22,zz1 24 5,zz5 25 3 23 24,zz4 26 1 25,zz2 27 1 26,o 28 (.lit 1 [(.str [])] [(0,(.t 27))]),zz1 4 28]
abbrev yro:ACode:=(.seq (.reg yrn) .ret)
abbrev yrp:List AG:=[zz4 14 2 2,zz2 15 1 14,zz1 16 5,zz5 17 3 15 16,zz4 18 0 17,zz2 19 1 18,zz1 20 1,o 21 (.cmp .eql (.sc .str) (.t 19) (.t 20))]
abbrev yrq:ACode:=(.seq (.reg yrp) (.cond (.t 21) yro .skip))
abbrev yrr:List AG:=[zz1 7 5,zz4 8 2 2,zz2 9 1 8,zza 10 9,zz7 11 7 10]
abbrev yrs:ACode:=(.seq (.seq (.reg yrr) (.cond (.t 11) .skip (.exit 0))) (.seq (.block 1 [] yrq) (.reg yrm)))
abbrev yrt:List AG:=[zz9 5 0]
abbrev yru:List AG:=[o 2 (.box 4 (.t 0)),o 4 (.nilrow 1 t_string)]
abbrev r07_leads:AFun:=⟨(.seq (.reg yru) (.seq (.seq (.reg yrt) (.block 0 yrl (.loop yrk yrs))) (.seq (.seq (.reg yrj) (.block 2 yrb (.loop yra yri))) (.seq (.reg yqZ) .ret)))),50,[.tmp 4]⟩
abbrev yrv:List It:=[.code (.seq (.reg yqZ) .ret)]
abbrev yrw (x1 x2 x6:AV) (h:List Ob) (e:Cx:=cx):Cfg:=atC n_r07_leads (.code yri::.inLoop yra yri::.inBlock 2 yrb::yrv) [U,x1,x2,U,U,U,x6,U,U,U,U,U,U,U,U,U,U,U,U,U,U,U,U,U,U,U,U,U,U,U,U,U,U,U,U,U,U,U,U,U,U,U,U,U,U,U,U,U,U,U] h e
abbrev yrx:List It:=[.code (.seq (.seq (.reg yrj) (.block 2 yrb (.loop yra yri))) (.seq (.reg yqZ) .ret))]
abbrev yry (x1 x2 x5:AV) (h:List Ob) (e:Cx:=cx):Cfg:=atC n_r07_leads (.code yrs::.inLoop yrk yrs::.inBlock 0 yrl::yrx) [U,x1,x2,U,U,x5,U,U,U,U,U,U,U,U,U,U,U,U,U,U,U,U,U,U,U,U,U,U,U,U,U,U,U,U,U,U,U,U,U,U,U,U,U,U,U,U,U,U,U,U] h e
@[simp] theorem c_r07_leads:cfun Tryd.prog n_r07_leads=some r07_leads:=by kernel_rfl
@[simp] theorem e_r07_leads:hasBody Tryd.prog n_r07_leads=true:=by kernel_rfl
abbrev yrz:List AG:=[zz4 5 0 2,zz2 6 1 5,zz4 7 0 3,zz2 8 1 7,o 9 (.cmp .eql (.sc .str) (.t 6) (.t 8)),zz1 10 9,oy 11 10 (.off 1 (.t 2)),zzd 12 10 1 11,oy 13 10 (.off 1 (.t 3)),zzd 14 10 1 13,oy 15 10 (.cmp .eql (.sc .int) (.t 12) (.t 14)),zz8 16 10 15,zz1 17 16,oy 18 17 (.off 4 (.t 2)),zzd 19 17 1 18,oy 20 17 (.off 4 (.t 3)),zzd 21 17 1 20,oy 22 17 (.cmp .eql (.sc .bool) (.t 19) (.t 21)),zz8 23 17 22,zz1 24 23,oy 25 24 (.off 2 (.t 2)),zzd 26 24 1 25,oy 27 24 (.off 2 (.t 3)),zzd 28 24 1 27,oy 29 24 (.call (.f n_r01_Texts) [(.t 26),(.t 28)]),zz8 30 24 29,zz1 31 30,oy 32 31 (.off 3 (.t 2)),zzd 33 31 1 32,oy 34 31 (.off 3 (.t 3)),zzd 35 31 1 34,oy 36 31 (.call (.f n_r01_Texts) [(.t 33),(.t 35)]),zz8 37 31 36,zz1 4 37]
abbrev yrA:List AG:=[o 2 (.box 5 (.t 0)),o 3 (.box 5 (.t 1)),zzh 4]
abbrev r06_SameGate:AFun:=⟨(.seq (.reg yrA) (.seq (.reg yrz) .ret)),38,[.tmp 4]⟩
@[simp] theorem c_r06_SameGate:cfun Tryd.prog n_r06_SameGate=some r06_SameGate:=by kernel_rfl
@[simp] theorem e_r06_SameGate:hasBody Tryd.prog n_r06_SameGate=true:=by kernel_rfl
abbrev yrB:List AG:=[zz1 5 0,zz1 6 1,zzg 7 n_slices_Index_string_string 5 6,o 8 (.cmp .geq (.sc .int) (.t 7) (.c (.int .i64 0))),zz1 4 8]
abbrev yrC:List AG:=[zzh 4]
abbrev slices_Contains_string_string:AFun:=⟨(.seq (.reg yrC) (.seq (.reg yrB) .ret)),9,[.tmp 4]⟩
@[simp] theorem c_slices_Contains_string_string:cfun Tryd.prog n_slices_Contains_string_string=some slices_Contains_string_string:=by kernel_rfl
@[simp] theorem e_slices_Contains_string_string:hasBody Tryd.prog n_slices_Contains_string_string=true:=by kernel_rfl
abbrev yrD:List AG:=[zz1 11 3,zz1 12 11,zze 13 12 4,zz8 14 12 13,zz1 15 14,oy 16 15 (.off 0 (.t 1)),zzd 17 15 1 16,oy 18 15 (.lenStr (.t 17)),oy 19 15 (.cmp .leq (.sc .int) (.t 18) (.c (.int .i64 60))),zz8 20 15 19,zz1 2 20]
abbrev yrE:List AG:=[zz4 8 3 1,zz2 9 1 8,o 10 (.call (.f n_w05_Texts) [(.t 9),(.c (.int .i64 140))]),zz1 4 10]
abbrev yrF:List AG:=[zz4 5 2 1,zz2 6 1 5,o 7 (.call (.f n_w05_Texts) [(.t 6),(.c (.int .i64 12))]),zz1 3 7]
abbrev yrG:List AG:=[o 1 (.box 5 (.t 0)),zzh 2]
abbrev w06_FewGate:AFun:=⟨(.seq (.reg yrG) (.seq (.reg yrF) (.seq (.reg yrE) (.seq (.reg yrD) .ret)))),21,[.tmp 2]⟩
@[simp] theorem c_w06_FewGate:cfun Tryd.prog n_w06_FewGate=some w06_FewGate:=by kernel_rfl
@[simp] theorem e_w06_FewGate:hasBody Tryd.prog n_w06_FewGate=true:=by kernel_rfl
abbrev yrH:List AG:=[zz4 10 0 2,zz2 11 1 10,zz4 12 1 2,zz2 13 1 12,zzb 1 0 11,zzb 1 1 13]
abbrev yrI:List AG:=[zz1 9 3]
abbrev yrJ:List AG:=[o 5 (.recover),o 6 (.tassert (.t 5) t_net_wrong (.agg [(.int .i64 0),(.str [])]) true),zz1 4 6,zzc 7 4 0,zzc 8 4 1,o 2 (.alloc [(.int .i64 0),(.str [])]),zzb 2 2 7,zz1 3 8]
abbrev net_Check_1:AFun:=⟨(.seq (.reg yrJ) (.seq (.reg yrI) (.cond (.t 9) (.dreg [O,O,O,I,O,O] [5,5,6,6,6,7] yrH) .skip))),14,[]⟩
@[simp] theorem c_net_Check_1:cfun Tryd.prog n_net_Check_1=some net_Check_1:=by kernel_rfl
@[simp] theorem e_net_Check_1:hasBody Tryd.prog n_net_Check_1=true:=by kernel_rfl
abbrev yrK:List AG:=[zz4 3 2 1,zz2 4 1 3,zza 5 4,o 6 (.cmp .gtr (.sc .int) (.t 5) (.c (.int .i64 8))),zz1 7 6,on 8 7 (.off 3 (.t 1)),on 9 7 (.load false 1 (.t 8)),on 10 7 (.len (.t 9)),on 11 7 (.cmp .gtr (.sc .int) (.t 10) (.c (.int .i64 128))),o 12 (.pick (.t 7) (.c (.bool true)) (.t 11)),zz1 2 12]
abbrev yrL:List AG:=[o 1 (.box 5 (.t 0)),zzh 2]
abbrev net_Check_2:AFun:=⟨(.seq (.reg yrL) (.seq (.reg yrK) .ret)),13,[.tmp 2]⟩
@[simp] theorem c_net_Check_2:cfun Tryd.prog n_net_Check_2=some net_Check_2:=by kernel_rfl
@[simp] theorem e_net_Check_2:hasBody Tryd.prog n_net_Check_2=true:=by kernel_rfl
abbrev yrM:List AG:=[zz1 8 1,zz1 9 2,o 10 (.build [(.int .i64 0),(.str [])] [(0,1,(.t 8)),(1,1,(.t 9))]),o 11 (.mkIface t_net_wrong (.t 10)),q (.panic (.t 11))]
abbrev yrN:List AG:=[zz1 6 0,o 7 (.not (.t 6))]
abbrev net_need:AFun:=⟨(.seq (.reg yrN) (.cond (.t 7) (.reg yrM) .skip)),12,[]⟩
@[simp] theorem c_net_need:cfun Tryd.prog n_net_need=some net_need:=by kernel_rfl
@[simp] theorem e_net_need:hasBody Tryd.prog n_net_need=true:=by kernel_rfl
abbrev yrO:List AG:=[zz1 5 0,zz1 6 1,zzg 7 n_slices_IndexFunc_api_Gate_api_Gate 5 6,o 8 (.cmp .geq (.sc .int) (.t 7) (.c (.int .i64 0))),zz1 4 8]
abbrev yrP:List AG:=[zzh 4]
abbrev slices_ContainsFunc_api_Gate_api_Gate:AFun:=⟨(.seq (.reg yrP) (.seq (.reg yrO) .ret)),9,[.tmp 4]⟩
@[simp] theorem c_slices_ContainsFunc_api_Gate_api_Gate:cfun Tryd.prog n_slices_ContainsFunc_api_Gate_api_Gate=some slices_ContainsFunc_api_Gate_api_Gate:=by kernel_rfl
@[simp] theorem e_slices_ContainsFunc_api_Gate_api_Gate:hasBody Tryd.prog n_slices_ContainsFunc_api_Gate_api_Gate=true:=by kernel_rfl
abbrev yrQ:List AG:=[zz1 45 3,zz1 2 45]
abbrev yrR:List Bool:=[O,O,O,I,O,O,O,O,O,O,O,O,O,O,O,O,O,O,O,O,O,O,O,O,O,O,O,O,O,O,I,I,I,O,O,O,O,O,O,O,O,O,O,O,O,O]
abbrev yrS:List Bool:=[O,O,O,I,O,O,O,O,O,O,O,O,O,O,O,O,O,O,O,O,O,O,O,O,O,O,O,O,O,O,O,O,O,O,O,O,O,O,O,O,O,O,O,O,O,O]
abbrev yrT:List AG:=[zz6 44 32 1,zz1 32 44]
abbrev yrU:List AG:=[zz1 36 3,zz4 37 0 7,zz2 38 1 37,o 39 (.lit 1 [(.str [])] [(0,(.t 38))]),o 40 (.append 1 t_string 16 (.t 36) (.t 39)),zz4 41 2 7,zz2 42 1 41,o 43 (.append 1 t_string 16 (.t 40) (.t 42)),zz1 3 43]
abbrev yrV:List AG:=[zz5 34 5 30 32,zz3 35 5 34,o 7 (.alloc [(.str []),(.int .i64 0),(.own 1 t_string []),(.own 1 t_string []),(.bool false)]),zzb 5 7 35]
abbrev yrW:ACode:=(.seq (.reg yrV) (.dreg [O,O,O,O,O,O,I,O,O] [5,4,4,5,8,8,8,10,10] yrU))
abbrev yrX:List AG:=[zz7 33 32 31]
abbrev yrY:ACode:=(.seq (.reg yrX) (.seq (.cond (.t 33) .skip (.exit 2)) (.seq (.block 3 [] yrW) (.reg yrT))))
abbrev yrZ:List AG:=[zz4 29 3 1,zz2 30 1 29,zza 31 30,zz9 32 0]
abbrev ysa:List Bool:=[O,I,O,I,O,O,O,O,O,O,O,O,O,O,O,I,I,I,O,O,O,O,O,O,O,O,O,O,O,O,O,O,O,O,O,O,O,O,O,O,O,O,O,O,O,O]
abbrev ysb:List Bool:=[O,I,O,I,O,O,O,O,O,O,O,O,O,O,O,O,O,O,O,O,O,O,O,O,O,O,O,O,O,O,O,O,O,O,O,O,O,O,O,O,O,O,O,O,O,O]
abbrev ysc:List AG:=[zz6 28 17 1,zz1 17 28]
abbrev ysd:List AG:=[zz1 21 3,zz4 22 0 5,zz2 23 1 22,zz4 24 1 5,zz2 25 1 24,o 26 (.lit 1 [(.str []),(.str [])] [(0,(.t 23)),(1,(.t 25))]),o 27 (.append 1 t_string 16 (.t 21) (.t 26)),zz1 3 27]
abbrev yse:List AG:=[zz5 19 3 15 17,zz3 20 3 19,o 5 (.alloc [(.str []),(.str []),(.int .i64 0)]),zzb 3 5 20]
abbrev ysf:ACode:=(.seq (.reg yse) (.reg ysd))
abbrev ysg:List AG:=[zz7 18 17 16]
abbrev ysh:ACode:=(.seq (.reg ysg) (.seq (.cond (.t 18) .skip (.exit 0)) (.seq (.block 1 [] ysf) (.reg ysc))))
abbrev ysi:List AG:=[zz4 14 2 1,zz2 15 1 14,zza 16 15,zz9 17 0]
abbrev ysj:List AG:=[zz4 8 0 1,zz2 9 1 8,zz4 10 1 1,zz2 11 1 10,o 12 (.lit 1 [(.list true 0 []),(.list true 0 [])] [(0,(.t 9)),(1,(.t 11))]),zzf 13 n_slices_Concat_string_string 12,zz1 3 13]
abbrev ysk:List AG:=[o 1 (.box 4 (.t 0)),o 2 (.nilrow 1 t_string)]
abbrev net_told:AFun:=⟨(.seq (.reg ysk) (.seq (.reg ysj) (.seq (.seq (.reg ysi) (.block 0 ysb (.loop ysa ysh))) (.seq (.seq (.reg yrZ) (.block 2 yrS (.loop yrR yrY))) (.seq (.reg yrQ) .ret))))),46,[.tmp 2]⟩
abbrev ysl:List It:=[.code (.seq (.reg yrQ) .ret)]
abbrev ysm (x3 x30 x31 x32:AV) (h:List Ob) (e:Cx:=cx):Cfg:=atC n_net_told (.code yrY::.inLoop yrR yrY::.inBlock 2 yrS::ysl) [U,U,U,x3,U,U,U,U,U,U,U,U,U,U,U,U,U,U,U,U,U,U,U,U,U,U,U,U,U,U,x30,x31,x32,U,U,U,U,U,U,U,U,U,U,U,U,U] h e
abbrev ysn:List It:=[.code (.seq (.seq (.reg yrZ) (.block 2 yrS (.loop yrR yrY))) (.seq (.reg yrQ) .ret))]
abbrev yso (x1 x3 x15 x16 x17:AV) (h:List Ob) (e:Cx:=cx):Cfg:=atC n_net_told (.code ysh::.inLoop ysa ysh::.inBlock 0 ysb::ysn) [U,x1,U,x3,U,U,U,U,U,U,U,U,U,U,U,x15,x16,x17,U,U,U,U,U,U,U,U,U,U,U,U,U,U,U,U,U,U,U,U,U,U,U,U,U,U,U,U] h e
@[simp] theorem c_net_told:cfun Tryd.prog n_net_told=some net_told:=by kernel_rfl
@[simp] theorem e_net_told:hasBody Tryd.prog n_net_told=true:=by kernel_rfl
abbrev ysp:List AG:=[zz1 3 0,zzf 4 n_ident_name_plain 3,zz1 2 4]
abbrev ysq:List AG:=[zzh 2]
abbrev ident_Name:AFun:=⟨(.seq (.reg ysq) (.seq (.reg ysp) .ret)),5,[.tmp 2]⟩
@[simp] theorem c_ident_Name:cfun Tryd.prog n_ident_Name=some ident_Name:=by kernel_rfl
@[simp] theorem e_ident_Name:hasBody Tryd.prog n_ident_Name=true:=by kernel_rfl
abbrev ysr:List AG:=[zz1 22 3,zz1 2 22]
abbrev yss:List Bool:=[O,O,O,I,O,O,O,I,I,I,O,O,O,O,O,O,O,O,O,O,O,O,O]
abbrev yst:List Bool:=[O,O,O,I,O,O,O,O,O,O,O,O,O,O,O,O,O,O,O,O,O,O,O]
abbrev ysu:List AG:=[zz6 21 9 1,zz1 9 21]
abbrev ysv:List AG:=[zz1 19 3,zz1 20 5,q (.upd (.sc .str) (.t 19) (.t 20) (.c (.bool true)))]
abbrev ysw:List AG:=[zz1 13 3,zz1 14 5,o 15 (.lookup (.sc .str) (.bool false) (.t 13) (.t 14) false),o 16 (.not (.t 15)),zz1 17 5,o 18 (.call (.f n_net_need) [(.t 16),(.c (.int .i64 5)),(.t 17)])]
abbrev ysx:List AG:=[zz5 11 1 7 9,zz2 12 1 11,zz1 5 12]
abbrev ysy:ACode:=(.seq (.reg ysx) (.seq (.reg ysw) (.reg ysv)))
abbrev ysz:List AG:=[zz7 10 9 8]
abbrev ysA:ACode:=(.seq (.reg ysz) (.seq (.cond (.t 10) .skip (.exit 0)) (.seq (.block 1 [] ysy) (.reg ysu))))
abbrev ysB:List AG:=[zz1 7 0,zza 8 7,zz9 9 0]
abbrev ysC:List AG:=[o 6 (.mkMap),zz1 3 6]
abbrev ysD:List AG:=[o 2 (.mv (.c .nilm))]
abbrev net_once:AFun:=⟨(.seq (.reg ysD) (.seq (.reg ysC) (.seq (.seq (.reg ysB) (.block 0 yst (.loop yss ysA))) (.seq (.reg ysr) .ret)))),23,[.tmp 2]⟩
abbrev ysE:List It:=[.code (.seq (.reg ysr) .ret)]
abbrev ysF (x3 x7 x8 x9:AV) (h:List Ob) (e:Cx:=cx):Cfg:=atC n_net_once (.code ysA::.inLoop yss ysA::.inBlock 0 yst::ysE) [U,U,U,x3,U,U,U,x7,x8,x9,U,U,U,U,U,U,U,U,U,U,U,U,U] h e
@[simp] theorem c_net_once:cfun Tryd.prog n_net_once=some net_once:=by kernel_rfl
@[simp] theorem e_net_once:hasBody Tryd.prog n_net_once=true:=by kernel_rfl
abbrev ysG:List AG:=[zz4 18 1 1,zz2 19 1 18,zz4 20 2 1,zz2 21 1 20,zza 22 21,zzg 23 n_net_has 19 22,zz1 24 23,oy 25 24 (.off 3 (.t 1)),zzd 26 24 1 25,oy 27 24 (.len (.t 26)),oy 28 24 (.cmp .leq (.sc .int) (.t 27) (.c (.int .i64 128))),zz8 29 24 28,zz1 30 29,oy 31 30 (.off 3 (.t 1)),zzd 32 30 1 31,zze 33 30 3,oy 34 30 (.call (.f n_slices_ContainsFunc_string_string) [(.t 32),(.t 33)]),oy 35 30 (.not (.t 34)),zz8 36 30 35,zz1 2 36]
abbrev ysH:List AG:=[zzh 2]
abbrev ysI:ACode:=(.seq (.reg ysH) .ret)
abbrev ysJ:List AG:=[zz4 5 1 1,zz2 6 1 5,o 7 (.cmp .neq (.sc .int) (.t 6) (.c (.int .i64 10))),zz1 8 7,oy 9 8 (.off 3 (.t 1)),zzd 10 8 1 9,oy 11 8 (.len (.t 10)),oy 12 8 (.cmp .gtr (.sc .int) (.t 11) (.c (.int .i64 0))),zze 13 8 12,on 14 13 (.off 4 (.t 1)),on 15 13 (.load false 1 (.t 14)),oy 16 8 (.pick (.t 13) (.c (.bool true)) (.t 15)),zz8 17 8 16]
abbrev ysK:List AG:=[o 4 (.mkFunc (.func n_net_Gate_1) [] [(.t 1)]),zz1 3 4]
abbrev ysL:List AG:=[o 1 (.box 5 (.t 0)),zzh 2]
abbrev net_Gate:AFun:=⟨(.seq (.reg ysL) (.seq (.reg ysK) (.seq (.seq (.reg ysJ) (.cond (.t 17) ysI .skip)) (.seq (.reg ysG) .ret)))),37,[.tmp 2]⟩
@[simp] theorem c_net_Gate:cfun Tryd.prog n_net_Gate=some net_Gate:=by kernel_rfl
@[simp] theorem e_net_Gate:hasBody Tryd.prog n_net_Gate=true:=by kernel_rfl
abbrev ysM:List AG:=[zz1 36 3,zz1 2 36]
abbrev ysN:List Bool:=[O,O,O,I,O,O,O,O,O,O,O,O,O,O,O,O,O,O,O,O,O,O,O,O,O,I,I,I,O,O,O,O,O,O,O,O,O]
abbrev ysO:List Bool:=[O,O,O,I,O,O,O,O,O,O,O,O,O,O,O,O,O,O,O,O,O,O,O,O,O,O,O,O,O,O,O,O,O,O,O,O,O]
abbrev ysP:List AG:=[zz6 35 27 1,zz1 27 35]
abbrev ysQ:List AG:=[zz1 31 3,zz4 32 2 7,zz2 33 1 32,o 34 (.append 1 t_string 16 (.t 31) (.t 33)),zz1 3 34]
abbrev ysR:List AG:=[zz5 29 5 25 27,zz3 30 5 29,o 7 (.alloc [(.str []),(.int .i64 0),(.own 1 t_string []),(.own 1 t_string []),(.bool false)]),zzb 5 7 30]
abbrev ysS:ACode:=(.seq (.reg ysR) (.reg ysQ))
abbrev ysT:List AG:=[zz7 28 27 26]
abbrev ysU:ACode:=(.seq (.reg ysT) (.seq (.cond (.t 28) .skip (.exit 2)) (.seq (.block 3 [] ysS) (.reg ysP))))
abbrev ysV:List AG:=[zz4 24 3 1,zz2 25 1 24,zza 26 25,zz9 27 0]
abbrev ysW:List Bool:=[O,I,O,I,O,O,O,O,O,O,O,O,I,I,I,O,O,O,O,O,O,O,O,O,O,O,O,O,O,O,O,O,O,O,O,O,O]
abbrev ysX:List Bool:=[O,I,O,I,O,O,O,O,O,O,O,O,O,O,O,O,O,O,O,O,O,O,O,O,O,O,O,O,O,O,O,O,O,O,O,O,O]
abbrev ysY:List AG:=[zz6 23 14 1,zz1 14 23]
abbrev ysZ:List AG:=[zz1 18 3,zz4 19 1 5,zz2 20 1 19,o 21 (.lit 1 [(.str [])] [(0,(.t 20))]),o 22 (.append 1 t_string 16 (.t 18) (.t 21)),zz1 3 22]
abbrev yta:List AG:=[zz5 16 3 12 14,zz3 17 3 16,o 5 (.alloc [(.str []),(.str []),(.int .i64 0)]),zzb 3 5 17]
abbrev ytb:ACode:=(.seq (.reg yta) (.reg ysZ))
abbrev ytc:List AG:=[zz7 15 14 13]
abbrev ytd:ACode:=(.seq (.reg ytc) (.seq (.cond (.t 15) .skip (.exit 0)) (.seq (.block 1 [] ytb) (.reg ysY))))
abbrev yte:List AG:=[zz4 11 2 1,zz2 12 1 11,zza 13 12,zz9 14 0]
abbrev ytf:List AG:=[zz4 8 1 1,zz2 9 1 8,zzf 10 n_slices_Clone_string_string 9,zz1 3 10]
abbrev ytg:List AG:=[o 1 (.box 4 (.t 0)),o 2 (.nilrow 1 t_string)]
abbrev net_used:AFun:=⟨(.seq (.reg ytg) (.seq (.reg ytf) (.seq (.seq (.reg yte) (.block 0 ysX (.loop ysW ytd))) (.seq (.seq (.reg ysV) (.block 2 ysO (.loop ysN ysU))) (.seq (.reg ysM) .ret))))),37,[.tmp 2]⟩
abbrev yth:List It:=[.code (.seq (.reg ysM) .ret)]
abbrev yti (x3 x25 x26 x27:AV) (h:List Ob) (e:Cx:=cx):Cfg:=atC n_net_used (.code ysU::.inLoop ysN ysU::.inBlock 2 ysO::yth) [U,U,U,x3,U,U,U,U,U,U,U,U,U,U,U,U,U,U,U,U,U,U,U,U,U,x25,x26,x27,U,U,U,U,U,U,U,U,U] h e
abbrev ytj:List It:=[.code (.seq (.seq (.reg ysV) (.block 2 ysO (.loop ysN ysU))) (.seq (.reg ysM) .ret))]
abbrev ytk (x1 x3 x12 x13 x14:AV) (h:List Ob) (e:Cx:=cx):Cfg:=atC n_net_used (.code ytd::.inLoop ysW ytd::.inBlock 0 ysX::ytj) [U,x1,U,x3,U,U,U,U,U,U,U,U,x12,x13,x14,U,U,U,U,U,U,U,U,U,U,U,U,U,U,U,U,U,U,U,U,U,U] h e
@[simp] theorem c_net_used:cfun Tryd.prog n_net_used=some net_used:=by kernel_rfl
@[simp] theorem e_net_used:hasBody Tryd.prog n_net_used=true:=by kernel_rfl
abbrev ytl:List AG:=[o 4 (.mv (.c (.int .i64 (-1))))]
abbrev ytm:List Bool:=[I,I,O,O,O,O,O,I,I,O,O,O,O,O,O,O,O,O,O]
abbrev ytn:List Bool:=[O,O,O,O,O,O,O,O,O,O,O,O,O,O,O,O,O,O,O]
abbrev yto:List AG:=[zz6 18 8 1,zz1 8 18]
abbrev ytp:List AG:=[zz1 17 5,zz1 4 17]
abbrev ytq:ACode:=(.seq (.reg ytp) .ret)
abbrev ytr:List AG:=[zz1 11 1,zz1 12 0,zz1 13 5,zz5 14 1 12 13,zz2 15 1 14,o 16 (.cmp .eql (.sc .str) (.t 11) (.t 15))]
abbrev yts:List AG:=[zz1 10 8,zz1 5 10]
abbrev ytt:ACode:=(.seq (.reg yts) (.seq (.reg ytr) (.cond (.t 16) ytq .skip)))
abbrev ytu:List AG:=[zz7 9 8 7]
abbrev ytv:ACode:=(.seq (.reg ytu) (.seq (.cond (.t 9) .skip (.exit 0)) (.seq (.block 1 [] ytt) (.reg yto))))
abbrev ytw:List AG:=[zz1 6 0,zza 7 6,zz9 8 0]
abbrev ytx:List AG:=[zz9 4 0]
abbrev slices_Index_string_string:AFun:=⟨(.seq (.reg ytx) (.seq (.seq (.reg ytw) (.block 0 ytn (.loop ytm ytv))) (.seq (.reg ytl) .ret))),19,[.tmp 4]⟩
abbrev yty:List It:=[.code (.seq (.reg ytl) .ret)]
abbrev ytz (x0 x1 x7 x8:AV) (h:List Ob) (e:Cx:=cx):Cfg:=atC n_slices_Index_string_string (.code ytv::.inLoop ytm ytv::.inBlock 0 ytn::yty) [x0,x1,U,U,U,U,U,x7,x8,U,U,U,U,U,U,U,U,U,U] h e
@[simp] theorem c_slices_Index_string_string:cfun Tryd.prog n_slices_Index_string_string=some slices_Index_string_string:=by kernel_rfl
@[simp] theorem e_slices_Index_string_string:hasBody Tryd.prog n_slices_Index_string_string=true:=by kernel_rfl
abbrev ytA:List Bool:=[I,O,O,I,I,O,O,O,O,O,O,O,O,O,O,O,O,O,O,O,O,O,O,O,O,O,O,O,O,O,O,O,O,O,O,O,O,O,O,O,O,O,O,O,O,O,O,O,O,O,O,O,O,O,O,O,O,O,O,O,O,O,O,O,O,O,O,O,O,O,O,O,O,O]
abbrev ytB:List Bool:=[O,O,O,O,O,O,O,O,O,O,O,O,O,O,O,O,O,O,O,O,O,O,O,O,O,O,O,O,O,O,O,O,O,O,O,O,O,O,O,O,O,O,O,O,O,O,O,O,O,O,O,O,O,O,O,O,O,O,O,O,O,O,O,O,O,O,O,O,O,O,O,O,O,O]
abbrev ytC:List Bool:=[I,O,O,I,I,O,I,O,O,O,O,O,O,O,O,O,O,O,O,O,O,O,O,O,O,O,O,O,O,O,O,O,O,O,O,O,O,O,O,O,O,O,O,O,O,O,O,O,O,I,I,I,O,O,O,O,O,O,O,O,O,O,O,O,O,O,O,O,O,O,O,O,O,O]
abbrev ytD:List Bool:=[I,O,O,I,I,O,O,O,O,O,O,O,O,O,O,O,O,O,O,O,O,O,O,O,O,O,O,O,O,O,O,O,O,O,O,O,O,O,O,O,O,O,O,O,O,O,O,O,O,O,O,O,O,O,O,O,O,O,O,O,O,O,O,O,O,O,O,O,O,O,O,O,O,O]
abbrev ytE:List AG:=[zz6 73 51 1,zz1 51 73]
abbrev ytF:List AG:=[zz1 68 4,o 69 (.mkIface t_order_pile (.t 68)),zz1 70 8,o 71 (.mkIface t_int (.t 70)),zzg 72 n_container_heap_Push 69 71]
abbrev ytG:List AG:=[zz4 61 0 3,zz2 62 1 61,zz1 63 8,zz5 64 1 62 63,zz2 65 1 64,o 66 (.lenMap (.t 65)),o 67 (.cmp .eql (.sc .int) (.t 66) (.c (.int .i64 0)))]
abbrev ytH:List AG:=[zz4 55 0 3,zz2 56 1 55,zz1 57 8,zz5 58 1 56 57,zz2 59 1 58,zz1 60 6,q (.delete (.sc .int) (.t 59) (.t 60))]
abbrev ytI:List AG:=[zz5 53 1 49 51,zz2 54 1 53,zz1 8 54]
abbrev ytJ:ACode:=(.seq (.reg ytI) (.seq (.reg ytH) (.seq (.reg ytG) (.cond (.t 67) (.reg ytF) .skip))))
abbrev ytK:List AG:=[zz7 52 51 50]
abbrev ytL:ACode:=(.seq (.reg ytK) (.seq (.cond (.t 52) .skip (.exit 4)) (.seq (.block 5 [] ytJ) (.reg ytE))))
abbrev ytM:List AG:=[zz4 45 1 3,zz2 46 1 45,zz1 47 6,zz5 48 1 46 47,zz2 49 1 48,zza 50 49,zz9 51 0]
abbrev ytN:List AG:=[zz1 41 0,zz1 42 6,o 43 (.call (.t 41) [(.t 42)]),o 44 (.not (.t 43))]
abbrev ytO:List AG:=[zz1 37 4,o 38 (.mkIface t_order_pile (.t 37)),zzf 39 n_container_heap_Pop 38,o 40 (.tassert (.t 39) t_int (.int .i64 0) false),zz1 6 40]
abbrev ytP:ACode:=(.seq (.reg ytO) (.seq (.seq (.reg ytN) (.cond (.t 44) .ret .skip)) (.seq (.reg ytM) (.block 4 ytD (.loop ytC ytL)))))
abbrev ytQ:List AG:=[zz1 32 4,o 33 (.nilck (.t 32)),zz2 34 1 33,zzf 35 n_order_pile_Len 34,o 36 (.cmp .gtr (.sc .int) (.t 35) (.c (.int .i64 0)))]
abbrev ytR:ACode:=(.seq (.seq (.reg ytQ) (.cond (.t 36) .skip (.exit 2))) (.block 3 [] ytP))
abbrev ytS:List Bool:=[I,O,O,I,I,O,O,O,O,O,O,O,O,O,O,I,I,O,O,O,O,O,O,O,O,O,O,O,O,O,O,O,O,O,O,O,O,O,O,O,O,O,O,O,O,O,O,O,O,O,O,O,O,O,O,O,O,O,O,O,O,O,O,O,O,O,O,O,O,O,O,O,O,O]
abbrev ytT:List Bool:=[I,O,O,I,I,O,O,O,O,O,O,O,O,O,O,O,O,O,O,O,O,O,O,O,O,O,O,O,O,O,O,O,O,O,O,O,O,O,O,O,O,O,O,O,O,O,O,O,O,O,O,O,O,O,O,O,O,O,O,O,O,O,O,O,O,O,O,O,O,O,O,O,O,O]
abbrev ytU:List AG:=[zz6 31 16 1,zz1 16 31]
abbrev ytV:List AG:=[zz1 26 4,o 27 (.mkIface t_order_pile (.t 26)),zz1 28 5,o 29 (.mkIface t_int (.t 28)),zzg 30 n_container_heap_Push 27 29]
abbrev ytW:List AG:=[zz4 19 0 3,zz2 20 1 19,zz1 21 5,zz5 22 1 20 21,zz2 23 1 22,o 24 (.lenMap (.t 23)),o 25 (.cmp .eql (.sc .int) (.t 24) (.c (.int .i64 0)))]
abbrev ytX:List AG:=[zz1 18 16,zz1 5 18]
abbrev ytY:ACode:=(.seq (.reg ytX) (.seq (.reg ytW) (.cond (.t 25) (.reg ytV) .skip)))
abbrev ytZ:List AG:=[zz7 17 16 15]
abbrev yua:ACode:=(.seq (.reg ytZ) (.seq (.cond (.t 17) .skip (.exit 0)) (.seq (.block 1 [] ytY) (.reg ytU))))
abbrev yub:List AG:=[zz4 13 3 1,zz2 14 1 13,zza 15 14,zz9 16 0]
abbrev yuc:List AG:=[o 11 (.lit 1 [] []),o 12 (.box 1 (.t 11)),zz1 4 12]
abbrev yud:List AG:=[zz3 9 4 1,zzf 10 n_order_wait 9,o 3 (.alloc [(.own 1 t_map_int_bool_2 []),(.own 1 t_int_2 [])]),zzb 2 3 10]
abbrev order_coming_1:AFun:=⟨(.seq (.reg yud) (.seq (.reg yuc) (.seq (.seq (.reg yub) (.block 0 ytT (.loop ytS yua))) (.block 2 ytB (.loop ytA ytR))))),74,[]⟩
abbrev yue:List It:=[.inBlock 3 [],.inLoop ytA ytR,.inBlock 2 ytB]
abbrev yuf (x0 x3 x4 x6 x49 x50 x51:AV) (h:List Ob) (e:Cx:=cx):Cfg:=atC n_order_coming_1 (.code ytL::.inLoop ytC ytL::.inBlock 4 ytD::yue) [x0,U,U,x3,x4,U,x6,U,U,U,U,U,U,U,U,U,U,U,U,U,U,U,U,U,U,U,U,U,U,U,U,U,U,U,U,U,U,U,U,U,U,U,U,U,U,U,U,U,U,x49,x50,x51,U,U,U,U,U,U,U,U,U,U,U,U,U,U,U,U,U,U,U,U,U,U] h e
abbrev yug (x0 x3 x4:AV) (h:List Ob) (e:Cx:=cx):Cfg:=atC n_order_coming_1 yue [x0,U,U,x3,x4,U,U,U,U,U,U,U,U,U,U,U,U,U,U,U,U,U,U,U,U,U,U,U,U,U,U,U,U,U,U,U,U,U,U,U,U,U,U,U,U,U,U,U,U,U,U,U,U,U,U,U,U,U,U,U,U,U,U,U,U,U,U,U,U,U,U,U,U,U] h e
abbrev yuh:List It:=[]
abbrev yui (x0 x3 x4:AV) (h:List Ob) (e:Cx:=cx):Cfg:=atC n_order_coming_1 (.code ytR::.inLoop ytA ytR::.inBlock 2 ytB::yuh) [x0,U,U,x3,x4,U,U,U,U,U,U,U,U,U,U,U,U,U,U,U,U,U,U,U,U,U,U,U,U,U,U,U,U,U,U,U,U,U,U,U,U,U,U,U,U,U,U,U,U,U,U,U,U,U,U,U,U,U,U,U,U,U,U,U,U,U,U,U,U,U,U,U,U,U] h e
abbrev yuj:List It:=[.code (.block 2 ytB (.loop ytA ytR))]
abbrev yuk (x0 x3 x4 x15 x16:AV) (h:List Ob) (e:Cx:=cx):Cfg:=atC n_order_coming_1 (.code yua::.inLoop ytS yua::.inBlock 0 ytT::yuj) [x0,U,U,x3,x4,U,U,U,U,U,U,U,U,U,U,x15,x16,U,U,U,U,U,U,U,U,U,U,U,U,U,U,U,U,U,U,U,U,U,U,U,U,U,U,U,U,U,U,U,U,U,U,U,U,U,U,U,U,U,U,U,U,U,U,U,U,U,U,U,U,U,U,U,U,U] h e
abbrev yul (x0 x3 x4:AV) (h:List Ob) (e:Cx:=cx):Cfg:=atC n_order_coming_1 yuj [x0,U,U,x3,x4,U,U,U,U,U,U,U,U,U,U,U,U,U,U,U,U,U,U,U,U,U,U,U,U,U,U,U,U,U,U,U,U,U,U,U,U,U,U,U,U,U,U,U,U,U,U,U,U,U,U,U,U,U,U,U,U,U,U,U,U,U,U,U,U,U,U,U,U,U] h e
@[simp] theorem c_order_coming_1:cfun Tryd.prog n_order_coming_1=some order_coming_1:=by kernel_rfl
@[simp] theorem e_order_coming_1:hasBody Tryd.prog n_order_coming_1=true:=by kernel_rfl
abbrev yum:List AG:=[zz1 7 0,zz1 8 0,o 9 (.invoke (.t 8) "Len" []),o 10 (.ibin .sub (.t 9) (.c (.int .i64 1))),zzg 11 n_container_heap_up 7 10]
abbrev yun:List AG:=[zz1 4 0,zz1 5 1,o 6 (.invoke (.t 4) "Push" [(.t 5)])]
abbrev container_heap_Push:AFun:=⟨(.seq (.reg yun) (.reg yum)),12,[]⟩
@[simp] theorem c_container_heap_Push:cfun Tryd.prog n_container_heap_Push=some container_heap_Push:=by kernel_rfl
@[simp] theorem e_container_heap_Push:hasBody Tryd.prog n_container_heap_Push=true:=by kernel_rfl
abbrev yuo:List AG:=[zz1 3 0,zza 4 3,zz1 2 4]
abbrev yup:List AG:=[zz9 2 0]
abbrev order_pile_Len:AFun:=⟨(.seq (.reg yup) (.seq (.reg yuo) .ret)),5,[.tmp 2]⟩
@[simp] theorem c_order_pile_Len:cfun Tryd.prog n_order_pile_Len=some order_pile_Len:=by kernel_rfl
@[simp] theorem e_order_pile_Len:hasBody Tryd.prog n_order_pile_Len=true:=by kernel_rfl
abbrev yuq:List AG:=[zz1 13 0,o 14 (.invoke (.t 13) "Pop" []),zz1 2 14]
abbrev yur:List AG:=[zz1 10 0,zz1 11 3,o 12 (.call (.f n_container_heap_down) [(.t 10),(.c (.int .i64 0)),(.t 11)])]
abbrev yus:List AG:=[zz1 7 0,zz1 8 3,o 9 (.invoke (.t 7) "Swap" [(.c (.int .i64 0)),(.t 8)])]
abbrev yut:List AG:=[zz1 4 0,o 5 (.invoke (.t 4) "Len" []),o 6 (.ibin .sub (.t 5) (.c (.int .i64 1))),zz1 3 6]
abbrev yuu:List AG:=[o 2 (.mv (.c .nili))]
abbrev container_heap_Pop:AFun:=⟨(.seq (.reg yuu) (.seq (.reg yut) (.seq (.reg yus) (.seq (.reg yur) (.seq (.reg yuq) .ret))))),15,[.tmp 2]⟩
@[simp] theorem c_container_heap_Pop:cfun Tryd.prog n_container_heap_Pop=some container_heap_Pop:=by kernel_rfl
@[simp] theorem e_container_heap_Pop:hasBody Tryd.prog n_container_heap_Pop=true:=by kernel_rfl
abbrev yuv:List AG:=[zz4 29 0 1,zz2 30 1 29,zza 31 30,zz4 32 2 1,zz2 33 1 32,zza 34 33,o 35 (.ibin .add (.t 31) (.t 34)),zz4 36 3 1,zz2 37 1 36,zza 38 37,o 39 (.ibin .add (.t 35) (.t 38)),o 40 (.cmp .gtr (.sc .int) (.t 39) (.c (.int .i64 200))),zz1 41 40,on 42 41 (.off 1 (.t 1)),on 43 41 (.load false 1 (.t 42)),on 44 41 (.len (.t 43)),on 45 41 (.cmp .gtr (.sc .int) (.t 44) (.c (.int .i64 200))),o 46 (.pick (.t 41) (.c (.bool true)) (.t 45)),zz1 2 46]
abbrev yuw:List Bool:=[O,I,O,I,O,O,O,O,O,O,O,O,O,O,O,O,O,O,O,O,O,O,O,O,O,O,O,O,O,O,O,O,O,O,O,O,O,O,O,O,O,O,O,O,O,O,O]
abbrev yux:List Bool:=[O,I,O,O,O,O,O,O,O,O,O,O,O,O,O,O,O,O,O,O,O,O,O,O,O,O,O,O,O,O,O,O,O,O,O,O,O,O,O,O,O,O,O,O,O,O,O]
abbrev yuy:List AG:=[zz1 9 3,zz6 10 9 1,zz1 3 10]
abbrev yuz:List AG:=[o 2 (.mv (.c (.bool true)))]
abbrev yuA:ACode:=(.seq (.reg yuz) .ret)
abbrev yuB:List AG:=[zz4 11 3 1,zz2 12 1 11,zz1 13 3,zz5 14 5 12 13,zz4 15 2 14,zz2 16 1 15,zza 17 16,o 18 (.cmp .gtr (.sc .int) (.t 17) (.c (.int .i64 8))),zz1 19 18,on 20 19 (.off 3 (.t 1)),on 21 19 (.load false 1 (.t 20)),on 22 19 (.mv (.t 3)),on 23 19 (.ixAddr 5 (.t 21) (.t 22)),on 24 19 (.off 3 (.t 23)),on 25 19 (.load false 1 (.t 24)),on 26 19 (.len (.t 25)),on 27 19 (.cmp .gtr (.sc .int) (.t 26) (.c (.int .i64 128))),o 28 (.pick (.t 19) (.c (.bool true)) (.t 27))]
abbrev yuC:ACode:=(.seq (.reg yuB) (.cond (.t 28) yuA .skip))
abbrev yuD:List AG:=[zz1 4 3,zz4 5 3 1,zz2 6 1 5,zza 7 6,zz7 8 4 7]
abbrev yuE:ACode:=(.seq (.seq (.reg yuD) (.cond (.t 8) .skip (.exit 0))) (.seq (.block 1 [] yuC) (.reg yuy)))
abbrev yuF:List AG:=[zz9 3 0]
abbrev yuG:List AG:=[o 1 (.box 4 (.t 0)),zzh 2]
abbrev r06_limit:AFun:=⟨(.seq (.reg yuG) (.seq (.seq (.reg yuF) (.block 0 yux (.loop yuw yuE))) (.seq (.reg yuv) .ret))),47,[.tmp 2]⟩
abbrev yuH:List It:=[.code (.seq (.reg yuv) .ret)]
abbrev yuI (x1 x3:AV) (h:List Ob) (e:Cx:=cx):Cfg:=atC n_r06_limit (.code yuE::.inLoop yuw yuE::.inBlock 0 yux::yuH) [U,x1,U,x3,U,U,U,U,U,U,U,U,U,U,U,U,U,U,U,U,U,U,U,U,U,U,U,U,U,U,U,U,U,U,U,U,U,U,U,U,U,U,U,U,U,U,U] h e
@[simp] theorem c_r06_limit:cfun Tryd.prog n_r06_limit=some r06_limit:=by kernel_rfl
@[simp] theorem e_r06_limit:hasBody Tryd.prog n_r06_limit=true:=by kernel_rfl
abbrev yuJ:List AG:=[zz1 60 3,zz1 2 60]
abbrev yuK:List Bool:=[O,I,O,I,O,I,O,O,O,O,O,O,O,O,O,O,O,O,O,O,O,O,O,O,O,O,O,O,O,O,O,O,O,O,O,O,O,O,O,O,O,O,O,O,O,O,O,O,O,O,O,O,O,O,O,O,O,O,O,O,O]
abbrev yuL:List Bool:=[O,O,O,I,O,O,O,O,O,O,O,O,O,O,O,O,O,O,O,O,O,O,O,O,O,O,O,O,O,O,O,O,O,O,O,O,O,O,O,O,O,O,O,O,O,O,O,O,O,O,O,O,O,O,O,O,O,O,O,O,O]
abbrev yuM:List AG:=[zz1 41 5,zz6 42 41 1,zz1 5 42]
abbrev yuN:List AG:=[zz1 52 3,zz4 53 3 1,zz2 54 1 53,zz1 55 5,zz5 56 5 54 55,zz4 57 2 56,zz2 58 1 57,o 59 (.append 1 t_string 16 (.t 52) (.t 58)),zz1 3 59]
abbrev yuO:List AG:=[zz1 43 3,zz4 44 3 1,zz2 45 1 44,zz1 46 5,zz5 47 5 45 46,zz4 48 0 47,zz2 49 1 48,o 50 (.lit 1 [(.str [])] [(0,(.t 49))]),o 51 (.append 1 t_string 16 (.t 43) (.t 50)),zz1 3 51]
abbrev yuP:ACode:=(.seq (.reg yuO) (.reg yuN))
abbrev yuQ:List AG:=[zz1 36 5,zz4 37 3 1,zz2 38 1 37,zza 39 38,zz7 40 36 39]
abbrev yuR:ACode:=(.seq (.seq (.reg yuQ) (.cond (.t 40) .skip (.exit 2))) (.seq (.block 3 [] yuP) (.reg yuM)))
abbrev yuS:List AG:=[zz9 5 0]
abbrev yuT:List Bool:=[O,I,O,I,I,O,O,O,O,O,O,O,O,O,O,O,O,O,O,O,O,O,O,O,O,O,O,O,O,O,O,O,O,O,O,O,O,O,O,O,O,O,O,O,O,O,O,O,O,O,O,O,O,O,O,O,O,O,O,O,O]
abbrev yuU:List Bool:=[O,I,O,I,O,O,O,O,O,O,O,O,O,O,O,O,O,O,O,O,O,O,O,O,O,O,O,O,O,O,O,O,O,O,O,O,O,O,O,O,O,O,O,O,O,O,O,O,O,O,O,O,O,O,O,O,O,O,O,O,O]
abbrev yuV:List AG:=[zz1 19 4,zz6 20 19 1,zz1 4 20]
abbrev yuW:List AG:=[zz1 21 3,zz4 22 2 1,zz2 23 1 22,zz1 24 4,zz5 25 3 23 24,zz4 26 0 25,zz2 27 1 26,zz4 28 2 1,zz2 29 1 28,zz1 30 4,zz5 31 3 29 30,zz4 32 1 31,zz2 33 1 32,o 34 (.lit 1 [(.str []),(.str [])] [(0,(.t 27)),(1,(.t 33))]),o 35 (.append 1 t_string 16 (.t 21) (.t 34)),zz1 3 35]
abbrev yuX:List AG:=[zz1 14 4,zz4 15 2 1,zz2 16 1 15,zza 17 16,zz7 18 14 17]
abbrev yuY:ACode:=(.seq (.seq (.reg yuX) (.cond (.t 18) .skip (.exit 0))) (.seq (.block 1 [] (.dreg [O,O,O,O,O,O,O,O,O,O,O,O,O,O,O,O] [15,14,14,14,14,14,14,14,14,14,14,14,14,15,17,17] yuW)) (.reg yuV)))
abbrev yuZ:List AG:=[zz9 4 0]
abbrev yva:List AG:=[zz1 10 3,zz4 11 1 1,zz2 12 1 11,o 13 (.append 1 t_string 16 (.t 10) (.t 12)),zz1 3 13]
abbrev yvb:List AG:=[zz1 6 3,zz4 7 0 1,zz2 8 1 7,o 9 (.append 1 t_string 16 (.t 6) (.t 8)),zz1 3 9]
abbrev yvc:List AG:=[o 3 (.nilrow 1 t_string)]
abbrev yvd:List AG:=[o 1 (.box 4 (.t 0)),o 2 (.nilrow 1 t_string)]
abbrev r06_Told:AFun:=⟨(.seq (.reg yvd) (.seq (.reg yvc) (.seq (.reg yvb) (.seq (.reg yva) (.seq (.seq (.reg yuZ) (.block 0 yuU (.loop yuT yuY))) (.seq (.seq (.reg yuS) (.block 2 yuL (.loop yuK yuR))) (.seq (.reg yuJ) .ret))))))),61,[.tmp 2]⟩
abbrev yve:List It:=[.code (.seq (.reg yuJ) .ret)]
abbrev yvf (x1 x3 x5:AV) (h:List Ob) (e:Cx:=cx):Cfg:=atC n_r06_Told (.code yuR::.inLoop yuK yuR::.inBlock 2 yuL::yve) [U,x1,U,x3,U,x5,U,U,U,U,U,U,U,U,U,U,U,U,U,U,U,U,U,U,U,U,U,U,U,U,U,U,U,U,U,U,U,U,U,U,U,U,U,U,U,U,U,U,U,U,U,U,U,U,U,U,U,U,U,U,U] h e
abbrev yvg:List It:=[.code (.seq (.seq (.reg yuS) (.block 2 yuL (.loop yuK yuR))) (.seq (.reg yuJ) .ret))]
abbrev yvh (x1 x3 x4:AV) (h:List Ob) (e:Cx:=cx):Cfg:=atC n_r06_Told (.code yuY::.inLoop yuT yuY::.inBlock 0 yuU::yvg) [U,x1,U,x3,x4,U,U,U,U,U,U,U,U,U,U,U,U,U,U,U,U,U,U,U,U,U,U,U,U,U,U,U,U,U,U,U,U,U,U,U,U,U,U,U,U,U,U,U,U,U,U,U,U,U,U,U,U,U,U,U,U] h e
@[simp] theorem c_r06_Told:cfun Tryd.prog n_r06_Told=some r06_Told:=by kernel_rfl
@[simp] theorem e_r06_Told:hasBody Tryd.prog n_r06_Told=true:=by kernel_rfl
abbrev yvi:List AG:=[zz1 20 0,o 21 (.lenStr (.t 20)),o 22 (.cmp .geq (.sc .int) (.t 21) (.c (.int .i64 1))),zz1 23 22,zze 24 23 0,oy 25 23 (.lenStr (.t 24)),oy 26 23 (.cmp .leq (.sc .int) (.t 25) (.c (.int .i64 40))),zz8 27 23 26,zz1 2 27]
abbrev yvj:List Bool:=[I,O,O,I,O,O,O,O,O,O,O,O,O,O,O,O,O,O,O,O,O,O,O,O,O,O,O,O]
abbrev yvk:List Bool:=[I,O,O,O,O,O,O,O,O,O,O,O,O,O,O,O,O,O,O,O,O,O,O,O,O,O,O,O]
abbrev yvl:List AG:=[zz1 8 3,zz6 9 8 1,zz1 3 9]
abbrev yvm:List AG:=[zzh 2]
abbrev yvn:ACode:=(.seq (.reg yvm) .ret)
abbrev yvo:List AG:=[zz1 10 0,zz1 11 3,o 12 (.ixStr (.t 10) (.t 11)),o 13 (.cmp .lss (.sc .int) (.t 12) (.c (.int .u8 33))),zz1 14 13,on 15 14 (.mv (.t 0)),on 16 14 (.mv (.t 3)),on 17 14 (.ixStr (.t 15) (.t 16)),on 18 14 (.cmp .gtr (.sc .int) (.t 17) (.c (.int .u8 126))),o 19 (.pick (.t 14) (.c (.bool true)) (.t 18))]
abbrev yvp:ACode:=(.seq (.reg yvo) (.cond (.t 19) yvn .skip))
abbrev yvq:List AG:=[zz1 4 3,zz1 5 0,o 6 (.lenStr (.t 5)),zz7 7 4 6]
abbrev yvr:ACode:=(.seq (.seq (.reg yvq) (.cond (.t 7) .skip (.exit 0))) (.seq (.block 1 [] yvp) (.reg yvl)))
abbrev yvs:List AG:=[zz9 3 0]
abbrev yvt:List AG:=[zzh 2]
abbrev r04_Name:AFun:=⟨(.seq (.reg yvt) (.seq (.seq (.reg yvs) (.block 0 yvk (.loop yvj yvr))) (.seq (.reg yvi) .ret))),28,[.tmp 2]⟩
abbrev yvu:List It:=[.code (.seq (.reg yvi) .ret)]
abbrev yvv (x0 x3:AV) (h:List Ob) (e:Cx:=cx):Cfg:=atC n_r04_Name (.code yvr::.inLoop yvj yvr::.inBlock 0 yvk::yvu) [x0,U,U,x3,U,U,U,U,U,U,U,U,U,U,U,U,U,U,U,U,U,U,U,U,U,U,U,U] h e
@[simp] theorem c_r04_Name:cfun Tryd.prog n_r04_Name=some r04_Name:=by kernel_rfl
@[simp] theorem e_r04_Name:hasBody Tryd.prog n_r04_Name=true:=by kernel_rfl
abbrev yvw:List AG:=[o 2 (.mv (.c (.str []))),zzh 3]
abbrev yvx:List Bool:=[I,O,O,O,I,O,O,O,O,O,O,O,O,O,O,O,O,O,O,O,O,O,O]
abbrev yvy:List Bool:=[O,O,O,O,O,O,O,O,O,O,O,O,O,O,O,O,O,O,O,O,O,O,O]
abbrev yvz:List AG:=[zz1 9 4,zz6 10 9 1,zz1 4 10]
abbrev yvA:List AG:=[zz1 19 0,zz1 20 4,zz5 21 1 19 20,zz2 22 1 21,zz1 2 22,o 3 (.mv (.c (.bool true)))]
abbrev yvB:ACode:=(.seq (.reg yvA) .ret)
abbrev yvC:List AG:=[zz1 11 0,zz1 12 4,o 13 (.slice 1 (.t 11) none (some (.t 12))),zz1 14 0,zz1 15 4,zz5 16 1 14 15,zz2 17 1 16,zzg 18 n_r01_Has 13 17]
abbrev yvD:ACode:=(.seq (.dreg [O,O,O,O,O,O,O,O] [8,8,8,8,8,8,8,9] yvC) (.cond (.t 18) yvB .skip))
abbrev yvE:List AG:=[zz1 5 4,zz1 6 0,zza 7 6,zz7 8 5 7]
abbrev yvF:ACode:=(.seq (.seq (.reg yvE) (.cond (.t 8) .skip (.exit 0))) (.seq (.block 1 [] yvD) (.reg yvz)))
abbrev yvG:List AG:=[zz9 4 0]
abbrev yvH:List AG:=[o 2 (.mv (.c (.str []))),zzh 3]
abbrev r06_twice:AFun:=⟨(.seq (.reg yvH) (.seq (.seq (.reg yvG) (.block 0 yvy (.loop yvx yvF))) (.seq (.reg yvw) .ret))),23,[.tmp 2,.tmp 3]⟩
abbrev yvI:List It:=[.code (.seq (.reg yvw) .ret)]
abbrev yvJ (x0 x4:AV) (h:List Ob) (e:Cx:=cx):Cfg:=atC n_r06_twice (.code yvF::.inLoop yvx yvF::.inBlock 0 yvy::yvI) [x0,U,U,U,x4,U,U,U,U,U,U,U,U,U,U,U,U,U,U,U,U,U,U] h e
@[simp] theorem c_r06_twice:cfun Tryd.prog n_r06_twice=some r06_twice:=by kernel_rfl
@[simp] theorem e_r06_twice:hasBody Tryd.prog n_r06_twice=true:=by kernel_rfl
abbrev yvK:List AG:=[zz4 66 1 1,zz2 67 1 66,o 68 (.cmp .geq (.sc .int) (.t 67) (.c (.int .i64 4))),zz1 69 68,oy 70 69 (.off 1 (.t 1)),zzd 71 69 1 70,oy 72 69 (.cmp .leq (.sc .int) (.t 71) (.c (.int .i64 9))),zz8 73 69 72,zz1 74 73,zze 75 74 3,oy 76 74 (.cmp .geq (.sc .int) (.t 75) (.c (.int .i64 2))),zz8 77 74 76,zz1 78 77,zze 79 78 3,oy 80 78 (.cmp .leq (.sc .int) (.t 79) (.c (.int .i64 8))),zz8 81 78 80,zz1 2 81]
abbrev yvL:List AG:=[zz1 64 3,o 65 (.cmp .eql (.sc .int) (.t 64) (.c (.int .i64 1))),zz1 2 65]
abbrev yvM:ACode:=(.seq (.reg yvL) .ret)
abbrev yvN:List AG:=[zz4 56 1 1,zz2 57 1 56,o 58 (.cmp .eql (.sc .int) (.t 57) (.c (.int .i64 2))),zz1 59 58,on 60 59 (.off 1 (.t 1)),on 61 59 (.load false 1 (.t 60)),on 62 59 (.cmp .eql (.sc .int) (.t 61) (.c (.int .i64 3))),o 63 (.pick (.t 59) (.c (.bool true)) (.t 62))]
abbrev yvO:List AG:=[zz1 54 3,o 55 (.cmp .eql (.sc .int) (.t 54) (.c (.int .i64 0))),zz1 2 55]
abbrev yvP:ACode:=(.seq (.reg yvO) .ret)
abbrev yvQ:List AG:=[zz4 46 1 1,zz2 47 1 46,o 48 (.cmp .eql (.sc .int) (.t 47) (.c (.int .i64 0))),zz1 49 48,on 50 49 (.off 1 (.t 1)),on 51 49 (.load false 1 (.t 50)),on 52 49 (.cmp .eql (.sc .int) (.t 51) (.c (.int .i64 1))),o 53 (.pick (.t 49) (.c (.bool true)) (.t 52))]
abbrev yvR:List AG:=[zzh 2]
abbrev yvS:ACode:=(.seq (.reg yvR) .ret)
abbrev yvT:List AG:=[zz4 38 3 1,zz2 39 1 38,zza 40 39,o 41 (.cmp .gtr (.sc .int) (.t 40) (.c (.int .i64 0))),zz1 42 41,on 43 42 (.off 4 (.t 1)),on 44 42 (.load false 1 (.t 43)),o 45 (.pick (.t 42) (.c (.bool true)) (.t 44))]
abbrev yvU:List AG:=[zz1 30 3,o 31 (.cmp .leq (.sc .int) (.t 30) (.c (.int .i64 8))),zz1 32 31,oy 33 32 (.off 3 (.t 1)),zzd 34 32 1 33,oy 35 32 (.len (.t 34)),oy 36 32 (.cmp .leq (.sc .int) (.t 35) (.c (.int .i64 128))),zz8 37 32 36,zz1 2 37]
abbrev yvV:List Bool:=[O,I,O,I,I,O,O,O,O,O,O,O,O,O,O,O,O,O,O,O,O,O,O,O,O,O,O,O,O,O,O,O,O,O,O,O,O,O,O,O,O,O,O,O,O,O,O,O,O,O,O,O,O,O,O,O,O,O,O,O,O,O,O,O,O,O,O,O,O,O,O,O,O,O,O,O,O,O,O,O,O,O]
abbrev yvW:List Bool:=[O,I,O,I,O,O,O,O,O,O,O,O,O,O,O,O,O,O,O,O,O,O,O,O,O,O,O,O,O,O,O,O,O,O,O,O,O,O,O,O,O,O,O,O,O,O,O,O,O,O,O,O,O,O,O,O,O,O,O,O,O,O,O,O,O,O,O,O,O,O,O,O,O,O,O,O,O,O,O,O,O,O]
abbrev yvX:List AG:=[zz1 20 4,zz6 21 20 1,zz1 4 21]
abbrev yvY:List AG:=[zzh 2]
abbrev yvZ:ACode:=(.seq (.reg yvY) .ret)
abbrev ywa:List AG:=[zz4 22 3 1,zz2 23 1 22,zz1 24 4,zz5 25 1 23 24,zz2 26 1 25,zz1 27 3,zzg 28 n_r06_row 26 27,o 29 (.not (.t 28))]
abbrev ywb:ACode:=(.seq (.reg ywa) (.cond (.t 29) yvZ .skip))
abbrev ywc:List AG:=[zz1 11 4,zz4 12 3 1,zz2 13 1 12,zza 14 13,zz7 15 11 14,zz1 16 15,zze 17 16 4,oy 18 16 (.cmp .leq (.sc .int) (.t 17) (.c (.int .i64 128))),zz8 19 16 18]
abbrev ywd:ACode:=(.seq (.seq (.reg ywc) (.cond (.t 19) .skip (.exit 0))) (.seq (.block 1 [] ywb) (.reg yvX)))
abbrev ywe:List AG:=[zz9 4 0]
abbrev ywf:ACode:=(.seq (.seq (.reg ywe) (.block 0 yvW (.loop yvV ywd))) (.seq (.reg yvU) .ret))
abbrev ywg:List AG:=[zz4 8 1 1,zz2 9 1 8,o 10 (.cmp .eql (.sc .int) (.t 9) (.c (.int .i64 10)))]
abbrev ywh:List AG:=[zz4 5 2 1,zz2 6 1 5,zza 7 6,zz1 3 7]
abbrev ywi:List AG:=[o 1 (.box 5 (.t 0)),zzh 2]
abbrev r06_Gate:AFun:=⟨(.seq (.reg ywi) (.seq (.reg ywh) (.seq (.seq (.reg ywg) (.cond (.t 10) ywf .skip)) (.seq (.seq (.reg yvT) (.cond (.t 45) yvS .skip)) (.seq (.seq (.reg yvQ) (.cond (.t 53) yvP .skip)) (.seq (.seq (.reg yvN) (.cond (.t 63) yvM .skip)) (.seq (.reg yvK) .ret))))))),82,[.tmp 2]⟩
abbrev ywj:List It:=[.code (.seq (.reg yvU) .ret),.code (.seq (.seq (.reg yvT) (.cond (.t 45) yvS .skip)) (.seq (.seq (.reg yvQ) (.cond (.t 53) yvP .skip)) (.seq (.seq (.reg yvN) (.cond (.t 63) yvM .skip)) (.seq (.reg yvK) .ret))))]
abbrev ywk (x1 x3 x4:AV) (h:List Ob) (e:Cx:=cx):Cfg:=atC n_r06_Gate (.code ywd::.inLoop yvV ywd::.inBlock 0 yvW::ywj) [U,x1,U,x3,x4,U,U,U,U,U,U,U,U,U,U,U,U,U,U,U,U,U,U,U,U,U,U,U,U,U,U,U,U,U,U,U,U,U,U,U,U,U,U,U,U,U,U,U,U,U,U,U,U,U,U,U,U,U,U,U,U,U,U,U,U,U,U,U,U,U,U,U,U,U,U,U,U,U,U,U,U,U] h e
@[simp] theorem c_r06_Gate:cfun Tryd.prog n_r06_Gate=some r06_Gate:=by kernel_rfl
@[simp] theorem e_r06_Gate:hasBody Tryd.prog n_r06_Gate=true:=by kernel_rfl
abbrev ywl:List AG:=[zz1 41 3,zz1 2 41]
abbrev ywm:List Bool:=[O,I,O,I,O,I,O,O,O,O,O,O,O,O,O,O,O,O,O,O,O,O,O,O,O,O,O,O,O,O,O,O,O,O,O,O,O,O,O,O,O,O]
abbrev ywn:List Bool:=[O,O,O,I,O,O,O,O,O,O,O,O,O,O,O,O,O,O,O,O,O,O,O,O,O,O,O,O,O,O,O,O,O,O,O,O,O,O,O,O,O,O]
abbrev ywo:List AG:=[zz1 31 5,zz6 32 31 1,zz1 5 32]
abbrev ywp:List AG:=[zz1 33 3,zz4 34 3 1,zz2 35 1 34,zz1 36 5,zz5 37 5 35 36,zz4 38 2 37,zz2 39 1 38,o 40 (.append 1 t_string 16 (.t 33) (.t 39)),zz1 3 40]
abbrev ywq:List AG:=[zz1 26 5,zz4 27 3 1,zz2 28 1 27,zza 29 28,zz7 30 26 29]
abbrev ywr:ACode:=(.seq (.seq (.reg ywq) (.cond (.t 30) .skip (.exit 2))) (.seq (.block 3 [] (.reg ywp)) (.reg ywo)))
abbrev yws:List AG:=[zz9 5 0]
abbrev ywt:List Bool:=[O,I,O,I,I,O,O,O,O,O,O,O,O,O,O,O,O,O,O,O,O,O,O,O,O,O,O,O,O,O,O,O,O,O,O,O,O,O,O,O,O,O]
abbrev ywu:List Bool:=[O,I,O,I,O,O,O,O,O,O,O,O,O,O,O,O,O,O,O,O,O,O,O,O,O,O,O,O,O,O,O,O,O,O,O,O,O,O,O,O,O,O]
abbrev ywv:List AG:=[zz1 15 4,zz6 16 15 1,zz1 4 16]
abbrev yww:List AG:=[zz1 17 3,zz4 18 2 1,zz2 19 1 18,zz1 20 4,zz5 21 3 19 20,zz4 22 1 21,zz2 23 1 22,o 24 (.lit 1 [(.str [])] [(0,(.t 23))]),o 25 (.append 1 t_string 16 (.t 17) (.t 24)),zz1 3 25]
abbrev ywx:List AG:=[zz1 10 4,zz4 11 2 1,zz2 12 1 11,zza 13 12,zz7 14 10 13]
abbrev ywy:ACode:=(.seq (.seq (.reg ywx) (.cond (.t 14) .skip (.exit 0))) (.seq (.block 1 [] (.reg yww)) (.reg ywv)))
abbrev ywz:List AG:=[zz9 4 0]
abbrev ywA:List AG:=[zz1 6 3,zz4 7 1 1,zz2 8 1 7,o 9 (.append 1 t_string 16 (.t 6) (.t 8)),zz1 3 9]
abbrev ywB:List AG:=[o 3 (.nilrow 1 t_string)]
abbrev ywC:List AG:=[o 1 (.box 4 (.t 0)),o 2 (.nilrow 1 t_string)]
abbrev r06_Used:AFun:=⟨(.seq (.reg ywC) (.seq (.reg ywB) (.seq (.reg ywA) (.seq (.seq (.reg ywz) (.block 0 ywu (.loop ywt ywy))) (.seq (.seq (.reg yws) (.block 2 ywn (.loop ywm ywr))) (.seq (.reg ywl) .ret)))))),42,[.tmp 2]⟩
abbrev ywD:List It:=[.code (.seq (.reg ywl) .ret)]
abbrev ywE (x1 x3 x5:AV) (h:List Ob) (e:Cx:=cx):Cfg:=atC n_r06_Used (.code ywr::.inLoop ywm ywr::.inBlock 2 ywn::ywD) [U,x1,U,x3,U,x5,U,U,U,U,U,U,U,U,U,U,U,U,U,U,U,U,U,U,U,U,U,U,U,U,U,U,U,U,U,U,U,U,U,U,U,U] h e
abbrev ywF:List It:=[.code (.seq (.seq (.reg yws) (.block 2 ywn (.loop ywm ywr))) (.seq (.reg ywl) .ret))]
abbrev ywG (x1 x3 x4:AV) (h:List Ob) (e:Cx:=cx):Cfg:=atC n_r06_Used (.code ywy::.inLoop ywt ywy::.inBlock 0 ywu::ywF) [U,x1,U,x3,x4,U,U,U,U,U,U,U,U,U,U,U,U,U,U,U,U,U,U,U,U,U,U,U,U,U,U,U,U,U,U,U,U,U,U,U,U,U] h e
@[simp] theorem c_r06_Used:cfun Tryd.prog n_r06_Used=some r06_Used:=by kernel_rfl
@[simp] theorem e_r06_Used:hasBody Tryd.prog n_r06_Used=true:=by kernel_rfl
abbrev ywH:List AG:=[o 4 (.mv (.c (.int .i64 (-1))))]
abbrev ywI:List Bool:=[I,I,O,O,O,O,O,I,I,O,O,O,O,O,O,O,O,O,O]
abbrev ywJ:List Bool:=[O,O,O,O,O,O,O,O,O,O,O,O,O,O,O,O,O,O,O]
abbrev ywK:List AG:=[zz6 18 8 1,zz1 8 18]
abbrev ywL:List AG:=[zz1 17 5,zz1 4 17]
abbrev ywM:ACode:=(.seq (.reg ywL) .ret)
abbrev ywN:List AG:=[zz1 11 1,zz1 12 0,zz1 13 5,zz5 14 5 12 13,zz3 15 5 14,o 16 (.call (.t 11) [(.t 15)])]
abbrev ywO:List AG:=[zz1 10 8,zz1 5 10]
abbrev ywP:ACode:=(.seq (.reg ywO) (.seq (.reg ywN) (.cond (.t 16) ywM .skip)))
abbrev ywQ:List AG:=[zz7 9 8 7]
abbrev ywR:ACode:=(.seq (.reg ywQ) (.seq (.cond (.t 9) .skip (.exit 0)) (.seq (.block 1 [] ywP) (.reg ywK))))
abbrev ywS:List AG:=[zz1 6 0,zza 7 6,zz9 8 0]
abbrev ywT:List AG:=[zz9 4 0]
abbrev slices_IndexFunc_api_Gate_api_Gate:AFun:=⟨(.seq (.reg ywT) (.seq (.seq (.reg ywS) (.block 0 ywJ (.loop ywI ywR))) (.seq (.reg ywH) .ret))),19,[.tmp 4]⟩
abbrev ywU:List It:=[.code (.seq (.reg ywH) .ret)]
abbrev ywV (x0 x1 x7 x8:AV) (h:List Ob) (e:Cx:=cx):Cfg:=atC n_slices_IndexFunc_api_Gate_api_Gate (.code ywR::.inLoop ywI ywR::.inBlock 0 ywJ::ywU) [x0,x1,U,U,U,U,U,x7,x8,U,U,U,U,U,U,U,U,U,U] h e
@[simp] theorem c_slices_IndexFunc_api_Gate_api_Gate:cfun Tryd.prog n_slices_IndexFunc_api_Gate_api_Gate=some slices_IndexFunc_api_Gate_api_Gate:=by kernel_rfl
@[simp] theorem e_slices_IndexFunc_api_Gate_api_Gate:hasBody Tryd.prog n_slices_IndexFunc_api_Gate_api_Gate=true:=by kernel_rfl
abbrev ywW:List AG:=[zz1 35 6,zz1 2 35]
abbrev ywX:List Bool:=[O,O,O,O,O,O,I,O,O,O,O,O,O,O,O,O,O,O,O,O,O,O,O,O,O,I,I,I,O,O,O,O,O,O,O,O]
abbrev ywY:List Bool:=[O,O,O,O,O,O,I,O,O,O,O,O,O,O,O,O,O,O,O,O,O,O,O,O,O,O,O,O,O,O,O,O,O,O,O,O]
abbrev ywZ:List AG:=[zz6 34 27 1,zz1 27 34]
abbrev yxa:List AG:=[zz1 31 6,zz1 32 8,o 33 (.append 1 t_string 16 (.t 31) (.t 32)),zz1 6 33]
abbrev yxb:List AG:=[zz5 29 1 25 27,zz2 30 1 29,zz1 8 30]
abbrev yxc:ACode:=(.seq (.reg yxb) (.reg yxa))
abbrev yxd:List AG:=[zz7 28 27 26]
abbrev yxe:ACode:=(.seq (.reg yxd) (.seq (.cond (.t 28) .skip (.exit 2)) (.seq (.block 3 [] yxc) (.reg ywZ))))
abbrev yxf:List AG:=[zz1 25 0,zza 26 25,zz9 27 0]
abbrev yxg:List AG:=[zz1 23 3,o 24 (.call (.f n_slices_Grow_string_string) [(.c (.list true 0 [])),(.t 23)]),zz1 6 24]
abbrev yxh:List Bool:=[I,O,O,I,O,O,O,O,O,I,I,I,O,O,O,O,O,O,O,O,O,O,O,O,O,O,O,O,O,O,O,O,O,O,O,O]
abbrev yxi:List Bool:=[I,O,O,I,O,O,O,O,O,O,O,O,O,O,O,O,O,O,O,O,O,O,O,O,O,O,O,O,O,O,O,O,O,O,O,O]
abbrev yxj:List AG:=[zz6 22 11 1,zz1 11 22]
abbrev yxk:List AG:=[o 21 (.mkIface t_string (.c (.str [108,101,110,32,111,117,116,32,111,102,32,114,97,110,103,101]))),q (.panic (.t 21))]
abbrev yxl:List AG:=[zz1 19 3,o 20 (.cmp .lss (.sc .int) (.t 19) (.c (.int .i64 0)))]
abbrev yxm:List AG:=[zz1 15 3,zz1 16 5,zza 17 16,o 18 (.ibin .add (.t 15) (.t 17)),zz1 3 18]
abbrev yxn:List AG:=[zz5 13 1 9 11,zz2 14 1 13,zz1 5 14]
abbrev yxo:ACode:=(.seq (.reg yxn) (.seq (.reg yxm) (.seq (.reg yxl) (.cond (.t 20) (.reg yxk) .skip))))
abbrev yxp:List AG:=[zz7 12 11 10]
abbrev yxq:ACode:=(.seq (.reg yxp) (.seq (.cond (.t 12) .skip (.exit 0)) (.seq (.block 1 [] yxo) (.reg yxj))))
abbrev yxr:List AG:=[zz1 9 0,zza 10 9,zz9 11 0]
abbrev yxs:List AG:=[zz9 3 0]
abbrev yxt:List AG:=[o 2 (.nilrow 1 t_string)]
abbrev slices_Concat_string_string:AFun:=⟨(.seq (.reg yxt) (.seq (.reg yxs) (.seq (.seq (.reg yxr) (.block 0 yxi (.loop yxh yxq))) (.seq (.reg yxg) (.seq (.seq (.reg yxf) (.block 2 ywY (.loop ywX yxe))) (.seq (.reg ywW) .ret)))))),36,[.tmp 2]⟩
abbrev yxu:List It:=[.code (.seq (.reg ywW) .ret)]
abbrev yxv (x6 x25 x26 x27:AV) (h:List Ob) (e:Cx:=cx):Cfg:=atC n_slices_Concat_string_string (.code yxe::.inLoop ywX yxe::.inBlock 2 ywY::yxu) [U,U,U,U,U,U,x6,U,U,U,U,U,U,U,U,U,U,U,U,U,U,U,U,U,U,x25,x26,x27,U,U,U,U,U,U,U,U] h e
abbrev yxw:List It:=[.code (.seq (.reg yxg) (.seq (.seq (.reg yxf) (.block 2 ywY (.loop ywX yxe))) (.seq (.reg ywW) .ret)))]
abbrev yxx (x0 x3 x9 x10 x11:AV) (h:List Ob) (e:Cx:=cx):Cfg:=atC n_slices_Concat_string_string (.code yxq::.inLoop yxh yxq::.inBlock 0 yxi::yxw) [x0,U,U,x3,U,U,U,U,U,x9,x10,x11,U,U,U,U,U,U,U,U,U,U,U,U,U,U,U,U,U,U,U,U,U,U,U,U] h e
@[simp] theorem c_slices_Concat_string_string:cfun Tryd.prog n_slices_Concat_string_string=some slices_Concat_string_string:=by kernel_rfl
@[simp] theorem e_slices_Concat_string_string:hasBody Tryd.prog n_slices_Concat_string_string=true:=by kernel_rfl
abbrev yxy:List AG:=[zz1 4 0,o 5 (.cmp .neq (.sc .str) (.t 4) (.c (.str []))),zz1 6 5,zze 7 6 0,oy 8 6 (.lenStr (.t 7)),oy 9 6 (.cmp .leq (.sc .int) (.t 8) (.c (.int .i64 40))),zz8 10 6 9,zz1 11 10,zze 12 11 0,zze 13 11 3,oy 14 11 (.call (.f n_strings_IndexFunc) [(.t 12),(.t 13)]),oy 15 11 (.cmp .lss (.sc .int) (.t 14) (.c (.int .i64 0))),zz8 16 11 15,zz1 2 16]
abbrev yxz:List AG:=[o 3 (.mv (.f n_ident_name_plain_1))]
abbrev yxA:List AG:=[zzh 2]
abbrev ident_name_plain:AFun:=⟨(.seq (.reg yxA) (.seq (.reg yxz) (.seq (.reg yxy) .ret))),17,[.tmp 2]⟩
@[simp] theorem c_ident_name_plain:cfun Tryd.prog n_ident_name_plain=some ident_name_plain:=by kernel_rfl
@[simp] theorem e_ident_name_plain:hasBody Tryd.prog n_ident_name_plain=true:=by kernel_rfl
abbrev yxB:List AG:=[zz1 4 0,zz4 5 2 1,zz2 6 1 5,zza 7 6,zzg 8 n_net_row 4 7,o 9 (.not (.t 8)),zz1 3 9]
abbrev yxC:List AG:=[zzh 3]
abbrev net_Gate_1:AFun:=⟨(.seq (.reg yxC) (.seq (.reg yxB) .ret)),10,[.tmp 3]⟩
@[simp] theorem c_net_Gate_1:cfun Tryd.prog n_net_Gate_1=some net_Gate_1:=by kernel_rfl
@[simp] theorem e_net_Gate_1:hasBody Tryd.prog n_net_Gate_1=true:=by kernel_rfl
abbrev yxD:List AG:=[zz1 5 0,o 6 (.lenStr (.t 5)),zz1 7 1,o 8 (.cmp .eql (.sc .int) (.t 6) (.t 7)),zz1 9 8,zze 10 9 0,oy 11 9 (.call (.f n_strings_Trim) [(.t 10),(.c (.str [48,49,45]))]),oy 12 9 (.cmp .eql (.sc .str) (.t 11) (.c (.str []))),zz8 13 9 12,zz1 4 13]
abbrev yxE:List AG:=[zzh 4]
abbrev net_row:AFun:=⟨(.seq (.reg yxE) (.seq (.reg yxD) .ret)),14,[.tmp 4]⟩
@[simp] theorem c_net_row:cfun Tryd.prog n_net_row=some net_row:=by kernel_rfl
@[simp] theorem e_net_row:hasBody Tryd.prog n_net_row=true:=by kernel_rfl
abbrev yxF:List AG:=[zz1 13 6,zz1 14 13,zze 15 14 1,oy 16 14 (.arrAddr 2 1 (.t 5) (.c (.int .i64 0))),zzd 17 14 1 16,oy 18 14 (.cmp .geq (.sc .int) (.t 15) (.t 17)),zz8 19 14 18,zz1 20 19,zze 21 20 1,oy 22 20 (.arrAddr 2 1 (.t 5) (.c (.int .i64 1))),zzd 23 20 1 22,oy 24 20 (.cmp .leq (.sc .int) (.t 21) (.t 23)),zz8 25 20 24,zz1 4 25]
abbrev yxG:List AG:=[o 8 (.load false 1 (.g 0)),zz1 9 0,o 10 (.lookup (.sc .int) (.agg [(.int .i64 0),(.int .i64 0)]) (.t 8) (.t 9) true),zz1 7 10,zzc 11 7 0,zzc 12 7 1,o 5 (.alloc [(.int .i64 0),(.int .i64 0)]),zzb 2 5 11,zz1 6 12]
abbrev yxH:List AG:=[zzh 4]
abbrev net_has:AFun:=⟨(.seq (.reg yxH) (.seq (.reg yxG) (.seq (.reg yxF) .ret))),26,[.tmp 4]⟩
@[simp] theorem c_net_has:cfun Tryd.prog n_net_has=some net_has:=by kernel_rfl
@[simp] theorem e_net_has:hasBody Tryd.prog n_net_has=true:=by kernel_rfl
abbrev yxI:List AG:=[zz1 5 0,zz1 6 1,zzg 7 n_slices_IndexFunc_string_string 5 6,o 8 (.cmp .geq (.sc .int) (.t 7) (.c (.int .i64 0))),zz1 4 8]
abbrev yxJ:List AG:=[zzh 4]
abbrev slices_ContainsFunc_string_string:AFun:=⟨(.seq (.reg yxJ) (.seq (.reg yxI) .ret)),9,[.tmp 4]⟩
@[simp] theorem c_slices_ContainsFunc_string_string:cfun Tryd.prog n_slices_ContainsFunc_string_string=some slices_ContainsFunc_string_string:=by kernel_rfl
@[simp] theorem e_slices_ContainsFunc_string_string:hasBody Tryd.prog n_slices_ContainsFunc_string_string=true:=by kernel_rfl
abbrev yxK:List Bool:=[I,I,O,O,O,O,O,O,O,O,O,O,O,O,O,O,O,O,O,O,O,O,O]
abbrev yxL:List Bool:=[O,O,O,O,O,O,O,O,O,O,O,O,O,O,O,O,O,O,O,O,O,O,O]
abbrev yxM:List AG:=[zz1 22 4,zz1 1 22]
abbrev yxN:List AG:=[zz1 18 0,zz1 19 4,zz1 20 1,o 21 (.invoke (.t 18) "Swap" [(.t 19),(.t 20)])]
abbrev yxO:List AG:=[zz1 8 4,zz1 9 1,o 10 (.cmp .eql (.sc .int) (.t 8) (.t 9)),zz1 11 10,on 12 11 (.mv (.t 0)),on 13 11 (.mv (.t 1)),on 14 11 (.mv (.t 4)),on 15 11 (.invoke (.t 12) "Less" [(.t 13),(.t 14)]),on 16 11 (.not (.t 15)),o 17 (.pick (.t 11) (.c (.bool true)) (.t 16))]
abbrev yxP:List AG:=[zz1 5 1,o 6 (.ibin .sub (.t 5) (.c (.int .i64 1))),o 7 (.ibin .quo (.t 6) (.c (.int .i64 2))),zz1 4 7]
abbrev yxQ:ACode:=(.seq (.reg yxP) (.seq (.seq (.reg yxO) (.cond (.t 17) (.exit 0) .skip)) (.seq (.reg yxN) (.reg yxM))))
abbrev yxR:ACode:=(.block 1 [] yxQ)
abbrev container_heap_up:AFun:=⟨(.block 0 yxL (.loop yxK yxR)),23,[]⟩
abbrev yxS:List It:=[]
abbrev yxT (x0 x1:AV) (h:List Ob) (e:Cx:=cx):Cfg:=atC n_container_heap_up (.code yxR::.inLoop yxK yxR::.inBlock 0 yxL::yxS) [x0,x1,U,U,U,U,U,U,U,U,U,U,U,U,U,U,U,U,U,U,U,U,U] h e
@[simp] theorem c_container_heap_up:cfun Tryd.prog n_container_heap_up=some container_heap_up:=by kernel_rfl
@[simp] theorem e_container_heap_up:hasBody Tryd.prog n_container_heap_up=true:=by kernel_rfl
abbrev yxU:List AG:=[zz1 45 7,zz1 46 1,o 47 (.cmp .gtr (.sc .int) (.t 45) (.t 46)),zz1 6 47]
abbrev yxV:List Bool:=[I,I,I,O,O,O,O,I,O,O,O,O,O,O,O,O,O,O,O,O,O,O,O,O,O,O,O,O,O,O,O,O,O,O,O,O,O,O,O,O,O,O,O,O,O,O,O,O]
abbrev yxW:List Bool:=[O,I,O,O,O,O,O,I,O,O,O,O,O,O,O,O,O,O,O,O,O,O,O,O,O,O,O,O,O,O,O,O,O,O,O,O,O,O,O,O,O,O,O,O,O,O,O,O]
abbrev yxX:List AG:=[zz1 44 9,zz1 7 44]
abbrev yxY:List AG:=[zz1 40 0,zz1 41 7,zz1 42 9,o 43 (.invoke (.t 40) "Swap" [(.t 41),(.t 42)])]
abbrev yxZ:List AG:=[zz1 35 0,zz1 36 9,zz1 37 7,o 38 (.invoke (.t 35) "Less" [(.t 36),(.t 37)]),o 39 (.not (.t 38))]
abbrev yya:List AG:=[zz1 34 10,zz1 9 34]
abbrev yyb:List AG:=[zz1 25 10,zz1 26 2,zz7 27 25 26,zz1 28 27,zze 29 28 0,zze 30 28 10,zze 31 28 8,oy 32 28 (.invoke (.t 29) "Less" [(.t 30),(.t 31)]),zz8 33 28 32]
abbrev yyc:List AG:=[zz1 23 8,zz6 24 23 1,zz1 10 24]
abbrev yyd:List AG:=[zz1 22 8,zz1 9 22]
abbrev yye:List AG:=[zz1 15 8,zz1 16 2,o 17 (.cmp .geq (.sc .int) (.t 15) (.t 16)),zz1 18 17,on 19 18 (.mv (.t 8)),on 20 18 (.cmp .lss (.sc .int) (.t 19) (.c (.int .i64 0))),o 21 (.pick (.t 18) (.c (.bool true)) (.t 20))]
abbrev yyf:List AG:=[zz1 12 7,o 13 (.ibin .mul (.c (.int .i64 2)) (.t 12)),zz6 14 13 1,zz1 8 14]
abbrev yyg:ACode:=(.seq (.reg yyf) (.seq (.seq (.reg yye) (.cond (.t 21) (.exit 0) .skip)) (.seq (.reg yyd) (.seq (.seq (.reg yyc) (.seq (.reg yyb) (.cond (.t 33) (.reg yya) .skip))) (.seq (.seq (.reg yxZ) (.cond (.t 39) (.exit 0) .skip)) (.seq (.reg yxY) (.reg yxX)))))))
abbrev yyh:ACode:=(.block 1 [] yyg)
abbrev yyi:List AG:=[zz1 11 1,zz1 7 11]
abbrev yyj:List AG:=[zzh 6]
abbrev container_heap_down:AFun:=⟨(.seq (.reg yyj) (.seq (.reg yyi) (.seq (.block 0 yxW (.loop yxV yyh)) (.seq (.reg yxU) .ret)))),48,[.tmp 6]⟩
abbrev yyk:List It:=[.code (.seq (.reg yxU) .ret)]
abbrev yyl (x0 x1 x2 x7:AV) (h:List Ob) (e:Cx:=cx):Cfg:=atC n_container_heap_down (.code yyh::.inLoop yxV yyh::.inBlock 0 yxW::yyk) [x0,x1,x2,U,U,U,U,x7,U,U,U,U,U,U,U,U,U,U,U,U,U,U,U,U,U,U,U,U,U,U,U,U,U,U,U,U,U,U,U,U,U,U,U,U,U,U,U,U] h e
@[simp] theorem c_container_heap_down:cfun Tryd.prog n_container_heap_down=some container_heap_down:=by kernel_rfl
@[simp] theorem e_container_heap_down:hasBody Tryd.prog n_container_heap_down=true:=by kernel_rfl
abbrev yym:List AG:=[zz1 28 0,o 29 (.lenStr (.t 28)),zz1 30 1,o 31 (.cmp .eql (.sc .int) (.t 29) (.t 30)),zz1 4 31]
abbrev yyn:List Bool:=[I,I,O,O,O,I,O,O,O,O,O,O,O,O,O,O,O,O,O,O,O,O,O,O,O,O,O,O,O,O,O,O]
abbrev yyo:List Bool:=[I,I,O,O,O,O,O,O,O,O,O,O,O,O,O,O,O,O,O,O,O,O,O,O,O,O,O,O,O,O,O,O]
abbrev yyp:List AG:=[zz1 10 5,zz6 11 10 1,zz1 5 11]
abbrev yyq:List AG:=[zzh 4]
abbrev yyr:ACode:=(.seq (.reg yyq) .ret)
abbrev yys:List AG:=[zz1 12 0,zz1 13 5,o 14 (.ixStr (.t 12) (.t 13)),o 15 (.cmp .neq (.sc .int) (.t 14) (.c (.int .u8 48))),zz1 16 15,zze 17 16 0,zze 18 16 5,oy 19 16 (.ixStr (.t 17) (.t 18)),oy 20 16 (.cmp .neq (.sc .int) (.t 19) (.c (.int .u8 49))),zz8 21 16 20,zz1 22 21,zze 23 22 0,zze 24 22 5,oy 25 22 (.ixStr (.t 23) (.t 24)),oy 26 22 (.cmp .neq (.sc .int) (.t 25) (.c (.int .u8 45))),zz8 27 22 26]
abbrev yyt:ACode:=(.seq (.reg yys) (.cond (.t 27) yyr .skip))
abbrev yyu:List AG:=[zz1 6 5,zz1 7 0,o 8 (.lenStr (.t 7)),zz7 9 6 8]
abbrev yyv:ACode:=(.seq (.seq (.reg yyu) (.cond (.t 9) .skip (.exit 0))) (.seq (.block 1 [] yyt) (.reg yyp)))
abbrev yyw:List AG:=[zz9 5 0]
abbrev yyx:List AG:=[zzh 4]
abbrev r06_row:AFun:=⟨(.seq (.reg yyx) (.seq (.seq (.reg yyw) (.block 0 yyo (.loop yyn yyv))) (.seq (.reg yym) .ret))),32,[.tmp 4]⟩
abbrev yyy:List It:=[.code (.seq (.reg yym) .ret)]
abbrev yyz (x0 x1 x5:AV) (h:List Ob) (e:Cx:=cx):Cfg:=atC n_r06_row (.code yyv::.inLoop yyn yyv::.inBlock 0 yyo::yyy) [x0,x1,U,U,U,x5,U,U,U,U,U,U,U,U,U,U,U,U,U,U,U,U,U,U,U,U,U,U,U,U,U,U] h e
@[simp] theorem c_r06_row:cfun Tryd.prog n_r06_row=some r06_row:=by kernel_rfl
@[simp] theorem e_r06_row:hasBody Tryd.prog n_r06_row=true:=by kernel_rfl
abbrev yyA:List AG:=[zz1 26 0,zz1 4 26]
abbrev yyB:List AG:=[zz1 17 0,zz1 18 0,o 19 (.cap (.t 18)),o 20 (.slice 1 (.t 17) none (some (.t 19))),zz1 21 1,o 22 (.appendZ 1 t_string 16 (.str []) (.t 20) (.t 21)),zz1 23 0,zza 24 23,o 25 (.slice 1 (.t 22) none (some (.t 24))),zz1 0 25]
abbrev yyC:List AG:=[zz1 15 1,o 16 (.cmp .gtr (.sc .int) (.t 15) (.c (.int .i64 0)))]
abbrev yyD:List AG:=[zz1 8 1,zz1 9 0,o 10 (.cap (.t 9)),zz1 11 0,zza 12 11,o 13 (.ibin .sub (.t 10) (.t 12)),o 14 (.ibin .sub (.t 8) (.t 13)),zz1 1 14]
abbrev yyE:List AG:=[o 7 (.mkIface t_string (.c (.str [99,97,110,110,111,116,32,98,101,32,110,101,103,97,116,105,118,101]))),q (.panic (.t 7))]
abbrev yyF:List AG:=[zz1 5 1,o 6 (.cmp .lss (.sc .int) (.t 5) (.c (.int .i64 0)))]
abbrev yyG:List AG:=[o 4 (.nilrow 1 t_string)]
abbrev slices_Grow_string_string:AFun:=⟨(.seq (.reg yyG) (.seq (.seq (.reg yyF) (.cond (.t 6) (.reg yyE) .skip)) (.seq (.seq (.reg yyD) (.seq (.reg yyC) (.cond (.t 16) (.reg yyB) .skip))) (.seq (.reg yyA) .ret)))),27,[.tmp 4]⟩
@[simp] theorem c_slices_Grow_string_string:cfun Tryd.prog n_slices_Grow_string_string=some slices_Grow_string_string:=by kernel_rfl
@[simp] theorem e_slices_Grow_string_string:hasBody Tryd.prog n_slices_Grow_string_string=true:=by kernel_rfl
abbrev yyH:List AG:=[zz1 3 0,o 4 (.cmp .leq (.sc .int) (.t 3) (.c (.int .i32 32))),zz1 5 4,on 6 5 (.mv (.t 0)),on 7 5 (.cmp .gtr (.sc .int) (.t 6) (.c (.int .i32 126))),o 8 (.pick (.t 5) (.c (.bool true)) (.t 7)),zz1 2 8]
abbrev yyI:List AG:=[zzh 2]
abbrev ident_name_plain_1:AFun:=⟨(.seq (.reg yyI) (.seq (.reg yyH) .ret)),9,[.tmp 2]⟩
@[simp] theorem c_ident_name_plain_1:cfun Tryd.prog n_ident_name_plain_1=some ident_name_plain_1:=by kernel_rfl
@[simp] theorem e_ident_name_plain_1:hasBody Tryd.prog n_ident_name_plain_1=true:=by kernel_rfl
abbrev yyJ:List AG:=[zz1 5 0,zz1 6 1,o 7 (.call (.f n_strings_indexFunc) [(.t 5),(.t 6),(.c (.bool true))]),zz1 4 7]
abbrev yyK:List AG:=[zz9 4 0]
abbrev strings_IndexFunc:AFun:=⟨(.seq (.reg yyK) (.seq (.reg yyJ) .ret)),8,[.tmp 4]⟩
@[simp] theorem c_strings_IndexFunc:cfun Tryd.prog n_strings_IndexFunc=some strings_IndexFunc:=by kernel_rfl
@[simp] theorem e_strings_IndexFunc:hasBody Tryd.prog n_strings_IndexFunc=true:=by kernel_rfl
@[simp] theorem e_strings_Trim:hasBody Tryd.prog n_strings_Trim=true:=by kernel_rfl
abbrev yyL:List AG:=[o 4 (.mv (.c (.int .i64 (-1))))]
abbrev yyM:List Bool:=[I,I,O,O,O,O,O,I,I,O,O,O,O,O,O,O,O,O,O]
abbrev yyN:List Bool:=[O,O,O,O,O,O,O,O,O,O,O,O,O,O,O,O,O,O,O]
abbrev yyO:List AG:=[zz6 18 8 1,zz1 8 18]
abbrev yyP:List AG:=[zz1 17 5,zz1 4 17]
abbrev yyQ:ACode:=(.seq (.reg yyP) .ret)
abbrev yyR:List AG:=[zz1 11 1,zz1 12 0,zz1 13 5,zz5 14 1 12 13,zz2 15 1 14,o 16 (.call (.t 11) [(.t 15)])]
abbrev yyS:List AG:=[zz1 10 8,zz1 5 10]
abbrev yyT:ACode:=(.seq (.reg yyS) (.seq (.reg yyR) (.cond (.t 16) yyQ .skip)))
abbrev yyU:List AG:=[zz7 9 8 7]
abbrev yyV:ACode:=(.seq (.reg yyU) (.seq (.cond (.t 9) .skip (.exit 0)) (.seq (.block 1 [] yyT) (.reg yyO))))
abbrev yyW:List AG:=[zz1 6 0,zza 7 6,zz9 8 0]
abbrev yyX:List AG:=[zz9 4 0]
abbrev slices_IndexFunc_string_string:AFun:=⟨(.seq (.reg yyX) (.seq (.seq (.reg yyW) (.block 0 yyN (.loop yyM yyV))) (.seq (.reg yyL) .ret))),19,[.tmp 4]⟩
abbrev yyY:List It:=[.code (.seq (.reg yyL) .ret)]
abbrev yyZ (x0 x1 x7 x8:AV) (h:List Ob) (e:Cx:=cx):Cfg:=atC n_slices_IndexFunc_string_string (.code yyV::.inLoop yyM yyV::.inBlock 0 yyN::yyY) [x0,x1,U,U,U,U,U,x7,x8,U,U,U,U,U,U,U,U,U,U] h e
@[simp] theorem c_slices_IndexFunc_string_string:cfun Tryd.prog n_slices_IndexFunc_string_string=some slices_IndexFunc_string_string:=by kernel_rfl
@[simp] theorem e_slices_IndexFunc_string_string:hasBody Tryd.prog n_slices_IndexFunc_string_string=true:=by kernel_rfl
abbrev yza:List AG:=[o 6 (.mv (.c (.int .i64 (-1))))]
abbrev yzb:List Bool:=[O,I,I,O,O,O,O,O,O,O,I,O,O,O,O,O,O,O,O,O,O]
abbrev yzc:List Bool:=[O,O,O,O,O,O,O,O,O,O,O,O,O,O,O,O,O,O,O,O,O]
abbrev yzd:List AG:=[zz1 20 7,zz1 6 20]
abbrev yze:ACode:=(.seq (.reg yzd) .ret)
abbrev yzf:List AG:=[zz1 15 1,zz1 16 8,o 17 (.call (.t 15) [(.t 16)]),zz1 18 2,o 19 (.cmp .eql (.sc .bool) (.t 17) (.t 18))]
abbrev yzg:List AG:=[zzc 13 11 1,zzc 14 11 2,zz1 7 13,zz1 8 14]
abbrev yzh:ACode:=(.seq (.reg yzg) (.seq (.reg yzf) (.cond (.t 19) yze .skip)))
abbrev yzi:List AG:=[o 11 (.next (.t 10)),zzc 12 11 0]
abbrev yzj:ACode:=(.seq (.reg yzi) (.seq (.cond (.t 12) .skip (.exit 0)) (.block 1 [] yzh)))
abbrev yzk:List AG:=[zz1 9 0,o 10 (.range (.t 9))]
abbrev yzl:List AG:=[zz9 6 0]
abbrev strings_indexFunc:AFun:=⟨(.seq (.reg yzl) (.seq (.seq (.reg yzk) (.block 0 yzc (.loop yzb yzj))) (.seq (.reg yza) .ret))),21,[.tmp 6]⟩
abbrev yzm:List It:=[.code (.seq (.reg yza) .ret)]
abbrev yzn (x1 x2 x10:AV) (h:List Ob) (e:Cx:=cx):Cfg:=atC n_strings_indexFunc (.code yzj::.inLoop yzb yzj::.inBlock 0 yzc::yzm) [U,x1,x2,U,U,U,U,U,U,U,x10,U,U,U,U,U,U,U,U,U,U] h e
@[simp] theorem c_strings_indexFunc:cfun Tryd.prog n_strings_indexFunc=some strings_indexFunc:=by kernel_rfl
@[simp] theorem e_strings_indexFunc:hasBody Tryd.prog n_strings_indexFunc=true:=by kernel_rfl
abbrev yzo:List AG:=[zz1 7 0,zz1 8 1,zz5 9 1 7 8,zz2 10 1 9,zz1 11 0,zz1 12 2,zz5 13 1 11 12,zz2 14 1 13,zz7 15 10 14,zz1 6 15]
abbrev yzp:List AG:=[zzh 6]
abbrev order_pile_Less:AFun:=⟨(.seq (.reg yzp) (.seq (.dreg [O,O,O,O,O,O,O,O,O,O] [11,11,11,11,11,11,11,11,11,11] yzo) .ret)),16,[.tmp 6]⟩
@[simp] theorem c_order_pile_Less:cfun Tryd.prog n_order_pile_Less=some order_pile_Less:=by kernel_rfl
@[simp] theorem e_order_pile_Less:hasBody Tryd.prog n_order_pile_Less=true:=by kernel_rfl
abbrev yzq:List AG:=[zz1 25 3,o 26 (.mkIface t_int (.t 25)),zz1 2 26]
abbrev yzr:List AG:=[zz1 14 0,zz1 15 0,o 16 (.nilck (.t 15)),zz2 17 1 16,zz1 18 0,o 19 (.nilck (.t 18)),zz2 20 1 19,zza 21 20,o 22 (.ibin .sub (.t 21) (.c (.int .i64 1))),o 23 (.slice 1 (.t 17) none (some (.t 22))),o 24 (.nilck (.t 14)),zzb 1 24 23]
abbrev yzs:List AG:=[zz1 4 0,o 5 (.nilck (.t 4)),zz2 6 1 5,zz1 7 0,o 8 (.nilck (.t 7)),zz2 9 1 8,zza 10 9,o 11 (.ibin .sub (.t 10) (.c (.int .i64 1))),zz5 12 1 6 11,zz2 13 1 12,zz1 3 13]
abbrev yzt:List AG:=[o 2 (.mv (.c .nili))]
abbrev order_pile_Pop:AFun:=⟨(.seq (.reg yzt) (.seq (.dreg [O,O,O,O,O,O,O,O,O,O,O] [12,12,12,12,12,12,12,12,12,12,12] yzs) (.seq (.dreg [O,O,O,O,O,O,O,O,O,O,O,O] [12,12,12,12,12,12,12,12,12,12,12,13] yzr) (.seq (.reg yzq) .ret)))),27,[.tmp 2]⟩
@[simp] theorem c_order_pile_Pop:cfun Tryd.prog n_order_pile_Pop=some order_pile_Pop:=by kernel_rfl
@[simp] theorem e_order_pile_Pop:hasBody Tryd.prog n_order_pile_Pop=true:=by kernel_rfl
abbrev yzu:List AG:=[zz1 4 0,zz1 5 0,o 6 (.nilck (.t 5)),zz2 7 1 6,zz1 8 1,o 9 (.tassert (.t 8) t_int (.int .i64 0) false),o 10 (.lit 1 [(.int .i64 0)] [(0,(.t 9))]),o 11 (.append 1 t_int 8 (.t 7) (.t 10)),o 12 (.nilck (.t 4)),zzb 1 12 11]
abbrev order_pile_Push:AFun:=⟨(.dreg [O,O,O,I,O,O,O,O,O,O] [10,8,8,8,7,7,8,10,10,11] yzu),13,[]⟩
@[simp] theorem c_order_pile_Push:cfun Tryd.prog n_order_pile_Push=some order_pile_Push:=by kernel_rfl
@[simp] theorem e_order_pile_Push:hasBody Tryd.prog n_order_pile_Push=true:=by kernel_rfl
abbrev yzv:List AG:=[zz1 6 0,zz1 7 1,zz1 8 0,zz1 9 2,zz1 10 0,zz1 11 2,zz5 12 1 10 11,zz2 13 1 12,zz1 14 0,zz1 15 1,zz5 16 1 14 15,zz2 17 1 16,zz5 18 1 6 7,zzb 1 18 13,zz5 19 1 8 9,zzb 1 19 17]
abbrev order_pile_Swap:AFun:=⟨(.dreg [O,O,O,O,O,O,O,O,O,O,O,O,O,O,O,O] [14,14,16,16,14,14,14,14,14,14,14,14,14,16,16,17] yzv),20,[]⟩
@[simp] theorem c_order_pile_Swap:cfun Tryd.prog n_order_pile_Swap=some order_pile_Swap:=by kernel_rfl
@[simp] theorem e_order_pile_Swap:hasBody Tryd.prog n_order_pile_Swap=true:=by kernel_rfl
end Go.Proofs.YtpkngebjapfibaaDoor
