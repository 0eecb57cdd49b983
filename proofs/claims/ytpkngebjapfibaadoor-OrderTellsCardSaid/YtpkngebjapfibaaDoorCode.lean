/- The functions, as the abstract machine has them. Printed by a program. -/
import Derived.Test.YtpkngebjapfibaaDoorAMd
import Derived.Test.YtpkngebjapfibaaDoorChecked
import Derived.KernelRfl
set_option linter.unusedSimpArgs false
set_option linter.unusedVariables false
namespace Go.Proofs.YtpkngebjapfibaaDoor
open Go.AM Go.Proofs
abbrev zz1 (d i:Nat):AG:=o d (.mv (.t i))
abbrev zz2 (d k i:Nat):AG:=o d (.load false k (.t i))
abbrev zz3 (d k i:Nat):AG:=o d (.load true k (.t i))
abbrev zz4 (d k i:Nat):AG:=o d (.off k (.t i))
abbrev zz5 (d k i j:Nat):AG:=o d (.ixAddr k (.t i) (.t j))
abbrev zz6 (d i:Nat) (n:Int):AG:=o d (.ibin .add (.t i) (.c (.int .i64 n)))
abbrev zz7 (d i j:Nat):AG:=o d (.cmp .lss (.sc .int) (.t i) (.t j))
abbrev zz8 (d i j:Nat):AG:=o d (.pick (.t i) (.t j) (.c (.bool false)))
abbrev zz9 (d:Nat) (n:Int):AG:=o d (.mv (.c (.int .i64 n)))
abbrev zza (d i:Nat):AG:=o d (.len (.t i))
abbrev zzb (k a x:Nat):AG:=q (.store k (.t a) (.t x))
abbrev zzc (d i k:Nat):AG:=o d (.extract (.t i) k)
abbrev zzd (d j k i:Nat):AG:=oy d j (.load false k (.t i))
abbrev zze (d j i:Nat):AG:=oy d j (.mv (.t i))
abbrev zzf (d:Nat) (f:FuncId) (i:Nat):AG:=o d (.call (.f f) [(.t i)])
abbrev zzg (d:Nat) (f:FuncId) (i j:Nat):AG:=o d (.call (.f f) [(.t i),(.t j)])
abbrev zzh (d:Nat):AG:=o d (.mv (.c (.bool false)))
abbrev n_w07_OrderTells:FuncId:=3
abbrev n_w07_OrderRises:FuncId:=5
abbrev n_w07_OrderWaits:FuncId:=6
abbrev n_w07_OrderLevels:FuncId:=7
abbrev n_w07_works:FuncId:=9
abbrev n_w07_Little:FuncId:=10
abbrev n_order_Sort:FuncId:=11
abbrev n_r07_Sort:FuncId:=12
abbrev n_order_Check:FuncId:=13
abbrev n_r07_Check:FuncId:=14
abbrev n_r01_Ints:FuncId:=15
abbrev n_order_Levels:FuncId:=16
abbrev n_r07_Levels:FuncId:=17
abbrev n_r01_Texts:FuncId:=18
abbrev n_w05_Texts:FuncId:=19
abbrev n_order_Cone:FuncId:=20
abbrev n_order_Trim:FuncId:=23
abbrev n_w06_Few:FuncId:=25
abbrev n_net_Check:FuncId:=26
abbrev n_net_Place:FuncId:=27
abbrev n_r01_Has:FuncId:=28
abbrev n_order_right:FuncId:=30
abbrev n_order_places:FuncId:=31
abbrev n_order_coming:FuncId:=32
abbrev n_r07_right:FuncId:=33
abbrev n_r07_waits:FuncId:=34
abbrev n_r06_Check:FuncId:=35
abbrev n_order_wait:FuncId:=36
abbrev n_slices_Clone_string_string:FuncId:=37
abbrev n_net_Nets:FuncId:=38
abbrev n_r06_Nets:FuncId:=39
abbrev n_slices_Contains_string_string:FuncId:=42
abbrev n_w06_FewGate:FuncId:=43
abbrev n_net_Check_1:FuncId:=44
abbrev n_net_Check_2:FuncId:=45
abbrev n_net_need:FuncId:=46
abbrev n_slices_ContainsFunc_api_Gate_api_Gate:FuncId:=47
abbrev n_net_told:FuncId:=48
abbrev n_ident_Name:FuncId:=49
abbrev n_net_once:FuncId:=50
abbrev n_net_Gate:FuncId:=51
abbrev n_net_used:FuncId:=52
abbrev n_slices_Index_string_string:FuncId:=53
abbrev n_order_coming_1:FuncId:=58
abbrev n_container_heap_Push:FuncId:=59
abbrev n_order_pile_Len:FuncId:=60
abbrev n_container_heap_Pop:FuncId:=61
abbrev n_r06_limit:FuncId:=62
abbrev n_r06_Told:FuncId:=63
abbrev n_r04_Name:FuncId:=64
abbrev n_r06_twice:FuncId:=65
abbrev n_r06_Gate:FuncId:=66
abbrev n_r06_Used:FuncId:=67
abbrev n_slices_IndexFunc_api_Gate_api_Gate:FuncId:=68
abbrev n_slices_Concat_string_string:FuncId:=69
abbrev n_ident_name_plain:FuncId:=70
abbrev n_net_Gate_1:FuncId:=71
abbrev n_net_row:FuncId:=72
abbrev n_net_has:FuncId:=73
abbrev n_slices_ContainsFunc_string_string:FuncId:=74
abbrev n_container_heap_up:FuncId:=75
abbrev n_container_heap_down:FuncId:=76
abbrev n_r06_row:FuncId:=77
abbrev n_slices_Grow_string_string:FuncId:=78
abbrev n_ident_name_plain_1:FuncId:=79
abbrev n_strings_IndexFunc:FuncId:=80
abbrev n_strings_Trim:FuncId:=81
abbrev n_slices_IndexFunc_string_string:FuncId:=82
abbrev n_strings_indexFunc:FuncId:=83
abbrev n_order_pile_Less:FuncId:=121
abbrev n_order_pile_Pop:FuncId:=122
abbrev n_order_pile_Push:FuncId:=123
abbrev n_order_pile_Swap:FuncId:=124
abbrev t_int:TypeId:=3
abbrev t_bool:TypeId:=4
abbrev t_string:TypeId:=9
abbrev t_int_2:TypeId:=29
abbrev t_api_Gate_2:TypeId:=45
abbrev t_map_int_bool_2:TypeId:=61
abbrev t_api_Latch_2:TypeId:=64
abbrev t_net_wrong:TypeId:=72
abbrev t_order_pile:TypeId:=82
@[simp] theorem m_order_pile_Push:cmeth Tryd.prog t_order_pile "Push" = some (n_order_pile_Push,none):=by kernel_rfl
@[simp] theorem m_order_pile_Len:cmeth Tryd.prog t_order_pile "Len" = some (n_order_pile_Len,some (false,1)):=by kernel_rfl
@[simp] theorem m_order_pile_Swap:cmeth Tryd.prog t_order_pile "Swap" = some (n_order_pile_Swap,some (false,1)):=by kernel_rfl
@[simp] theorem m_order_pile_Pop:cmeth Tryd.prog t_order_pile "Pop" = some (n_order_pile_Pop,none):=by kernel_rfl
@[simp] theorem m_order_pile_Less:cmeth Tryd.prog t_order_pile "Less" = some (n_order_pile_Less,some (false,1)):=by kernel_rfl
abbrev t_order_pile_2:TypeId:=83
@[simp] theorem m_order_pile_2_Len:cmeth Tryd.prog t_order_pile_2 "Len" = some (n_order_pile_Len,none):=by kernel_rfl
@[simp] theorem m_order_pile_2_Swap:cmeth Tryd.prog t_order_pile_2 "Swap" = some (n_order_pile_Swap,none):=by kernel_rfl
@[simp] theorem m_order_pile_2_Less:cmeth Tryd.prog t_order_pile_2 "Less" = some (n_order_pile_Less,none):=by kernel_rfl
abbrev ya:List AG:=[zz1 47 3,zz1 48 47,zze 49 48 5,zze 50 48 7,oy 51 48 (.call (.f n_r01_Ints) [(.t 49),(.t 50)]),zz8 52 48 51,zz1 53 52,zze 54 53 6,zze 55 53 8,oy 56 53 (.call (.f n_r01_Texts) [(.t 54),(.t 55)]),zz8 57 53 56,zz1 58 57,zze 59 58 9,zze 60 58 11,oy 61 58 (.cmp .eql (.sc .int) (.t 59) (.t 60)),zz8 62 58 61,zz1 63 62,zze 64 63 10,zze 65 63 12,oy 66 63 (.cmp .eql (.sc .str) (.t 64) (.t 65)),zz8 67 63 66,zz1 68 67,zze 69 68 13,zz8 70 68 69,zz1 2 70]
abbrev yd:List AG:=[zz3 42 4 1,zzf 43 n_order_Levels 42,zz3 44 4 1,zzf 45 n_r07_Levels 44,zzg 46 n_r01_Ints 43 45,zz1 13 46]
abbrev ye:List AG:=[zz3 38 4 1,zzf 39 n_r07_Check 38,zz1 37 39,zzc 40 37 0,zzc 41 37 1,zz1 11 40,zz1 12 41]
abbrev yf:List AG:=[zz3 33 4 1,zzf 34 n_order_Check 33,zz1 32 34,zzc 35 32 0,zzc 36 32 1,zz1 9 35,zz1 10 36]
abbrev yg:List AG:=[zz3 28 4 1,zzf 29 n_r07_Sort 28,zz1 27 29,zzc 30 27 0,zzc 31 27 1,zz1 7 30,zz1 8 31]
abbrev yh:List AG:=[zz3 23 4 1,zzf 24 n_order_Sort 23,zz1 22 24,zzc 25 22 0,zzc 26 22 1,zz1 5 25,zz1 6 26]
abbrev yi:List AG:=[zz1 21 3,zz1 2 21]
abbrev yj:ACode:=(.seq (.reg yi) .ret)
abbrev yk:List AG:=[zz1 19 4,o 20 (.not (.t 19))]
abbrev ym:List AG:=[zz3 17 4 1,zzf 18 n_w07_Little 17,zz1 4 18]
abbrev yo:List AG:=[zzh 2]
abbrev yp:ACode:=(.seq (.reg yo) .ret)
abbrev yq:List AG:=[zz1 15 3,o 16 (.not (.t 15))]
abbrev yr:List AG:=[o 14 (.call (.f n_w07_works) []),zz1 3 14]
abbrev yu:List AG:=[o 1 (.box 4 (.t 0)),zzh 2]
abbrev w07_OrderTells:AFun:=⟨(.seq (.reg yu) (.seq (.reg yr) (.seq (.seq (.reg yq) (.cond (.t 16) yp .skip)) (.seq (.reg ym) (.seq (.seq (.reg yk) (.cond (.t 20) yj .skip)) (.seq (.reg yh) (.seq (.reg yg) (.seq (.reg yf) (.seq (.reg ye) (.seq (.dreg [O,O,I,O,O,O] [2,4,4,5,7,7] yd) (.seq (.reg ya) .ret))))))))))),71,[.tmp 2]⟩
@[simp] theorem c_w07_OrderTells:cfun Tryd.prog n_w07_OrderTells=some w07_OrderTells:=by kernel_rfl
@[simp] theorem e_w07_OrderTells:hasBody Tryd.prog n_w07_OrderTells=true:=by kernel_rfl
abbrev yv:List AG:=[zz1 81 3,zz1 82 81,zze 83 82 14,oy 84 82 (.cmp .eql (.sc .int) (.t 83) (.c (.int .i64 0))),zz8 85 82 84,zz1 86 85,zze 87 86 11,oy 88 86 (.len (.t 87)),oy 89 86 (.off 3 (.t 1)),zzd 90 86 1 89,oy 91 86 (.len (.t 90)),oy 92 86 (.cmp .eql (.sc .int) (.t 88) (.t 91)),zz8 93 86 92,zz1 2 93]
abbrev yw:List AG:=[zz3 77 4 9,zzf 78 n_order_Check 77,zz1 76 78,zzc 79 76 0,zzc 80 76 1,zz1 14 79,zz1 15 80]
abbrev yx:List Bool:=[O,I,O,I,O,O,O,O,O,I,O,I,O,I,O,O,O,O,O,O,O,O,O,O,O,O,O,O,O,O,O,O,O,O,O,O,O,O,O,O,O,O,O,O,O,O,O,O,O,O,O,O,O,O,O,O,O,O,O,O,O,O,O,O,O,O,O,O,O,O,O,O,O,O,O,O,O,O,O,O,O,O,O,O,O,O,O,O,O,O,O,O,O,O]
abbrev yy:List Bool:=[O,I,O,I,O,O,O,O,O,I,O,I,O,O,O,O,O,O,O,O,O,O,O,O,O,O,O,O,O,O,O,O,O,O,O,O,O,O,O,O,O,O,O,O,O,O,O,O,O,O,O,O,O,O,O,O,O,O,O,O,O,O,O,O,O,O,O,O,O,O,O,O,O,O,O,O,O,O,O,O,O,O,O,O,O,O,O,O,O,O,O,O,O,O]
abbrev yz:List AG:=[zz1 68 13,zz6 69 68 1,zz1 13 69]
abbrev yA:List AG:=[zzh 2]
abbrev yB:ACode:=(.seq (.reg yA) .ret)
abbrev yC:List AG:=[zz1 70 11,zz1 71 13,zz5 72 1 70 71,zz2 73 1 72,zz1 74 13,o 75 (.cmp .neq (.sc .int) (.t 73) (.t 74))]
abbrev yD:ACode:=(.seq (.reg yC) (.cond (.t 75) yB .skip))
abbrev yE:List AG:=[zz1 64 13,zz1 65 11,zza 66 65,zz7 67 64 66]
abbrev yF:ACode:=(.seq (.seq (.reg yE) (.cond (.t 67) .skip (.exit 2))) (.seq (.block 3 [] yD) (.reg yz)))
abbrev yG:List AG:=[zz9 13 0]
abbrev yH:List AG:=[zz3 60 4 9,zzf 61 n_order_Sort 60,zz1 59 61,zzc 62 59 0,zzc 63 59 1,zz1 11 62,zz1 12 63]
abbrev yI:List Bool:=[O,I,O,I,O,O,O,I,O,I,I,O,O,O,O,O,O,O,O,O,O,O,O,O,O,O,O,O,O,O,O,O,O,O,O,O,O,O,O,O,O,O,O,O,O,O,O,O,O,O,O,O,O,O,O,O,O,O,O,O,O,O,O,O,O,O,O,O,O,O,O,O,O,O,O,O,O,O,O,O,O,O,O,O,O,O,O,O,O,O,O,O,O,O]
abbrev yJ:List Bool:=[O,I,O,I,O,O,O,O,O,I,O,O,O,O,O,O,O,O,O,O,O,O,O,O,O,O,O,O,O,O,O,O,O,O,O,O,O,O,O,O,O,O,O,O,O,O,O,O,O,O,O,O,O,O,O,O,O,O,O,O,O,O,O,O,O,O,O,O,O,O,O,O,O,O,O,O,O,O,O,O,O,O,O,O,O,O,O,O,O,O,O,O,O,O]
abbrev yK:List AG:=[zz1 44 10,zz6 45 44 1,zz1 10 45]
abbrev yL:List AG:=[zz4 46 3 9,zz2 47 1 46,zz4 48 3 1,zz2 49 1 48,zz1 50 7,zz1 51 10,zz5 52 1 50 51,zz2 53 1 52,zz5 54 5 49 53,zz3 55 5 54,o 56 (.lit 5 [(.agg [(.str []),(.int .i64 0),(.list true 0 []),(.list true 0 []),(.bool false)])] [(0,(.t 55))]),o 57 (.append 5 t_api_Gate_2 80 (.t 47) (.t 56)),zz4 58 3 9,zzb 1 58 57]
abbrev yM:List AG:=[zz1 40 10,zz1 41 7,zza 42 41,zz7 43 40 42]
abbrev yN:ACode:=(.seq (.seq (.reg yM) (.cond (.t 43) .skip (.exit 0))) (.seq (.block 1 [] (.dreg [O,I,O,O,O,O,O,O,O,O,O,O,O,O] [12,12,11,11,11,11,11,11,11,11,12,14,14,15] yL)) (.reg yK)))
abbrev yO:List AG:=[zz9 10 0]
abbrev yP:List AG:=[zz4 39 3 9,q (.store 1 (.t 39) (.c (.list true 0 [])))]
abbrev yQ:List AG:=[zz3 38 4 1,o 9 (.alloc [(.own 1 t_string []),(.own 1 t_string []),(.own 3 t_api_Latch_2 []),(.own 5 t_api_Gate_2 [])]),zzb 4 9 38]
abbrev yR:List AG:=[zz3 34 4 1,zzf 35 n_order_Sort 34,zz1 33 35,zzc 36 33 0,zzc 37 33 1,zz1 7 36,zz1 8 37]
abbrev yS:List AG:=[zz1 32 3,zz1 2 32]
abbrev yT:ACode:=(.seq (.reg yS) .ret)
abbrev yU:List AG:=[zz1 26 4,o 27 (.not (.t 26)),zz1 28 27,on 29 28 (.mv (.t 5)),on 30 28 (.cmp .neq (.sc .int) (.t 29) (.c (.int .i64 0))),o 31 (.pick (.t 28) (.c (.bool true)) (.t 30))]
abbrev yV:List AG:=[zz3 22 4 1,zzf 23 n_order_Check 22,zz1 21 23,zzc 24 21 0,zzc 25 21 1,zz1 5 24,zz1 6 25]
abbrev yW:List AG:=[zz3 19 4 1,zzf 20 n_w06_Few 19,zz1 4 20]
abbrev yX:List AG:=[zzh 2]
abbrev yY:ACode:=(.seq (.reg yX) .ret)
abbrev yZ:List AG:=[zz1 17 3,o 18 (.not (.t 17))]
abbrev yba:List AG:=[o 16 (.call (.f n_w07_works) []),zz1 3 16]
abbrev ybb:List AG:=[o 1 (.box 4 (.t 0)),zzh 2]
abbrev w07_OrderRises:AFun:=⟨(.seq (.reg ybb) (.seq (.reg yba) (.seq (.seq (.reg yZ) (.cond (.t 18) yY .skip)) (.seq (.reg yW) (.seq (.reg yV) (.seq (.seq (.reg yU) (.cond (.t 31) yT .skip)) (.seq (.reg yR) (.seq (.reg yQ) (.seq (.reg yP) (.seq (.seq (.reg yO) (.block 0 yJ (.loop yI yN))) (.seq (.reg yH) (.seq (.seq (.reg yG) (.block 2 yy (.loop yx yF))) (.seq (.reg yw) (.seq (.reg yv) .ret)))))))))))))),94,[.tmp 2]⟩
abbrev ybc:List It:=[.code (.seq (.reg yw) (.seq (.reg yv) .ret))]
abbrev ybd (x1 x3 x9 x11 x13:AV) (h:List Ob) (e:Cx:=cx):Cfg:=atC n_w07_OrderRises (.code yF::.inLoop yx yF::.inBlock 2 yy::ybc) [U,x1,U,x3,U,U,U,U,U,x9,U,x11,U,x13,U,U,U,U,U,U,U,U,U,U,U,U,U,U,U,U,U,U,U,U,U,U,U,U,U,U,U,U,U,U,U,U,U,U,U,U,U,U,U,U,U,U,U,U,U,U,U,U,U,U,U,U,U,U,U,U,U,U,U,U,U,U,U,U,U,U,U,U,U,U,U,U,U,U,U,U,U,U,U,U] h e
abbrev ybe:List It:=[.code (.seq (.reg yH) (.seq (.seq (.reg yG) (.block 2 yy (.loop yx yF))) (.seq (.reg yw) (.seq (.reg yv) .ret))))]
abbrev ybf (x1 x3 x7 x9 x10:AV) (h:List Ob) (e:Cx:=cx):Cfg:=atC n_w07_OrderRises (.code yN::.inLoop yI yN::.inBlock 0 yJ::ybe) [U,x1,U,x3,U,U,U,x7,U,x9,x10,U,U,U,U,U,U,U,U,U,U,U,U,U,U,U,U,U,U,U,U,U,U,U,U,U,U,U,U,U,U,U,U,U,U,U,U,U,U,U,U,U,U,U,U,U,U,U,U,U,U,U,U,U,U,U,U,U,U,U,U,U,U,U,U,U,U,U,U,U,U,U,U,U,U,U,U,U,U,U,U,U,U,U] h e
abbrev ybg (x1 x3 x9:AV) (h:List Ob) (e:Cx:=cx):Cfg:=atC n_w07_OrderRises ybe [U,x1,U,x3,U,U,U,U,U,x9,U,U,U,U,U,U,U,U,U,U,U,U,U,U,U,U,U,U,U,U,U,U,U,U,U,U,U,U,U,U,U,U,U,U,U,U,U,U,U,U,U,U,U,U,U,U,U,U,U,U,U,U,U,U,U,U,U,U,U,U,U,U,U,U,U,U,U,U,U,U,U,U,U,U,U,U,U,U,U,U,U,U,U,U] h e
@[simp] theorem c_w07_OrderRises:cfun Tryd.prog n_w07_OrderRises=some w07_OrderRises:=by kernel_rfl
@[simp] theorem e_w07_OrderRises:hasBody Tryd.prog n_w07_OrderRises=true:=by kernel_rfl
abbrev ybh:List AG:=[zz1 157 3,zz1 158 157,zze 159 158 7,oy 160 158 (.len (.t 159)),zze 161 158 8,oy 162 158 (.len (.t 161)),oy 163 158 (.ibin .add (.t 160) (.t 162)),oy 164 158 (.off 3 (.t 1)),zzd 165 158 1 164,oy 166 158 (.len (.t 165)),oy 167 158 (.cmp .eql (.sc .int) (.t 163) (.t 166)),zz8 168 158 167,zz1 2 168]
abbrev ybi:List Bool:=[O,I,O,I,O,O,O,I,I,I,O,O,O,I,O,O,O,O,O,O,O,O,O,O,O,O,O,O,O,O,O,O,O,O,O,O,O,O,O,O,O,O,O,O,O,O,O,O,O,O,O,O,O,O,O,O,O,O,O,O,O,O,O,O,O,O,O,O,O,O,O,O,O,O,O,O,O,O,O,O,O,O,O,O,O,O,O,O,O,O,O,O,O,O,O,O,O,O,O,O,O,O,O,O,O,O,O,O,O,O,O,O,O,O,O,O,O,O,O,O,O,O,O,O,O,O,O,O,O,O,O,O,O,O,O,O,O,O,O,O,O,O,O,O,O,O,O,O,O,O,O,O,O,O,O,O,O,O,O,O,O,O,O,O,O,O,O,O,O]
abbrev ybj:List Bool:=[O,I,O,I,O,O,O,I,I,O,O,O,O,O,O,O,O,O,O,O,O,O,O,O,O,O,O,O,O,O,O,O,O,O,O,O,O,O,O,O,O,O,O,O,O,O,O,O,O,O,O,O,O,O,O,O,O,O,O,O,O,O,O,O,O,O,O,O,O,O,O,O,O,O,O,O,O,O,O,O,O,O,O,O,O,O,O,O,O,O,O,O,O,O,O,O,O,O,O,O,O,O,O,O,O,O,O,O,O,O,O,O,O,O,O,O,O,O,O,O,O,O,O,O,O,O,O,O,O,O,O,O,O,O,O,O,O,O,O,O,O,O,O,O,O,O,O,O,O,O,O,O,O,O,O,O,O,O,O,O,O,O,O,O,O,O,O,O,O]
abbrev ybk:List AG:=[zz1 114 13,zz6 115 114 1,zz1 13 115]
abbrev ybl:List AG:=[zzh 2]
abbrev ybm:ACode:=(.seq (.reg ybl) .ret)
abbrev ybn:List AG:=[zz1 138 8,zz4 139 0 14,zz2 140 1 139,zzg 141 n_r01_Has 138 140,zz1 142 9,zz4 143 0 14,zz2 144 1 143,zzg 145 n_r01_Has 142 144,o 146 (.cmp .eql (.sc .bool) (.t 141) (.t 145)),zz1 147 146,on 148 147 (.mv (.t 8)),on 149 147 (.off 0 (.t 14)),on 150 147 (.load false 1 (.t 149)),on 151 147 (.call (.f n_r01_Has) [(.t 148),(.t 150)]),on 152 147 (.mv (.t 151)),zze 153 152 15,oy 154 152 (.not (.t 153)),on 155 147 (.pick (.t 152) (.t 154) (.c (.bool false))),o 156 (.pick (.t 147) (.c (.bool true)) (.t 155))]
abbrev ybo:List Bool:=[O,I,O,I,O,O,O,I,I,I,O,O,O,I,I,I,I,O,O,O,O,O,O,O,O,O,O,O,O,O,O,O,O,O,O,O,O,O,O,O,O,O,O,O,O,O,O,O,O,O,O,O,O,O,O,O,O,O,O,O,O,O,O,O,O,O,O,O,O,O,O,O,O,O,O,O,O,O,O,O,O,O,O,O,O,O,O,O,O,O,O,O,O,O,O,O,O,O,O,O,O,O,O,O,O,O,O,O,O,O,O,O,O,O,O,O,O,O,O,O,O,O,O,O,O,O,O,O,O,O,O,O,O,O,O,O,O,O,O,O,O,O,O,O,O,O,O,O,O,O,O,O,O,O,O,O,O,O,O,O,O,O,O,O,O,O,O,O,O]
abbrev ybp:List Bool:=[O,I,O,I,O,O,O,I,I,I,O,O,O,I,I,I,O,O,O,O,O,O,O,O,O,O,O,O,O,O,O,O,O,O,O,O,O,O,O,O,O,O,O,O,O,O,O,O,O,O,O,O,O,O,O,O,O,O,O,O,O,O,O,O,O,O,O,O,O,O,O,O,O,O,O,O,O,O,O,O,O,O,O,O,O,O,O,O,O,O,O,O,O,O,O,O,O,O,O,O,O,O,O,O,O,O,O,O,O,O,O,O,O,O,O,O,O,O,O,O,O,O,O,O,O,O,O,O,O,O,O,O,O,O,O,O,O,O,O,O,O,O,O,O,O,O,O,O,O,O,O,O,O,O,O,O,O,O,O,O,O,O,O,O,O,O,O,O,O]
abbrev ybq:List AG:=[zz1 126 16,zz6 127 126 1,zz1 16 127]
abbrev ybr:List AG:=[zz1 128 15,zz1 129 128,on 130 129 (.mv (.t 8)),on 131 129 (.off 2 (.t 14)),on 132 129 (.load false 1 (.t 131)),on 133 129 (.mv (.t 16)),on 134 129 (.ixAddr 1 (.t 132) (.t 133)),on 135 129 (.load false 1 (.t 134)),on 136 129 (.call (.f n_r01_Has) [(.t 130),(.t 135)]),o 137 (.pick (.t 129) (.c (.bool true)) (.t 136)),zz1 15 137]
abbrev ybs:List AG:=[zz1 121 16,zz4 122 2 14,zz2 123 1 122,zza 124 123,zz7 125 121 124]
abbrev ybt:ACode:=(.seq (.seq (.reg ybs) (.cond (.t 125) .skip (.exit 6))) (.seq (.block 7 [] (.reg ybr)) (.reg ybq)))
abbrev ybu:List AG:=[zz9 16 0]
abbrev ybv:List AG:=[zzh 15]
abbrev ybw:List AG:=[zz4 116 3 1,zz2 117 1 116,zz1 118 13,zz5 119 5 117 118,zz3 120 5 119,o 14 (.alloc [(.str []),(.int .i64 0),(.own 1 t_string []),(.own 1 t_string []),(.bool false)]),zzb 5 14 120]
abbrev ybx:ACode:=(.seq (.reg ybw) (.seq (.reg ybv) (.seq (.seq (.reg ybu) (.block 6 ybp (.loop ybo ybt))) (.seq (.dreg [O,O,O,O,O,O,I,O,O,O,O,O,O,O,O,O,O,O,O] [4,4,4,8,8,8,8,14,14,14,14,14,14,20,20,20,20,20,20] ybn) (.cond (.t 156) ybm .skip)))))
abbrev yby:List AG:=[zz1 109 13,zz4 110 3 1,zz2 111 1 110,zza 112 111,zz7 113 109 112]
abbrev ybz:ACode:=(.seq (.seq (.reg yby) (.cond (.t 113) .skip (.exit 4))) (.seq (.block 5 [] ybx) (.reg ybk)))
abbrev ybA:List AG:=[zz9 13 0]
abbrev ybB:List Bool:=[O,I,O,I,O,O,O,I,I,I,I,O,O,O,O,O,O,O,O,O,O,O,O,O,O,O,O,O,O,O,O,O,O,O,O,O,O,O,O,O,O,O,O,O,O,O,O,O,O,O,O,O,O,O,O,O,O,O,O,O,O,O,O,O,O,O,O,O,O,O,O,O,O,O,O,O,O,O,O,O,O,O,O,O,O,O,O,O,O,O,O,O,O,O,O,O,O,O,O,O,O,O,O,O,O,O,O,O,O,O,O,O,O,O,O,O,O,O,O,O,O,O,O,O,O,O,O,O,O,O,O,O,O,O,O,O,O,O,O,O,O,O,O,O,O,O,O,O,O,O,O,O,O,O,O,O,O,O,O,O,O,O,O,O,O,O,O,O,O]
abbrev ybC:List Bool:=[O,I,O,I,O,O,O,I,I,I,O,O,O,O,O,O,O,O,O,O,O,O,O,O,O,O,O,O,O,O,O,O,O,O,O,O,O,O,O,O,O,O,O,O,O,O,O,O,O,O,O,O,O,O,O,O,O,O,O,O,O,O,O,O,O,O,O,O,O,O,O,O,O,O,O,O,O,O,O,O,O,O,O,O,O,O,O,O,O,O,O,O,O,O,O,O,O,O,O,O,O,O,O,O,O,O,O,O,O,O,O,O,O,O,O,O,O,O,O,O,O,O,O,O,O,O,O,O,O,O,O,O,O,O,O,O,O,O,O,O,O,O,O,O,O,O,O,O,O,O,O,O,O,O,O,O,O,O,O,O,O,O,O,O,O,O,O,O,O]
abbrev ybD:List AG:=[zz1 43 10,zz6 44 43 1,zz1 10 44]
abbrev ybE:List AG:=[zz1 104 9,zz4 105 0 11,zz2 106 1 105,o 107 (.lit 1 [(.str [])] [(0,(.t 106))]),o 108 (.append 1 t_string 16 (.t 104) (.t 107)),zz1 9 108]
abbrev ybF:List AG:=[zzh 2]
abbrev ybG:ACode:=(.seq (.reg ybF) .ret)
abbrev ybH:List AG:=[zz1 100 9,zz4 101 0 11,zz2 102 1 101,zzg 103 n_r01_Has 100 102]
abbrev ybI:List Bool:=[O,I,O,I,O,O,O,I,I,I,I,I,I,O,O,O,O,O,O,O,O,O,O,O,O,O,O,O,O,O,O,O,O,O,O,O,O,O,O,O,O,O,O,O,O,O,O,O,O,O,O,O,O,O,O,O,O,O,O,O,O,O,O,O,O,O,O,O,O,O,O,O,O,O,O,O,O,O,O,O,O,O,O,O,O,O,O,O,O,O,O,O,O,O,O,O,O,O,O,O,O,O,O,O,O,O,O,O,O,O,O,O,O,O,O,O,O,O,O,O,O,O,O,O,O,O,O,O,O,O,O,O,O,O,O,O,O,O,O,O,O,O,O,O,O,O,O,O,O,O,O,O,O,O,O,O,O,O,O,O,O,O,O,O,O,O,O,O,O]
abbrev ybJ:List Bool:=[O,I,O,I,O,O,O,I,I,I,I,I,O,O,O,O,O,O,O,O,O,O,O,O,O,O,O,O,O,O,O,O,O,O,O,O,O,O,O,O,O,O,O,O,O,O,O,O,O,O,O,O,O,O,O,O,O,O,O,O,O,O,O,O,O,O,O,O,O,O,O,O,O,O,O,O,O,O,O,O,O,O,O,O,O,O,O,O,O,O,O,O,O,O,O,O,O,O,O,O,O,O,O,O,O,O,O,O,O,O,O,O,O,O,O,O,O,O,O,O,O,O,O,O,O,O,O,O,O,O,O,O,O,O,O,O,O,O,O,O,O,O,O,O,O,O,O,O,O,O,O,O,O,O,O,O,O,O,O,O,O,O,O,O,O,O,O,O,O]
abbrev ybK:List AG:=[zz1 73 12,zz6 74 73 1,zz1 12 74]
abbrev ybL:List AG:=[zzh 2]
abbrev ybM:ACode:=(.seq (.reg ybL) .ret)
abbrev ybN:List AG:=[zz3 75 4 1,zz4 76 2 11,zz2 77 1 76,zz1 78 12,zz5 79 1 77 78,zz2 80 1 79,zzg 81 n_net_Place 75 80,zz4 82 0 1,zz2 83 1 82,zza 84 83,zz4 85 2 1,zz2 86 1 85,zza 87 86,o 88 (.ibin .add (.t 84) (.t 87)),o 89 (.cmp .geq (.sc .int) (.t 81) (.t 88)),zz1 90 89,zze 91 90 9,oy 92 90 (.off 2 (.t 11)),zzd 93 90 1 92,zze 94 90 12,oy 95 90 (.ixAddr 1 (.t 93) (.t 94)),zzd 96 90 1 95,oy 97 90 (.call (.f n_r01_Has) [(.t 91),(.t 96)]),oy 98 90 (.not (.t 97)),zz8 99 90 98]
abbrev ybO:ACode:=(.seq (.dreg [O,O,O,O,O,O,O,O,I,O,O,I,O,O,O,O,O,O,O,O,O,O,O,O,O] [7,7,7,7,7,7,23,23,23,23,23,23,23,23,23,23,23,23,23,23,23,23,26,26,26] ybN) (.cond (.t 99) ybM .skip))
abbrev ybP:List AG:=[zz1 68 12,zz4 69 2 11,zz2 70 1 69,zza 71 70,zz7 72 68 71]
abbrev ybQ:ACode:=(.seq (.seq (.reg ybP) (.cond (.t 72) .skip (.exit 2))) (.seq (.block 3 [] ybO) (.reg ybK)))
abbrev ybR:List AG:=[zz9 12 0]
abbrev ybS:List AG:=[zz4 60 3 1,zz2 61 1 60,zz1 62 7,zz1 63 10,zz5 64 1 62 63,zz2 65 1 64,zz5 66 5 61 65,zz3 67 5 66,o 11 (.alloc [(.str []),(.int .i64 0),(.own 1 t_string []),(.own 1 t_string []),(.bool false)]),zzb 5 11 67]
abbrev ybT:List AG:=[zzh 2]
abbrev ybU:ACode:=(.seq (.reg ybT) .ret)
abbrev ybV:List AG:=[zz1 45 7,zz1 46 10,zz5 47 1 45 46,zz2 48 1 47,o 49 (.cmp .lss (.sc .int) (.t 48) (.c (.int .i64 0))),zz1 50 49,on 51 50 (.mv (.t 7)),on 52 50 (.mv (.t 10)),on 53 50 (.ixAddr 1 (.t 51) (.t 52)),on 54 50 (.load false 1 (.t 53)),on 55 50 (.off 3 (.t 1)),on 56 50 (.load false 1 (.t 55)),on 57 50 (.len (.t 56)),on 58 50 (.cmp .geq (.sc .int) (.t 54) (.t 57)),o 59 (.pick (.t 50) (.c (.bool true)) (.t 58))]
abbrev ybW:ACode:=(.seq (.seq (.dreg [O,O,O,O,O,O,O,O,O,O,O,O,O,O,O] [16,16,16,16,16,16,16,16,16,16,16,16,16,16,16] ybV) (.cond (.t 59) ybU .skip)) (.seq (.dreg [O,I,O,O,O,I,O,I,O,O] [10,10,10,10,10,10,10,10,10,11] ybS) (.seq (.seq (.reg ybR) (.block 2 ybJ (.loop ybI ybQ))) (.seq (.seq (.reg ybH) (.cond (.t 103) ybG .skip)) (.reg ybE)))))
abbrev ybX:List AG:=[zz1 39 10,zz1 40 7,zza 41 40,zz7 42 39 41]
abbrev ybY:ACode:=(.seq (.seq (.reg ybX) (.cond (.t 42) .skip (.exit 0))) (.seq (.block 1 [] ybW) (.reg ybD)))
abbrev ybZ:List AG:=[zz9 10 0]
abbrev yca:List AG:=[o 9 (.nilrow 1 t_string)]
abbrev ycb:List AG:=[zz3 35 4 1,zzf 36 n_order_Sort 35,zz1 34 36,zzc 37 34 0,zzc 38 34 1,zz1 7 37,zz1 8 38]
abbrev ycc:List AG:=[zz1 33 3,zz1 2 33]
abbrev ycd:ACode:=(.seq (.reg ycc) .ret)
abbrev yce:List AG:=[zz1 27 4,o 28 (.not (.t 27)),zz1 29 28,on 30 29 (.mv (.t 5)),on 31 29 (.cmp .neq (.sc .int) (.t 30) (.c (.int .i64 0))),o 32 (.pick (.t 29) (.c (.bool true)) (.t 31))]
abbrev ycf:List AG:=[zz3 23 4 1,zzf 24 n_net_Check 23,zz1 22 24,zzc 25 22 0,zzc 26 22 1,zz1 5 25,zz1 6 26]
abbrev ycg:List AG:=[zz3 20 4 1,zzf 21 n_w06_Few 20,zz1 4 21]
abbrev ych:List AG:=[zzh 2]
abbrev yci:ACode:=(.seq (.reg ych) .ret)
abbrev ycj:List AG:=[zz1 18 3,o 19 (.not (.t 18))]
abbrev yck:List AG:=[o 17 (.call (.f n_w07_works) []),zz1 3 17]
abbrev ycl:List AG:=[o 1 (.box 4 (.t 0)),zzh 2]
abbrev w07_OrderWaits:AFun:=⟨(.seq (.reg ycl) (.seq (.reg yck) (.seq (.seq (.reg ycj) (.cond (.t 19) yci .skip)) (.seq (.reg ycg) (.seq (.reg ycf) (.seq (.seq (.reg yce) (.cond (.t 32) ycd .skip)) (.seq (.reg ycb) (.seq (.reg yca) (.seq (.seq (.reg ybZ) (.block 0 ybC (.loop ybB ybY))) (.seq (.seq (.reg ybA) (.block 4 ybj (.loop ybi ybz))) (.seq (.reg ybh) .ret))))))))))),169,[.tmp 2]⟩
abbrev ycm:List It:=[.code (.seq (.dreg [O,O,O,O,O,O,I,O,O,O,O,O,O,O,O,O,O,O,O] [4,4,4,8,8,8,8,14,14,14,14,14,14,20,20,20,20,20,20] ybn) (.cond (.t 156) ybm .skip)),.inBlock 5 [],.code (.reg ybk),.inLoop ybi ybz,.inBlock 4 ybj,.code (.seq (.reg ybh) .ret)]
abbrev ycn (x1 x3 x7 x8 x9 x13 x14 x15 x16:AV) (h:List Ob) (e:Cx:=cx):Cfg:=atC n_w07_OrderWaits (.code ybt::.inLoop ybo ybt::.inBlock 6 ybp::ycm) [U,x1,U,x3,U,U,U,x7,x8,x9,U,U,U,x13,x14,x15,x16,U,U,U,U,U,U,U,U,U,U,U,U,U,U,U,U,U,U,U,U,U,U,U,U,U,U,U,U,U,U,U,U,U,U,U,U,U,U,U,U,U,U,U,U,U,U,U,U,U,U,U,U,U,U,U,U,U,U,U,U,U,U,U,U,U,U,U,U,U,U,U,U,U,U,U,U,U,U,U,U,U,U,U,U,U,U,U,U,U,U,U,U,U,U,U,U,U,U,U,U,U,U,U,U,U,U,U,U,U,U,U,U,U,U,U,U,U,U,U,U,U,U,U,U,U,U,U,U,U,U,U,U,U,U,U,U,U,U,U,U,U,U,U,U,U,U,U,U,U,U,U,U] h e
abbrev yco (x1 x3 x7 x8 x9 x13 x14 x15:AV) (h:List Ob) (e:Cx:=cx):Cfg:=atC n_w07_OrderWaits ycm [U,x1,U,x3,U,U,U,x7,x8,x9,U,U,U,x13,x14,x15,U,U,U,U,U,U,U,U,U,U,U,U,U,U,U,U,U,U,U,U,U,U,U,U,U,U,U,U,U,U,U,U,U,U,U,U,U,U,U,U,U,U,U,U,U,U,U,U,U,U,U,U,U,U,U,U,U,U,U,U,U,U,U,U,U,U,U,U,U,U,U,U,U,U,U,U,U,U,U,U,U,U,U,U,U,U,U,U,U,U,U,U,U,U,U,U,U,U,U,U,U,U,U,U,U,U,U,U,U,U,U,U,U,U,U,U,U,U,U,U,U,U,U,U,U,U,U,U,U,U,U,U,U,U,U,U,U,U,U,U,U,U,U,U,U,U,U,U,U,U,U,U,U] h e
abbrev ycp:List It:=[.code (.seq (.reg ybh) .ret)]
abbrev ycq (x1 x3 x7 x8 x9 x13:AV) (h:List Ob) (e:Cx:=cx):Cfg:=atC n_w07_OrderWaits (.code ybz::.inLoop ybi ybz::.inBlock 4 ybj::ycp) [U,x1,U,x3,U,U,U,x7,x8,x9,U,U,U,x13,U,U,U,U,U,U,U,U,U,U,U,U,U,U,U,U,U,U,U,U,U,U,U,U,U,U,U,U,U,U,U,U,U,U,U,U,U,U,U,U,U,U,U,U,U,U,U,U,U,U,U,U,U,U,U,U,U,U,U,U,U,U,U,U,U,U,U,U,U,U,U,U,U,U,U,U,U,U,U,U,U,U,U,U,U,U,U,U,U,U,U,U,U,U,U,U,U,U,U,U,U,U,U,U,U,U,U,U,U,U,U,U,U,U,U,U,U,U,U,U,U,U,U,U,U,U,U,U,U,U,U,U,U,U,U,U,U,U,U,U,U,U,U,U,U,U,U,U,U,U,U,U,U,U,U] h e
abbrev ycr:List It:=[.code (.seq (.seq (.reg ybH) (.cond (.t 103) ybG .skip)) (.reg ybE)),.inBlock 1 [],.code (.reg ybD),.inLoop ybB ybY,.inBlock 0 ybC,.code (.seq (.seq (.reg ybA) (.block 4 ybj (.loop ybi ybz))) (.seq (.reg ybh) .ret))]
abbrev ycs (x1 x3 x7 x8 x9 x10 x11 x12:AV) (h:List Ob) (e:Cx:=cx):Cfg:=atC n_w07_OrderWaits (.code ybQ::.inLoop ybI ybQ::.inBlock 2 ybJ::ycr) [U,x1,U,x3,U,U,U,x7,x8,x9,x10,x11,x12,U,U,U,U,U,U,U,U,U,U,U,U,U,U,U,U,U,U,U,U,U,U,U,U,U,U,U,U,U,U,U,U,U,U,U,U,U,U,U,U,U,U,U,U,U,U,U,U,U,U,U,U,U,U,U,U,U,U,U,U,U,U,U,U,U,U,U,U,U,U,U,U,U,U,U,U,U,U,U,U,U,U,U,U,U,U,U,U,U,U,U,U,U,U,U,U,U,U,U,U,U,U,U,U,U,U,U,U,U,U,U,U,U,U,U,U,U,U,U,U,U,U,U,U,U,U,U,U,U,U,U,U,U,U,U,U,U,U,U,U,U,U,U,U,U,U,U,U,U,U,U,U,U,U,U,U] h e
abbrev yct (x1 x3 x7 x8 x9 x10 x11:AV) (h:List Ob) (e:Cx:=cx):Cfg:=atC n_w07_OrderWaits ycr [U,x1,U,x3,U,U,U,x7,x8,x9,x10,x11,U,U,U,U,U,U,U,U,U,U,U,U,U,U,U,U,U,U,U,U,U,U,U,U,U,U,U,U,U,U,U,U,U,U,U,U,U,U,U,U,U,U,U,U,U,U,U,U,U,U,U,U,U,U,U,U,U,U,U,U,U,U,U,U,U,U,U,U,U,U,U,U,U,U,U,U,U,U,U,U,U,U,U,U,U,U,U,U,U,U,U,U,U,U,U,U,U,U,U,U,U,U,U,U,U,U,U,U,U,U,U,U,U,U,U,U,U,U,U,U,U,U,U,U,U,U,U,U,U,U,U,U,U,U,U,U,U,U,U,U,U,U,U,U,U,U,U,U,U,U,U,U,U,U,U,U,U] h e
abbrev ycu:List It:=[.code (.seq (.seq (.reg ybA) (.block 4 ybj (.loop ybi ybz))) (.seq (.reg ybh) .ret))]
abbrev ycv (x1 x3 x7 x8 x9 x10:AV) (h:List Ob) (e:Cx:=cx):Cfg:=atC n_w07_OrderWaits (.code ybY::.inLoop ybB ybY::.inBlock 0 ybC::ycu) [U,x1,U,x3,U,U,U,x7,x8,x9,x10,U,U,U,U,U,U,U,U,U,U,U,U,U,U,U,U,U,U,U,U,U,U,U,U,U,U,U,U,U,U,U,U,U,U,U,U,U,U,U,U,U,U,U,U,U,U,U,U,U,U,U,U,U,U,U,U,U,U,U,U,U,U,U,U,U,U,U,U,U,U,U,U,U,U,U,U,U,U,U,U,U,U,U,U,U,U,U,U,U,U,U,U,U,U,U,U,U,U,U,U,U,U,U,U,U,U,U,U,U,U,U,U,U,U,U,U,U,U,U,U,U,U,U,U,U,U,U,U,U,U,U,U,U,U,U,U,U,U,U,U,U,U,U,U,U,U,U,U,U,U,U,U,U,U,U,U,U,U] h e
@[simp] theorem c_w07_OrderWaits:cfun Tryd.prog n_w07_OrderWaits=some w07_OrderWaits:=by kernel_rfl
@[simp] theorem e_w07_OrderWaits:hasBody Tryd.prog n_w07_OrderWaits=true:=by kernel_rfl
abbrev ycw:List AG:=[zz1 96 3,zz1 2 96]
abbrev ycx:List Bool:=[O,I,O,I,O,O,O,I,I,I,O,O,O,O,O,O,O,O,O,O,O,O,O,O,O,O,O,O,O,O,O,O,O,O,O,O,O,O,O,O,O,O,O,O,O,O,O,O,O,O,O,O,O,O,O,O,O,O,O,O,O,O,O,O,O,O,O,O,O,O,O,O,O,O,O,O,O,O,O,O,O,O,O,O,O,O,O,O,O,O,O,O,O,O,O,O,O]
abbrev ycy:List Bool:=[O,O,O,I,O,O,O,O,O,O,O,O,O,O,O,O,O,O,O,O,O,O,O,O,O,O,O,O,O,O,O,O,O,O,O,O,O,O,O,O,O,O,O,O,O,O,O,O,O,O,O,O,O,O,O,O,O,O,O,O,O,O,O,O,O,O,O,O,O,O,O,O,O,O,O,O,O,O,O,O,O,O,O,O,O,O,O,O,O,O,O,O,O,O,O,O,O]
abbrev ycz:List AG:=[zz1 49 9,zz6 50 49 1,zz1 9 50]
abbrev ycA:List AG:=[zzh 2]
abbrev ycB:ACode:=(.seq (.reg ycA) .ret)
abbrev ycC:List AG:=[zz1 90 7,zz1 91 9,zz5 92 1 90 91,zz2 93 1 92,zz1 94 10,o 95 (.cmp .neq (.sc .int) (.t 93) (.t 94))]
abbrev ycD:List Bool:=[O,I,O,I,O,O,O,I,I,I,I,I,O,O,O,O,O,O,O,O,O,O,O,O,O,O,O,O,O,O,O,O,O,O,O,O,O,O,O,O,O,O,O,O,O,O,O,O,O,O,O,O,O,O,O,O,O,O,O,O,O,O,O,O,O,O,O,O,O,O,O,O,O,O,O,O,O,O,O,O,O,O,O,O,O,O,O,O,O,O,O,O,O,O,O,O,O]
abbrev ycE:List Bool:=[O,I,O,I,O,O,O,I,I,I,I,O,O,O,O,O,O,O,O,O,O,O,O,O,O,O,O,O,O,O,O,O,O,O,O,O,O,O,O,O,O,O,O,O,O,O,O,O,O,O,O,O,O,O,O,O,O,O,O,O,O,O,O,O,O,O,O,O,O,O,O,O,O,O,O,O,O,O,O,O,O,O,O,O,O,O,O,O,O,O,O,O,O,O,O,O,O]
abbrev ycF:List AG:=[zz1 60 11,zz6 61 60 1,zz1 11 61]
abbrev ycG:List AG:=[zz1 83 10,zz1 84 7,zz1 85 12,zz5 86 1 84 85,zz2 87 1 86,zz6 88 87 1,o 89 (.max [(.t 83),(.t 88)]),zz1 10 89]
abbrev ycH:List AG:=[zz1 75 12,o 76 (.cmp .geq (.sc .int) (.t 75) (.c (.int .i64 0))),zz1 77 76,zze 78 77 12,zze 79 77 7,oy 80 77 (.len (.t 79)),oy 81 77 (.cmp .lss (.sc .int) (.t 78) (.t 80)),zz8 82 77 81]
abbrev ycI:List AG:=[zz3 62 4 1,zz4 63 3 1,zz2 64 1 63,zz1 65 9,zz5 66 5 64 65,zz4 67 2 66,zz2 68 1 67,zz1 69 11,zz5 70 1 68 69,zz2 71 1 70,zzg 72 n_net_Place 62 71,zz1 73 8,o 74 (.ibin .sub (.t 72) (.t 73)),zz1 12 74]
abbrev ycJ:ACode:=(.seq (.dreg [O,O,O,O,O,O,O,O,O,O,O,O,O,O] [11,11,11,11,11,11,11,11,11,11,15,15,15,15] ycI) (.seq (.reg ycH) (.cond (.t 82) (.reg ycG) .skip)))
abbrev ycK:List AG:=[zz1 51 11,zz4 52 3 1,zz2 53 1 52,zz1 54 9,zz5 55 5 53 54,zz4 56 2 55,zz2 57 1 56,zza 58 57,zz7 59 51 58]
abbrev ycL:ACode:=(.seq (.seq (.reg ycK) (.cond (.t 59) .skip (.exit 2))) (.seq (.block 3 [] ycJ) (.reg ycF)))
abbrev ycM:List AG:=[zz9 11 0]
abbrev ycN:List AG:=[zz9 10 0]
abbrev ycO:ACode:=(.seq (.reg ycN) (.seq (.seq (.reg ycM) (.block 2 ycE (.loop ycD ycL))) (.seq (.reg ycC) (.cond (.t 95) ycB .skip))))
abbrev ycP:List AG:=[zz1 45 9,zz1 46 7,zza 47 46,zz7 48 45 47]
abbrev ycQ:ACode:=(.seq (.seq (.reg ycP) (.cond (.t 48) .skip (.exit 0))) (.seq (.block 1 [] ycO) (.reg ycz)))
abbrev ycR:List AG:=[zz9 9 0]
abbrev ycS:List AG:=[zz4 38 0 1,zz2 39 1 38,zza 40 39,zz4 41 2 1,zz2 42 1 41,zza 43 42,o 44 (.ibin .add (.t 40) (.t 43)),zz1 8 44]
abbrev ycT:List AG:=[zzh 2]
abbrev ycU:ACode:=(.seq (.reg ycT) .ret)
abbrev ycV:List AG:=[zz1 32 7,zza 33 32,zz4 34 3 1,zz2 35 1 34,zza 36 35,o 37 (.cmp .neq (.sc .int) (.t 33) (.t 36))]
abbrev ycW:List AG:=[zz3 30 4 1,zzf 31 n_order_Levels 30,zz1 7 31]
abbrev ycX:List AG:=[zz1 29 3,zz1 2 29]
abbrev ycY:ACode:=(.seq (.reg ycX) .ret)
abbrev ycZ:List AG:=[zz1 23 4,o 24 (.not (.t 23)),zz1 25 24,on 26 25 (.mv (.t 5)),on 27 25 (.cmp .neq (.sc .int) (.t 26) (.c (.int .i64 0))),o 28 (.pick (.t 25) (.c (.bool true)) (.t 27))]
abbrev yda:List AG:=[zz3 19 4 1,zzf 20 n_order_Check 19,zz1 18 20,zzc 21 18 0,zzc 22 18 1,zz1 5 21,zz1 6 22]
abbrev ydb:List AG:=[zz3 16 4 1,zzf 17 n_w06_Few 16,zz1 4 17]
abbrev ydc:List AG:=[zzh 2]
abbrev ydd:ACode:=(.seq (.reg ydc) .ret)
abbrev yde:List AG:=[zz1 14 3,o 15 (.not (.t 14))]
abbrev ydf:List AG:=[o 13 (.call (.f n_w07_works) []),zz1 3 13]
abbrev ydg:List AG:=[o 1 (.box 4 (.t 0)),zzh 2]
abbrev w07_OrderLevels:AFun:=⟨(.seq (.reg ydg) (.seq (.reg ydf) (.seq (.seq (.reg yde) (.cond (.t 15) ydd .skip)) (.seq (.reg ydb) (.seq (.reg yda) (.seq (.seq (.reg ycZ) (.cond (.t 28) ycY .skip)) (.seq (.reg ycW) (.seq (.seq (.reg ycV) (.cond (.t 37) ycU .skip)) (.seq (.reg ycS) (.seq (.seq (.reg ycR) (.block 0 ycy (.loop ycx ycQ))) (.seq (.reg ycw) .ret))))))))))),97,[.tmp 2]⟩
abbrev ydh:List It:=[.code (.seq (.reg ycC) (.cond (.t 95) ycB .skip)),.inBlock 1 [],.code (.reg ycz),.inLoop ycx ycQ,.inBlock 0 ycy,.code (.seq (.reg ycw) .ret)]
abbrev ydi (x1 x3 x7 x8 x9 x10 x11:AV) (h:List Ob) (e:Cx:=cx):Cfg:=atC n_w07_OrderLevels (.code ycL::.inLoop ycD ycL::.inBlock 2 ycE::ydh) [U,x1,U,x3,U,U,U,x7,x8,x9,x10,x11,U,U,U,U,U,U,U,U,U,U,U,U,U,U,U,U,U,U,U,U,U,U,U,U,U,U,U,U,U,U,U,U,U,U,U,U,U,U,U,U,U,U,U,U,U,U,U,U,U,U,U,U,U,U,U,U,U,U,U,U,U,U,U,U,U,U,U,U,U,U,U,U,U,U,U,U,U,U,U,U,U,U,U,U,U] h e
abbrev ydj (x1 x3 x7 x8 x9 x10:AV) (h:List Ob) (e:Cx:=cx):Cfg:=atC n_w07_OrderLevels ydh [U,x1,U,x3,U,U,U,x7,x8,x9,x10,U,U,U,U,U,U,U,U,U,U,U,U,U,U,U,U,U,U,U,U,U,U,U,U,U,U,U,U,U,U,U,U,U,U,U,U,U,U,U,U,U,U,U,U,U,U,U,U,U,U,U,U,U,U,U,U,U,U,U,U,U,U,U,U,U,U,U,U,U,U,U,U,U,U,U,U,U,U,U,U,U,U,U,U,U,U] h e
abbrev ydk:List It:=[.code (.seq (.reg ycw) .ret)]
abbrev ydl (x1 x3 x7 x8 x9:AV) (h:List Ob) (e:Cx:=cx):Cfg:=atC n_w07_OrderLevels (.code ycQ::.inLoop ycx ycQ::.inBlock 0 ycy::ydk) [U,x1,U,x3,U,U,U,x7,x8,x9,U,U,U,U,U,U,U,U,U,U,U,U,U,U,U,U,U,U,U,U,U,U,U,U,U,U,U,U,U,U,U,U,U,U,U,U,U,U,U,U,U,U,U,U,U,U,U,U,U,U,U,U,U,U,U,U,U,U,U,U,U,U,U,U,U,U,U,U,U,U,U,U,U,U,U,U,U,U,U,U,U,U,U,U,U,U,U] h e
@[simp] theorem c_w07_OrderLevels:cfun Tryd.prog n_w07_OrderLevels=some w07_OrderLevels:=by kernel_rfl
@[simp] theorem e_w07_OrderLevels:hasBody Tryd.prog n_w07_OrderLevels=true:=by kernel_rfl
abbrev ydm:List AG:=[zz1 46 2,o 47 (.lit 1 [(.int .i64 0),(.int .i64 0)] [(0,(.c (.int .i64 1))),(1,(.c (.int .i64 0)))]),zzg 48 n_r01_Ints 46 47,zz1 49 48,zze 50 49 3,oy 51 49 (.len (.t 50)),oy 52 49 (.cmp .eql (.sc .int) (.t 51) (.c (.int .i64 0))),zz8 53 49 52,zz1 54 53,zze 55 54 5,oy 56 54 (.cmp .eql (.sc .int) (.t 55) (.c (.int .i64 7))),zz8 57 54 56,zz1 58 57,zze 59 58 6,oy 60 58 (.cmp .eql (.sc .str) (.t 59) (.c (.str [122]))),zz8 61 58 60,zz1 62 61,zze 63 62 7,oy 64 62 (.cmp .eql (.sc .int) (.t 63) (.c (.int .i64 0))),zz8 65 62 64,zz1 66 65,zze 67 66 8,oy 68 66 (.cmp .eql (.sc .str) (.t 67) (.c (.str []))),zz8 69 66 68,zz1 70 69,oy 71 70 (.load true 4 (.t 1)),oy 72 70 (.call (.f n_order_Levels) [(.t 71)]),oy 73 70 (.lit 1 [(.int .i64 0),(.int .i64 0)] [(0,(.c (.int .i64 1))),(1,(.c (.int .i64 0)))]),oy 74 70 (.call (.f n_r01_Ints) [(.t 72),(.t 73)]),zz8 75 70 74,zz1 76 75,zze 77 76 9,oy 78 76 (.lit 1 [(.str []),(.str [])] [(0,(.c (.str [97]))),(1,(.c (.str [121])))]),oy 79 76 (.call (.f n_r01_Texts) [(.t 77),(.t 78)]),zz8 80 76 79,zz1 81 80,oy 82 81 (.off 3 (.t 10)),zzd 83 81 1 82,oy 84 81 (.len (.t 83)),oy 85 81 (.cmp .eql (.sc .int) (.t 84) (.c (.int .i64 1))),zz8 86 81 85,zz1 87 86,oy 88 87 (.off 0 (.t 10)),zzd 89 87 1 88,oy 90 87 (.len (.t 89)),oy 91 87 (.cmp .eql (.sc .int) (.t 90) (.c (.int .i64 1))),zz8 92 87 91,zz1 0 92]
abbrev ydn:List AG:=[zz3 44 4 1,zzf 45 n_order_Trim 44,o 10 (.alloc [(.own 1 t_string []),(.own 1 t_string []),(.own 3 t_api_Latch_2 []),(.own 5 t_api_Gate_2 [])]),zzb 4 10 45]
abbrev ydo:List AG:=[zz3 41 4 1,o 42 (.lit 1 [(.str [])] [(0,(.c (.str [121])))]),zzg 43 n_order_Cone 41 42,zz1 9 43]
abbrev ydp:List AG:=[zz3 37 4 1,zzf 38 n_order_Check 37,zz1 36 38,zzc 39 36 0,zzc 40 36 1,zz1 7 39,zz1 8 40]
abbrev ydq:List AG:=[zz3 32 4 4,zzf 33 n_order_Check 32,zz1 31 33,zzc 34 31 0,zzc 35 31 1,zz1 5 34,zz1 6 35]
abbrev ydr:List AG:=[o 25 (.lit 1 [(.str [])] [(0,(.c (.str [121])))]),o 26 (.build [(.str []),(.int .i64 0),(.list true 0 []),(.list true 0 []),(.bool false)] [(0,1,(.c (.str [122]))),(1,1,(.c (.int .i64 3))),(2,1,(.t 25))]),o 27 (.lit 1 [(.str [])] [(0,(.c (.str [122])))]),o 28 (.build [(.str []),(.int .i64 0),(.list true 0 []),(.list true 0 []),(.bool false)] [(0,1,(.c (.str [121]))),(1,1,(.c (.int .i64 2))),(2,1,(.t 27))]),o 29 (.lit 5 [(.agg [(.str []),(.int .i64 0),(.list true 0 []),(.list true 0 []),(.bool false)]),(.agg [(.str []),(.int .i64 0),(.list true 0 []),(.list true 0 []),(.bool false)])] [(0,(.t 26)),(1,(.t 28))]),zz4 30 3 4,zzb 1 30 29]
abbrev yds:List AG:=[zz3 24 4 1,o 4 (.alloc [(.own 1 t_string []),(.own 1 t_string []),(.own 3 t_api_Latch_2 []),(.own 5 t_api_Gate_2 [])]),zzb 4 4 24]
abbrev ydt:List AG:=[zz3 20 4 1,zzf 21 n_order_Sort 20,zz1 19 21,zzc 22 19 0,zzc 23 19 1,zz1 2 22,zz1 3 23]
abbrev ydu:List AG:=[o 11 (.lit 1 [(.str [])] [(0,(.c (.str [97])))]),o 12 (.lit 1 [(.str [])] [(0,(.c (.str [121])))]),o 13 (.lit 1 [(.str [])] [(0,(.c (.str [121])))]),o 14 (.build [(.str []),(.int .i64 0),(.list true 0 []),(.list true 0 []),(.bool false)] [(0,1,(.c (.str [122]))),(1,1,(.c (.int .i64 3))),(2,1,(.t 13))]),o 15 (.lit 1 [(.str [])] [(0,(.c (.str [97])))]),o 16 (.build [(.str []),(.int .i64 0),(.list true 0 []),(.list true 0 []),(.bool false)] [(0,1,(.c (.str [121]))),(1,1,(.c (.int .i64 2))),(2,1,(.t 15))]),o 17 (.lit 5 [(.agg [(.str []),(.int .i64 0),(.list true 0 []),(.list true 0 []),(.bool false)]),(.agg [(.str []),(.int .i64 0),(.list true 0 []),(.list true 0 []),(.bool false)])] [(0,(.t 14)),(1,(.t 16))]),o 18 (.build [(.list true 0 []),(.list true 0 []),(.list true 0 []),(.list true 0 [])] [(0,1,(.t 11)),(1,1,(.t 12)),(3,1,(.t 17))]),o 1 (.alloc [(.own 1 t_string []),(.own 1 t_string []),(.own 3 t_api_Latch_2 []),(.own 5 t_api_Gate_2 [])]),zzb 4 1 18]
abbrev ydv:List AG:=[zzh 0]
abbrev w07_works:AFun:=⟨(.seq (.reg ydv) (.seq (.reg ydu) (.seq (.reg ydt) (.seq (.reg yds) (.seq (.reg ydr) (.seq (.reg ydq) (.seq (.reg ydp) (.seq (.reg ydo) (.seq (.reg ydn) (.seq (.reg ydm) .ret)))))))))),93,[.tmp 0]⟩
@[simp] theorem c_w07_works:cfun Tryd.prog n_w07_works=some w07_works:=by kernel_rfl
@[simp] theorem e_w07_works:hasBody Tryd.prog n_w07_works=true:=by kernel_rfl
abbrev ydw:List AG:=[zz1 6 3,zz1 7 6,oy 8 7 (.off 3 (.t 1)),zzd 9 7 1 8,oy 10 7 (.len (.t 9)),oy 11 7 (.cmp .leq (.sc .int) (.t 10) (.c (.int .i64 24))),zz8 12 7 11,zz1 13 12,oy 14 13 (.off 0 (.t 1)),zzd 15 13 1 14,oy 16 13 (.len (.t 15)),oy 17 13 (.cmp .leq (.sc .int) (.t 16) (.c (.int .i64 24))),zz8 18 13 17,zz1 19 18,oy 20 19 (.off 2 (.t 1)),zzd 21 19 1 20,oy 22 19 (.len (.t 21)),oy 23 19 (.cmp .leq (.sc .int) (.t 22) (.c (.int .i64 24))),zz8 24 19 23,zz1 2 24]
abbrev ydx:List AG:=[zz3 4 4 1,zzf 5 n_w06_Few 4,zz1 3 5]
abbrev ydy:List AG:=[o 1 (.box 4 (.t 0)),zzh 2]
abbrev w07_Little:AFun:=⟨(.seq (.reg ydy) (.seq (.reg ydx) (.seq (.reg ydw) .ret))),25,[.tmp 2]⟩
@[simp] theorem c_w07_Little:cfun Tryd.prog n_w07_Little=some w07_Little:=by kernel_rfl
@[simp] theorem e_w07_Little:hasBody Tryd.prog n_w07_Little=true:=by kernel_rfl
abbrev ydz:List AG:=[zz2 52 1 4,zz1 53 7,zz1 2 52,zz1 3 53]
abbrev ydA:List Bool:=[O,O,O,O,I,I,O,I,O,O,O,O,O,O,O,O,O,O,O,O,O,O,O,O,O,O,O,O,O,O,O,O,I,I,I,O,O,O,O,O,O,O,O,O,O,O,O,O,O,O,O,O,O,O]
abbrev ydB:List Bool:=[O,O,O,O,I,O,O,I,O,O,O,O,O,O,O,O,O,O,O,O,O,O,O,O,O,O,O,O,O,O,O,O,O,O,O,O,O,O,O,O,O,O,O,O,O,O,O,O,O,O,O,O,O,O]
abbrev ydC:List AG:=[zz6 51 34 1,zz1 34 51]
abbrev ydD:List AG:=[zz1 46 7,zz4 47 0 9,zz2 48 1 47,o 49 (.lit 1 [(.str [])] [(0,(.t 48))]),o 50 (.append 1 t_string 16 (.t 46) (.t 49)),zz1 7 50]
abbrev ydE:List AG:=[zz1 45 11]
abbrev ydF:List AG:=[zz2 39 1 5,zz4 40 0 9,zz2 41 1 40,o 42 (.lookup (.sc .str) (.int .i64 0) (.t 39) (.t 41) true),zz1 38 42,zzc 43 38 0,zzc 44 38 1,zz1 10 43,zz1 11 44]
abbrev ydG:List AG:=[zz5 36 5 32 34,zz3 37 5 36,o 9 (.alloc [(.str []),(.int .i64 0),(.own 1 t_string []),(.own 1 t_string []),(.bool false)]),zzb 5 9 37]
abbrev ydH:ACode:=(.seq (.reg ydG) (.seq (.reg ydF) (.seq (.reg ydE) (.cond (.t 45) (.reg ydD) .skip))))
abbrev ydI:List AG:=[zz7 35 34 33]
abbrev ydJ:ACode:=(.seq (.reg ydI) (.seq (.cond (.t 35) .skip (.exit 2)) (.seq (.block 3 [] ydH) (.reg ydC))))
abbrev ydK:List AG:=[zz4 31 3 1,zz2 32 1 31,zza 33 32,zz9 34 0]
abbrev ydL:List AG:=[o 7 (.nilrow 1 t_string)]
abbrev ydM:List AG:=[zz1 6 19]
abbrev ydN:List AG:=[zz2 24 1 5,zz4 25 3 1,zz2 26 1 25,zz1 27 6,zz5 28 5 26 27,zz4 29 0 28,zz2 30 1 29,q (.delete (.sc .str) (.t 24) (.t 30))]
abbrev ydO:List AG:=[zz2 20 1 4,zz1 21 6,o 22 (.lit 1 [(.int .i64 0)] [(0,(.t 21))]),o 23 (.append 1 t_int 8 (.t 20) (.t 22)),zzb 1 4 23]
abbrev ydP:ACode:=(.seq (.reg ydO) (.dreg [O,O,O,O,O,O,O,O] [8,8,8,8,8,8,8,9] ydN))
abbrev ydQ:ACode:=(.block 1 [] ydP)
abbrev ydR:ACode:=(.rangeFunc (.t 18) [19] [O,I,I,I,I,I,O,O,O,O,O,O,O,O,O,O,O,O,O,O,O,O,O,O,O,O,O,O,O,O,O,O,O,O,O,O,O,O,O,O,O,O,O,O,O,O,O,O,O,O,O,O,O,O] (.reg ydM) ydQ)
abbrev ydS:List AG:=[zz3 17 4 1,zzf 18 n_order_coming 17]
abbrev ydT:List AG:=[zz3 15 4 1,zzf 16 n_order_places 15,o 5 (.alloc [.nilm]),zzb 1 5 16]
abbrev ydU:List AG:=[o 4 (.alloc [(.own 1 t_int [])])]
abbrev ydV:List AG:=[o 2 (.nilrow 1 t_int),o 3 (.nilrow 1 t_string)]
abbrev ydW:ACode:=(.seq (.reg ydV) .ret)
abbrev ydX:List AG:=[zz3 12 4 1,zzf 13 n_order_right 12,o 14 (.not (.t 13))]
abbrev ydY:List AG:=[o 1 (.box 4 (.t 0)),o 2 (.nilrow 1 t_int),o 3 (.nilrow 1 t_string)]
abbrev order_Sort:AFun:=⟨(.seq (.reg ydY) (.seq (.seq (.reg ydX) (.cond (.t 14) ydW .skip)) (.seq (.reg ydU) (.seq (.reg ydT) (.seq (.seq (.reg ydS) (.block 0 [] ydR)) (.seq (.reg ydL) (.seq (.seq (.reg ydK) (.block 2 ydB (.loop ydA ydJ))) (.seq (.reg ydz) .ret)))))))),54,[.tmp 2,.tmp 3]⟩
abbrev ydZ:List It:=[.code (.seq (.reg ydz) .ret)]
abbrev yea (x4 x5 x7 x32 x33 x34:AV) (h:List Ob) (e:Cx:=cx):Cfg:=atC n_order_Sort (.code ydJ::.inLoop ydA ydJ::.inBlock 2 ydB::ydZ) [U,U,U,U,x4,x5,U,x7,U,U,U,U,U,U,U,U,U,U,U,U,U,U,U,U,U,U,U,U,U,U,U,U,x32,x33,x34,U,U,U,U,U,U,U,U,U,U,U,U,U,U,U,U,U,U,U] h e
@[simp] theorem c_order_Sort:cfun Tryd.prog n_order_Sort=some order_Sort:=by kernel_rfl
@[simp] theorem e_order_Sort:hasBody Tryd.prog n_order_Sort=true:=by kernel_rfl
abbrev yeb:List AG:=[zz1 75 4,zz1 76 5,zz1 2 75,zz1 3 76]
abbrev yec:List Bool:=[O,I,O,O,I,I,I,O,O,I,O,O,O,O,O,O,O,O,O,O,O,O,O,O,O,O,O,O,O,O,O,O,O,O,O,O,O,O,O,O,O,O,O,O,O,O,O,O,O,O,O,O,O,O,O,O,O,O,O,O,O,O,O,O,O,O,O,O,O,O,O,O,O,O,O,O,O]
abbrev yed:List Bool:=[O,O,O,O,I,I,O,O,O,O,O,O,O,O,O,O,O,O,O,O,O,O,O,O,O,O,O,O,O,O,O,O,O,O,O,O,O,O,O,O,O,O,O,O,O,O,O,O,O,O,O,O,O,O,O,O,O,O,O,O,O,O,O,O,O,O,O,O,O,O,O,O,O,O,O,O,O]
abbrev yee:List AG:=[zz1 59 9,zz6 60 59 1,zz1 9 60]
abbrev yef:List AG:=[zz1 66 5,zz4 67 3 1,zz2 68 1 67,zz1 69 9,zz5 70 5 68 69,zz4 71 0 70,zz2 72 1 71,o 73 (.lit 1 [(.str [])] [(0,(.t 72))]),o 74 (.append 1 t_string 16 (.t 66) (.t 73)),zz1 5 74]
abbrev yeg:List AG:=[zz1 61 6,zz1 62 9,zz5 63 1 61 62,zz2 64 1 63,o 65 (.not (.t 64))]
abbrev yeh:ACode:=(.seq (.reg yeg) (.cond (.t 65) (.reg yef) .skip))
abbrev yei:List AG:=[zz1 54 9,zz4 55 3 1,zz2 56 1 55,zza 57 56,zz7 58 54 57]
abbrev yej:ACode:=(.seq (.seq (.reg yei) (.cond (.t 58) .skip (.exit 4))) (.seq (.block 5 [] yeh) (.reg yee)))
abbrev yek:List AG:=[zz9 9 0]
abbrev yel:List Bool:=[O,I,O,O,I,I,I,I,O,O,O,O,O,O,O,O,O,O,O,O,O,O,O,O,O,O,O,O,O,O,O,O,O,O,O,O,O,O,O,O,O,O,O,O,O,O,O,O,O,O,O,O,O,O,O,O,O,O,O,O,O,O,O,O,O,O,O,O,O,O,O,O,O,O,O,O,O]
abbrev yem:List Bool:=[O,I,O,O,I,I,I,O,O,O,O,O,O,O,O,O,O,O,O,O,O,O,O,O,O,O,O,O,O,O,O,O,O,O,O,O,O,O,O,O,O,O,O,O,O,O,O,O,O,O,O,O,O,O,O,O,O,O,O,O,O,O,O,O,O,O,O,O,O,O,O,O,O,O,O,O,O]
abbrev yen:List AG:=[zz1 22 7,zz6 23 22 1,zz1 7 23]
abbrev yeo:List Bool:=[O,I,O,O,I,I,I,I,I,O,O,O,O,O,O,O,O,O,O,O,O,O,O,O,O,O,O,O,O,O,O,O,O,O,O,O,O,O,O,O,O,O,O,O,O,O,O,O,O,O,O,O,O,O,O,O,O,O,O,O,O,O,O,O,O,O,O,O,O,O,O,O,O,O,O,O,O]
abbrev yep:List Bool:=[O,I,O,O,I,I,I,I,O,O,O,O,O,O,O,O,O,O,O,O,O,O,O,O,O,O,O,O,O,O,O,O,O,O,O,O,O,O,O,O,O,O,O,O,O,O,O,O,O,O,O,O,O,O,O,O,O,O,O,O,O,O,O,O,O,O,O,O,O,O,O,O,O,O,O,O,O]
abbrev yeq:List AG:=[zz1 29 8,zz6 30 29 1,zz1 8 30]
abbrev yer:List AG:=[zz1 50 4,zz1 51 8,o 52 (.lit 1 [(.int .i64 0)] [(0,(.t 51))]),o 53 (.append 1 t_int 8 (.t 50) (.t 52)),zz1 4 53]
abbrev yes:List AG:=[zz1 47 6,zz1 48 8,zz5 49 1 47 48,q (.store 1 (.t 49) (.c (.bool true)))]
abbrev yet:ACode:=(.seq (.reg yes) (.seq (.reg yer) (.exit 2)))
abbrev yeu:List AG:=[zz1 31 6,zz1 32 8,zz5 33 1 31 32,zz2 34 1 33,o 35 (.not (.t 34)),zz1 36 35,oy 37 36 (.load true 4 (.t 1)),oy 38 36 (.off 3 (.t 1)),zzd 39 36 1 38,zze 40 36 8,oy 41 36 (.ixAddr 5 (.t 39) (.t 40)),oy 42 36 (.load true 5 (.t 41)),zze 43 36 6,oy 44 36 (.call (.f n_r07_waits) [(.t 37),(.t 42),(.t 43)]),oy 45 36 (.not (.t 44)),zz8 46 36 45]
abbrev yev:ACode:=(.seq (.dreg [O,O,O,O,O,O,O,O,O,O,O,O,O,O,O,O] [14,14,14,14,14,14,14,14,14,14,14,14,14,17,17,17] yeu) (.cond (.t 46) yet .skip))
abbrev yew:List AG:=[zz1 24 8,zz4 25 3 1,zz2 26 1 25,zza 27 26,zz7 28 24 27]
abbrev yex:ACode:=(.seq (.seq (.reg yew) (.cond (.t 28) .skip (.exit 2))) (.seq (.block 3 [] yev) (.reg yeq)))
abbrev yey:List AG:=[zz9 8 0]
abbrev yez:ACode:=(.seq (.reg yey) (.block 2 yep (.loop yeo yex)))
abbrev yeA:List AG:=[zz1 17 7,zz4 18 3 1,zz2 19 1 18,zza 20 19,zz7 21 17 20]
abbrev yeB:ACode:=(.seq (.seq (.reg yeA) (.cond (.t 21) .skip (.exit 0))) (.seq (.block 1 [] yez) (.reg yen)))
abbrev yeC:List AG:=[zz9 7 0]
abbrev yeD:List AG:=[zz4 13 3 1,zz2 14 1 13,zza 15 14,o 16 (.mkSlice 1 t_bool 1 (.bool false) (.t 15) (.t 15)),zz1 6 16]
abbrev yeE:List AG:=[o 2 (.nilrow 1 t_int),o 3 (.nilrow 1 t_string)]
abbrev yeF:ACode:=(.seq (.reg yeE) .ret)
abbrev yeG:List AG:=[zz3 10 4 1,zzf 11 n_r07_right 10,o 12 (.not (.t 11))]
abbrev yeH:List AG:=[o 5 (.nilrow 1 t_string)]
abbrev yeI:List AG:=[o 4 (.nilrow 1 t_int)]
abbrev yeJ:List AG:=[o 1 (.box 4 (.t 0)),o 2 (.nilrow 1 t_int),o 3 (.nilrow 1 t_string)]
abbrev r07_Sort:AFun:=⟨(.seq (.reg yeJ) (.seq (.reg yeI) (.seq (.reg yeH) (.seq (.seq (.reg yeG) (.cond (.t 12) yeF .skip)) (.seq (.reg yeD) (.seq (.seq (.reg yeC) (.block 0 yem (.loop yel yeB))) (.seq (.seq (.reg yek) (.block 4 yed (.loop yec yej))) (.seq (.reg yeb) .ret)))))))),77,[.tmp 2,.tmp 3]⟩
abbrev yeK:List It:=[.code (.seq (.reg yeb) .ret)]
abbrev yeL (x1 x4 x5 x6 x9:AV) (h:List Ob) (e:Cx:=cx):Cfg:=atC n_r07_Sort (.code yej::.inLoop yec yej::.inBlock 4 yed::yeK) [U,x1,U,U,x4,x5,x6,U,U,x9,U,U,U,U,U,U,U,U,U,U,U,U,U,U,U,U,U,U,U,U,U,U,U,U,U,U,U,U,U,U,U,U,U,U,U,U,U,U,U,U,U,U,U,U,U,U,U,U,U,U,U,U,U,U,U,U,U,U,U,U,U,U,U,U,U,U,U] h e
abbrev yeM:List It:=[.inBlock 1 [],.code (.reg yen),.inLoop yel yeB,.inBlock 0 yem,.code (.seq (.seq (.reg yek) (.block 4 yed (.loop yec yej))) (.seq (.reg yeb) .ret))]
abbrev yeN (x1 x4 x5 x6 x7 x8:AV) (h:List Ob) (e:Cx:=cx):Cfg:=atC n_r07_Sort (.code yex::.inLoop yeo yex::.inBlock 2 yep::yeM) [U,x1,U,U,x4,x5,x6,x7,x8,U,U,U,U,U,U,U,U,U,U,U,U,U,U,U,U,U,U,U,U,U,U,U,U,U,U,U,U,U,U,U,U,U,U,U,U,U,U,U,U,U,U,U,U,U,U,U,U,U,U,U,U,U,U,U,U,U,U,U,U,U,U,U,U,U,U,U,U] h e
abbrev yeO (x1 x4 x5 x6 x7:AV) (h:List Ob) (e:Cx:=cx):Cfg:=atC n_r07_Sort yeM [U,x1,U,U,x4,x5,x6,x7,U,U,U,U,U,U,U,U,U,U,U,U,U,U,U,U,U,U,U,U,U,U,U,U,U,U,U,U,U,U,U,U,U,U,U,U,U,U,U,U,U,U,U,U,U,U,U,U,U,U,U,U,U,U,U,U,U,U,U,U,U,U,U,U,U,U,U,U,U] h e
abbrev yeP:List It:=[.code (.seq (.seq (.reg yek) (.block 4 yed (.loop yec yej))) (.seq (.reg yeb) .ret))]
abbrev yeQ (x1 x4 x5 x6 x7:AV) (h:List Ob) (e:Cx:=cx):Cfg:=atC n_r07_Sort (.code yeB::.inLoop yel yeB::.inBlock 0 yem::yeP) [U,x1,U,U,x4,x5,x6,x7,U,U,U,U,U,U,U,U,U,U,U,U,U,U,U,U,U,U,U,U,U,U,U,U,U,U,U,U,U,U,U,U,U,U,U,U,U,U,U,U,U,U,U,U,U,U,U,U,U,U,U,U,U,U,U,U,U,U,U,U,U,U,U,U,U,U,U,U,U] h e
@[simp] theorem c_r07_Sort:cfun Tryd.prog n_r07_Sort=some r07_Sort:=by kernel_rfl
@[simp] theorem e_r07_Sort:hasBody Tryd.prog n_r07_Sort=true:=by kernel_rfl
abbrev yeR:List AG:=[zz9 2 0,o 3 (.mv (.c (.str [])))]
abbrev yeS:List AG:=[zz1 25 7,o 26 (.ixAddr 1 (.t 25) (.c (.int .i64 0))),zz2 27 1 26,zz9 2 7,zz1 3 27]
abbrev yeT:ACode:=(.seq (.dreg [O,O,O,O,O] [6,6,6,6,6] yeS) .ret)
abbrev yeU:List AG:=[zz1 22 7,zza 23 22,o 24 (.cmp .gtr (.sc .int) (.t 23) (.c (.int .i64 0)))]
abbrev yeV:List AG:=[zz3 18 4 1,zzf 19 n_order_Sort 18,zz1 17 19,zzc 20 17 0,zzc 21 17 1,zz1 6 20,zz1 7 21]
abbrev yeW:List AG:=[zz1 15 4,zz1 16 5,zz1 2 15,zz1 3 16]
abbrev yeX:ACode:=(.seq (.reg yeW) .ret)
abbrev yeY:List AG:=[zz1 13 4,o 14 (.cmp .neq (.sc .int) (.t 13) (.c (.int .i64 0)))]
abbrev yeZ:List AG:=[zz3 9 4 1,zzf 10 n_net_Check 9,zz1 8 10,zzc 11 8 0,zzc 12 8 1,zz1 4 11,zz1 5 12]
abbrev yfa:List AG:=[o 1 (.box 4 (.t 0)),zz9 2 0,o 3 (.mv (.c (.str [])))]
abbrev order_Check:AFun:=⟨(.seq (.reg yfa) (.seq (.seq (.reg yeZ) (.seq (.reg yeY) (.cond (.t 14) yeX .skip))) (.seq (.seq (.reg yeV) (.seq (.reg yeU) (.cond (.t 24) yeT .skip))) (.seq (.reg yeR) .ret)))),28,[.tmp 2,.tmp 3]⟩
@[simp] theorem c_order_Check:cfun Tryd.prog n_order_Check=some order_Check:=by kernel_rfl
@[simp] theorem e_order_Check:hasBody Tryd.prog n_order_Check=true:=by kernel_rfl
abbrev yfb:List AG:=[zz9 2 0,o 3 (.mv (.c (.str [])))]
abbrev yfc:List AG:=[zz1 25 7,o 26 (.ixAddr 1 (.t 25) (.c (.int .i64 0))),zz2 27 1 26,zz9 2 7,zz1 3 27]
abbrev yfd:ACode:=(.seq (.dreg [O,O,O,O,O] [6,6,6,6,6] yfc) .ret)
abbrev yfe:List AG:=[zz1 22 7,zza 23 22,o 24 (.cmp .gtr (.sc .int) (.t 23) (.c (.int .i64 0)))]
abbrev yff:List AG:=[zz3 18 4 1,zzf 19 n_r07_Sort 18,zz1 17 19,zzc 20 17 0,zzc 21 17 1,zz1 6 20,zz1 7 21]
abbrev yfg:List AG:=[zz1 15 4,zz1 16 5,zz1 2 15,zz1 3 16]
abbrev yfh:ACode:=(.seq (.reg yfg) .ret)
abbrev yfi:List AG:=[zz1 13 4,o 14 (.cmp .neq (.sc .int) (.t 13) (.c (.int .i64 0)))]
abbrev yfj:List AG:=[zz3 9 4 1,zzf 10 n_r06_Check 9,zz1 8 10,zzc 11 8 0,zzc 12 8 1,zz1 4 11,zz1 5 12]
abbrev yfk:List AG:=[o 1 (.box 4 (.t 0)),zz9 2 0,o 3 (.mv (.c (.str [])))]
abbrev r07_Check:AFun:=⟨(.seq (.reg yfk) (.seq (.reg yfj) (.seq (.seq (.reg yfi) (.cond (.t 14) yfh .skip)) (.seq (.reg yff) (.seq (.seq (.reg yfe) (.cond (.t 24) yfd .skip)) (.seq (.reg yfb) .ret)))))),28,[.tmp 2,.tmp 3]⟩
@[simp] theorem c_r07_Check:cfun Tryd.prog n_r07_Check=some r07_Check:=by kernel_rfl
@[simp] theorem e_r07_Check:hasBody Tryd.prog n_r07_Check=true:=by kernel_rfl
abbrev yfl:List AG:=[o 4 (.mv (.c (.bool true)))]
abbrev yfm:List Bool:=[I,I,O,O,O,I,O,O,O,O,O,O,O,O,O,O,O,O,O,O,O,O,O,O,O,O]
abbrev yfn:List Bool:=[O,O,O,O,O,O,O,O,O,O,O,O,O,O,O,O,O,O,O,O,O,O,O,O,O,O]
abbrev yfo:List AG:=[zz1 15 5,zz6 16 15 1,zz1 5 16]
abbrev yfp:List AG:=[zzh 4]
abbrev yfq:ACode:=(.seq (.reg yfp) .ret)
abbrev yfr:List AG:=[zz1 17 0,zz1 18 5,zz5 19 1 17 18,zz2 20 1 19,zz1 21 1,zz1 22 5,zz5 23 1 21 22,zz2 24 1 23,o 25 (.cmp .neq (.sc .int) (.t 20) (.t 24))]
abbrev yfs:ACode:=(.seq (.dreg [O,O,O,O,O,O,O,O,O] [10,10,10,10,10,10,10,10,10] yfr) (.cond (.t 25) yfq .skip))
abbrev yft:List AG:=[zz1 11 5,zz1 12 0,zza 13 12,zz7 14 11 13]
abbrev yfu:ACode:=(.seq (.seq (.reg yft) (.cond (.t 14) .skip (.exit 0))) (.seq (.block 1 [] yfs) (.reg yfo)))
abbrev yfv:List AG:=[zz9 5 0]
abbrev yfw:List AG:=[zzh 4]
abbrev yfx:ACode:=(.seq (.reg yfw) .ret)
abbrev yfy:List AG:=[zz1 6 0,zza 7 6,zz1 8 1,zza 9 8,o 10 (.cmp .neq (.sc .int) (.t 7) (.t 9))]
abbrev yfz:List AG:=[zzh 4]
abbrev r01_Ints:AFun:=⟨(.seq (.reg yfz) (.seq (.seq (.reg yfy) (.cond (.t 10) yfx .skip)) (.seq (.seq (.reg yfv) (.block 0 yfn (.loop yfm yfu))) (.seq (.reg yfl) .ret)))),26,[.tmp 4]⟩
abbrev yfA:List It:=[.code (.seq (.reg yfl) .ret)]
abbrev yfB (x0 x1 x5:AV) (h:List Ob) (e:Cx:=cx):Cfg:=atC n_r01_Ints (.code yfu::.inLoop yfm yfu::.inBlock 0 yfn::yfA) [x0,x1,U,U,U,x5,U,U,U,U,U,U,U,U,U,U,U,U,U,U,U,U,U,U,U,U] h e
@[simp] theorem c_r01_Ints:cfun Tryd.prog n_r01_Ints=some r01_Ints:=by kernel_rfl
@[simp] theorem e_r01_Ints:hasBody Tryd.prog n_r01_Ints=true:=by kernel_rfl
abbrev yfC:List AG:=[zz2 62 1 4,zz1 2 62]
abbrev yfD:List Bool:=[O,O,O,O,I,I,O,O,O,O,O,O,O,O,O,O,O,O,O,O,O,O,O,O,O,O,O,O,O,O,O,O,O,O,O,O,O,O,O,O,O,O,O,O,O,O,O,O,O,O,I,I,O,O,O,O,O,O,O,O,O,O,O]
abbrev yfE:List Bool:=[O,O,O,O,I,O,O,O,O,O,O,O,O,O,O,O,O,O,O,O,O,O,O,O,O,O,O,O,O,O,O,O,O,O,O,O,O,O,O,O,O,O,O,O,O,O,O,O,O,O,O,O,O,O,O,O,O,O,O,O,O,O,O]
abbrev yfF:List AG:=[zz6 61 51 1,zz1 51 61]
abbrev yfG:List AG:=[zz2 58 1 4,zz1 59 9,zz5 60 1 58 59,q (.store 1 (.t 60) (.c (.int .i64 (-1))))]
abbrev yfH:List AG:=[zz2 54 1 5,zz1 55 9,o 56 (.lookup (.sc .int) (.bool false) (.t 54) (.t 55) false),o 57 (.not (.t 56))]
abbrev yfI:List AG:=[zz1 53 51,zz1 9 53]
abbrev yfJ:ACode:=(.seq (.reg yfI) (.seq (.reg yfH) (.cond (.t 57) (.reg yfG) .skip)))
abbrev yfK:List AG:=[zz7 52 51 50]
abbrev yfL:ACode:=(.seq (.reg yfK) (.seq (.cond (.t 52) .skip (.exit 4)) (.seq (.block 5 [] yfJ) (.reg yfF))))
abbrev yfM:List AG:=[zz2 49 1 4,zza 50 49,zz9 51 0]
abbrev yfN:List AG:=[zz1 6 22]
abbrev yfO:List Bool:=[O,O,I,O,I,O,I,O,O,O,O,O,O,O,O,O,O,O,O,O,O,O,O,O,O,O,O,O,O,I,I,I,O,O,O,O,O,O,O,O,O,O,O,O,O,O,O,O,O,O,O,O,O,O,O,O,O,O,O,O,O,O,O]
abbrev yfP:List Bool:=[O,O,I,O,O,O,O,O,O,O,O,O,O,O,O,O,O,O,O,O,O,O,O,O,O,O,O,O,O,O,O,O,O,O,O,O,O,O,O,O,O,O,O,O,O,O,O,O,O,O,O,O,O,O,O,O,O,O,O,O,O,O,O]
abbrev yfQ:List AG:=[zz6 48 31 1,zz1 31 48]
abbrev yfR:List AG:=[zz2 35 1 4,zz1 36 8,zz2 37 1 4,zz1 38 8,zz5 39 1 37 38,zz2 40 1 39,zz2 41 1 4,zz1 42 6,zz5 43 1 41 42,zz2 44 1 43,zz6 45 44 1,o 46 (.max [(.t 40),(.t 45)]),zz5 47 1 35 36,zzb 1 47 46]
abbrev yfS:List AG:=[zz5 33 1 29 31,zz2 34 1 33,zz1 8 34]
abbrev yfT:ACode:=(.seq (.reg yfS) (.dreg [O,O,O,O,O,O,O,O,O,O,O,O,O,O] [14,14,14,14,14,14,14,14,14,14,14,14,14,15] yfR))
abbrev yfU:List AG:=[zz7 32 31 30]
abbrev yfV:ACode:=(.seq (.reg yfU) (.seq (.cond (.t 32) .skip (.exit 2)) (.seq (.block 3 [] yfT) (.reg yfQ))))
abbrev yfW:List AG:=[zz4 25 1 3,zz2 26 1 25,zz1 27 6,zz5 28 1 26 27,zz2 29 1 28,zza 30 29,zz9 31 0]
abbrev yfX:List AG:=[zz2 23 1 5,zz1 24 6,q (.upd (.sc .int) (.t 23) (.t 24) (.c (.bool true)))]
abbrev yfY:ACode:=(.seq (.reg yfX) (.seq (.reg yfW) (.block 2 yfP (.loop yfO yfV))))
abbrev yfZ:ACode:=(.block 1 [] yfY)
abbrev yga:ACode:=(.rangeFunc (.t 21) [22] [O,O,I,I,I,I,O,O,O,O,O,O,O,O,O,O,O,O,O,O,O,O,O,O,O,O,O,O,O,O,O,O,O,O,O,O,O,O,O,O,O,O,O,O,O,O,O,O,O,O,O,O,O,O,O,O,O,O,O,O,O,O,O] (.reg yfN) yfZ)
abbrev ygb:List AG:=[zz3 20 4 1,zzf 21 n_order_coming 20]
abbrev ygc:List AG:=[o 19 (.mkMap),o 5 (.alloc [.nilm]),zzb 1 5 19]
abbrev ygd:List AG:=[zz4 15 3 1,zz2 16 1 15,zza 17 16,o 18 (.mkSlice 1 t_int 8 (.int .i64 0) (.t 17) (.t 17)),o 4 (.alloc [(.own 1 t_int [])]),zzb 1 4 18]
abbrev yge:List AG:=[zz3 13 4 1,zzf 14 n_order_wait 13,o 3 (.alloc [(.own 1 t_map_int_bool_2 []),(.own 1 t_int_2 [])]),zzb 2 3 14]
abbrev ygf:List AG:=[o 2 (.nilrow 1 t_int)]
abbrev ygg:ACode:=(.seq (.reg ygf) .ret)
abbrev ygh:List AG:=[zz3 10 4 1,zzf 11 n_order_right 10,o 12 (.not (.t 11))]
abbrev ygi:List AG:=[o 1 (.box 4 (.t 0)),o 2 (.nilrow 1 t_int)]
abbrev order_Levels:AFun:=⟨(.seq (.reg ygi) (.seq (.seq (.reg ygh) (.cond (.t 12) ygg .skip)) (.seq (.reg yge) (.seq (.reg ygd) (.seq (.reg ygc) (.seq (.seq (.reg ygb) (.block 0 [] yga)) (.seq (.seq (.reg yfM) (.block 4 yfE (.loop yfD yfL))) (.seq (.reg yfC) .ret)))))))),63,[.tmp 2]⟩
abbrev ygj:List It:=[.code (.seq (.reg yfC) .ret)]
abbrev ygk (x4 x5 x50 x51:AV) (h:List Ob) (e:Cx:=cx):Cfg:=atC n_order_Levels (.code yfL::.inLoop yfD yfL::.inBlock 4 yfE::ygj) [U,U,U,U,x4,x5,U,U,U,U,U,U,U,U,U,U,U,U,U,U,U,U,U,U,U,U,U,U,U,U,U,U,U,U,U,U,U,U,U,U,U,U,U,U,U,U,U,U,U,U,x50,x51,U,U,U,U,U,U,U,U,U,U,U] h e
abbrev ygl:List It:=[.inBlock 1 []]
abbrev ygm (x2 x4 x6 x29 x30 x31:AV) (h:List Ob) (e:Cx:=cx):Cfg:=atC n_order_Levels (.code yfV::.inLoop yfO yfV::.inBlock 2 yfP::ygl) [U,U,x2,U,x4,U,x6,U,U,U,U,U,U,U,U,U,U,U,U,U,U,U,U,U,U,U,U,U,U,x29,x30,x31,U,U,U,U,U,U,U,U,U,U,U,U,U,U,U,U,U,U,U,U,U,U,U,U,U,U,U,U,U,U,U] h e
abbrev ygn (x2:AV) (h:List Ob) (e:Cx:=cx):Cfg:=atC n_order_Levels ygl [U,U,x2,U,U,U,U,U,U,U,U,U,U,U,U,U,U,U,U,U,U,U,U,U,U,U,U,U,U,U,U,U,U,U,U,U,U,U,U,U,U,U,U,U,U,U,U,U,U,U,U,U,U,U,U,U,U,U,U,U,U,U,U] h e
@[simp] theorem c_order_Levels:cfun Tryd.prog n_order_Levels=some order_Levels:=by kernel_rfl
@[simp] theorem e_order_Levels:hasBody Tryd.prog n_order_Levels=true:=by kernel_rfl
abbrev ygo:List AG:=[zz1 71 3,zz1 2 71]
abbrev ygp:List Bool:=[O,I,O,I,O,I,O,I,O,O,O,O,O,O,O,O,O,O,O,O,O,O,O,O,O,O,O,O,O,O,O,O,O,O,O,O,O,O,O,O,O,O,O,O,O,O,O,O,O,O,O,O,O,O,O,O,O,O,O,O,O,O,O,O,O,O,O,O,O,O,O,O]
abbrev ygq:List Bool:=[O,O,O,I,O,O,O,O,O,O,O,O,O,O,O,O,O,O,O,O,O,O,O,O,O,O,O,O,O,O,O,O,O,O,O,O,O,O,O,O,O,O,O,O,O,O,O,O,O,O,O,O,O,O,O,O,O,O,O,O,O,O,O,O,O,O,O,O,O,O,O,O]
abbrev ygr:List AG:=[zz1 32 7,zz6 33 32 1,zz1 7 33]
abbrev ygs:List AG:=[zz1 64 3,zz1 65 5,zz1 66 7,zz5 67 1 65 66,zz2 68 1 67,zz1 69 8,zz5 70 1 64 68,zzb 1 70 69]
abbrev ygt:List Bool:=[O,I,O,I,O,I,O,I,I,I,O,O,O,O,O,O,O,O,O,O,O,O,O,O,O,O,O,O,O,O,O,O,O,O,O,O,O,O,O,O,O,O,O,O,O,O,O,O,O,O,O,O,O,O,O,O,O,O,O,O,O,O,O,O,O,O,O,O,O,O,O,O]
abbrev ygu:List Bool:=[O,I,O,I,O,I,O,I,I,O,O,O,O,O,O,O,O,O,O,O,O,O,O,O,O,O,O,O,O,O,O,O,O,O,O,O,O,O,O,O,O,O,O,O,O,O,O,O,O,O,O,O,O,O,O,O,O,O,O,O,O,O,O,O,O,O,O,O,O,O,O,O]
abbrev ygv:List AG:=[zz1 39 9,zz6 40 39 1,zz1 9 40]
abbrev ygw:List AG:=[zz1 57 8,zz1 58 3,zz1 59 9,zz5 60 1 58 59,zz2 61 1 60,zz6 62 61 1,o 63 (.max [(.t 57),(.t 62)]),zz1 8 63]
abbrev ygx:List AG:=[zz4 41 3 1,zz2 42 1 41,zz1 43 5,zz1 44 7,zz5 45 1 43 44,zz2 46 1 45,zz5 47 5 42 46,zz4 48 2 47,zz2 49 1 48,zz4 50 3 1,zz2 51 1 50,zz1 52 9,zz5 53 5 51 52,zz4 54 0 53,zz2 55 1 54,zzg 56 n_r01_Has 49 55]
abbrev ygy:ACode:=(.seq (.dreg [O,O,O,O,O,O,O,O,O,O,O,O,O,O,O,O] [16,16,16,16,16,16,16,16,16,16,16,16,16,16,16,17] ygx) (.cond (.t 56) (.reg ygw) .skip))
abbrev ygz:List AG:=[zz1 34 9,zz4 35 3 1,zz2 36 1 35,zza 37 36,zz7 38 34 37]
abbrev ygA:ACode:=(.seq (.seq (.reg ygz) (.cond (.t 38) .skip (.exit 4))) (.seq (.block 5 [] ygy) (.reg ygv)))
abbrev ygB:List AG:=[zz9 9 0]
abbrev ygC:List AG:=[zz9 8 0]
abbrev ygD:ACode:=(.seq (.reg ygC) (.seq (.seq (.reg ygB) (.block 4 ygu (.loop ygt ygA))) (.reg ygs)))
abbrev ygE:List AG:=[zz1 28 7,zz1 29 5,zza 30 29,zz7 31 28 30]
abbrev ygF:ACode:=(.seq (.seq (.reg ygE) (.cond (.t 31) .skip (.exit 2))) (.seq (.block 3 [] ygD) (.reg ygr)))
abbrev ygG:List AG:=[zz9 7 0]
abbrev ygH:List AG:=[zz3 24 4 1,zzf 25 n_r07_Sort 24,zz1 23 25,zzc 26 23 0,zzc 27 23 1,zz1 5 26,zz1 6 27]
abbrev ygI:List Bool:=[O,I,O,I,I,O,O,O,O,O,O,O,O,O,O,O,O,O,O,O,O,O,O,O,O,O,O,O,O,O,O,O,O,O,O,O,O,O,O,O,O,O,O,O,O,O,O,O,O,O,O,O,O,O,O,O,O,O,O,O,O,O,O,O,O,O,O,O,O,O,O,O]
abbrev ygJ:List Bool:=[O,I,O,I,O,O,O,O,O,O,O,O,O,O,O,O,O,O,O,O,O,O,O,O,O,O,O,O,O,O,O,O,O,O,O,O,O,O,O,O,O,O,O,O,O,O,O,O,O,O,O,O,O,O,O,O,O,O,O,O,O,O,O,O,O,O,O,O,O,O,O,O]
abbrev ygK:List AG:=[zz1 18 4,zz6 19 18 1,zz1 4 19]
abbrev ygL:List AG:=[zz1 20 3,o 21 (.lit 1 [(.int .i64 0)] [(0,(.c (.int .i64 (-1))))]),o 22 (.append 1 t_int 8 (.t 20) (.t 21)),zz1 3 22]
abbrev ygM:List AG:=[zz1 13 4,zz4 14 3 1,zz2 15 1 14,zza 16 15,zz7 17 13 16]
abbrev ygN:ACode:=(.seq (.seq (.reg ygM) (.cond (.t 17) .skip (.exit 0))) (.seq (.block 1 [] (.reg ygL)) (.reg ygK)))
abbrev ygO:List AG:=[zz9 4 0]
abbrev ygP:List AG:=[o 2 (.nilrow 1 t_int)]
abbrev ygQ:ACode:=(.seq (.reg ygP) .ret)
abbrev ygR:List AG:=[zz3 10 4 1,zzf 11 n_r07_right 10,o 12 (.not (.t 11))]
abbrev ygS:List AG:=[o 3 (.nilrow 1 t_int)]
abbrev ygT:List AG:=[o 1 (.box 4 (.t 0)),o 2 (.nilrow 1 t_int)]
abbrev r07_Levels:AFun:=⟨(.seq (.reg ygT) (.seq (.reg ygS) (.seq (.seq (.reg ygR) (.cond (.t 12) ygQ .skip)) (.seq (.seq (.reg ygO) (.block 0 ygJ (.loop ygI ygN))) (.seq (.reg ygH) (.seq (.seq (.reg ygG) (.block 2 ygq (.loop ygp ygF))) (.seq (.reg ygo) .ret))))))),72,[.tmp 2]⟩
abbrev ygU:List It:=[.code (.reg ygs),.inBlock 3 [],.code (.reg ygr),.inLoop ygp ygF,.inBlock 2 ygq,.code (.seq (.reg ygo) .ret)]
abbrev ygV (x1 x3 x5 x7 x8 x9:AV) (h:List Ob) (e:Cx:=cx):Cfg:=atC n_r07_Levels (.code ygA::.inLoop ygt ygA::.inBlock 4 ygu::ygU) [U,x1,U,x3,U,x5,U,x7,x8,x9,U,U,U,U,U,U,U,U,U,U,U,U,U,U,U,U,U,U,U,U,U,U,U,U,U,U,U,U,U,U,U,U,U,U,U,U,U,U,U,U,U,U,U,U,U,U,U,U,U,U,U,U,U,U,U,U,U,U,U,U,U,U] h e
abbrev ygW (x1 x3 x5 x7 x8:AV) (h:List Ob) (e:Cx:=cx):Cfg:=atC n_r07_Levels ygU [U,x1,U,x3,U,x5,U,x7,x8,U,U,U,U,U,U,U,U,U,U,U,U,U,U,U,U,U,U,U,U,U,U,U,U,U,U,U,U,U,U,U,U,U,U,U,U,U,U,U,U,U,U,U,U,U,U,U,U,U,U,U,U,U,U,U,U,U,U,U,U,U,U,U] h e
abbrev ygX:List It:=[.code (.seq (.reg ygo) .ret)]
abbrev ygY (x1 x3 x5 x7:AV) (h:List Ob) (e:Cx:=cx):Cfg:=atC n_r07_Levels (.code ygF::.inLoop ygp ygF::.inBlock 2 ygq::ygX) [U,x1,U,x3,U,x5,U,x7,U,U,U,U,U,U,U,U,U,U,U,U,U,U,U,U,U,U,U,U,U,U,U,U,U,U,U,U,U,U,U,U,U,U,U,U,U,U,U,U,U,U,U,U,U,U,U,U,U,U,U,U,U,U,U,U,U,U,U,U,U,U,U,U] h e
abbrev ygZ:List It:=[.code (.seq (.reg ygH) (.seq (.seq (.reg ygG) (.block 2 ygq (.loop ygp ygF))) (.seq (.reg ygo) .ret)))]
abbrev yha (x1 x3 x4:AV) (h:List Ob) (e:Cx:=cx):Cfg:=atC n_r07_Levels (.code ygN::.inLoop ygI ygN::.inBlock 0 ygJ::ygZ) [U,x1,U,x3,x4,U,U,U,U,U,U,U,U,U,U,U,U,U,U,U,U,U,U,U,U,U,U,U,U,U,U,U,U,U,U,U,U,U,U,U,U,U,U,U,U,U,U,U,U,U,U,U,U,U,U,U,U,U,U,U,U,U,U,U,U,U,U,U,U,U,U,U] h e
abbrev yhb (x1 x3:AV) (h:List Ob) (e:Cx:=cx):Cfg:=atC n_r07_Levels ygZ [U,x1,U,x3,U,U,U,U,U,U,U,U,U,U,U,U,U,U,U,U,U,U,U,U,U,U,U,U,U,U,U,U,U,U,U,U,U,U,U,U,U,U,U,U,U,U,U,U,U,U,U,U,U,U,U,U,U,U,U,U,U,U,U,U,U,U,U,U,U,U,U,U] h e
@[simp] theorem c_r07_Levels:cfun Tryd.prog n_r07_Levels=some r07_Levels:=by kernel_rfl
@[simp] theorem e_r07_Levels:hasBody Tryd.prog n_r07_Levels=true:=by kernel_rfl
abbrev yhc:List AG:=[o 4 (.mv (.c (.bool true)))]
abbrev yhd:List Bool:=[I,I,O,O,O,I,O,O,O,O,O,O,O,O,O,O,O,O,O,O,O,O,O,O,O,O]
abbrev yhe:List Bool:=[O,O,O,O,O,O,O,O,O,O,O,O,O,O,O,O,O,O,O,O,O,O,O,O,O,O]
abbrev yhf:List AG:=[zz1 15 5,zz6 16 15 1,zz1 5 16]
abbrev yhg:List AG:=[zzh 4]
abbrev yhh:ACode:=(.seq (.reg yhg) .ret)
abbrev yhi:List AG:=[zz1 17 0,zz1 18 5,zz5 19 1 17 18,zz2 20 1 19,zz1 21 1,zz1 22 5,zz5 23 1 21 22,zz2 24 1 23,o 25 (.cmp .neq (.sc .str) (.t 20) (.t 24))]
abbrev yhj:ACode:=(.seq (.dreg [O,O,O,O,O,O,O,O,O] [10,10,10,10,10,10,10,10,10] yhi) (.cond (.t 25) yhh .skip))
abbrev yhk:List AG:=[zz1 11 5,zz1 12 0,zza 13 12,zz7 14 11 13]
abbrev yhl:ACode:=(.seq (.seq (.reg yhk) (.cond (.t 14) .skip (.exit 0))) (.seq (.block 1 [] yhj) (.reg yhf)))
abbrev yhm:List AG:=[zz9 5 0]
abbrev yhn:List AG:=[zzh 4]
abbrev yho:ACode:=(.seq (.reg yhn) .ret)
abbrev yhp:List AG:=[zz1 6 0,zza 7 6,zz1 8 1,zza 9 8,o 10 (.cmp .neq (.sc .int) (.t 7) (.t 9))]
abbrev yhq:List AG:=[zzh 4]
abbrev r01_Texts:AFun:=⟨(.seq (.reg yhq) (.seq (.seq (.reg yhp) (.cond (.t 10) yho .skip)) (.seq (.seq (.reg yhm) (.block 0 yhe (.loop yhd yhl))) (.seq (.reg yhc) .ret)))),26,[.tmp 4]⟩
abbrev yhr:List It:=[.code (.seq (.reg yhc) .ret)]
abbrev yhs (x0 x1 x5:AV) (h:List Ob) (e:Cx:=cx):Cfg:=atC n_r01_Texts (.code yhl::.inLoop yhd yhl::.inBlock 0 yhe::yhr) [x0,x1,U,U,U,x5,U,U,U,U,U,U,U,U,U,U,U,U,U,U,U,U,U,U,U,U] h e
@[simp] theorem c_r01_Texts:cfun Tryd.prog n_r01_Texts=some r01_Texts:=by kernel_rfl
@[simp] theorem e_r01_Texts:hasBody Tryd.prog n_r01_Texts=true:=by kernel_rfl
abbrev yht:List AG:=[zz1 23 0,zza 24 23,zz1 25 1,o 26 (.cmp .leq (.sc .int) (.t 24) (.t 25)),zz1 4 26]
abbrev yhu:List Bool:=[I,I,O,O,O,I,O,O,O,O,O,O,O,O,O,O,O,O,O,O,O,O,O,O,O,O,O]
abbrev yhv:List Bool:=[I,I,O,O,O,O,O,O,O,O,O,O,O,O,O,O,O,O,O,O,O,O,O,O,O,O,O]
abbrev yhw:List AG:=[zz1 15 5,zz6 16 15 1,zz1 5 16]
abbrev yhx:List AG:=[zzh 4]
abbrev yhy:ACode:=(.seq (.reg yhx) .ret)
abbrev yhz:List AG:=[zz1 17 0,zz1 18 5,zz5 19 1 17 18,zz2 20 1 19,o 21 (.lenStr (.t 20)),o 22 (.cmp .gtr (.sc .int) (.t 21) (.c (.int .i64 60)))]
abbrev yhA:ACode:=(.seq (.reg yhz) (.cond (.t 22) yhy .skip))
abbrev yhB:List AG:=[zz1 6 5,zz1 7 0,zza 8 7,zz7 9 6 8,zz1 10 9,zze 11 10 5,zze 12 10 1,oy 13 10 (.cmp .leq (.sc .int) (.t 11) (.t 12)),zz8 14 10 13]
abbrev yhC:ACode:=(.seq (.seq (.reg yhB) (.cond (.t 14) .skip (.exit 0))) (.seq (.block 1 [] yhA) (.reg yhw)))
abbrev yhD:List AG:=[zz9 5 0]
abbrev yhE:List AG:=[zzh 4]
abbrev w05_Texts:AFun:=⟨(.seq (.reg yhE) (.seq (.seq (.reg yhD) (.block 0 yhv (.loop yhu yhC))) (.seq (.reg yht) .ret))),27,[.tmp 4]⟩
abbrev yhF:List It:=[.code (.seq (.reg yht) .ret)]
abbrev yhG (x0 x1 x5:AV) (h:List Ob) (e:Cx:=cx):Cfg:=atC n_w05_Texts (.code yhC::.inLoop yhu yhC::.inBlock 0 yhv::yhF) [x0,x1,U,U,U,x5,U,U,U,U,U,U,U,U,U,U,U,U,U,U,U,U,U,U,U,U,U] h e
@[simp] theorem c_w05_Texts:cfun Tryd.prog n_w05_Texts=some w05_Texts:=by kernel_rfl
@[simp] theorem e_w05_Texts:hasBody Tryd.prog n_w05_Texts=true:=by kernel_rfl
abbrev yhH:List AG:=[zz1 84 13,zz1 4 84]
abbrev yhI:List Bool:=[O,O,O,O,O,O,O,O,O,O,I,O,O,I,O,O,O,O,O,O,O,O,O,O,O,O,O,O,O,O,O,O,O,O,O,O,O,O,O,O,O,O,O,O,O,O,O,O,O,O,O,O,O,O,O,O,O,O,O,O,O,O,O,O,O,O,O,O,O,O,I,I,I,O,O,O,O,O,O,O,O,O,O,O,O]
abbrev yhJ:List Bool:=[O,O,O,O,O,O,O,O,O,O,O,O,O,I,O,O,O,O,O,O,O,O,O,O,O,O,O,O,O,O,O,O,O,O,O,O,O,O,O,O,O,O,O,O,O,O,O,O,O,O,O,O,O,O,O,O,O,O,O,O,O,O,O,O,O,O,O,O,O,O,O,O,O,O,O,O,O,O,O,O,O,O,O,O,O]
abbrev yhK:List AG:=[zz6 83 72 1,zz1 72 83]
abbrev yhL:List AG:=[zz1 79 13,zz1 80 15,o 81 (.lit 1 [(.str [])] [(0,(.t 80))]),o 82 (.append 1 t_string 16 (.t 79) (.t 81)),zz1 13 82]
abbrev yhM:List AG:=[zz1 76 10,zz1 77 15,o 78 (.lookup (.sc .str) (.bool false) (.t 76) (.t 77) false)]
abbrev yhN:List AG:=[zz5 74 1 70 72,zz2 75 1 74,zz1 15 75]
abbrev yhO:ACode:=(.seq (.reg yhN) (.seq (.reg yhM) (.cond (.t 78) (.reg yhL) .skip)))
abbrev yhP:List AG:=[zz7 73 72 71]
abbrev yhQ:ACode:=(.seq (.reg yhP) (.seq (.cond (.t 73) .skip (.exit 6)) (.seq (.block 7 [] yhO) (.reg yhK))))
abbrev yhR:List AG:=[zz3 69 4 2,zzf 70 n_net_Nets 69,zza 71 70,zz9 72 0]
abbrev yhS:List AG:=[o 13 (.nilrow 1 t_string)]
abbrev yhT:List Bool:=[O,O,I,O,O,I,O,O,O,O,I,I,O,O,O,O,O,O,O,O,O,O,O,O,O,O,O,O,O,O,O,O,O,O,O,O,O,O,O,O,O,O,O,O,O,O,O,O,O,O,O,O,O,O,O,O,O,O,O,O,O,O,O,O,O,O,O,O,O,O,O,O,O,O,O,O,O,O,O,O,O,O,O,O,O]
abbrev yhU:List Bool:=[O,O,I,O,O,O,O,O,O,O,I,O,O,O,O,O,O,O,O,O,O,O,O,O,O,O,O,O,O,O,O,O,O,O,O,O,O,O,O,O,O,O,O,O,O,O,O,O,O,O,O,O,O,O,O,O,O,O,O,O,O,O,O,O,O,O,O,O,O,O,O,O,O,O,O,O,O,O,O,O,O,O,O,O,O]
abbrev yhV:List AG:=[zz1 64 11,zz1 65 5,zz1 66 12,o 67 (.lookup (.sc .str) (.list true 0 []) (.t 65) (.t 66) false),o 68 (.append 1 t_string 16 (.t 64) (.t 67)),zz1 11 68]
abbrev yhW:List AG:=[zz1 62 10,zz1 63 12,q (.upd (.sc .str) (.t 62) (.t 63) (.c (.bool true)))]
abbrev yhX:ACode:=(.seq (.reg yhW) (.reg yhV))
abbrev yhY:List AG:=[zz1 58 10,zz1 59 12,o 60 (.lookup (.sc .str) (.bool false) (.t 58) (.t 59) false),o 61 (.not (.t 60))]
abbrev yhZ:List AG:=[zz1 56 11,o 57 (.slice 1 (.t 56) (some (.c (.int .i64 1))) none),zz1 11 57]
abbrev yia:List AG:=[zz1 53 11,o 54 (.ixAddr 1 (.t 53) (.c (.int .i64 0))),zz2 55 1 54,zz1 12 55]
abbrev yib:ACode:=(.seq (.reg yia) (.seq (.reg yhZ) (.seq (.reg yhY) (.cond (.t 61) yhX .skip))))
abbrev yic:List AG:=[zz1 50 11,zza 51 50,o 52 (.cmp .gtr (.sc .int) (.t 51) (.c (.int .i64 0)))]
abbrev yid:ACode:=(.seq (.seq (.reg yic) (.cond (.t 52) .skip (.exit 4))) (.block 5 [] yib))
abbrev yie:List AG:=[zz1 48 1,zzf 49 n_slices_Clone_string_string 48,zz1 11 49]
abbrev yif:List AG:=[o 47 (.mkMap),zz1 10 47]
abbrev yig:List Bool:=[O,I,I,O,O,I,O,O,O,O,O,O,O,O,O,O,O,O,O,O,O,O,O,O,O,O,O,O,O,O,O,O,O,O,O,I,I,I,O,O,O,O,O,O,O,O,O,O,O,O,O,O,O,O,O,O,O,O,O,O,O,O,O,O,O,O,O,O,O,O,O,O,O,O,O,O,O,O,O,O,O,O,O,O,O]
abbrev yih:List Bool:=[O,I,I,O,O,I,O,O,O,O,O,O,O,O,O,O,O,O,O,O,O,O,O,O,O,O,O,O,O,O,O,O,O,O,O,O,O,O,O,O,O,O,O,O,O,O,O,O,O,O,O,O,O,O,O,O,O,O,O,O,O,O,O,O,O,O,O,O,O,O,O,O,O,O,O,O,O,O,O,O,O,O,O,O,O]
abbrev yii:List AG:=[zz6 46 37 1,zz1 37 46]
abbrev yij:List AG:=[zz1 41 5,zz4 42 0 9,zz2 43 1 42,zz4 44 2 9,zz2 45 1 44,q (.upd (.sc .str) (.t 41) (.t 43) (.t 45))]
abbrev yik:List AG:=[zz5 39 5 35 37,zz3 40 5 39,o 9 (.alloc [(.str []),(.int .i64 0),(.own 1 t_string []),(.own 1 t_string []),(.bool false)]),zzb 5 9 40]
abbrev yil:ACode:=(.seq (.reg yik) (.reg yij))
abbrev yim:List AG:=[zz7 38 37 36]
abbrev yin:ACode:=(.seq (.reg yim) (.seq (.cond (.t 38) .skip (.exit 2)) (.seq (.block 3 [] yil) (.reg yii))))
abbrev yio:List AG:=[zz4 34 3 2,zz2 35 1 34,zza 36 35,zz9 37 0]
abbrev yip:List Bool:=[O,I,I,O,O,I,O,O,O,O,O,O,O,O,O,O,O,O,O,O,O,I,I,I,O,O,O,O,O,O,O,O,O,O,O,O,O,O,O,O,O,O,O,O,O,O,O,O,O,O,O,O,O,O,O,O,O,O,O,O,O,O,O,O,O,O,O,O,O,O,O,O,O,O,O,O,O,O,O,O,O,O,O,O,O]
abbrev yiq:List Bool:=[O,I,I,O,O,I,O,O,O,O,O,O,O,O,O,O,O,O,O,O,O,O,O,O,O,O,O,O,O,O,O,O,O,O,O,O,O,O,O,O,O,O,O,O,O,O,O,O,O,O,O,O,O,O,O,O,O,O,O,O,O,O,O,O,O,O,O,O,O,O,O,O,O,O,O,O,O,O,O,O,O,O,O,O,O]
abbrev yir:List AG:=[zz6 33 23 1,zz1 23 33]
abbrev yis:List AG:=[zz1 27 5,zz4 28 0 7,zz2 29 1 28,zz4 30 1 7,zz2 31 1 30,o 32 (.lit 1 [(.str [])] [(0,(.t 31))]),q (.upd (.sc .str) (.t 27) (.t 29) (.t 32))]
abbrev yit:List AG:=[zz5 25 3 21 23,zz3 26 3 25,o 7 (.alloc [(.str []),(.str []),(.int .i64 0)]),zzb 3 7 26]
abbrev yiu:ACode:=(.seq (.reg yit) (.reg yis))
abbrev yiv:List AG:=[zz7 24 23 22]
abbrev yiw:ACode:=(.seq (.reg yiv) (.seq (.cond (.t 24) .skip (.exit 0)) (.seq (.block 1 [] yiu) (.reg yir))))
abbrev yix:List AG:=[zz4 20 2 2,zz2 21 1 20,zza 22 21,zz9 23 0]
abbrev yiy:List AG:=[o 19 (.mkMap),zz1 5 19]
abbrev yiz:List AG:=[o 4 (.nilrow 1 t_string)]
abbrev yiA:ACode:=(.seq (.reg yiz) .ret)
abbrev yiB:List AG:=[zz3 16 4 2,zzf 17 n_order_right 16,o 18 (.not (.t 17))]
abbrev yiC:List AG:=[o 2 (.box 4 (.t 0)),o 4 (.nilrow 1 t_string)]
abbrev order_Cone:AFun:=⟨(.seq (.reg yiC) (.seq (.seq (.reg yiB) (.cond (.t 18) yiA .skip)) (.seq (.reg yiy) (.seq (.seq (.reg yix) (.block 0 yiq (.loop yip yiw))) (.seq (.seq (.reg yio) (.block 2 yih (.loop yig yin))) (.seq (.reg yif) (.seq (.seq (.reg yie) (.block 4 yhU (.loop yhT yid))) (.seq (.reg yhS) (.seq (.seq (.reg yhR) (.block 6 yhJ (.loop yhI yhQ))) (.seq (.reg yhH) .ret)))))))))),85,[.tmp 4]⟩
abbrev yiD:List It:=[.code (.seq (.reg yhH) .ret)]
abbrev yiE (x10 x13 x70 x71 x72:AV) (h:List Ob) (e:Cx:=cx):Cfg:=atC n_order_Cone (.code yhQ::.inLoop yhI yhQ::.inBlock 6 yhJ::yiD) [U,U,U,U,U,U,U,U,U,U,x10,U,U,x13,U,U,U,U,U,U,U,U,U,U,U,U,U,U,U,U,U,U,U,U,U,U,U,U,U,U,U,U,U,U,U,U,U,U,U,U,U,U,U,U,U,U,U,U,U,U,U,U,U,U,U,U,U,U,U,U,x70,x71,x72,U,U,U,U,U,U,U,U,U,U,U,U] h e
abbrev yiF:List It:=[.code (.seq (.reg yhS) (.seq (.seq (.reg yhR) (.block 6 yhJ (.loop yhI yhQ))) (.seq (.reg yhH) .ret)))]
abbrev yiG (x2 x5 x10 x11:AV) (h:List Ob) (e:Cx:=cx):Cfg:=atC n_order_Cone (.code yid::.inLoop yhT yid::.inBlock 4 yhU::yiF) [U,U,x2,U,U,x5,U,U,U,U,x10,x11,U,U,U,U,U,U,U,U,U,U,U,U,U,U,U,U,U,U,U,U,U,U,U,U,U,U,U,U,U,U,U,U,U,U,U,U,U,U,U,U,U,U,U,U,U,U,U,U,U,U,U,U,U,U,U,U,U,U,U,U,U,U,U,U,U,U,U,U,U,U,U,U,U] h e
abbrev yiH:List It:=[.code (.seq (.reg yif) (.seq (.seq (.reg yie) (.block 4 yhU (.loop yhT yid))) (.seq (.reg yhS) (.seq (.seq (.reg yhR) (.block 6 yhJ (.loop yhI yhQ))) (.seq (.reg yhH) .ret)))))]
abbrev yiI (x1 x2 x5 x35 x36 x37:AV) (h:List Ob) (e:Cx:=cx):Cfg:=atC n_order_Cone (.code yin::.inLoop yig yin::.inBlock 2 yih::yiH) [U,x1,x2,U,U,x5,U,U,U,U,U,U,U,U,U,U,U,U,U,U,U,U,U,U,U,U,U,U,U,U,U,U,U,U,U,x35,x36,x37,U,U,U,U,U,U,U,U,U,U,U,U,U,U,U,U,U,U,U,U,U,U,U,U,U,U,U,U,U,U,U,U,U,U,U,U,U,U,U,U,U,U,U,U,U,U,U] h e
abbrev yiJ:List It:=[.code (.seq (.seq (.reg yio) (.block 2 yih (.loop yig yin))) (.seq (.reg yif) (.seq (.seq (.reg yie) (.block 4 yhU (.loop yhT yid))) (.seq (.reg yhS) (.seq (.seq (.reg yhR) (.block 6 yhJ (.loop yhI yhQ))) (.seq (.reg yhH) .ret))))))]
abbrev yiK (x1 x2 x5 x21 x22 x23:AV) (h:List Ob) (e:Cx:=cx):Cfg:=atC n_order_Cone (.code yiw::.inLoop yip yiw::.inBlock 0 yiq::yiJ) [U,x1,x2,U,U,x5,U,U,U,U,U,U,U,U,U,U,U,U,U,U,U,x21,x22,x23,U,U,U,U,U,U,U,U,U,U,U,U,U,U,U,U,U,U,U,U,U,U,U,U,U,U,U,U,U,U,U,U,U,U,U,U,U,U,U,U,U,U,U,U,U,U,U,U,U,U,U,U,U,U,U,U,U,U,U,U,U] h e
@[simp] theorem c_order_Cone:cfun Tryd.prog n_order_Cone=some order_Cone:=by kernel_rfl
@[simp] theorem e_order_Cone:hasBody Tryd.prog n_order_Cone=true:=by kernel_rfl
abbrev yiL:List AG:=[zz3 60 4 4,zzb 4 2 60]
abbrev yiM:List Bool:=[O,O,I,I,I,O,O,O,O,O,O,O,O,O,O,O,O,O,O,O,O,O,O,O,O,O,O,O,O,O,O,O,O,O,O,O,O,O,O,O,O,O,O,I,I,I,O,O,O,O,O,O,O,O,O,O,O,O,O,O,O]
abbrev yiN:List Bool:=[O,O,I,O,I,O,O,O,O,O,O,O,O,O,O,O,O,O,O,O,O,O,O,O,O,O,O,O,O,O,O,O,O,O,O,O,O,O,O,O,O,O,O,O,O,O,O,O,O,O,O,O,O,O,O,O,O,O,O,O,O]
abbrev yiO:List AG:=[zz6 59 45 1,zz1 45 59]
abbrev yiP:List AG:=[zz4 53 3 4,zz2 54 1 53,zz3 55 5 8,o 56 (.lit 5 [(.agg [(.str []),(.int .i64 0),(.list true 0 []),(.list true 0 []),(.bool false)])] [(0,(.t 55))]),o 57 (.append 5 t_api_Gate_2 80 (.t 54) (.t 56)),zz4 58 3 4,zzb 1 58 57]
abbrev yiQ:List AG:=[zz1 49 3,zz4 50 0 8,zz2 51 1 50,zzg 52 n_slices_Contains_string_string 49 51]
abbrev yiR:List AG:=[zz5 47 5 43 45,zz3 48 5 47,o 8 (.alloc [(.str []),(.int .i64 0),(.own 1 t_string []),(.own 1 t_string []),(.bool false)]),zzb 5 8 48]
abbrev yiS:ACode:=(.seq (.reg yiR) (.seq (.reg yiQ) (.cond (.t 52) (.reg yiP) .skip)))
abbrev yiT:List AG:=[zz7 46 45 44]
abbrev yiU:ACode:=(.seq (.reg yiT) (.seq (.cond (.t 46) .skip (.exit 2)) (.seq (.block 3 [] yiS) (.reg yiO))))
abbrev yiV:List AG:=[zz4 42 3 1,zz2 43 1 42,zza 44 43,zz9 45 0]
abbrev yiW:List Bool:=[O,I,I,I,I,O,O,O,O,O,O,O,O,O,O,O,O,O,O,O,O,O,O,O,O,I,I,I,O,O,O,O,O,O,O,O,O,O,O,O,O,O,O,O,O,O,O,O,O,O,O,O,O,O,O,O,O,O,O,O,O]
abbrev yiX:List Bool:=[O,I,I,I,I,O,O,O,O,O,O,O,O,O,O,O,O,O,O,O,O,O,O,O,O,O,O,O,O,O,O,O,O,O,O,O,O,O,O,O,O,O,O,O,O,O,O,O,O,O,O,O,O,O,O,O,O,O,O,O,O]
abbrev yiY:List AG:=[zz6 41 27 1,zz1 27 41]
abbrev yiZ:List AG:=[zz4 35 2 4,zz2 36 1 35,zz3 37 3 6,o 38 (.lit 3 [(.agg [(.str []),(.str []),(.int .i64 0)])] [(0,(.t 37))]),o 39 (.append 3 t_api_Latch_2 40 (.t 36) (.t 38)),zz4 40 2 4,zzb 1 40 39]
abbrev yja:List AG:=[zz1 31 3,zz4 32 0 6,zz2 33 1 32,zzg 34 n_slices_Contains_string_string 31 33]
abbrev yjb:List AG:=[zz5 29 3 25 27,zz3 30 3 29,o 6 (.alloc [(.str []),(.str []),(.int .i64 0)]),zzb 3 6 30]
abbrev yjc:ACode:=(.seq (.reg yjb) (.seq (.reg yja) (.cond (.t 34) (.reg yiZ) .skip)))
abbrev yjd:List AG:=[zz7 28 27 26]
abbrev yje:ACode:=(.seq (.reg yjd) (.seq (.cond (.t 28) .skip (.exit 0)) (.seq (.block 1 [] yjc) (.reg yiY))))
abbrev yjf:List AG:=[zz4 24 2 1,zz2 25 1 24,zza 26 25,zz9 27 0]
abbrev yjg:List AG:=[zz4 17 0 1,zz2 18 1 17,zzf 19 n_slices_Clone_string_string 18,zz4 20 1 1,zz2 21 1 20,zzf 22 n_slices_Clone_string_string 21,o 23 (.build [(.list true 0 []),(.list true 0 []),(.list true 0 []),(.list true 0 [])] [(0,1,(.t 19)),(1,1,(.t 22))]),o 4 (.alloc [(.own 1 t_string []),(.own 1 t_string []),(.own 3 t_api_Latch_2 []),(.own 5 t_api_Gate_2 [])]),zzb 4 4 23]
abbrev yjh:List AG:=[zz3 13 4 1,zz4 14 1 1,zz2 15 1 14,zzg 16 n_order_Cone 13 15,zz1 3 16]
abbrev yji:List AG:=[o 12 (.build [(.list true 0 []),(.list true 0 []),(.list true 0 []),(.list true 0 [])] []),zzb 4 2 12]
abbrev yjj:ACode:=(.seq (.reg yji) .ret)
abbrev yjk:List AG:=[zz3 9 4 1,zzf 10 n_order_right 9,o 11 (.not (.t 10))]
abbrev yjl:List AG:=[o 1 (.box 4 (.t 0)),o 2 (.alloc [(.own 1 t_string []),(.own 1 t_string []),(.own 3 t_api_Latch_2 []),(.own 5 t_api_Gate_2 [])])]
abbrev order_Trim:AFun:=⟨(.seq (.reg yjl) (.seq (.seq (.reg yjk) (.cond (.t 11) yjj .skip)) (.seq (.reg yjh) (.seq (.dreg [O,I,I,O,I,I,O,O,O] [9,9,9,9,9,9,9,9,10] yjg) (.seq (.seq (.reg yjf) (.block 0 yiX (.loop yiW yje))) (.seq (.seq (.reg yiV) (.block 2 yiN (.loop yiM yiU))) (.seq (.reg yiL) .ret))))))),61,[.cell 2 true 4]⟩
abbrev yjm:List It:=[.code (.seq (.reg yiL) .ret)]
abbrev yjn (x2 x3 x4 x43 x44 x45:AV) (h:List Ob) (e:Cx:=cx):Cfg:=atC n_order_Trim (.code yiU::.inLoop yiM yiU::.inBlock 2 yiN::yjm) [U,U,x2,x3,x4,U,U,U,U,U,U,U,U,U,U,U,U,U,U,U,U,U,U,U,U,U,U,U,U,U,U,U,U,U,U,U,U,U,U,U,U,U,U,x43,x44,x45,U,U,U,U,U,U,U,U,U,U,U,U,U,U,U] h e
abbrev yjo:List It:=[.code (.seq (.seq (.reg yiV) (.block 2 yiN (.loop yiM yiU))) (.seq (.reg yiL) .ret))]
abbrev yjp (x1 x2 x3 x4 x25 x26 x27:AV) (h:List Ob) (e:Cx:=cx):Cfg:=atC n_order_Trim (.code yje::.inLoop yiW yje::.inBlock 0 yiX::yjo) [U,x1,x2,x3,x4,U,U,U,U,U,U,U,U,U,U,U,U,U,U,U,U,U,U,U,U,x25,x26,x27,U,U,U,U,U,U,U,U,U,U,U,U,U,U,U,U,U,U,U,U,U,U,U,U,U,U,U,U,U,U,U,U,U] h e
@[simp] theorem c_order_Trim:cfun Tryd.prog n_order_Trim=some order_Trim:=by kernel_rfl
@[simp] theorem e_order_Trim:hasBody Tryd.prog n_order_Trim=true:=by kernel_rfl
abbrev yjq:List AG:=[zz1 62 6,zz1 63 62,zze 64 63 7,zz8 65 63 64,zz1 66 65,oy 67 66 (.off 3 (.t 1)),zzd 68 66 1 67,oy 69 66 (.len (.t 68)),oy 70 66 (.cmp .leq (.sc .int) (.t 69) (.c (.int .i64 210))),zz8 71 66 70,zz1 72 71,oy 73 72 (.off 2 (.t 1)),zzd 74 72 1 73,oy 75 72 (.len (.t 74)),oy 76 72 (.cmp .leq (.sc .int) (.t 75) (.c (.int .i64 210))),zz8 77 72 76,zz1 2 77]
abbrev yjr:List AG:=[zz4 59 1 1,zz2 60 1 59,o 61 (.call (.f n_w05_Texts) [(.t 60),(.c (.int .i64 210))]),zz1 7 61]
abbrev yjs:List AG:=[zz4 56 0 1,zz2 57 1 56,o 58 (.call (.f n_w05_Texts) [(.t 57),(.c (.int .i64 210))]),zz1 6 58]
abbrev yjt:List Bool:=[O,I,O,O,O,I,O,O,O,O,O,O,O,O,O,O,O,O,O,O,O,O,O,O,O,O,O,O,O,O,O,O,O,O,O,O,O,O,O,O,O,O,O,O,O,O,O,O,O,O,O,O,O,O,O,O,O,O,O,O,O,O,O,O,O,O,O,O,O,O,O,O,O,O,O,O,O,O]
abbrev yju:List Bool:=[O,I,O,O,O,O,O,O,O,O,O,O,O,O,O,O,O,O,O,O,O,O,O,O,O,O,O,O,O,O,O,O,O,O,O,O,O,O,O,O,O,O,O,O,O,O,O,O,O,O,O,O,O,O,O,O,O,O,O,O,O,O,O,O,O,O,O,O,O,O,O,O,O,O,O,O,O,O]
abbrev yjv:List AG:=[zz1 36 5,zz6 37 36 1,zz1 5 37]
abbrev yjw:List AG:=[zzh 2]
abbrev yjx:ACode:=(.seq (.reg yjw) .ret)
abbrev yjy:List AG:=[zz4 38 2 1,zz2 39 1 38,zz1 40 5,zz5 41 3 39 40,zz4 42 0 41,zz2 43 1 42,o 44 (.lenStr (.t 43)),o 45 (.cmp .gtr (.sc .int) (.t 44) (.c (.int .i64 60))),zz1 46 45,on 47 46 (.off 2 (.t 1)),on 48 46 (.load false 1 (.t 47)),on 49 46 (.mv (.t 5)),on 50 46 (.ixAddr 3 (.t 48) (.t 49)),on 51 46 (.off 1 (.t 50)),on 52 46 (.load false 1 (.t 51)),on 53 46 (.lenStr (.t 52)),on 54 46 (.cmp .gtr (.sc .int) (.t 53) (.c (.int .i64 60))),o 55 (.pick (.t 46) (.c (.bool true)) (.t 54))]
abbrev yjz:ACode:=(.seq (.reg yjy) (.cond (.t 55) yjx .skip))
abbrev yjA:List AG:=[zz1 27 5,zz4 28 2 1,zz2 29 1 28,zza 30 29,zz7 31 27 30,zz1 32 31,zze 33 32 5,oy 34 32 (.cmp .leq (.sc .int) (.t 33) (.c (.int .i64 210))),zz8 35 32 34]
abbrev yjB:ACode:=(.seq (.seq (.reg yjA) (.cond (.t 35) .skip (.exit 2))) (.seq (.block 3 [] yjz) (.reg yjv)))
abbrev yjC:List AG:=[zz9 5 0]
abbrev yjD:List Bool:=[O,I,O,I,O,O,O,O,O,O,O,O,O,O,O,O,O,O,O,O,O,O,O,O,O,O,O,O,O,O,O,O,O,O,O,O,O,O,O,O,O,O,O,O,O,O,O,O,O,O,O,O,O,O,O,O,O,O,O,O,O,O,O,O,O,O,O,O,O,O,O,O,O,O,O,O,O,O]
abbrev yjE:List Bool:=[O,I,O,O,O,O,O,O,O,O,O,O,O,O,O,O,O,O,O,O,O,O,O,O,O,O,O,O,O,O,O,O,O,O,O,O,O,O,O,O,O,O,O,O,O,O,O,O,O,O,O,O,O,O,O,O,O,O,O,O,O,O,O,O,O,O,O,O,O,O,O,O,O,O,O,O,O,O]
abbrev yjF:List AG:=[zz1 17 3,zz6 18 17 1,zz1 3 18]
abbrev yjG:List AG:=[zzh 2]
abbrev yjH:ACode:=(.seq (.reg yjG) .ret)
abbrev yjI:List AG:=[zz1 25 4,o 26 (.not (.t 25))]
abbrev yjJ:List AG:=[zz4 19 3 1,zz2 20 1 19,zz1 21 3,zz5 22 5 20 21,zz3 23 5 22,zzf 24 n_w06_FewGate 23,zz1 4 24]
abbrev yjK:ACode:=(.seq (.reg yjJ) (.seq (.reg yjI) (.cond (.t 26) yjH .skip)))
abbrev yjL:List AG:=[zz1 8 3,zz4 9 3 1,zz2 10 1 9,zza 11 10,zz7 12 8 11,zz1 13 12,zze 14 13 3,oy 15 13 (.cmp .leq (.sc .int) (.t 14) (.c (.int .i64 210))),zz8 16 13 15]
abbrev yjM:ACode:=(.seq (.seq (.reg yjL) (.cond (.t 16) .skip (.exit 0))) (.seq (.block 1 [] yjK) (.reg yjF)))
abbrev yjN:List AG:=[zz9 3 0]
abbrev yjO:List AG:=[o 1 (.box 4 (.t 0)),zzh 2]
abbrev w06_Few:AFun:=⟨(.seq (.reg yjO) (.seq (.seq (.reg yjN) (.block 0 yjE (.loop yjD yjM))) (.seq (.seq (.reg yjC) (.block 2 yju (.loop yjt yjB))) (.seq (.reg yjs) (.seq (.reg yjr) (.seq (.reg yjq) .ret)))))),78,[.tmp 2]⟩
abbrev yjP:List It:=[.code (.seq (.reg yjs) (.seq (.reg yjr) (.seq (.reg yjq) .ret)))]
abbrev yjQ (x1 x5:AV) (h:List Ob) (e:Cx:=cx):Cfg:=atC n_w06_Few (.code yjB::.inLoop yjt yjB::.inBlock 2 yju::yjP) [U,x1,U,U,U,x5,U,U,U,U,U,U,U,U,U,U,U,U,U,U,U,U,U,U,U,U,U,U,U,U,U,U,U,U,U,U,U,U,U,U,U,U,U,U,U,U,U,U,U,U,U,U,U,U,U,U,U,U,U,U,U,U,U,U,U,U,U,U,U,U,U,U,U,U,U,U,U,U] h e
abbrev yjR (x1:AV) (h:List Ob) (e:Cx:=cx):Cfg:=atC n_w06_Few yjP [U,x1,U,U,U,U,U,U,U,U,U,U,U,U,U,U,U,U,U,U,U,U,U,U,U,U,U,U,U,U,U,U,U,U,U,U,U,U,U,U,U,U,U,U,U,U,U,U,U,U,U,U,U,U,U,U,U,U,U,U,U,U,U,U,U,U,U,U,U,U,U,U,U,U,U,U,U,U] h e
abbrev yjS:List It:=[.code (.seq (.seq (.reg yjC) (.block 2 yju (.loop yjt yjB))) (.seq (.reg yjs) (.seq (.reg yjr) (.seq (.reg yjq) .ret))))]
abbrev yjT (x1 x3:AV) (h:List Ob) (e:Cx:=cx):Cfg:=atC n_w06_Few (.code yjM::.inLoop yjD yjM::.inBlock 0 yjE::yjS) [U,x1,U,x3,U,U,U,U,U,U,U,U,U,U,U,U,U,U,U,U,U,U,U,U,U,U,U,U,U,U,U,U,U,U,U,U,U,U,U,U,U,U,U,U,U,U,U,U,U,U,U,U,U,U,U,U,U,U,U,U,U,U,U,U,U,U,U,U,U,U,U,U,U,U,U,U,U,U] h e
@[simp] theorem c_w06_Few:cfun Tryd.prog n_w06_Few=some w06_Few:=by kernel_rfl
@[simp] theorem e_w06_Few:hasBody Tryd.prog n_w06_Few=true:=by kernel_rfl
abbrev yjU:List AG:=[q (.store 1 (.t 2) (.c (.int .i64 0))),q (.store 1 (.t 3) (.c (.str [])))]
abbrev yjV:List Bool:=[O,O,I,I,O,O,O,I,O,O,O,O,O,O,O,O,O,O,O,O,O,O,O,O,O,O,O,O,O,O,O,O,O,O,O,O,O,O,O,O,O,O,O,O,O,O,O,O,O,O,O,O,O,O,O,O,O,O,O,O,O,O,O,O,O,O,O,O,O,O,O,O,O,O,O,O,O,O,O,O,O,O,O,O,O,O,O,O,O,O,O,O,I,I,I,O,O,O,O,O,O,O,O,O]
abbrev yjW:List Bool:=[O,O,I,I,O,O,O,O,O,O,O,O,O,O,O,O,O,O,O,O,O,O,O,O,O,O,O,O,O,O,O,O,O,O,O,O,O,O,O,O,O,O,O,O,O,O,O,O,O,O,O,O,O,O,O,O,O,O,O,O,O,O,O,O,O,O,O,O,O,O,O,O,O,O,O,O,O,O,O,O,O,O,O,O,O,O,O,O,O,O,O,O,O,O,O,O,O,O,O,O,O,O,O,O]
abbrev yjX:List AG:=[zz6 103 94 1,zz1 94 103]
abbrev yjY:List AG:=[zz1 98 7,zz1 99 13,o 100 (.lookup (.sc .str) (.bool false) (.t 98) (.t 99) false),zz1 101 13,o 102 (.call (.f n_net_need) [(.t 100),(.c (.int .i64 6)),(.t 101)])]
abbrev yjZ:List AG:=[zz5 96 1 92 94,zz2 97 1 96,zz1 13 97]
abbrev yka:ACode:=(.seq (.reg yjZ) (.reg yjY))
abbrev ykb:List AG:=[zz7 95 94 93]
abbrev ykc:ACode:=(.seq (.reg ykb) (.seq (.cond (.t 95) .skip (.exit 6)) (.seq (.block 7 [] yka) (.reg yjX))))
abbrev ykd:List AG:=[zz3 91 4 1,zzf 92 n_net_used 91,zza 93 92,zz9 94 0]
abbrev yke:List Bool:=[O,I,I,I,O,O,O,I,O,O,O,O,O,O,O,O,O,O,O,O,O,O,O,O,O,O,O,O,O,O,O,O,O,O,O,O,O,O,O,O,O,O,O,O,O,O,O,O,O,O,O,O,O,O,O,O,O,O,O,O,O,O,O,O,O,O,O,O,O,O,O,O,O,O,O,O,O,O,O,I,I,I,O,O,O,O,O,O,O,O,O,O,O,O,O,O,O,O,O,O,O,O,O,O]
abbrev ykf:List Bool:=[O,I,I,I,O,O,O,I,O,O,O,O,O,O,O,O,O,O,O,O,O,O,O,O,O,O,O,O,O,O,O,O,O,O,O,O,O,O,O,O,O,O,O,O,O,O,O,O,O,O,O,O,O,O,O,O,O,O,O,O,O,O,O,O,O,O,O,O,O,O,O,O,O,O,O,O,O,O,O,O,O,O,O,O,O,O,O,O,O,O,O,O,O,O,O,O,O,O,O,O,O,O,O,O]
abbrev ykg:List AG:=[zz6 90 81 1,zz1 81 90]
abbrev ykh:List AG:=[zz3 85 5 11,zzf 86 n_net_Gate 85,zz4 87 0 11,zz2 88 1 87,o 89 (.call (.f n_net_need) [(.t 86),(.c (.int .i64 1)),(.t 88)])]
abbrev yki:List AG:=[zz5 83 5 79 81,zz3 84 5 83,o 11 (.alloc [(.str []),(.int .i64 0),(.own 1 t_string []),(.own 1 t_string []),(.bool false)]),zzb 5 11 84]
abbrev ykj:ACode:=(.seq (.reg yki) (.dreg [O,O,O,I,O] [2,5,5,5,6] ykh))
abbrev ykk:List AG:=[zz7 82 81 80]
abbrev ykl:ACode:=(.seq (.reg ykk) (.seq (.cond (.t 82) .skip (.exit 4)) (.seq (.block 5 [] ykj) (.reg ykg))))
abbrev ykm:List AG:=[zz4 78 3 1,zz2 79 1 78,zza 80 79,zz9 81 0]
abbrev ykn:List Bool:=[O,I,I,I,O,O,O,I,O,O,O,O,O,O,O,O,O,O,O,O,O,O,O,O,O,O,O,O,O,O,O,O,O,O,O,O,O,O,O,O,O,O,O,O,O,O,O,O,O,O,O,O,O,O,O,O,O,O,O,O,I,I,I,O,O,O,O,O,O,O,O,O,O,O,O,O,O,O,O,O,O,O,O,O,O,O,O,O,O,O,O,O,O,O,O,O,O,O,O,O,O,O,O,O]
abbrev yko:List Bool:=[O,I,I,I,O,O,O,I,O,O,O,O,O,O,O,O,O,O,O,O,O,O,O,O,O,O,O,O,O,O,O,O,O,O,O,O,O,O,O,O,O,O,O,O,O,O,O,O,O,O,O,O,O,O,O,O,O,O,O,O,O,O,O,O,O,O,O,O,O,O,O,O,O,O,O,O,O,O,O,O,O,O,O,O,O,O,O,O,O,O,O,O,O,O,O,O,O,O,O,O,O,O,O,O]
abbrev ykp:List AG:=[zz6 77 62 1,zz1 62 77]
abbrev ykq:List AG:=[zz4 66 2 9,zz2 67 1 66,o 68 (.cmp .geq (.sc .int) (.t 67) (.c (.int .i64 0))),zz1 69 68,oy 70 69 (.off 2 (.t 9)),zzd 71 69 1 70,oy 72 69 (.cmp .leq (.sc .int) (.t 71) (.c (.int .i64 2))),zz8 73 69 72,zz4 74 0 9,zz2 75 1 74,o 76 (.call (.f n_net_need) [(.t 73),(.c (.int .i64 1)),(.t 75)])]
abbrev ykr:List AG:=[zz5 64 3 60 62,zz3 65 3 64,o 9 (.alloc [(.str []),(.str []),(.int .i64 0)]),zzb 3 9 65]
abbrev yks:ACode:=(.seq (.reg ykr) (.reg ykq))
abbrev ykt:List AG:=[zz7 63 62 61]
abbrev yku:ACode:=(.seq (.reg ykt) (.seq (.cond (.t 63) .skip (.exit 2)) (.seq (.block 3 [] yks) (.reg ykp))))
abbrev ykv:List AG:=[zz4 59 2 1,zz2 60 1 59,zza 61 60,zz9 62 0]
abbrev ykw:List AG:=[zz4 56 1 1,zz2 57 1 56,zzf 58 n_net_once 57]
abbrev ykx:List AG:=[zz3 53 4 1,zzf 54 n_net_Nets 53,zzf 55 n_net_once 54,zz1 7 55]
abbrev yky:List Bool:=[O,I,I,I,O,O,O,O,O,O,O,O,O,O,O,O,O,O,O,O,O,O,O,O,O,O,O,O,O,O,O,O,O,O,O,O,O,O,O,O,O,O,I,I,I,O,O,O,O,O,O,O,O,O,O,O,O,O,O,O,O,O,O,O,O,O,O,O,O,O,O,O,O,O,O,O,O,O,O,O,O,O,O,O,O,O,O,O,O,O,O,O,O,O,O,O,O,O,O,O,O,O,O,O]
abbrev ykz:List Bool:=[O,I,I,I,O,O,O,O,O,O,O,O,O,O,O,O,O,O,O,O,O,O,O,O,O,O,O,O,O,O,O,O,O,O,O,O,O,O,O,O,O,O,O,O,O,O,O,O,O,O,O,O,O,O,O,O,O,O,O,O,O,O,O,O,O,O,O,O,O,O,O,O,O,O,O,O,O,O,O,O,O,O,O,O,O,O,O,O,O,O,O,O,O,O,O,O,O,O,O,O,O,O,O,O]
abbrev ykA:List AG:=[zz6 52 44 1,zz1 44 52]
abbrev ykB:List AG:=[zz1 48 6,zzf 49 n_ident_Name 48,zz1 50 6,o 51 (.call (.f n_net_need) [(.t 49),(.c (.int .i64 4)),(.t 50)])]
abbrev ykC:List AG:=[zz5 46 1 42 44,zz2 47 1 46,zz1 6 47]
abbrev ykD:ACode:=(.seq (.reg ykC) (.reg ykB))
abbrev ykE:List AG:=[zz7 45 44 43]
abbrev ykF:ACode:=(.seq (.reg ykE) (.seq (.cond (.t 45) .skip (.exit 0)) (.seq (.block 1 [] ykD) (.reg ykA))))
abbrev ykG:List AG:=[zz3 41 4 1,zzf 42 n_net_told 41,zza 43 42,zz9 44 0]
abbrev ykH:List AG:=[zz4 15 0 1,zz2 16 1 15,zza 17 16,zz4 18 2 1,zz2 19 1 18,zza 20 19,o 21 (.ibin .add (.t 17) (.t 20)),zz4 22 3 1,zz2 23 1 22,zza 24 23,o 25 (.ibin .add (.t 21) (.t 24)),o 26 (.cmp .leq (.sc .int) (.t 25) (.c (.int .i64 200))),zz1 27 26,oy 28 27 (.off 1 (.t 1)),zzd 29 27 1 28,oy 30 27 (.len (.t 29)),oy 31 27 (.cmp .leq (.sc .int) (.t 30) (.c (.int .i64 200))),zz8 32 27 31,zz1 33 32,oy 34 33 (.off 3 (.t 1)),zzd 35 33 1 34,zze 36 33 4,oy 37 33 (.call (.f n_slices_ContainsFunc_api_Gate_api_Gate) [(.t 35),(.t 36)]),oy 38 33 (.not (.t 37)),zz8 39 33 38,o 40 (.call (.f n_net_need) [(.t 39),(.c (.int .i64 8)),(.c (.str []))])]
abbrev ykI:List AG:=[o 4 (.mv (.f n_net_Check_2))]
abbrev ykJ:List AG:=[o 14 (.mkFunc (.func n_net_Check_1) [] [(.t 2),(.t 3)]),q (.defer (.t 14) [])]
abbrev ykK:List AG:=[o 1 (.box 4 (.t 0)),o 2 (.alloc [(.int .i64 0)]),o 3 (.alloc [(.str [])])]
abbrev net_Check:AFun:=⟨(.seq (.reg ykK) (.seq (.reg ykJ) (.seq (.reg ykI) (.seq (.reg ykH) (.seq (.seq (.reg ykG) (.block 0 ykz (.loop yky ykF))) (.seq (.reg ykx) (.seq (.reg ykw) (.seq (.seq (.reg ykv) (.block 2 yko (.loop ykn yku))) (.seq (.seq (.reg ykm) (.block 4 ykf (.loop yke ykl))) (.seq (.seq (.reg ykd) (.block 6 yjW (.loop yjV ykc))) (.seq (.reg yjU) .ret))))))))))),104,[.cell 2 false 1,.cell 3 false 1]⟩
abbrev ykL:List It:=[.code (.seq (.reg yjU) .ret)]
abbrev ykM (x2 x3 x7 x92 x93 x94:AV) (h:List Ob) (e:Cx:=cx):Cfg:=atC n_net_Check (.code ykc::.inLoop yjV ykc::.inBlock 6 yjW::ykL) [U,U,x2,x3,U,U,U,x7,U,U,U,U,U,U,U,U,U,U,U,U,U,U,U,U,U,U,U,U,U,U,U,U,U,U,U,U,U,U,U,U,U,U,U,U,U,U,U,U,U,U,U,U,U,U,U,U,U,U,U,U,U,U,U,U,U,U,U,U,U,U,U,U,U,U,U,U,U,U,U,U,U,U,U,U,U,U,U,U,U,U,U,U,x92,x93,x94,U,U,U,U,U,U,U,U,U] h e
abbrev ykN:List It:=[.code (.seq (.seq (.reg ykd) (.block 6 yjW (.loop yjV ykc))) (.seq (.reg yjU) .ret))]
abbrev ykO (x1 x2 x3 x7 x79 x80 x81:AV) (h:List Ob) (e:Cx:=cx):Cfg:=atC n_net_Check (.code ykl::.inLoop yke ykl::.inBlock 4 ykf::ykN) [U,x1,x2,x3,U,U,U,x7,U,U,U,U,U,U,U,U,U,U,U,U,U,U,U,U,U,U,U,U,U,U,U,U,U,U,U,U,U,U,U,U,U,U,U,U,U,U,U,U,U,U,U,U,U,U,U,U,U,U,U,U,U,U,U,U,U,U,U,U,U,U,U,U,U,U,U,U,U,U,U,x79,x80,x81,U,U,U,U,U,U,U,U,U,U,U,U,U,U,U,U,U,U,U,U,U,U] h e
abbrev ykP:List It:=[.code (.seq (.seq (.reg ykm) (.block 4 ykf (.loop yke ykl))) (.seq (.seq (.reg ykd) (.block 6 yjW (.loop yjV ykc))) (.seq (.reg yjU) .ret)))]
abbrev ykQ (x1 x2 x3 x7 x60 x61 x62:AV) (h:List Ob) (e:Cx:=cx):Cfg:=atC n_net_Check (.code yku::.inLoop ykn yku::.inBlock 2 yko::ykP) [U,x1,x2,x3,U,U,U,x7,U,U,U,U,U,U,U,U,U,U,U,U,U,U,U,U,U,U,U,U,U,U,U,U,U,U,U,U,U,U,U,U,U,U,U,U,U,U,U,U,U,U,U,U,U,U,U,U,U,U,U,U,x60,x61,x62,U,U,U,U,U,U,U,U,U,U,U,U,U,U,U,U,U,U,U,U,U,U,U,U,U,U,U,U,U,U,U,U,U,U,U,U,U,U,U,U,U] h e
abbrev ykR:List It:=[.code (.seq (.reg ykx) (.seq (.reg ykw) (.seq (.seq (.reg ykv) (.block 2 yko (.loop ykn yku))) (.seq (.seq (.reg ykm) (.block 4 ykf (.loop yke ykl))) (.seq (.seq (.reg ykd) (.block 6 yjW (.loop yjV ykc))) (.seq (.reg yjU) .ret))))))]
abbrev ykS (x1 x2 x3 x42 x43 x44:AV) (h:List Ob) (e:Cx:=cx):Cfg:=atC n_net_Check (.code ykF::.inLoop yky ykF::.inBlock 0 ykz::ykR) [U,x1,x2,x3,U,U,U,U,U,U,U,U,U,U,U,U,U,U,U,U,U,U,U,U,U,U,U,U,U,U,U,U,U,U,U,U,U,U,U,U,U,U,x42,x43,x44,U,U,U,U,U,U,U,U,U,U,U,U,U,U,U,U,U,U,U,U,U,U,U,U,U,U,U,U,U,U,U,U,U,U,U,U,U,U,U,U,U,U,U,U,U,U,U,U,U,U,U,U,U,U,U,U,U,U,U] h e
@[simp] theorem c_net_Check:cfun Tryd.prog n_net_Check=some net_Check:=by kernel_rfl
@[simp] theorem e_net_Check:hasBody Tryd.prog n_net_Check=true:=by kernel_rfl
abbrev ykT:List AG:=[zz3 5 4 2,zzf 6 n_net_Nets 5,zz1 7 1,zzg 8 n_slices_Index_string_string 6 7,zz1 4 8]
abbrev ykU:List AG:=[o 2 (.box 4 (.t 0)),zz9 4 0]
abbrev net_Place:AFun:=⟨(.seq (.reg ykU) (.seq (.reg ykT) .ret)),9,[.tmp 4]⟩
@[simp] theorem c_net_Place:cfun Tryd.prog n_net_Place=some net_Place:=by kernel_rfl
@[simp] theorem e_net_Place:hasBody Tryd.prog n_net_Place=true:=by kernel_rfl
abbrev ykV:List AG:=[zzh 4]
abbrev ykW:List Bool:=[I,I,O,O,O,I,O,O,O,O,O,O,O,O,O,O,O,O]
abbrev ykX:List Bool:=[O,O,O,O,O,O,O,O,O,O,O,O,O,O,O,O,O,O]
abbrev ykY:List AG:=[zz1 10 5,zz6 11 10 1,zz1 5 11]
abbrev ykZ:List AG:=[o 4 (.mv (.c (.bool true)))]
abbrev yla:ACode:=(.seq (.reg ykZ) .ret)
abbrev ylb:List AG:=[zz1 12 0,zz1 13 5,zz5 14 1 12 13,zz2 15 1 14,zz1 16 1,o 17 (.cmp .eql (.sc .str) (.t 15) (.t 16))]
abbrev ylc:ACode:=(.seq (.reg ylb) (.cond (.t 17) yla .skip))
abbrev yle:List AG:=[zz1 6 5,zz1 7 0,zza 8 7,zz7 9 6 8]
abbrev ylf:ACode:=(.seq (.seq (.reg yle) (.cond (.t 9) .skip (.exit 0))) (.seq (.block 1 [] ylc) (.reg ykY)))
abbrev ylg:List AG:=[zz9 5 0]
abbrev ylh:List AG:=[zzh 4]
abbrev r01_Has:AFun:=⟨(.seq (.reg ylh) (.seq (.seq (.reg ylg) (.block 0 ykX (.loop ykW ylf))) (.seq (.reg ykV) .ret))),18,[.tmp 4]⟩
abbrev yli:List It:=[.code (.seq (.reg ykV) .ret)]
abbrev ylj (x0 x1 x5:AV) (h:List Ob) (e:Cx:=cx):Cfg:=atC n_r01_Has (.code ylf::.inLoop ykW ylf::.inBlock 0 ykX::yli) [x0,x1,U,U,U,x5,U,U,U,U,U,U,U,U,U,U,U,U] h e
@[simp] theorem c_r01_Has:cfun Tryd.prog n_r01_Has=some r01_Has:=by kernel_rfl
@[simp] theorem e_r01_Has:hasBody Tryd.prog n_r01_Has=true:=by kernel_rfl
abbrev ylk:List AG:=[zz1 10 3,o 11 (.cmp .eql (.sc .int) (.t 10) (.c (.int .i64 0))),zz1 2 11]
abbrev yll:List AG:=[zz3 6 4 1,zzf 7 n_net_Check 6,zz1 5 7,zzc 8 5 0,zzc 9 5 1,zz1 3 8,zz1 4 9]
abbrev ylm:List AG:=[o 1 (.box 4 (.t 0)),zzh 2]
abbrev order_right:AFun:=⟨(.seq (.reg ylm) (.seq (.reg yll) (.seq (.reg ylk) .ret))),12,[.tmp 2]⟩
@[simp] theorem c_order_right:cfun Tryd.prog n_order_right=some order_right:=by kernel_rfl
@[simp] theorem e_order_right:hasBody Tryd.prog n_order_right=true:=by kernel_rfl
abbrev yln:List AG:=[zz1 20 3,zz1 2 20]
abbrev ylo:List Bool:=[O,O,O,I,O,O,O,O,I,I,I,O,O,O,O,O,O,O,O,O,O]
abbrev ylp:List Bool:=[O,O,O,I,O,O,O,O,O,O,O,O,O,O,O,O,O,O,O,O,O]
abbrev ylq:List AG:=[zz6 19 10 1,zz1 10 19]
abbrev ylr:List AG:=[zz1 15 3,zz4 16 0 5,zz2 17 1 16,zz1 18 4,q (.upd (.sc .str) (.t 15) (.t 17) (.t 18))]
abbrev yls:List AG:=[zz1 12 10,zz5 13 5 8 10,zz3 14 5 13,o 5 (.alloc [(.str []),(.int .i64 0),(.own 1 t_string []),(.own 1 t_string []),(.bool false)]),zz1 4 12,zzb 5 5 14]
abbrev ylt:ACode:=(.seq (.reg yls) (.reg ylr))
abbrev ylu:List AG:=[zz7 11 10 9]
abbrev ylv:ACode:=(.seq (.reg ylu) (.seq (.cond (.t 11) .skip (.exit 0)) (.seq (.block 1 [] ylt) (.reg ylq))))
abbrev ylw:List AG:=[zz4 7 3 1,zz2 8 1 7,zza 9 8,zz9 10 0]
abbrev ylx:List AG:=[o 6 (.mkMap),zz1 3 6]
abbrev yly:List AG:=[o 1 (.box 4 (.t 0)),o 2 (.mv (.c .nilm))]
abbrev order_places:AFun:=⟨(.seq (.reg yly) (.seq (.reg ylx) (.seq (.seq (.reg ylw) (.block 0 ylp (.loop ylo ylv))) (.seq (.reg yln) .ret)))),21,[.tmp 2]⟩
abbrev ylz:List It:=[.code (.seq (.reg yln) .ret)]
abbrev ylA (x3 x8 x9 x10:AV) (h:List Ob) (e:Cx:=cx):Cfg:=atC n_order_places (.code ylv::.inLoop ylo ylv::.inBlock 0 ylp::ylz) [U,U,U,x3,U,U,U,U,x8,x9,x10,U,U,U,U,U,U,U,U,U,U] h e
@[simp] theorem c_order_places:cfun Tryd.prog n_order_places=some order_places:=by kernel_rfl
@[simp] theorem e_order_places:hasBody Tryd.prog n_order_places=true:=by kernel_rfl
abbrev ylB:List AG:=[o 3 (.mkFunc (.func n_order_coming_1) [] [(.t 1)]),zz1 2 3]
abbrev ylC:List AG:=[o 1 (.box 4 (.t 0)),o 2 (.mv (.c .nilf))]
abbrev order_coming:AFun:=⟨(.seq (.reg ylC) (.seq (.reg ylB) .ret)),4,[.tmp 2]⟩
@[simp] theorem c_order_coming:cfun Tryd.prog n_order_coming=some order_coming:=by kernel_rfl
@[simp] theorem e_order_coming:hasBody Tryd.prog n_order_coming=true:=by kernel_rfl
abbrev ylD:List AG:=[zz1 10 3,o 11 (.cmp .eql (.sc .int) (.t 10) (.c (.int .i64 0))),zz1 2 11]
abbrev ylE:List AG:=[zz3 6 4 1,zzf 7 n_r06_Check 6,zz1 5 7,zzc 8 5 0,zzc 9 5 1,zz1 3 8,zz1 4 9]
abbrev ylF:List AG:=[o 1 (.box 4 (.t 0)),zzh 2]
abbrev r07_right:AFun:=⟨(.seq (.reg ylF) (.seq (.reg ylE) (.seq (.reg ylD) .ret))),12,[.tmp 2]⟩
@[simp] theorem c_r07_right:cfun Tryd.prog n_r07_right=some r07_right:=by kernel_rfl
@[simp] theorem e_r07_right:hasBody Tryd.prog n_r07_right=true:=by kernel_rfl
abbrev ylG:List AG:=[zzh 6]
abbrev ylH:List Bool:=[O,O,I,I,I,O,O,I,O,O,O,O,O,O,O,O,O,O,O,O,O,O,O,O,O,O,O,O,O,O,O,O,O,O,O,O,O,O,O,O,O,O]
abbrev ylI:List Bool:=[O,O,O,O,O,O,O,O,O,O,O,O,O,O,O,O,O,O,O,O,O,O,O,O,O,O,O,O,O,O,O,O,O,O,O,O,O,O,O,O,O,O]
abbrev ylJ:List AG:=[zz1 14 7,zz6 15 14 1,zz1 7 15]
abbrev ylK:List Bool:=[O,O,I,I,I,O,O,I,I,O,O,O,O,O,O,O,O,O,O,O,O,O,O,O,O,O,O,O,O,O,O,O,O,O,O,O,O,O,O,O,O,O]
abbrev ylL:List Bool:=[O,O,I,I,I,O,O,I,O,O,O,O,O,O,O,O,O,O,O,O,O,O,O,O,O,O,O,O,O,O,O,O,O,O,O,O,O,O,O,O,O,O]
abbrev ylM:List AG:=[zz1 21 8,zz6 22 21 1,zz1 8 22]
abbrev ylN:List AG:=[o 6 (.mv (.c (.bool true)))]
abbrev ylO:ACode:=(.seq (.reg ylN) .ret)
abbrev ylP:List AG:=[zz4 23 3 3,zz2 24 1 23,zz1 25 8,zz5 26 5 24 25,zz4 27 0 26,zz2 28 1 27,zz4 29 2 4,zz2 30 1 29,zz1 31 7,zz5 32 1 30 31,zz2 33 1 32,o 34 (.cmp .eql (.sc .str) (.t 28) (.t 33)),zz1 35 34,zze 36 35 2,zze 37 35 8,oy 38 35 (.ixAddr 1 (.t 36) (.t 37)),zzd 39 35 1 38,oy 40 35 (.not (.t 39)),zz8 41 35 40]
abbrev ylQ:ACode:=(.seq (.dreg [O,O,O,O,O,O,O,O,O,O,O,O,O,O,O,O,O,O,O] [20,20,20,20,20,20,20,20,20,20,20,20,20,20,20,20,20,20,20] ylP) (.cond (.t 41) ylO .skip))
abbrev ylR:List AG:=[zz1 16 8,zz4 17 3 3,zz2 18 1 17,zza 19 18,zz7 20 16 19]
abbrev ylS:ACode:=(.seq (.seq (.reg ylR) (.cond (.t 20) .skip (.exit 2))) (.seq (.block 3 [] ylQ) (.reg ylM)))
abbrev ylT:List AG:=[zz9 8 0]
abbrev ylU:ACode:=(.seq (.reg ylT) (.block 2 ylL (.loop ylK ylS)))
abbrev ylV:List AG:=[zz1 9 7,zz4 10 2 4,zz2 11 1 10,zza 12 11,zz7 13 9 12]
abbrev ylW:ACode:=(.seq (.seq (.reg ylV) (.cond (.t 13) .skip (.exit 0))) (.seq (.block 1 [] ylU) (.reg ylJ)))
abbrev ylX:List AG:=[zz9 7 0]
abbrev ylY:List AG:=[o 3 (.box 4 (.t 0)),o 4 (.box 5 (.t 1)),zzh 6]
abbrev r07_waits:AFun:=⟨(.seq (.reg ylY) (.seq (.seq (.reg ylX) (.block 0 ylI (.loop ylH ylW))) (.seq (.reg ylG) .ret))),42,[.tmp 6]⟩
abbrev ylZ:List It:=[.inBlock 1 [],.code (.reg ylJ),.inLoop ylH ylW,.inBlock 0 ylI,.code (.seq (.reg ylG) .ret)]
abbrev yma (x2 x3 x4 x7 x8:AV) (h:List Ob) (e:Cx:=cx):Cfg:=atC n_r07_waits (.code ylS::.inLoop ylK ylS::.inBlock 2 ylL::ylZ) [U,U,x2,x3,x4,U,U,x7,x8,U,U,U,U,U,U,U,U,U,U,U,U,U,U,U,U,U,U,U,U,U,U,U,U,U,U,U,U,U,U,U,U,U] h e
abbrev ymb (x2 x3 x4 x7:AV) (h:List Ob) (e:Cx:=cx):Cfg:=atC n_r07_waits ylZ [U,U,x2,x3,x4,U,U,x7,U,U,U,U,U,U,U,U,U,U,U,U,U,U,U,U,U,U,U,U,U,U,U,U,U,U,U,U,U,U,U,U,U,U] h e
abbrev ymc:List It:=[.code (.seq (.reg ylG) .ret)]
abbrev ymd (x2 x3 x4 x7:AV) (h:List Ob) (e:Cx:=cx):Cfg:=atC n_r07_waits (.code ylW::.inLoop ylH ylW::.inBlock 0 ylI::ymc) [U,U,x2,x3,x4,U,U,x7,U,U,U,U,U,U,U,U,U,U,U,U,U,U,U,U,U,U,U,U,U,U,U,U,U,U,U,U,U,U,U,U,U,U] h e
@[simp] theorem c_r07_waits:cfun Tryd.prog n_r07_waits=some r07_waits:=by kernel_rfl
@[simp] theorem e_r07_waits:hasBody Tryd.prog n_r07_waits=true:=by kernel_rfl
abbrev yme:List AG:=[zz9 2 0,o 3 (.mv (.c (.str [])))]
abbrev ymf:List Bool:=[O,O,O,O,O,O,I,O,O,O,O,O,O,I,I,O,O,O,O,O,O,O,O,O,O,O,O,O,O,O,O,O,O,O,O,O,O,O,O,O,O,O,O,O,O,O,O,O,O,O,O,O,O,O,O,O,O,O,O,O,O,O,O,O,O,O,O,O,O,O,O,O,O,O,O,O,O,O,O,O,O,O,O,O,O,O,O,O,O,O,O,O,O,O,O,O,O,O,O,O,O,O,O,O,O,O,O,O,O,O,O,O,O,O,O,O,O,O,O,O]
abbrev ymg:List Bool:=[O,O,O,O,O,O,O,O,O,O,O,O,O,O,O,O,O,O,O,O,O,O,O,O,O,O,O,O,O,O,O,O,O,O,O,O,O,O,O,O,O,O,O,O,O,O,O,O,O,O,O,O,O,O,O,O,O,O,O,O,O,O,O,O,O,O,O,O,O,O,O,O,O,O,O,O,O,O,O,O,O,O,O,O,O,O,O,O,O,O,O,O,O,O,O,O,O,O,O,O,O,O,O,O,O,O,O,O,O,O,O,O,O,O,O,O,O,O,O,O]
abbrev ymh:List AG:=[zz1 107 14,zz6 108 107 1,zz1 14 108]
abbrev ymi:List AG:=[zz1 116 13,zz1 117 14,zz5 118 1 116 117,zz2 119 1 118,zz9 2 6,zz1 3 119]
abbrev ymj:ACode:=(.seq (.dreg [O,O,O,O,O,O] [7,7,7,7,7,7] ymi) .ret)
abbrev ymk:List AG:=[zz1 109 6,zz1 110 13,zz1 111 14,zz5 112 1 110 111,zz2 113 1 112,zzg 114 n_r01_Has 109 113,o 115 (.not (.t 114))]
abbrev yml:ACode:=(.seq (.reg ymk) (.cond (.t 115) ymj .skip))
abbrev ymm:List AG:=[zz1 103 14,zz1 104 13,zza 105 104,zz7 106 103 105]
abbrev ymn:ACode:=(.seq (.seq (.reg ymm) (.cond (.t 106) .skip (.exit 6))) (.seq (.block 7 [] yml) (.reg ymh)))
abbrev ymo:List AG:=[zz9 14 0]
abbrev ymp:List AG:=[zz3 101 4 1,zzf 102 n_r06_Used 101,zz1 13 102]
abbrev ymq:List Bool:=[O,I,O,O,O,O,I,O,O,O,O,O,I,O,O,O,O,O,O,O,O,O,O,O,O,O,O,O,O,O,O,O,O,O,O,O,O,O,O,O,O,O,O,O,O,O,O,O,O,O,O,O,O,O,O,O,O,O,O,O,O,O,O,O,O,O,O,O,O,O,O,O,O,O,O,O,O,O,O,O,O,O,O,O,O,O,O,O,O,O,O,O,O,O,O,O,O,O,O,O,O,O,O,O,O,O,O,O,O,O,O,O,O,O,O,O,O,O,O,O]
abbrev ymr:List Bool:=[O,I,O,O,O,O,I,O,O,O,O,O,O,O,O,O,O,O,O,O,O,O,O,O,O,O,O,O,O,O,O,O,O,O,O,O,O,O,O,O,O,O,O,O,O,O,O,O,O,O,O,O,O,O,O,O,O,O,O,O,O,O,O,O,O,O,O,O,O,O,O,O,O,O,O,O,O,O,O,O,O,O,O,O,O,O,O,O,O,O,O,O,O,O,O,O,O,O,O,O,O,O,O,O,O,O,O,O,O,O,O,O,O,O,O,O,O,O,O,O]
abbrev yms:List AG:=[zz1 86 12,zz6 87 86 1,zz1 12 87]
abbrev ymt:List AG:=[zz4 95 3 1,zz2 96 1 95,zz1 97 12,zz5 98 5 96 97,zz4 99 0 98,zz2 100 1 99,zz9 2 1,zz1 3 100]
abbrev ymu:ACode:=(.seq (.dreg [O,O,O,O,O,O,O,O] [9,9,9,9,9,9,9,9] ymt) .ret)
abbrev ymv:List AG:=[zz4 88 3 1,zz2 89 1 88,zz1 90 12,zz5 91 5 89 90,zz3 92 5 91,zzf 93 n_r06_Gate 92,o 94 (.not (.t 93))]
abbrev ymw:ACode:=(.seq (.reg ymv) (.cond (.t 94) ymu .skip))
abbrev ymx:List AG:=[zz1 81 12,zz4 82 3 1,zz2 83 1 82,zza 84 83,zz7 85 81 84]
abbrev ymy:ACode:=(.seq (.seq (.reg ymx) (.cond (.t 85) .skip (.exit 4))) (.seq (.block 5 [] ymw) (.reg yms)))
abbrev ymz:List AG:=[zz9 12 0]
abbrev ymA:List Bool:=[O,I,O,O,O,O,I,O,O,O,O,I,O,O,O,O,O,O,O,O,O,O,O,O,O,O,O,O,O,O,O,O,O,O,O,O,O,O,O,O,O,O,O,O,O,O,O,O,O,O,O,O,O,O,O,O,O,O,O,O,O,O,O,O,O,O,O,O,O,O,O,O,O,O,O,O,O,O,O,O,O,O,O,O,O,O,O,O,O,O,O,O,O,O,O,O,O,O,O,O,O,O,O,O,O,O,O,O,O,O,O,O,O,O,O,O,O,O,O,O]
abbrev ymB:List Bool:=[O,I,O,O,O,O,I,O,O,O,O,O,O,O,O,O,O,O,O,O,O,O,O,O,O,O,O,O,O,O,O,O,O,O,O,O,O,O,O,O,O,O,O,O,O,O,O,O,O,O,O,O,O,O,O,O,O,O,O,O,O,O,O,O,O,O,O,O,O,O,O,O,O,O,O,O,O,O,O,O,O,O,O,O,O,O,O,O,O,O,O,O,O,O,O,O,O,O,O,O,O,O,O,O,O,O,O,O,O,O,O,O,O,O,O,O,O,O,O,O]
abbrev ymC:List AG:=[zz1 57 11,zz6 58 57 1,zz1 11 58]
abbrev ymD:List AG:=[zz4 75 2 1,zz2 76 1 75,zz1 77 11,zz5 78 3 76 77,zz4 79 0 78,zz2 80 1 79,zz9 2 1,zz1 3 80]
abbrev ymE:ACode:=(.seq (.dreg [O,O,O,O,O,O,O,O] [9,9,9,9,9,9,9,9] ymD) .ret)
abbrev ymF:List AG:=[zz4 59 2 1,zz2 60 1 59,zz1 61 11,zz5 62 3 60 61,zz4 63 2 62,zz2 64 1 63,o 65 (.cmp .lss (.sc .int) (.t 64) (.c (.int .i64 0))),zz1 66 65,on 67 66 (.off 2 (.t 1)),on 68 66 (.load false 1 (.t 67)),on 69 66 (.mv (.t 11)),on 70 66 (.ixAddr 3 (.t 68) (.t 69)),on 71 66 (.off 2 (.t 70)),on 72 66 (.load false 1 (.t 71)),on 73 66 (.cmp .gtr (.sc .int) (.t 72) (.c (.int .i64 2))),o 74 (.pick (.t 66) (.c (.bool true)) (.t 73))]
abbrev ymG:ACode:=(.seq (.reg ymF) (.cond (.t 74) ymE .skip))
abbrev ymH:List AG:=[zz1 52 11,zz4 53 2 1,zz2 54 1 53,zza 55 54,zz7 56 52 55]
abbrev ymI:ACode:=(.seq (.seq (.reg ymH) (.cond (.t 56) .skip (.exit 2))) (.seq (.block 3 [] ymG) (.reg ymC)))
abbrev ymJ:List AG:=[zz9 11 0]
abbrev ymK:List AG:=[zz1 51 9,zz9 2 5,zz1 3 51]
abbrev ymL:ACode:=(.seq (.reg ymK) .ret)
abbrev ymM:List AG:=[zz1 50 10]
abbrev ymN:List AG:=[zz4 45 1 1,zz2 46 1 45,zzf 47 n_r06_twice 46,zz1 44 47,zzc 48 44 0,zzc 49 44 1,zz1 9 48,zz1 10 49]
abbrev ymO:List AG:=[zz1 43 7,zz9 2 5,zz1 3 43]
abbrev ymP:ACode:=(.seq (.reg ymO) .ret)
abbrev ymQ:List AG:=[zz1 42 8]
abbrev ymR:List AG:=[zz1 38 6,zzf 39 n_r06_twice 38,zz1 37 39,zzc 40 37 0,zzc 41 37 1,zz1 7 40,zz1 8 41]
abbrev ymS:List AG:=[zz3 35 4 1,zzf 36 n_r06_Nets 35,zz1 6 36]
abbrev ymT:List Bool:=[O,I,O,O,I,I,O,O,O,O,O,O,O,O,O,O,O,O,O,O,O,O,O,O,O,O,O,O,O,O,O,O,O,O,O,O,O,O,O,O,O,O,O,O,O,O,O,O,O,O,O,O,O,O,O,O,O,O,O,O,O,O,O,O,O,O,O,O,O,O,O,O,O,O,O,O,O,O,O,O,O,O,O,O,O,O,O,O,O,O,O,O,O,O,O,O,O,O,O,O,O,O,O,O,O,O,O,O,O,O,O,O,O,O,O,O,O,O,O,O]
abbrev ymU:List Bool:=[O,I,O,O,O,O,O,O,O,O,O,O,O,O,O,O,O,O,O,O,O,O,O,O,O,O,O,O,O,O,O,O,O,O,O,O,O,O,O,O,O,O,O,O,O,O,O,O,O,O,O,O,O,O,O,O,O,O,O,O,O,O,O,O,O,O,O,O,O,O,O,O,O,O,O,O,O,O,O,O,O,O,O,O,O,O,O,O,O,O,O,O,O,O,O,O,O,O,O,O,O,O,O,O,O,O,O,O,O,O,O,O,O,O,O,O,O,O,O,O]
abbrev ymV:List AG:=[zz1 23 5,zz6 24 23 1,zz1 5 24]
abbrev ymW:List AG:=[zz1 31 4,zz1 32 5,zz5 33 1 31 32,zz2 34 1 33,zz9 2 4,zz1 3 34]
abbrev ymX:ACode:=(.seq (.dreg [O,O,O,O,O,O] [7,7,7,7,7,7] ymW) .ret)
abbrev ymY:List AG:=[zz1 25 4,zz1 26 5,zz5 27 1 25 26,zz2 28 1 27,zzf 29 n_r04_Name 28,o 30 (.not (.t 29))]
abbrev ymZ:ACode:=(.seq (.reg ymY) (.cond (.t 30) ymX .skip))
abbrev yna:List AG:=[zz1 19 5,zz1 20 4,zza 21 20,zz7 22 19 21]
abbrev ynb:ACode:=(.seq (.seq (.reg yna) (.cond (.t 22) .skip (.exit 0))) (.seq (.block 1 [] ymZ) (.reg ymV)))
abbrev ync:List AG:=[zz9 5 0]
abbrev ynd:List AG:=[zz3 17 4 1,zzf 18 n_r06_Told 17,zz1 4 18]
abbrev yne:List AG:=[zz9 2 8,o 3 (.mv (.c (.str [])))]
abbrev ynf:ACode:=(.seq (.reg yne) .ret)
abbrev yng:List AG:=[zz3 15 4 1,zzf 16 n_r06_limit 15]
abbrev ynh:List AG:=[o 1 (.box 4 (.t 0)),zz9 2 0,o 3 (.mv (.c (.str [])))]
abbrev r06_Check:AFun:=⟨(.seq (.reg ynh) (.seq (.seq (.reg yng) (.cond (.t 16) ynf .skip)) (.seq (.reg ynd) (.seq (.seq (.reg ync) (.block 0 ymU (.loop ymT ynb))) (.seq (.reg ymS) (.seq (.reg ymR) (.seq (.seq (.reg ymQ) (.cond (.t 42) ymP .skip)) (.seq (.reg ymN) (.seq (.seq (.reg ymM) (.cond (.t 50) ymL .skip)) (.seq (.seq (.reg ymJ) (.block 2 ymB (.loop ymA ymI))) (.seq (.seq (.reg ymz) (.block 4 ymr (.loop ymq ymy))) (.seq (.reg ymp) (.seq (.seq (.reg ymo) (.block 6 ymg (.loop ymf ymn))) (.seq (.reg yme) .ret)))))))))))))),120,[.tmp 2,.tmp 3]⟩
abbrev yni:List It:=[.code (.seq (.reg yme) .ret)]
abbrev ynj (x6 x13 x14:AV) (h:List Ob) (e:Cx:=cx):Cfg:=atC n_r06_Check (.code ymn::.inLoop ymf ymn::.inBlock 6 ymg::yni) [U,U,U,U,U,U,x6,U,U,U,U,U,U,x13,x14,U,U,U,U,U,U,U,U,U,U,U,U,U,U,U,U,U,U,U,U,U,U,U,U,U,U,U,U,U,U,U,U,U,U,U,U,U,U,U,U,U,U,U,U,U,U,U,U,U,U,U,U,U,U,U,U,U,U,U,U,U,U,U,U,U,U,U,U,U,U,U,U,U,U,U,U,U,U,U,U,U,U,U,U,U,U,U,U,U,U,U,U,U,U,U,U,U,U,U,U,U,U,U,U,U] h e
abbrev ynk:List It:=[.code (.seq (.reg ymp) (.seq (.seq (.reg ymo) (.block 6 ymg (.loop ymf ymn))) (.seq (.reg yme) .ret)))]
abbrev ynl (x1 x6 x12:AV) (h:List Ob) (e:Cx:=cx):Cfg:=atC n_r06_Check (.code ymy::.inLoop ymq ymy::.inBlock 4 ymr::ynk) [U,x1,U,U,U,U,x6,U,U,U,U,U,x12,U,U,U,U,U,U,U,U,U,U,U,U,U,U,U,U,U,U,U,U,U,U,U,U,U,U,U,U,U,U,U,U,U,U,U,U,U,U,U,U,U,U,U,U,U,U,U,U,U,U,U,U,U,U,U,U,U,U,U,U,U,U,U,U,U,U,U,U,U,U,U,U,U,U,U,U,U,U,U,U,U,U,U,U,U,U,U,U,U,U,U,U,U,U,U,U,U,U,U,U,U,U,U,U,U,U,U] h e
abbrev ynm:List It:=[.code (.seq (.seq (.reg ymz) (.block 4 ymr (.loop ymq ymy))) (.seq (.reg ymp) (.seq (.seq (.reg ymo) (.block 6 ymg (.loop ymf ymn))) (.seq (.reg yme) .ret))))]
abbrev ynn (x1 x6 x11:AV) (h:List Ob) (e:Cx:=cx):Cfg:=atC n_r06_Check (.code ymI::.inLoop ymA ymI::.inBlock 2 ymB::ynm) [U,x1,U,U,U,U,x6,U,U,U,U,x11,U,U,U,U,U,U,U,U,U,U,U,U,U,U,U,U,U,U,U,U,U,U,U,U,U,U,U,U,U,U,U,U,U,U,U,U,U,U,U,U,U,U,U,U,U,U,U,U,U,U,U,U,U,U,U,U,U,U,U,U,U,U,U,U,U,U,U,U,U,U,U,U,U,U,U,U,U,U,U,U,U,U,U,U,U,U,U,U,U,U,U,U,U,U,U,U,U,U,U,U,U,U,U,U,U,U,U,U] h e
abbrev yno:List It:=[.code (.seq (.reg ymS) (.seq (.reg ymR) (.seq (.seq (.reg ymQ) (.cond (.t 42) ymP .skip)) (.seq (.reg ymN) (.seq (.seq (.reg ymM) (.cond (.t 50) ymL .skip)) (.seq (.seq (.reg ymJ) (.block 2 ymB (.loop ymA ymI))) (.seq (.seq (.reg ymz) (.block 4 ymr (.loop ymq ymy))) (.seq (.reg ymp) (.seq (.seq (.reg ymo) (.block 6 ymg (.loop ymf ymn))) (.seq (.reg yme) .ret))))))))))]
abbrev ynp (x1 x4 x5:AV) (h:List Ob) (e:Cx:=cx):Cfg:=atC n_r06_Check (.code ynb::.inLoop ymT ynb::.inBlock 0 ymU::yno) [U,x1,U,U,x4,x5,U,U,U,U,U,U,U,U,U,U,U,U,U,U,U,U,U,U,U,U,U,U,U,U,U,U,U,U,U,U,U,U,U,U,U,U,U,U,U,U,U,U,U,U,U,U,U,U,U,U,U,U,U,U,U,U,U,U,U,U,U,U,U,U,U,U,U,U,U,U,U,U,U,U,U,U,U,U,U,U,U,U,U,U,U,U,U,U,U,U,U,U,U,U,U,U,U,U,U,U,U,U,U,U,U,U,U,U,U,U,U,U,U,U] h e
@[simp] theorem c_r06_Check:cfun Tryd.prog n_r06_Check=some r06_Check:=by kernel_rfl
@[simp] theorem e_r06_Check:hasBody Tryd.prog n_r06_Check=true:=by kernel_rfl
abbrev ynq:List AG:=[zz3 79 2 4,zzb 2 2 79]
abbrev ynr:List Bool:=[O,O,I,I,I,O,O,O,O,O,O,O,O,O,O,O,O,O,O,O,O,O,O,I,I,I,O,O,O,O,O,O,O,O,O,O,O,O,O,O,O,O,O,O,O,O,O,O,O,O,O,O,O,O,O,O,O,O,O,O,O,O,O,O,O,O,O,O,O,O,O,O,O,O,O,O,O,O,O,O]
abbrev yns:List Bool:=[O,O,I,O,I,O,O,O,O,O,O,O,O,O,O,O,O,O,O,O,O,O,O,O,O,O,O,O,O,O,O,O,O,O,O,O,O,O,O,O,O,O,O,O,O,O,O,O,O,O,O,O,O,O,O,O,O,O,O,O,O,O,O,O,O,O,O,O,O,O,O,O,O,O,O,O,O,O,O,O]
abbrev ynt:List AG:=[zz6 78 25 1,zz1 25 78]
abbrev ynu:List Bool:=[O,O,I,I,I,I,O,O,O,O,O,O,O,O,O,O,O,O,O,O,O,O,O,I,I,I,O,O,O,O,O,O,O,O,O,O,I,I,I,O,O,O,O,O,O,O,O,O,O,O,O,O,O,O,O,O,O,O,O,O,O,O,O,O,O,O,O,O,O,O,O,O,O,O,O,O,O,O,O,O]
abbrev ynv:List Bool:=[O,O,I,I,I,O,O,O,O,O,O,O,O,O,O,O,O,O,O,O,O,O,O,I,I,I,O,O,O,O,O,O,O,O,O,O,O,O,O,O,O,O,O,O,O,O,O,O,O,O,O,O,O,O,O,O,O,O,O,O,O,O,O,O,O,O,O,O,O,O,O,O,O,O,O,O,O,O,O,O]
abbrev ynw:List AG:=[zz6 77 38 1,zz1 38 77]
abbrev ynx:List AG:=[zz4 65 1 4,zz2 66 1 65,zz1 67 9,zz4 68 1 4,zz2 69 1 68,zz1 70 9,zz5 71 1 69 70,zz2 72 1 71,zz1 73 5,o 74 (.lit 1 [(.int .i64 0)] [(0,(.t 73))]),o 75 (.append 1 t_int 8 (.t 72) (.t 74)),zz5 76 1 66 67,zzb 1 76 75]
abbrev yny:List AG:=[zz4 59 0 4,zz2 60 1 59,zz1 61 5,zz5 62 1 60 61,zz2 63 1 62,zz1 64 9,q (.upd (.sc .int) (.t 63) (.t 64) (.c (.bool true)))]
abbrev ynz:ACode:=(.seq (.reg yny) (.dreg [O,I,O,O,I,O,O,I,O,O,O,O,O] [13,13,13,11,11,11,11,11,10,11,13,13,14] ynx))
abbrev ynA:List AG:=[zz1 48 10,zz1 49 48,oy 50 49 (.off 0 (.t 4)),zzd 51 49 1 50,zze 52 49 5,oy 53 49 (.ixAddr 1 (.t 51) (.t 52)),zzd 54 49 1 53,zze 55 49 9,oy 56 49 (.lookup (.sc .int) (.bool false) (.t 54) (.t 55) false),oy 57 49 (.not (.t 56)),zz8 58 49 57]
abbrev ynB:List AG:=[zz1 43 3,zz1 44 8,o 45 (.lookup (.sc .str) (.int .i64 0) (.t 43) (.t 44) true),zz1 42 45,zzc 46 42 0,zzc 47 42 1,zz1 9 46,zz1 10 47]
abbrev ynC:List AG:=[zz5 40 1 36 38,zz2 41 1 40,zz1 8 41]
abbrev ynD:ACode:=(.seq (.reg ynC) (.seq (.reg ynB) (.seq (.reg ynA) (.cond (.t 58) ynz .skip))))
abbrev ynE:List AG:=[zz7 39 38 37]
abbrev ynF:ACode:=(.seq (.reg ynE) (.seq (.cond (.t 39) .skip (.exit 2)) (.seq (.block 3 [] ynD) (.reg ynw))))
abbrev ynG:List AG:=[zz4 35 2 6,zz2 36 1 35,zza 37 36,zz9 38 0]
abbrev ynH:List AG:=[zz4 30 0 4,zz2 31 1 30,zz1 32 5,o 33 (.mkMap),zz5 34 1 31 32,zzb 1 34 33]
abbrev ynI:List AG:=[zz1 27 25,zz5 28 5 23 25,zz3 29 5 28,o 6 (.alloc [(.str []),(.int .i64 0),(.own 1 t_string []),(.own 1 t_string []),(.bool false)]),zz1 5 27,zzb 5 6 29]
abbrev ynJ:ACode:=(.seq (.reg ynI) (.seq (.reg ynH) (.seq (.reg ynG) (.block 2 ynv (.loop ynu ynF)))))
abbrev ynK:List AG:=[zz7 26 25 24]
abbrev ynL:ACode:=(.seq (.reg ynK) (.seq (.cond (.t 26) .skip (.exit 0)) (.seq (.block 1 [] ynJ) (.reg ynt))))
abbrev ynM:List AG:=[zz4 22 3 1,zz2 23 1 22,zza 24 23,zz9 25 0]
abbrev ynN:List AG:=[zz4 13 3 1,zz2 14 1 13,zza 15 14,o 16 (.mkSlice 1 t_map_int_bool_2 8 .nilm (.t 15) (.t 15)),zz4 17 3 1,zz2 18 1 17,zza 19 18,o 20 (.mkSlice 1 t_int_2 24 (.list true 0 []) (.t 19) (.t 19)),o 21 (.build [(.list true 0 []),(.list true 0 [])] [(0,1,(.t 16)),(1,1,(.t 20))]),o 4 (.alloc [(.own 1 t_map_int_bool_2 []),(.own 1 t_int_2 [])]),zzb 2 4 21]
abbrev ynO:List AG:=[zz3 11 4 1,zzf 12 n_order_places 11,zz1 3 12]
abbrev ynP:List AG:=[o 1 (.box 4 (.t 0)),o 2 (.alloc [(.own 1 t_map_int_bool_2 []),(.own 1 t_int_2 [])])]
abbrev order_wait:AFun:=⟨(.seq (.reg ynP) (.seq (.reg ynO) (.seq (.oreg [[],[0],[1],[2,2],[],[4],[5],[6,6],[3,7],[],[9,8,0,1,2,3,4,5,6,7,8,9]] ynN) (.seq (.seq (.reg ynM) (.block 0 yns (.loop ynr ynL))) (.seq (.reg ynq) .ret))))),80,[.cell 2 true 2]⟩
abbrev ynQ:List It:=[.inBlock 1 [],.code (.reg ynt),.inLoop ynr ynL,.inBlock 0 yns,.code (.seq (.reg ynq) .ret)]
abbrev ynR (x2 x3 x4 x5 x23 x24 x25 x36 x37 x38:AV) (h:List Ob) (e:Cx:=cx):Cfg:=atC n_order_wait (.code ynF::.inLoop ynu ynF::.inBlock 2 ynv::ynQ) [U,U,x2,x3,x4,x5,U,U,U,U,U,U,U,U,U,U,U,U,U,U,U,U,U,x23,x24,x25,U,U,U,U,U,U,U,U,U,U,x36,x37,x38,U,U,U,U,U,U,U,U,U,U,U,U,U,U,U,U,U,U,U,U,U,U,U,U,U,U,U,U,U,U,U,U,U,U,U,U,U,U,U,U,U] h e
abbrev ynS (x2 x3 x4 x23 x24 x25:AV) (h:List Ob) (e:Cx:=cx):Cfg:=atC n_order_wait ynQ [U,U,x2,x3,x4,U,U,U,U,U,U,U,U,U,U,U,U,U,U,U,U,U,U,x23,x24,x25,U,U,U,U,U,U,U,U,U,U,U,U,U,U,U,U,U,U,U,U,U,U,U,U,U,U,U,U,U,U,U,U,U,U,U,U,U,U,U,U,U,U,U,U,U,U,U,U,U,U,U,U,U,U] h e
abbrev ynT:List It:=[.code (.seq (.reg ynq) .ret)]
abbrev ynU (x2 x3 x4 x23 x24 x25:AV) (h:List Ob) (e:Cx:=cx):Cfg:=atC n_order_wait (.code ynL::.inLoop ynr ynL::.inBlock 0 yns::ynT) [U,U,x2,x3,x4,U,U,U,U,U,U,U,U,U,U,U,U,U,U,U,U,U,U,x23,x24,x25,U,U,U,U,U,U,U,U,U,U,U,U,U,U,U,U,U,U,U,U,U,U,U,U,U,U,U,U,U,U,U,U,U,U,U,U,U,U,U,U,U,U,U,U,U,U,U,U,U,U,U,U,U,U] h e
@[simp] theorem c_order_wait:cfun Tryd.prog n_order_wait=some order_wait:=by kernel_rfl
@[simp] theorem e_order_wait:hasBody Tryd.prog n_order_wait=true:=by kernel_rfl
abbrev ynV:List AG:=[o 5 (.lit 1 [] []),zz1 6 0,o 7 (.append 1 t_string 16 (.t 5) (.t 6)),zz1 2 7]
abbrev ynW:List AG:=[o 2 (.nilrow 1 t_string)]
abbrev ynX:ACode:=(.seq (.reg ynW) .ret)
abbrev ynY:List AG:=[zz1 3 0,o 4 (.isnil false (.t 3))]
abbrev ynZ:List AG:=[o 2 (.nilrow 1 t_string)]
abbrev slices_Clone_string_string:AFun:=⟨(.seq (.reg ynZ) (.seq (.seq (.reg ynY) (.cond (.t 4) ynX .skip)) (.seq (.reg ynV) .ret))),8,[.tmp 2]⟩
@[simp] theorem c_slices_Clone_string_string:cfun Tryd.prog n_slices_Clone_string_string=some slices_Clone_string_string:=by kernel_rfl
@[simp] theorem e_slices_Clone_string_string:hasBody Tryd.prog n_slices_Clone_string_string=true:=by kernel_rfl
abbrev yoa:List AG:=[zz1 37 3,zz1 2 37]
abbrev yob:List Bool:=[O,O,O,I,O,O,O,O,O,O,O,O,O,O,O,O,O,O,O,O,O,O,O,O,O,I,I,I,O,O,O,O,O,O,O,O,O,O]
abbrev yoc:List Bool:=[O,O,O,I,O,O,O,O,O,O,O,O,O,O,O,O,O,O,O,O,O,O,O,O,O,O,O,O,O,O,O,O,O,O,O,O,O,O]
abbrev yod:List AG:=[zz6 36 27 1,zz1 27 36]
abbrev yoe:List AG:=[zz1 31 3,zz4 32 0 7,zz2 33 1 32,o 34 (.lit 1 [(.str [])] [(0,(.t 33))]),o 35 (.append 1 t_string 16 (.t 31) (.t 34)),zz1 3 35]
abbrev yof:List AG:=[zz5 29 5 25 27,zz3 30 5 29,o 7 (.alloc [(.str []),(.int .i64 0),(.own 1 t_string []),(.own 1 t_string []),(.bool false)]),zzb 5 7 30]
abbrev yog:ACode:=(.seq (.reg yof) (.reg yoe))
abbrev yoh:List AG:=[zz7 28 27 26]
abbrev yoi:ACode:=(.seq (.reg yoh) (.seq (.cond (.t 28) .skip (.exit 2)) (.seq (.block 3 [] yog) (.reg yod))))
abbrev yoj:List AG:=[zz4 24 3 1,zz2 25 1 24,zza 26 25,zz9 27 0]
abbrev yok:List Bool:=[O,I,O,I,O,O,O,O,O,O,O,O,I,I,I,O,O,O,O,O,O,O,O,O,O,O,O,O,O,O,O,O,O,O,O,O,O,O]
abbrev yol:List Bool:=[O,I,O,I,O,O,O,O,O,O,O,O,O,O,O,O,O,O,O,O,O,O,O,O,O,O,O,O,O,O,O,O,O,O,O,O,O,O]
abbrev yom:List AG:=[zz6 23 14 1,zz1 14 23]
abbrev yon:List AG:=[zz1 18 3,zz4 19 0 5,zz2 20 1 19,o 21 (.lit 1 [(.str [])] [(0,(.t 20))]),o 22 (.append 1 t_string 16 (.t 18) (.t 21)),zz1 3 22]
abbrev yoo:List AG:=[zz5 16 3 12 14,zz3 17 3 16,o 5 (.alloc [(.str []),(.str []),(.int .i64 0)]),zzb 3 5 17]
abbrev yop:ACode:=(.seq (.reg yoo) (.reg yon))
abbrev yoq:List AG:=[zz7 15 14 13]
abbrev yor:ACode:=(.seq (.reg yoq) (.seq (.cond (.t 15) .skip (.exit 0)) (.seq (.block 1 [] yop) (.reg yom))))
abbrev yos:List AG:=[zz4 11 2 1,zz2 12 1 11,zza 13 12,zz9 14 0]
abbrev yot:List AG:=[zz4 8 0 1,zz2 9 1 8,zzf 10 n_slices_Clone_string_string 9,zz1 3 10]
abbrev you:List AG:=[o 1 (.box 4 (.t 0)),o 2 (.nilrow 1 t_string)]
abbrev net_Nets:AFun:=⟨(.seq (.reg you) (.seq (.reg yot) (.seq (.seq (.reg yos) (.block 0 yol (.loop yok yor))) (.seq (.seq (.reg yoj) (.block 2 yoc (.loop yob yoi))) (.seq (.reg yoa) .ret))))),38,[.tmp 2]⟩
abbrev yov:List It:=[.code (.seq (.reg yoa) .ret)]
abbrev yow (x3 x25 x26 x27:AV) (h:List Ob) (e:Cx:=cx):Cfg:=atC n_net_Nets (.code yoi::.inLoop yob yoi::.inBlock 2 yoc::yov) [U,U,U,x3,U,U,U,U,U,U,U,U,U,U,U,U,U,U,U,U,U,U,U,U,U,x25,x26,x27,U,U,U,U,U,U,U,U,U,U] h e
abbrev yox:List It:=[.code (.seq (.seq (.reg yoj) (.block 2 yoc (.loop yob yoi))) (.seq (.reg yoa) .ret))]
abbrev yoy (x1 x3 x12 x13 x14:AV) (h:List Ob) (e:Cx:=cx):Cfg:=atC n_net_Nets (.code yor::.inLoop yok yor::.inBlock 0 yol::yox) [U,x1,U,x3,U,U,U,U,U,U,U,U,x12,x13,x14,U,U,U,U,U,U,U,U,U,U,U,U,U,U,U,U,U,U,U,U,U,U,U] h e
@[simp] theorem c_net_Nets:cfun Tryd.prog n_net_Nets=some net_Nets:=by kernel_rfl
@[simp] theorem e_net_Nets:hasBody Tryd.prog n_net_Nets=true:=by kernel_rfl
abbrev yoz:List AG:=[zz1 42 3,zz1 2 42]
abbrev yoA:List Bool:=[O,I,O,I,O,I,O,O,O,O,O,O,O,O,O,O,O,O,O,O,O,O,O,O,O,O,O,O,O,O,O,O,O,O,O,O,O,O,O,O,O,O,O]
abbrev yoB:List Bool:=[O,O,O,I,O,O,O,O,O,O,O,O,O,O,O,O,O,O,O,O,O,O,O,O,O,O,O,O,O,O,O,O,O,O,O,O,O,O,O,O,O,O,O]
abbrev yoC:List AG:=[zz1 31 5,zz6 32 31 1,zz1 5 32]
abbrev yoD:List AG:=[zz1 33 3,zz4 34 3 1,zz2 35 1 34,zz1 36 5,zz5 37 5 35 36,zz4 38 0 37,zz2 39 1 38,o 40 (.lit 1 [(.str [])] [(0,(.t 39))]),o 41 (.append 1 t_string 16 (.t 33) (.t 40)),zz1 3 41]
abbrev yoE:List AG:=[zz1 26 5,zz4 27 3 1,zz2 28 1 27,zza 29 28,zz7 30 26 29]
abbrev yoF:ACode:=(.seq (.seq (.reg yoE) (.cond (.t 30) .skip (.exit 2))) (.seq (.block 3 [] (.reg yoD)) (.reg yoC)))
abbrev yoG:List AG:=[zz9 5 0]
abbrev yoH:List Bool:=[O,I,O,I,I,O,O,O,O,O,O,O,O,O,O,O,O,O,O,O,O,O,O,O,O,O,O,O,O,O,O,O,O,O,O,O,O,O,O,O,O,O,O]
abbrev yoI:List Bool:=[O,I,O,I,O,O,O,O,O,O,O,O,O,O,O,O,O,O,O,O,O,O,O,O,O,O,O,O,O,O,O,O,O,O,O,O,O,O,O,O,O,O,O]
abbrev yoJ:List AG:=[zz1 15 4,zz6 16 15 1,zz1 4 16]
abbrev yoK:List AG:=[zz1 17 3,zz4 18 2 1,zz2 19 1 18,zz1 20 4,zz5 21 3 19 20,zz4 22 0 21,zz2 23 1 22,o 24 (.lit 1 [(.str [])] [(0,(.t 23))]),o 25 (.append 1 t_string 16 (.t 17) (.t 24)),zz1 3 25]
abbrev yoL:List AG:=[zz1 10 4,zz4 11 2 1,zz2 12 1 11,zza 13 12,zz7 14 10 13]
abbrev yoM:ACode:=(.seq (.seq (.reg yoL) (.cond (.t 14) .skip (.exit 0))) (.seq (.block 1 [] (.reg yoK)) (.reg yoJ)))
abbrev yoN:List AG:=[zz9 4 0]
abbrev yoO:List AG:=[zz1 6 3,zz4 7 0 1,zz2 8 1 7,o 9 (.append 1 t_string 16 (.t 6) (.t 8)),zz1 3 9]
abbrev yoP:List AG:=[o 3 (.nilrow 1 t_string)]
abbrev yoQ:List AG:=[o 1 (.box 4 (.t 0)),o 2 (.nilrow 1 t_string)]
abbrev r06_Nets:AFun:=⟨(.seq (.reg yoQ) (.seq (.reg yoP) (.seq (.reg yoO) (.seq (.seq (.reg yoN) (.block 0 yoI (.loop yoH yoM))) (.seq (.seq (.reg yoG) (.block 2 yoB (.loop yoA yoF))) (.seq (.reg yoz) .ret)))))),43,[.tmp 2]⟩
abbrev yoR:List It:=[.code (.seq (.reg yoz) .ret)]
abbrev yoS (x1 x3 x5:AV) (h:List Ob) (e:Cx:=cx):Cfg:=atC n_r06_Nets (.code yoF::.inLoop yoA yoF::.inBlock 2 yoB::yoR) [U,x1,U,x3,U,x5,U,U,U,U,U,U,U,U,U,U,U,U,U,U,U,U,U,U,U,U,U,U,U,U,U,U,U,U,U,U,U,U,U,U,U,U,U] h e
abbrev yoT:List It:=[.code (.seq (.seq (.reg yoG) (.block 2 yoB (.loop yoA yoF))) (.seq (.reg yoz) .ret))]
abbrev yoU (x1 x3 x4:AV) (h:List Ob) (e:Cx:=cx):Cfg:=atC n_r06_Nets (.code yoM::.inLoop yoH yoM::.inBlock 0 yoI::yoT) [U,x1,U,x3,x4,U,U,U,U,U,U,U,U,U,U,U,U,U,U,U,U,U,U,U,U,U,U,U,U,U,U,U,U,U,U,U,U,U,U,U,U,U,U] h e
@[simp] theorem c_r06_Nets:cfun Tryd.prog n_r06_Nets=some r06_Nets:=by kernel_rfl
@[simp] theorem e_r06_Nets:hasBody Tryd.prog n_r06_Nets=true:=by kernel_rfl
abbrev yoV:List AG:=[zz1 5 0,zz1 6 1,zzg 7 n_slices_Index_string_string 5 6,o 8 (.cmp .geq (.sc .int) (.t 7) (.c (.int .i64 0))),zz1 4 8]
abbrev yoW:List AG:=[zzh 4]
abbrev slices_Contains_string_string:AFun:=⟨(.seq (.reg yoW) (.seq (.reg yoV) .ret)),9,[.tmp 4]⟩
@[simp] theorem c_slices_Contains_string_string:cfun Tryd.prog n_slices_Contains_string_string=some slices_Contains_string_string:=by kernel_rfl
@[simp] theorem e_slices_Contains_string_string:hasBody Tryd.prog n_slices_Contains_string_string=true:=by kernel_rfl
abbrev yoX:List AG:=[zz1 11 3,zz1 12 11,zze 13 12 4,zz8 14 12 13,zz1 15 14,oy 16 15 (.off 0 (.t 1)),zzd 17 15 1 16,oy 18 15 (.lenStr (.t 17)),oy 19 15 (.cmp .leq (.sc .int) (.t 18) (.c (.int .i64 60))),zz8 20 15 19,zz1 2 20]
abbrev yoY:List AG:=[zz4 8 3 1,zz2 9 1 8,o 10 (.call (.f n_w05_Texts) [(.t 9),(.c (.int .i64 140))]),zz1 4 10]
abbrev yoZ:List AG:=[zz4 5 2 1,zz2 6 1 5,o 7 (.call (.f n_w05_Texts) [(.t 6),(.c (.int .i64 12))]),zz1 3 7]
abbrev ypa:List AG:=[o 1 (.box 5 (.t 0)),zzh 2]
abbrev w06_FewGate:AFun:=⟨(.seq (.reg ypa) (.seq (.reg yoZ) (.seq (.reg yoY) (.seq (.reg yoX) .ret)))),21,[.tmp 2]⟩
@[simp] theorem c_w06_FewGate:cfun Tryd.prog n_w06_FewGate=some w06_FewGate:=by kernel_rfl
@[simp] theorem e_w06_FewGate:hasBody Tryd.prog n_w06_FewGate=true:=by kernel_rfl
abbrev ypb:List AG:=[zz4 10 0 2,zz2 11 1 10,zz4 12 1 2,zz2 13 1 12,zzb 1 0 11,zzb 1 1 13]
abbrev ypc:List AG:=[zz1 9 3]
abbrev ypd:List AG:=[o 5 (.recover),o 6 (.tassert (.t 5) t_net_wrong (.agg [(.int .i64 0),(.str [])]) true),zz1 4 6,zzc 7 4 0,zzc 8 4 1,o 2 (.alloc [(.int .i64 0),(.str [])]),zzb 2 2 7,zz1 3 8]
abbrev net_Check_1:AFun:=⟨(.seq (.reg ypd) (.seq (.reg ypc) (.cond (.t 9) (.dreg [O,O,O,I,O,O] [5,5,6,6,6,7] ypb) .skip))),14,[]⟩
@[simp] theorem c_net_Check_1:cfun Tryd.prog n_net_Check_1=some net_Check_1:=by kernel_rfl
@[simp] theorem e_net_Check_1:hasBody Tryd.prog n_net_Check_1=true:=by kernel_rfl
abbrev ype:List AG:=[zz4 3 2 1,zz2 4 1 3,zza 5 4,o 6 (.cmp .gtr (.sc .int) (.t 5) (.c (.int .i64 8))),zz1 7 6,on 8 7 (.off 3 (.t 1)),on 9 7 (.load false 1 (.t 8)),on 10 7 (.len (.t 9)),on 11 7 (.cmp .gtr (.sc .int) (.t 10) (.c (.int .i64 128))),o 12 (.pick (.t 7) (.c (.bool true)) (.t 11)),zz1 2 12]
abbrev ypf:List AG:=[o 1 (.box 5 (.t 0)),zzh 2]
abbrev net_Check_2:AFun:=⟨(.seq (.reg ypf) (.seq (.reg ype) .ret)),13,[.tmp 2]⟩
@[simp] theorem c_net_Check_2:cfun Tryd.prog n_net_Check_2=some net_Check_2:=by kernel_rfl
@[simp] theorem e_net_Check_2:hasBody Tryd.prog n_net_Check_2=true:=by kernel_rfl
abbrev ypg:List AG:=[zz1 8 1,zz1 9 2,o 10 (.build [(.int .i64 0),(.str [])] [(0,1,(.t 8)),(1,1,(.t 9))]),o 11 (.mkIface t_net_wrong (.t 10)),q (.panic (.t 11))]
abbrev yph:List AG:=[zz1 6 0,o 7 (.not (.t 6))]
abbrev net_need:AFun:=⟨(.seq (.reg yph) (.cond (.t 7) (.reg ypg) .skip)),12,[]⟩
@[simp] theorem c_net_need:cfun Tryd.prog n_net_need=some net_need:=by kernel_rfl
@[simp] theorem e_net_need:hasBody Tryd.prog n_net_need=true:=by kernel_rfl
abbrev ypi:List AG:=[zz1 5 0,zz1 6 1,zzg 7 n_slices_IndexFunc_api_Gate_api_Gate 5 6,o 8 (.cmp .geq (.sc .int) (.t 7) (.c (.int .i64 0))),zz1 4 8]
abbrev ypj:List AG:=[zzh 4]
abbrev slices_ContainsFunc_api_Gate_api_Gate:AFun:=⟨(.seq (.reg ypj) (.seq (.reg ypi) .ret)),9,[.tmp 4]⟩
@[simp] theorem c_slices_ContainsFunc_api_Gate_api_Gate:cfun Tryd.prog n_slices_ContainsFunc_api_Gate_api_Gate=some slices_ContainsFunc_api_Gate_api_Gate:=by kernel_rfl
@[simp] theorem e_slices_ContainsFunc_api_Gate_api_Gate:hasBody Tryd.prog n_slices_ContainsFunc_api_Gate_api_Gate=true:=by kernel_rfl
abbrev ypk:List AG:=[zz1 45 3,zz1 2 45]
abbrev ypl:List Bool:=[O,O,O,I,O,O,O,O,O,O,O,O,O,O,O,O,O,O,O,O,O,O,O,O,O,O,O,O,O,O,I,I,I,O,O,O,O,O,O,O,O,O,O,O,O,O]
abbrev ypm:List Bool:=[O,O,O,I,O,O,O,O,O,O,O,O,O,O,O,O,O,O,O,O,O,O,O,O,O,O,O,O,O,O,O,O,O,O,O,O,O,O,O,O,O,O,O,O,O,O]
abbrev ypn:List AG:=[zz6 44 32 1,zz1 32 44]
abbrev ypo:List AG:=[zz1 36 3,zz4 37 0 7,zz2 38 1 37,o 39 (.lit 1 [(.str [])] [(0,(.t 38))]),o 40 (.append 1 t_string 16 (.t 36) (.t 39)),zz4 41 2 7,zz2 42 1 41,o 43 (.append 1 t_string 16 (.t 40) (.t 42)),zz1 3 43]
abbrev ypp:List AG:=[zz5 34 5 30 32,zz3 35 5 34,o 7 (.alloc [(.str []),(.int .i64 0),(.own 1 t_string []),(.own 1 t_string []),(.bool false)]),zzb 5 7 35]
abbrev ypq:ACode:=(.seq (.reg ypp) (.dreg [O,O,O,O,O,O,I,O,O] [5,4,4,5,8,8,8,10,10] ypo))
abbrev ypr:List AG:=[zz7 33 32 31]
abbrev yps:ACode:=(.seq (.reg ypr) (.seq (.cond (.t 33) .skip (.exit 2)) (.seq (.block 3 [] ypq) (.reg ypn))))
abbrev ypt:List AG:=[zz4 29 3 1,zz2 30 1 29,zza 31 30,zz9 32 0]
abbrev ypu:List Bool:=[O,I,O,I,O,O,O,O,O,O,O,O,O,O,O,I,I,I,O,O,O,O,O,O,O,O,O,O,O,O,O,O,O,O,O,O,O,O,O,O,O,O,O,O,O,O]
abbrev ypv:List Bool:=[O,I,O,I,O,O,O,O,O,O,O,O,O,O,O,O,O,O,O,O,O,O,O,O,O,O,O,O,O,O,O,O,O,O,O,O,O,O,O,O,O,O,O,O,O,O]
abbrev ypw:List AG:=[zz6 28 17 1,zz1 17 28]
abbrev ypx:List AG:=[zz1 21 3,zz4 22 0 5,zz2 23 1 22,zz4 24 1 5,zz2 25 1 24,o 26 (.lit 1 [(.str []),(.str [])] [(0,(.t 23)),(1,(.t 25))]),o 27 (.append 1 t_string 16 (.t 21) (.t 26)),zz1 3 27]
abbrev ypy:List AG:=[zz5 19 3 15 17,zz3 20 3 19,o 5 (.alloc [(.str []),(.str []),(.int .i64 0)]),zzb 3 5 20]
abbrev ypz:ACode:=(.seq (.reg ypy) (.reg ypx))
abbrev ypA:List AG:=[zz7 18 17 16]
abbrev ypB:ACode:=(.seq (.reg ypA) (.seq (.cond (.t 18) .skip (.exit 0)) (.seq (.block 1 [] ypz) (.reg ypw))))
abbrev ypC:List AG:=[zz4 14 2 1,zz2 15 1 14,zza 16 15,zz9 17 0]
abbrev ypD:List AG:=[zz4 8 0 1,zz2 9 1 8,zz4 10 1 1,zz2 11 1 10,o 12 (.lit 1 [(.list true 0 []),(.list true 0 [])] [(0,(.t 9)),(1,(.t 11))]),zzf 13 n_slices_Concat_string_string 12,zz1 3 13]
abbrev ypE:List AG:=[o 1 (.box 4 (.t 0)),o 2 (.nilrow 1 t_string)]
abbrev net_told:AFun:=⟨(.seq (.reg ypE) (.seq (.reg ypD) (.seq (.seq (.reg ypC) (.block 0 ypv (.loop ypu ypB))) (.seq (.seq (.reg ypt) (.block 2 ypm (.loop ypl yps))) (.seq (.reg ypk) .ret))))),46,[.tmp 2]⟩
abbrev ypF:List It:=[.code (.seq (.reg ypk) .ret)]
abbrev ypG (x3 x30 x31 x32:AV) (h:List Ob) (e:Cx:=cx):Cfg:=atC n_net_told (.code yps::.inLoop ypl yps::.inBlock 2 ypm::ypF) [U,U,U,x3,U,U,U,U,U,U,U,U,U,U,U,U,U,U,U,U,U,U,U,U,U,U,U,U,U,U,x30,x31,x32,U,U,U,U,U,U,U,U,U,U,U,U,U] h e
abbrev ypH:List It:=[.code (.seq (.seq (.reg ypt) (.block 2 ypm (.loop ypl yps))) (.seq (.reg ypk) .ret))]
abbrev ypI (x1 x3 x15 x16 x17:AV) (h:List Ob) (e:Cx:=cx):Cfg:=atC n_net_told (.code ypB::.inLoop ypu ypB::.inBlock 0 ypv::ypH) [U,x1,U,x3,U,U,U,U,U,U,U,U,U,U,U,x15,x16,x17,U,U,U,U,U,U,U,U,U,U,U,U,U,U,U,U,U,U,U,U,U,U,U,U,U,U,U,U] h e
@[simp] theorem c_net_told:cfun Tryd.prog n_net_told=some net_told:=by kernel_rfl
@[simp] theorem e_net_told:hasBody Tryd.prog n_net_told=true:=by kernel_rfl
abbrev ypJ:List AG:=[zz1 3 0,zzf 4 n_ident_name_plain 3,zz1 2 4]
abbrev ypK:List AG:=[zzh 2]
abbrev ident_Name:AFun:=⟨(.seq (.reg ypK) (.seq (.reg ypJ) .ret)),5,[.tmp 2]⟩
@[simp] theorem c_ident_Name:cfun Tryd.prog n_ident_Name=some ident_Name:=by kernel_rfl
@[simp] theorem e_ident_Name:hasBody Tryd.prog n_ident_Name=true:=by kernel_rfl
abbrev ypL:List AG:=[zz1 22 3,zz1 2 22]
abbrev ypM:List Bool:=[O,O,O,I,O,O,O,I,I,I,O,O,O,O,O,O,O,O,O,O,O,O,O]
abbrev ypN:List Bool:=[O,O,O,I,O,O,O,O,O,O,O,O,O,O,O,O,O,O,O,O,O,O,O]
abbrev ypO:List AG:=[zz6 21 9 1,zz1 9 21]
abbrev ypP:List AG:=[zz1 19 3,zz1 20 5,q (.upd (.sc .str) (.t 19) (.t 20) (.c (.bool true)))]
abbrev ypQ:List AG:=[zz1 13 3,zz1 14 5,o 15 (.lookup (.sc .str) (.bool false) (.t 13) (.t 14) false),o 16 (.not (.t 15)),zz1 17 5,o 18 (.call (.f n_net_need) [(.t 16),(.c (.int .i64 5)),(.t 17)])]
abbrev ypR:List AG:=[zz5 11 1 7 9,zz2 12 1 11,zz1 5 12]
abbrev ypS:ACode:=(.seq (.reg ypR) (.seq (.reg ypQ) (.reg ypP)))
abbrev ypT:List AG:=[zz7 10 9 8]
abbrev ypU:ACode:=(.seq (.reg ypT) (.seq (.cond (.t 10) .skip (.exit 0)) (.seq (.block 1 [] ypS) (.reg ypO))))
abbrev ypV:List AG:=[zz1 7 0,zza 8 7,zz9 9 0]
abbrev ypW:List AG:=[o 6 (.mkMap),zz1 3 6]
abbrev ypX:List AG:=[o 2 (.mv (.c .nilm))]
abbrev net_once:AFun:=⟨(.seq (.reg ypX) (.seq (.reg ypW) (.seq (.seq (.reg ypV) (.block 0 ypN (.loop ypM ypU))) (.seq (.reg ypL) .ret)))),23,[.tmp 2]⟩
abbrev ypY:List It:=[.code (.seq (.reg ypL) .ret)]
abbrev ypZ (x3 x7 x8 x9:AV) (h:List Ob) (e:Cx:=cx):Cfg:=atC n_net_once (.code ypU::.inLoop ypM ypU::.inBlock 0 ypN::ypY) [U,U,U,x3,U,U,U,x7,x8,x9,U,U,U,U,U,U,U,U,U,U,U,U,U] h e
@[simp] theorem c_net_once:cfun Tryd.prog n_net_once=some net_once:=by kernel_rfl
@[simp] theorem e_net_once:hasBody Tryd.prog n_net_once=true:=by kernel_rfl
abbrev yqa:List AG:=[zz4 18 1 1,zz2 19 1 18,zz4 20 2 1,zz2 21 1 20,zza 22 21,zzg 23 n_net_has 19 22,zz1 24 23,oy 25 24 (.off 3 (.t 1)),zzd 26 24 1 25,oy 27 24 (.len (.t 26)),oy 28 24 (.cmp .leq (.sc .int) (.t 27) (.c (.int .i64 128))),zz8 29 24 28,zz1 30 29,oy 31 30 (.off 3 (.t 1)),zzd 32 30 1 31,zze 33 30 3,oy 34 30 (.call (.f n_slices_ContainsFunc_string_string) [(.t 32),(.t 33)]),oy 35 30 (.not (.t 34)),zz8 36 30 35,zz1 2 36]
abbrev yqb:List AG:=[zzh 2]
abbrev yqc:ACode:=(.seq (.reg yqb) .ret)
abbrev yqd:List AG:=[zz4 5 1 1,zz2 6 1 5,o 7 (.cmp .neq (.sc .int) (.t 6) (.c (.int .i64 10))),zz1 8 7,oy 9 8 (.off 3 (.t 1)),zzd 10 8 1 9,oy 11 8 (.len (.t 10)),oy 12 8 (.cmp .gtr (.sc .int) (.t 11) (.c (.int .i64 0))),zze 13 8 12,on 14 13 (.off 4 (.t 1)),on 15 13 (.load false 1 (.t 14)),oy 16 8 (.pick (.t 13) (.c (.bool true)) (.t 15)),zz8 17 8 16]
abbrev yqe:List AG:=[o 4 (.mkFunc (.func n_net_Gate_1) [] [(.t 1)]),zz1 3 4]
abbrev yqf:List AG:=[o 1 (.box 5 (.t 0)),zzh 2]
abbrev net_Gate:AFun:=⟨(.seq (.reg yqf) (.seq (.reg yqe) (.seq (.seq (.reg yqd) (.cond (.t 17) yqc .skip)) (.seq (.reg yqa) .ret)))),37,[.tmp 2]⟩
@[simp] theorem c_net_Gate:cfun Tryd.prog n_net_Gate=some net_Gate:=by kernel_rfl
@[simp] theorem e_net_Gate:hasBody Tryd.prog n_net_Gate=true:=by kernel_rfl
abbrev yqg:List AG:=[zz1 36 3,zz1 2 36]
abbrev yqh:List Bool:=[O,O,O,I,O,O,O,O,O,O,O,O,O,O,O,O,O,O,O,O,O,O,O,O,O,I,I,I,O,O,O,O,O,O,O,O,O]
abbrev yqi:List Bool:=[O,O,O,I,O,O,O,O,O,O,O,O,O,O,O,O,O,O,O,O,O,O,O,O,O,O,O,O,O,O,O,O,O,O,O,O,O]
abbrev yqj:List AG:=[zz6 35 27 1,zz1 27 35]
abbrev yqk:List AG:=[zz1 31 3,zz4 32 2 7,zz2 33 1 32,o 34 (.append 1 t_string 16 (.t 31) (.t 33)),zz1 3 34]
abbrev yql:List AG:=[zz5 29 5 25 27,zz3 30 5 29,o 7 (.alloc [(.str []),(.int .i64 0),(.own 1 t_string []),(.own 1 t_string []),(.bool false)]),zzb 5 7 30]
abbrev yqm:ACode:=(.seq (.reg yql) (.reg yqk))
abbrev yqn:List AG:=[zz7 28 27 26]
abbrev yqo:ACode:=(.seq (.reg yqn) (.seq (.cond (.t 28) .skip (.exit 2)) (.seq (.block 3 [] yqm) (.reg yqj))))
abbrev yqp:List AG:=[zz4 24 3 1,zz2 25 1 24,zza 26 25,zz9 27 0]
abbrev yqq:List Bool:=[O,I,O,I,O,O,O,O,O,O,O,O,I,I,I,O,O,O,O,O,O,O,O,O,O,O,O,O,O,O,O,O,O,O,O,O,O]
abbrev yqr:List Bool:=[O,I,O,I,O,O,O,O,O,O,O,O,O,O,O,O,O,O,O,O,O,O,O,O,O,O,O,O,O,O,O,O,O,O,O,O,O]
abbrev yqs:List AG:=[zz6 23 14 1,zz1 14 23]
abbrev yqt:List AG:=[zz1 18 3,zz4 19 1 5,zz2 20 1 19,o 21 (.lit 1 [(.str [])] [(0,(.t 20))]),o 22 (.append 1 t_string 16 (.t 18) (.t 21)),zz1 3 22]
abbrev yqu:List AG:=[zz5 16 3 12 14,zz3 17 3 16,o 5 (.alloc [(.str []),(.str []),(.int .i64 0)]),zzb 3 5 17]
abbrev yqv:ACode:=(.seq (.reg yqu) (.reg yqt))
abbrev yqw:List AG:=[zz7 15 14 13]
abbrev yqx:ACode:=(.seq (.reg yqw) (.seq (.cond (.t 15) .skip (.exit 0)) (.seq (.block 1 [] yqv) (.reg yqs))))
abbrev yqy:List AG:=[zz4 11 2 1,zz2 12 1 11,zza 13 12,zz9 14 0]
abbrev yqz:List AG:=[zz4 8 1 1,zz2 9 1 8,zzf 10 n_slices_Clone_string_string 9,zz1 3 10]
abbrev yqA:List AG:=[o 1 (.box 4 (.t 0)),o 2 (.nilrow 1 t_string)]
abbrev net_used:AFun:=⟨(.seq (.reg yqA) (.seq (.reg yqz) (.seq (.seq (.reg yqy) (.block 0 yqr (.loop yqq yqx))) (.seq (.seq (.reg yqp) (.block 2 yqi (.loop yqh yqo))) (.seq (.reg yqg) .ret))))),37,[.tmp 2]⟩
abbrev yqB:List It:=[.code (.seq (.reg yqg) .ret)]
abbrev yqC (x3 x25 x26 x27:AV) (h:List Ob) (e:Cx:=cx):Cfg:=atC n_net_used (.code yqo::.inLoop yqh yqo::.inBlock 2 yqi::yqB) [U,U,U,x3,U,U,U,U,U,U,U,U,U,U,U,U,U,U,U,U,U,U,U,U,U,x25,x26,x27,U,U,U,U,U,U,U,U,U] h e
abbrev yqD:List It:=[.code (.seq (.seq (.reg yqp) (.block 2 yqi (.loop yqh yqo))) (.seq (.reg yqg) .ret))]
abbrev yqE (x1 x3 x12 x13 x14:AV) (h:List Ob) (e:Cx:=cx):Cfg:=atC n_net_used (.code yqx::.inLoop yqq yqx::.inBlock 0 yqr::yqD) [U,x1,U,x3,U,U,U,U,U,U,U,U,x12,x13,x14,U,U,U,U,U,U,U,U,U,U,U,U,U,U,U,U,U,U,U,U,U,U] h e
@[simp] theorem c_net_used:cfun Tryd.prog n_net_used=some net_used:=by kernel_rfl
@[simp] theorem e_net_used:hasBody Tryd.prog n_net_used=true:=by kernel_rfl
abbrev yqF:List AG:=[o 4 (.mv (.c (.int .i64 (-1))))]
abbrev yqG:List Bool:=[I,I,O,O,O,O,O,I,I,O,O,O,O,O,O,O,O,O,O]
abbrev yqH:List Bool:=[O,O,O,O,O,O,O,O,O,O,O,O,O,O,O,O,O,O,O]
abbrev yqI:List AG:=[zz6 18 8 1,zz1 8 18]
abbrev yqJ:List AG:=[zz1 17 5,zz1 4 17]
abbrev yqK:ACode:=(.seq (.reg yqJ) .ret)
abbrev yqL:List AG:=[zz1 11 1,zz1 12 0,zz1 13 5,zz5 14 1 12 13,zz2 15 1 14,o 16 (.cmp .eql (.sc .str) (.t 11) (.t 15))]
abbrev yqM:List AG:=[zz1 10 8,zz1 5 10]
abbrev yqN:ACode:=(.seq (.reg yqM) (.seq (.reg yqL) (.cond (.t 16) yqK .skip)))
abbrev yqO:List AG:=[zz7 9 8 7]
abbrev yqP:ACode:=(.seq (.reg yqO) (.seq (.cond (.t 9) .skip (.exit 0)) (.seq (.block 1 [] yqN) (.reg yqI))))
abbrev yqQ:List AG:=[zz1 6 0,zza 7 6,zz9 8 0]
abbrev yqR:List AG:=[zz9 4 0]
abbrev slices_Index_string_string:AFun:=⟨(.seq (.reg yqR) (.seq (.seq (.reg yqQ) (.block 0 yqH (.loop yqG yqP))) (.seq (.reg yqF) .ret))),19,[.tmp 4]⟩
abbrev yqS:List It:=[.code (.seq (.reg yqF) .ret)]
abbrev yqT (x0 x1 x7 x8:AV) (h:List Ob) (e:Cx:=cx):Cfg:=atC n_slices_Index_string_string (.code yqP::.inLoop yqG yqP::.inBlock 0 yqH::yqS) [x0,x1,U,U,U,U,U,x7,x8,U,U,U,U,U,U,U,U,U,U] h e
@[simp] theorem c_slices_Index_string_string:cfun Tryd.prog n_slices_Index_string_string=some slices_Index_string_string:=by kernel_rfl
@[simp] theorem e_slices_Index_string_string:hasBody Tryd.prog n_slices_Index_string_string=true:=by kernel_rfl
abbrev yqU:List Bool:=[I,O,O,I,I,O,O,O,O,O,O,O,O,O,O,O,O,O,O,O,O,O,O,O,O,O,O,O,O,O,O,O,O,O,O,O,O,O,O,O,O,O,O,O,O,O,O,O,O,O,O,O,O,O,O,O,O,O,O,O,O,O,O,O,O,O,O,O,O,O,O,O,O,O]
abbrev yqV:List Bool:=[O,O,O,O,O,O,O,O,O,O,O,O,O,O,O,O,O,O,O,O,O,O,O,O,O,O,O,O,O,O,O,O,O,O,O,O,O,O,O,O,O,O,O,O,O,O,O,O,O,O,O,O,O,O,O,O,O,O,O,O,O,O,O,O,O,O,O,O,O,O,O,O,O,O]
abbrev yqW:List Bool:=[I,O,O,I,I,O,I,O,O,O,O,O,O,O,O,O,O,O,O,O,O,O,O,O,O,O,O,O,O,O,O,O,O,O,O,O,O,O,O,O,O,O,O,O,O,O,O,O,O,I,I,I,O,O,O,O,O,O,O,O,O,O,O,O,O,O,O,O,O,O,O,O,O,O]
abbrev yqX:List Bool:=[I,O,O,I,I,O,O,O,O,O,O,O,O,O,O,O,O,O,O,O,O,O,O,O,O,O,O,O,O,O,O,O,O,O,O,O,O,O,O,O,O,O,O,O,O,O,O,O,O,O,O,O,O,O,O,O,O,O,O,O,O,O,O,O,O,O,O,O,O,O,O,O,O,O]
abbrev yqY:List AG:=[zz6 73 51 1,zz1 51 73]
abbrev yqZ:List AG:=[zz1 68 4,o 69 (.mkIface t_order_pile (.t 68)),zz1 70 8,o 71 (.mkIface t_int (.t 70)),zzg 72 n_container_heap_Push 69 71]
abbrev yra:List AG:=[zz4 61 0 3,zz2 62 1 61,zz1 63 8,zz5 64 1 62 63,zz2 65 1 64,o 66 (.lenMap (.t 65)),o 67 (.cmp .eql (.sc .int) (.t 66) (.c (.int .i64 0)))]
abbrev yrb:List AG:=[zz4 55 0 3,zz2 56 1 55,zz1 57 8,zz5 58 1 56 57,zz2 59 1 58,zz1 60 6,q (.delete (.sc .int) (.t 59) (.t 60))]
abbrev yrc:List AG:=[zz5 53 1 49 51,zz2 54 1 53,zz1 8 54]
abbrev yrd:ACode:=(.seq (.reg yrc) (.seq (.reg yrb) (.seq (.reg yra) (.cond (.t 67) (.reg yqZ) .skip))))
abbrev yre:List AG:=[zz7 52 51 50]
abbrev yrf:ACode:=(.seq (.reg yre) (.seq (.cond (.t 52) .skip (.exit 4)) (.seq (.block 5 [] yrd) (.reg yqY))))
abbrev yrg:List AG:=[zz4 45 1 3,zz2 46 1 45,zz1 47 6,zz5 48 1 46 47,zz2 49 1 48,zza 50 49,zz9 51 0]
abbrev yrh:List AG:=[zz1 41 0,zz1 42 6,o 43 (.call (.t 41) [(.t 42)]),o 44 (.not (.t 43))]
abbrev yri:List AG:=[zz1 37 4,o 38 (.mkIface t_order_pile (.t 37)),zzf 39 n_container_heap_Pop 38,o 40 (.tassert (.t 39) t_int (.int .i64 0) false),zz1 6 40]
abbrev yrj:ACode:=(.seq (.reg yri) (.seq (.seq (.reg yrh) (.cond (.t 44) .ret .skip)) (.seq (.reg yrg) (.block 4 yqX (.loop yqW yrf)))))
abbrev yrk:List AG:=[zz1 32 4,o 33 (.nilck (.t 32)),zz2 34 1 33,zzf 35 n_order_pile_Len 34,o 36 (.cmp .gtr (.sc .int) (.t 35) (.c (.int .i64 0)))]
abbrev yrl:ACode:=(.seq (.seq (.reg yrk) (.cond (.t 36) .skip (.exit 2))) (.block 3 [] yrj))
abbrev yrm:List Bool:=[I,O,O,I,I,O,O,O,O,O,O,O,O,O,O,I,I,O,O,O,O,O,O,O,O,O,O,O,O,O,O,O,O,O,O,O,O,O,O,O,O,O,O,O,O,O,O,O,O,O,O,O,O,O,O,O,O,O,O,O,O,O,O,O,O,O,O,O,O,O,O,O,O,O]
abbrev yrn:List Bool:=[I,O,O,I,I,O,O,O,O,O,O,O,O,O,O,O,O,O,O,O,O,O,O,O,O,O,O,O,O,O,O,O,O,O,O,O,O,O,O,O,O,O,O,O,O,O,O,O,O,O,O,O,O,O,O,O,O,O,O,O,O,O,O,O,O,O,O,O,O,O,O,O,O,O]
abbrev yro:List AG:=[zz6 31 16 1,zz1 16 31]
abbrev yrp:List AG:=[zz1 26 4,o 27 (.mkIface t_order_pile (.t 26)),zz1 28 5,o 29 (.mkIface t_int (.t 28)),zzg 30 n_container_heap_Push 27 29]
abbrev yrq:List AG:=[zz4 19 0 3,zz2 20 1 19,zz1 21 5,zz5 22 1 20 21,zz2 23 1 22,o 24 (.lenMap (.t 23)),o 25 (.cmp .eql (.sc .int) (.t 24) (.c (.int .i64 0)))]
abbrev yrr:List AG:=[zz1 18 16,zz1 5 18]
abbrev yrs:ACode:=(.seq (.reg yrr) (.seq (.reg yrq) (.cond (.t 25) (.reg yrp) .skip)))
abbrev yrt:List AG:=[zz7 17 16 15]
abbrev yru:ACode:=(.seq (.reg yrt) (.seq (.cond (.t 17) .skip (.exit 0)) (.seq (.block 1 [] yrs) (.reg yro))))
abbrev yrv:List AG:=[zz4 13 3 1,zz2 14 1 13,zza 15 14,zz9 16 0]
abbrev yrw:List AG:=[o 11 (.lit 1 [] []),o 12 (.box 1 (.t 11)),zz1 4 12]
abbrev yrx:List AG:=[zz3 9 4 1,zzf 10 n_order_wait 9,o 3 (.alloc [(.own 1 t_map_int_bool_2 []),(.own 1 t_int_2 [])]),zzb 2 3 10]
abbrev order_coming_1:AFun:=⟨(.seq (.reg yrx) (.seq (.reg yrw) (.seq (.seq (.reg yrv) (.block 0 yrn (.loop yrm yru))) (.block 2 yqV (.loop yqU yrl))))),74,[]⟩
abbrev yry:List It:=[.inBlock 3 [],.inLoop yqU yrl,.inBlock 2 yqV]
abbrev yrz (x0 x3 x4 x6 x49 x50 x51:AV) (h:List Ob) (e:Cx:=cx):Cfg:=atC n_order_coming_1 (.code yrf::.inLoop yqW yrf::.inBlock 4 yqX::yry) [x0,U,U,x3,x4,U,x6,U,U,U,U,U,U,U,U,U,U,U,U,U,U,U,U,U,U,U,U,U,U,U,U,U,U,U,U,U,U,U,U,U,U,U,U,U,U,U,U,U,U,x49,x50,x51,U,U,U,U,U,U,U,U,U,U,U,U,U,U,U,U,U,U,U,U,U,U] h e
abbrev yrA (x0 x3 x4:AV) (h:List Ob) (e:Cx:=cx):Cfg:=atC n_order_coming_1 yry [x0,U,U,x3,x4,U,U,U,U,U,U,U,U,U,U,U,U,U,U,U,U,U,U,U,U,U,U,U,U,U,U,U,U,U,U,U,U,U,U,U,U,U,U,U,U,U,U,U,U,U,U,U,U,U,U,U,U,U,U,U,U,U,U,U,U,U,U,U,U,U,U,U,U,U] h e
abbrev yrB:List It:=[]
abbrev yrC (x0 x3 x4:AV) (h:List Ob) (e:Cx:=cx):Cfg:=atC n_order_coming_1 (.code yrl::.inLoop yqU yrl::.inBlock 2 yqV::yrB) [x0,U,U,x3,x4,U,U,U,U,U,U,U,U,U,U,U,U,U,U,U,U,U,U,U,U,U,U,U,U,U,U,U,U,U,U,U,U,U,U,U,U,U,U,U,U,U,U,U,U,U,U,U,U,U,U,U,U,U,U,U,U,U,U,U,U,U,U,U,U,U,U,U,U,U] h e
abbrev yrD:List It:=[.code (.block 2 yqV (.loop yqU yrl))]
abbrev yrE (x0 x3 x4 x15 x16:AV) (h:List Ob) (e:Cx:=cx):Cfg:=atC n_order_coming_1 (.code yru::.inLoop yrm yru::.inBlock 0 yrn::yrD) [x0,U,U,x3,x4,U,U,U,U,U,U,U,U,U,U,x15,x16,U,U,U,U,U,U,U,U,U,U,U,U,U,U,U,U,U,U,U,U,U,U,U,U,U,U,U,U,U,U,U,U,U,U,U,U,U,U,U,U,U,U,U,U,U,U,U,U,U,U,U,U,U,U,U,U,U] h e
abbrev yrF (x0 x3 x4:AV) (h:List Ob) (e:Cx:=cx):Cfg:=atC n_order_coming_1 yrD [x0,U,U,x3,x4,U,U,U,U,U,U,U,U,U,U,U,U,U,U,U,U,U,U,U,U,U,U,U,U,U,U,U,U,U,U,U,U,U,U,U,U,U,U,U,U,U,U,U,U,U,U,U,U,U,U,U,U,U,U,U,U,U,U,U,U,U,U,U,U,U,U,U,U,U] h e
@[simp] theorem c_order_coming_1:cfun Tryd.prog n_order_coming_1=some order_coming_1:=by kernel_rfl
@[simp] theorem e_order_coming_1:hasBody Tryd.prog n_order_coming_1=true:=by kernel_rfl
abbrev yrG:List AG:=[zz1 7 0,zz1 8 0,o 9 (.invoke (.t 8) "Len" []),o 10 (.ibin .sub (.t 9) (.c (.int .i64 1))),zzg 11 n_container_heap_up 7 10]
abbrev yrH:List AG:=[zz1 4 0,zz1 5 1,o 6 (.invoke (.t 4) "Push" [(.t 5)])]
abbrev container_heap_Push:AFun:=⟨(.seq (.reg yrH) (.reg yrG)),12,[]⟩
@[simp] theorem c_container_heap_Push:cfun Tryd.prog n_container_heap_Push=some container_heap_Push:=by kernel_rfl
@[simp] theorem e_container_heap_Push:hasBody Tryd.prog n_container_heap_Push=true:=by kernel_rfl
abbrev yrI:List AG:=[zz1 3 0,zza 4 3,zz1 2 4]
abbrev yrJ:List AG:=[zz9 2 0]
abbrev order_pile_Len:AFun:=⟨(.seq (.reg yrJ) (.seq (.reg yrI) .ret)),5,[.tmp 2]⟩
@[simp] theorem c_order_pile_Len:cfun Tryd.prog n_order_pile_Len=some order_pile_Len:=by kernel_rfl
@[simp] theorem e_order_pile_Len:hasBody Tryd.prog n_order_pile_Len=true:=by kernel_rfl
abbrev yrK:List AG:=[zz1 13 0,o 14 (.invoke (.t 13) "Pop" []),zz1 2 14]
abbrev yrL:List AG:=[zz1 10 0,zz1 11 3,o 12 (.call (.f n_container_heap_down) [(.t 10),(.c (.int .i64 0)),(.t 11)])]
abbrev yrM:List AG:=[zz1 7 0,zz1 8 3,o 9 (.invoke (.t 7) "Swap" [(.c (.int .i64 0)),(.t 8)])]
abbrev yrN:List AG:=[zz1 4 0,o 5 (.invoke (.t 4) "Len" []),o 6 (.ibin .sub (.t 5) (.c (.int .i64 1))),zz1 3 6]
abbrev yrO:List AG:=[o 2 (.mv (.c .nili))]
abbrev container_heap_Pop:AFun:=⟨(.seq (.reg yrO) (.seq (.reg yrN) (.seq (.reg yrM) (.seq (.reg yrL) (.seq (.reg yrK) .ret))))),15,[.tmp 2]⟩
@[simp] theorem c_container_heap_Pop:cfun Tryd.prog n_container_heap_Pop=some container_heap_Pop:=by kernel_rfl
@[simp] theorem e_container_heap_Pop:hasBody Tryd.prog n_container_heap_Pop=true:=by kernel_rfl
abbrev yrP:List AG:=[zz4 29 0 1,zz2 30 1 29,zza 31 30,zz4 32 2 1,zz2 33 1 32,zza 34 33,o 35 (.ibin .add (.t 31) (.t 34)),zz4 36 3 1,zz2 37 1 36,zza 38 37,o 39 (.ibin .add (.t 35) (.t 38)),o 40 (.cmp .gtr (.sc .int) (.t 39) (.c (.int .i64 200))),zz1 41 40,on 42 41 (.off 1 (.t 1)),on 43 41 (.load false 1 (.t 42)),on 44 41 (.len (.t 43)),on 45 41 (.cmp .gtr (.sc .int) (.t 44) (.c (.int .i64 200))),o 46 (.pick (.t 41) (.c (.bool true)) (.t 45)),zz1 2 46]
abbrev yrQ:List Bool:=[O,I,O,I,O,O,O,O,O,O,O,O,O,O,O,O,O,O,O,O,O,O,O,O,O,O,O,O,O,O,O,O,O,O,O,O,O,O,O,O,O,O,O,O,O,O,O]
abbrev yrR:List Bool:=[O,I,O,O,O,O,O,O,O,O,O,O,O,O,O,O,O,O,O,O,O,O,O,O,O,O,O,O,O,O,O,O,O,O,O,O,O,O,O,O,O,O,O,O,O,O,O]
abbrev yrS:List AG:=[zz1 9 3,zz6 10 9 1,zz1 3 10]
abbrev yrT:List AG:=[o 2 (.mv (.c (.bool true)))]
abbrev yrU:ACode:=(.seq (.reg yrT) .ret)
abbrev yrV:List AG:=[zz4 11 3 1,zz2 12 1 11,zz1 13 3,zz5 14 5 12 13,zz4 15 2 14,zz2 16 1 15,zza 17 16,o 18 (.cmp .gtr (.sc .int) (.t 17) (.c (.int .i64 8))),zz1 19 18,on 20 19 (.off 3 (.t 1)),on 21 19 (.load false 1 (.t 20)),on 22 19 (.mv (.t 3)),on 23 19 (.ixAddr 5 (.t 21) (.t 22)),on 24 19 (.off 3 (.t 23)),on 25 19 (.load false 1 (.t 24)),on 26 19 (.len (.t 25)),on 27 19 (.cmp .gtr (.sc .int) (.t 26) (.c (.int .i64 128))),o 28 (.pick (.t 19) (.c (.bool true)) (.t 27))]
abbrev yrW:ACode:=(.seq (.reg yrV) (.cond (.t 28) yrU .skip))
abbrev yrX:List AG:=[zz1 4 3,zz4 5 3 1,zz2 6 1 5,zza 7 6,zz7 8 4 7]
abbrev yrY:ACode:=(.seq (.seq (.reg yrX) (.cond (.t 8) .skip (.exit 0))) (.seq (.block 1 [] yrW) (.reg yrS)))
abbrev yrZ:List AG:=[zz9 3 0]
abbrev ysa:List AG:=[o 1 (.box 4 (.t 0)),zzh 2]
abbrev r06_limit:AFun:=⟨(.seq (.reg ysa) (.seq (.seq (.reg yrZ) (.block 0 yrR (.loop yrQ yrY))) (.seq (.reg yrP) .ret))),47,[.tmp 2]⟩
abbrev ysb:List It:=[.code (.seq (.reg yrP) .ret)]
abbrev ysc (x1 x3:AV) (h:List Ob) (e:Cx:=cx):Cfg:=atC n_r06_limit (.code yrY::.inLoop yrQ yrY::.inBlock 0 yrR::ysb) [U,x1,U,x3,U,U,U,U,U,U,U,U,U,U,U,U,U,U,U,U,U,U,U,U,U,U,U,U,U,U,U,U,U,U,U,U,U,U,U,U,U,U,U,U,U,U,U] h e
@[simp] theorem c_r06_limit:cfun Tryd.prog n_r06_limit=some r06_limit:=by kernel_rfl
@[simp] theorem e_r06_limit:hasBody Tryd.prog n_r06_limit=true:=by kernel_rfl
abbrev ysd:List AG:=[zz1 60 3,zz1 2 60]
abbrev yse:List Bool:=[O,I,O,I,O,I,O,O,O,O,O,O,O,O,O,O,O,O,O,O,O,O,O,O,O,O,O,O,O,O,O,O,O,O,O,O,O,O,O,O,O,O,O,O,O,O,O,O,O,O,O,O,O,O,O,O,O,O,O,O,O]
abbrev ysf:List Bool:=[O,O,O,I,O,O,O,O,O,O,O,O,O,O,O,O,O,O,O,O,O,O,O,O,O,O,O,O,O,O,O,O,O,O,O,O,O,O,O,O,O,O,O,O,O,O,O,O,O,O,O,O,O,O,O,O,O,O,O,O,O]
abbrev ysg:List AG:=[zz1 41 5,zz6 42 41 1,zz1 5 42]
abbrev ysh:List AG:=[zz1 52 3,zz4 53 3 1,zz2 54 1 53,zz1 55 5,zz5 56 5 54 55,zz4 57 2 56,zz2 58 1 57,o 59 (.append 1 t_string 16 (.t 52) (.t 58)),zz1 3 59]
abbrev ysi:List AG:=[zz1 43 3,zz4 44 3 1,zz2 45 1 44,zz1 46 5,zz5 47 5 45 46,zz4 48 0 47,zz2 49 1 48,o 50 (.lit 1 [(.str [])] [(0,(.t 49))]),o 51 (.append 1 t_string 16 (.t 43) (.t 50)),zz1 3 51]
abbrev ysj:ACode:=(.seq (.reg ysi) (.reg ysh))
abbrev ysk:List AG:=[zz1 36 5,zz4 37 3 1,zz2 38 1 37,zza 39 38,zz7 40 36 39]
abbrev ysl:ACode:=(.seq (.seq (.reg ysk) (.cond (.t 40) .skip (.exit 2))) (.seq (.block 3 [] ysj) (.reg ysg)))
abbrev ysm:List AG:=[zz9 5 0]
abbrev ysn:List Bool:=[O,I,O,I,I,O,O,O,O,O,O,O,O,O,O,O,O,O,O,O,O,O,O,O,O,O,O,O,O,O,O,O,O,O,O,O,O,O,O,O,O,O,O,O,O,O,O,O,O,O,O,O,O,O,O,O,O,O,O,O,O]
abbrev yso:List Bool:=[O,I,O,I,O,O,O,O,O,O,O,O,O,O,O,O,O,O,O,O,O,O,O,O,O,O,O,O,O,O,O,O,O,O,O,O,O,O,O,O,O,O,O,O,O,O,O,O,O,O,O,O,O,O,O,O,O,O,O,O,O]
abbrev ysp:List AG:=[zz1 19 4,zz6 20 19 1,zz1 4 20]
abbrev ysq:List AG:=[zz1 21 3,zz4 22 2 1,zz2 23 1 22,zz1 24 4,zz5 25 3 23 24,zz4 26 0 25,zz2 27 1 26,zz4 28 2 1,zz2 29 1 28,zz1 30 4,zz5 31 3 29 30,zz4 32 1 31,zz2 33 1 32,o 34 (.lit 1 [(.str []),(.str [])] [(0,(.t 27)),(1,(.t 33))]),o 35 (.append 1 t_string 16 (.t 21) (.t 34)),zz1 3 35]
abbrev ysr:List AG:=[zz1 14 4,zz4 15 2 1,zz2 16 1 15,zza 17 16,zz7 18 14 17]
abbrev yss:ACode:=(.seq (.seq (.reg ysr) (.cond (.t 18) .skip (.exit 0))) (.seq (.block 1 [] (.dreg [O,O,O,O,O,O,O,O,O,O,O,O,O,O,O,O] [15,14,14,14,14,14,14,14,14,14,14,14,14,15,17,17] ysq)) (.reg ysp)))
abbrev yst:List AG:=[zz9 4 0]
abbrev ysu:List AG:=[zz1 10 3,zz4 11 1 1,zz2 12 1 11,o 13 (.append 1 t_string 16 (.t 10) (.t 12)),zz1 3 13]
abbrev ysv:List AG:=[zz1 6 3,zz4 7 0 1,zz2 8 1 7,o 9 (.append 1 t_string 16 (.t 6) (.t 8)),zz1 3 9]
abbrev ysw:List AG:=[o 3 (.nilrow 1 t_string)]
abbrev ysx:List AG:=[o 1 (.box 4 (.t 0)),o 2 (.nilrow 1 t_string)]
abbrev r06_Told:AFun:=⟨(.seq (.reg ysx) (.seq (.reg ysw) (.seq (.reg ysv) (.seq (.reg ysu) (.seq (.seq (.reg yst) (.block 0 yso (.loop ysn yss))) (.seq (.seq (.reg ysm) (.block 2 ysf (.loop yse ysl))) (.seq (.reg ysd) .ret))))))),61,[.tmp 2]⟩
abbrev ysy:List It:=[.code (.seq (.reg ysd) .ret)]
abbrev ysz (x1 x3 x5:AV) (h:List Ob) (e:Cx:=cx):Cfg:=atC n_r06_Told (.code ysl::.inLoop yse ysl::.inBlock 2 ysf::ysy) [U,x1,U,x3,U,x5,U,U,U,U,U,U,U,U,U,U,U,U,U,U,U,U,U,U,U,U,U,U,U,U,U,U,U,U,U,U,U,U,U,U,U,U,U,U,U,U,U,U,U,U,U,U,U,U,U,U,U,U,U,U,U] h e
abbrev ysA:List It:=[.code (.seq (.seq (.reg ysm) (.block 2 ysf (.loop yse ysl))) (.seq (.reg ysd) .ret))]
abbrev ysB (x1 x3 x4:AV) (h:List Ob) (e:Cx:=cx):Cfg:=atC n_r06_Told (.code yss::.inLoop ysn yss::.inBlock 0 yso::ysA) [U,x1,U,x3,x4,U,U,U,U,U,U,U,U,U,U,U,U,U,U,U,U,U,U,U,U,U,U,U,U,U,U,U,U,U,U,U,U,U,U,U,U,U,U,U,U,U,U,U,U,U,U,U,U,U,U,U,U,U,U,U,U] h e
@[simp] theorem c_r06_Told:cfun Tryd.prog n_r06_Told=some r06_Told:=by kernel_rfl
@[simp] theorem e_r06_Told:hasBody Tryd.prog n_r06_Told=true:=by kernel_rfl
abbrev ysC:List AG:=[zz1 20 0,o 21 (.lenStr (.t 20)),o 22 (.cmp .geq (.sc .int) (.t 21) (.c (.int .i64 1))),zz1 23 22,zze 24 23 0,oy 25 23 (.lenStr (.t 24)),oy 26 23 (.cmp .leq (.sc .int) (.t 25) (.c (.int .i64 40))),zz8 27 23 26,zz1 2 27]
abbrev ysD:List Bool:=[I,O,O,I,O,O,O,O,O,O,O,O,O,O,O,O,O,O,O,O,O,O,O,O,O,O,O,O]
abbrev ysE:List Bool:=[I,O,O,O,O,O,O,O,O,O,O,O,O,O,O,O,O,O,O,O,O,O,O,O,O,O,O,O]
abbrev ysF:List AG:=[zz1 8 3,zz6 9 8 1,zz1 3 9]
abbrev ysG:List AG:=[zzh 2]
abbrev ysH:ACode:=(.seq (.reg ysG) .ret)
abbrev ysI:List AG:=[zz1 10 0,zz1 11 3,o 12 (.ixStr (.t 10) (.t 11)),o 13 (.cmp .lss (.sc .int) (.t 12) (.c (.int .u8 33))),zz1 14 13,on 15 14 (.mv (.t 0)),on 16 14 (.mv (.t 3)),on 17 14 (.ixStr (.t 15) (.t 16)),on 18 14 (.cmp .gtr (.sc .int) (.t 17) (.c (.int .u8 126))),o 19 (.pick (.t 14) (.c (.bool true)) (.t 18))]
abbrev ysJ:ACode:=(.seq (.reg ysI) (.cond (.t 19) ysH .skip))
abbrev ysK:List AG:=[zz1 4 3,zz1 5 0,o 6 (.lenStr (.t 5)),zz7 7 4 6]
abbrev ysL:ACode:=(.seq (.seq (.reg ysK) (.cond (.t 7) .skip (.exit 0))) (.seq (.block 1 [] ysJ) (.reg ysF)))
abbrev ysM:List AG:=[zz9 3 0]
abbrev ysN:List AG:=[zzh 2]
abbrev r04_Name:AFun:=⟨(.seq (.reg ysN) (.seq (.seq (.reg ysM) (.block 0 ysE (.loop ysD ysL))) (.seq (.reg ysC) .ret))),28,[.tmp 2]⟩
abbrev ysO:List It:=[.code (.seq (.reg ysC) .ret)]
abbrev ysP (x0 x3:AV) (h:List Ob) (e:Cx:=cx):Cfg:=atC n_r04_Name (.code ysL::.inLoop ysD ysL::.inBlock 0 ysE::ysO) [x0,U,U,x3,U,U,U,U,U,U,U,U,U,U,U,U,U,U,U,U,U,U,U,U,U,U,U,U] h e
@[simp] theorem c_r04_Name:cfun Tryd.prog n_r04_Name=some r04_Name:=by kernel_rfl
@[simp] theorem e_r04_Name:hasBody Tryd.prog n_r04_Name=true:=by kernel_rfl
abbrev ysQ:List AG:=[o 2 (.mv (.c (.str []))),zzh 3]
abbrev ysR:List Bool:=[I,O,O,O,I,O,O,O,O,O,O,O,O,O,O,O,O,O,O,O,O,O,O]
abbrev ysS:List Bool:=[O,O,O,O,O,O,O,O,O,O,O,O,O,O,O,O,O,O,O,O,O,O,O]
abbrev ysT:List AG:=[zz1 9 4,zz6 10 9 1,zz1 4 10]
abbrev ysU:List AG:=[zz1 19 0,zz1 20 4,zz5 21 1 19 20,zz2 22 1 21,zz1 2 22,o 3 (.mv (.c (.bool true)))]
abbrev ysV:ACode:=(.seq (.reg ysU) .ret)
abbrev ysW:List AG:=[zz1 11 0,zz1 12 4,o 13 (.slice 1 (.t 11) none (some (.t 12))),zz1 14 0,zz1 15 4,zz5 16 1 14 15,zz2 17 1 16,zzg 18 n_r01_Has 13 17]
abbrev ysX:ACode:=(.seq (.dreg [O,O,O,O,O,O,O,O] [8,8,8,8,8,8,8,9] ysW) (.cond (.t 18) ysV .skip))
abbrev ysY:List AG:=[zz1 5 4,zz1 6 0,zza 7 6,zz7 8 5 7]
abbrev ysZ:ACode:=(.seq (.seq (.reg ysY) (.cond (.t 8) .skip (.exit 0))) (.seq (.block 1 [] ysX) (.reg ysT)))
abbrev yta:List AG:=[zz9 4 0]
abbrev ytb:List AG:=[o 2 (.mv (.c (.str []))),zzh 3]
abbrev r06_twice:AFun:=⟨(.seq (.reg ytb) (.seq (.seq (.reg yta) (.block 0 ysS (.loop ysR ysZ))) (.seq (.reg ysQ) .ret))),23,[.tmp 2,.tmp 3]⟩
abbrev ytc:List It:=[.code (.seq (.reg ysQ) .ret)]
abbrev ytd (x0 x4:AV) (h:List Ob) (e:Cx:=cx):Cfg:=atC n_r06_twice (.code ysZ::.inLoop ysR ysZ::.inBlock 0 ysS::ytc) [x0,U,U,U,x4,U,U,U,U,U,U,U,U,U,U,U,U,U,U,U,U,U,U] h e
@[simp] theorem c_r06_twice:cfun Tryd.prog n_r06_twice=some r06_twice:=by kernel_rfl
@[simp] theorem e_r06_twice:hasBody Tryd.prog n_r06_twice=true:=by kernel_rfl
abbrev yte:List AG:=[zz4 66 1 1,zz2 67 1 66,o 68 (.cmp .geq (.sc .int) (.t 67) (.c (.int .i64 4))),zz1 69 68,oy 70 69 (.off 1 (.t 1)),zzd 71 69 1 70,oy 72 69 (.cmp .leq (.sc .int) (.t 71) (.c (.int .i64 9))),zz8 73 69 72,zz1 74 73,zze 75 74 3,oy 76 74 (.cmp .geq (.sc .int) (.t 75) (.c (.int .i64 2))),zz8 77 74 76,zz1 78 77,zze 79 78 3,oy 80 78 (.cmp .leq (.sc .int) (.t 79) (.c (.int .i64 8))),zz8 81 78 80,zz1 2 81]
abbrev ytf:List AG:=[zz1 64 3,o 65 (.cmp .eql (.sc .int) (.t 64) (.c (.int .i64 1))),zz1 2 65]
abbrev ytg:ACode:=(.seq (.reg ytf) .ret)
abbrev yth:List AG:=[zz4 56 1 1,zz2 57 1 56,o 58 (.cmp .eql (.sc .int) (.t 57) (.c (.int .i64 2))),zz1 59 58,on 60 59 (.off 1 (.t 1)),on 61 59 (.load false 1 (.t 60)),on 62 59 (.cmp .eql (.sc .int) (.t 61) (.c (.int .i64 3))),o 63 (.pick (.t 59) (.c (.bool true)) (.t 62))]
abbrev yti:List AG:=[zz1 54 3,o 55 (.cmp .eql (.sc .int) (.t 54) (.c (.int .i64 0))),zz1 2 55]
abbrev ytj:ACode:=(.seq (.reg yti) .ret)
abbrev ytk:List AG:=[zz4 46 1 1,zz2 47 1 46,o 48 (.cmp .eql (.sc .int) (.t 47) (.c (.int .i64 0))),zz1 49 48,on 50 49 (.off 1 (.t 1)),on 51 49 (.load false 1 (.t 50)),on 52 49 (.cmp .eql (.sc .int) (.t 51) (.c (.int .i64 1))),o 53 (.pick (.t 49) (.c (.bool true)) (.t 52))]
abbrev ytl:List AG:=[zzh 2]
abbrev ytm:ACode:=(.seq (.reg ytl) .ret)
abbrev ytn:List AG:=[zz4 38 3 1,zz2 39 1 38,zza 40 39,o 41 (.cmp .gtr (.sc .int) (.t 40) (.c (.int .i64 0))),zz1 42 41,on 43 42 (.off 4 (.t 1)),on 44 42 (.load false 1 (.t 43)),o 45 (.pick (.t 42) (.c (.bool true)) (.t 44))]
abbrev yto:List AG:=[zz1 30 3,o 31 (.cmp .leq (.sc .int) (.t 30) (.c (.int .i64 8))),zz1 32 31,oy 33 32 (.off 3 (.t 1)),zzd 34 32 1 33,oy 35 32 (.len (.t 34)),oy 36 32 (.cmp .leq (.sc .int) (.t 35) (.c (.int .i64 128))),zz8 37 32 36,zz1 2 37]
abbrev ytp:List Bool:=[O,I,O,I,I,O,O,O,O,O,O,O,O,O,O,O,O,O,O,O,O,O,O,O,O,O,O,O,O,O,O,O,O,O,O,O,O,O,O,O,O,O,O,O,O,O,O,O,O,O,O,O,O,O,O,O,O,O,O,O,O,O,O,O,O,O,O,O,O,O,O,O,O,O,O,O,O,O,O,O,O,O]
abbrev ytq:List Bool:=[O,I,O,I,O,O,O,O,O,O,O,O,O,O,O,O,O,O,O,O,O,O,O,O,O,O,O,O,O,O,O,O,O,O,O,O,O,O,O,O,O,O,O,O,O,O,O,O,O,O,O,O,O,O,O,O,O,O,O,O,O,O,O,O,O,O,O,O,O,O,O,O,O,O,O,O,O,O,O,O,O,O]
abbrev ytr:List AG:=[zz1 20 4,zz6 21 20 1,zz1 4 21]
abbrev yts:List AG:=[zzh 2]
abbrev ytt:ACode:=(.seq (.reg yts) .ret)
abbrev ytu:List AG:=[zz4 22 3 1,zz2 23 1 22,zz1 24 4,zz5 25 1 23 24,zz2 26 1 25,zz1 27 3,zzg 28 n_r06_row 26 27,o 29 (.not (.t 28))]
abbrev ytv:ACode:=(.seq (.reg ytu) (.cond (.t 29) ytt .skip))
abbrev ytw:List AG:=[zz1 11 4,zz4 12 3 1,zz2 13 1 12,zza 14 13,zz7 15 11 14,zz1 16 15,zze 17 16 4,oy 18 16 (.cmp .leq (.sc .int) (.t 17) (.c (.int .i64 128))),zz8 19 16 18]
abbrev ytx:ACode:=(.seq (.seq (.reg ytw) (.cond (.t 19) .skip (.exit 0))) (.seq (.block 1 [] ytv) (.reg ytr)))
abbrev yty:List AG:=[zz9 4 0]
abbrev ytz:ACode:=(.seq (.seq (.reg yty) (.block 0 ytq (.loop ytp ytx))) (.seq (.reg yto) .ret))
abbrev ytA:List AG:=[zz4 8 1 1,zz2 9 1 8,o 10 (.cmp .eql (.sc .int) (.t 9) (.c (.int .i64 10)))]
abbrev ytB:List AG:=[zz4 5 2 1,zz2 6 1 5,zza 7 6,zz1 3 7]
abbrev ytC:List AG:=[o 1 (.box 5 (.t 0)),zzh 2]
abbrev r06_Gate:AFun:=⟨(.seq (.reg ytC) (.seq (.reg ytB) (.seq (.seq (.reg ytA) (.cond (.t 10) ytz .skip)) (.seq (.seq (.reg ytn) (.cond (.t 45) ytm .skip)) (.seq (.seq (.reg ytk) (.cond (.t 53) ytj .skip)) (.seq (.seq (.reg yth) (.cond (.t 63) ytg .skip)) (.seq (.reg yte) .ret))))))),82,[.tmp 2]⟩
abbrev ytD:List It:=[.code (.seq (.reg yto) .ret),.code (.seq (.seq (.reg ytn) (.cond (.t 45) ytm .skip)) (.seq (.seq (.reg ytk) (.cond (.t 53) ytj .skip)) (.seq (.seq (.reg yth) (.cond (.t 63) ytg .skip)) (.seq (.reg yte) .ret))))]
abbrev ytE (x1 x3 x4:AV) (h:List Ob) (e:Cx:=cx):Cfg:=atC n_r06_Gate (.code ytx::.inLoop ytp ytx::.inBlock 0 ytq::ytD) [U,x1,U,x3,x4,U,U,U,U,U,U,U,U,U,U,U,U,U,U,U,U,U,U,U,U,U,U,U,U,U,U,U,U,U,U,U,U,U,U,U,U,U,U,U,U,U,U,U,U,U,U,U,U,U,U,U,U,U,U,U,U,U,U,U,U,U,U,U,U,U,U,U,U,U,U,U,U,U,U,U,U,U] h e
@[simp] theorem c_r06_Gate:cfun Tryd.prog n_r06_Gate=some r06_Gate:=by kernel_rfl
@[simp] theorem e_r06_Gate:hasBody Tryd.prog n_r06_Gate=true:=by kernel_rfl
abbrev ytF:List AG:=[zz1 41 3,zz1 2 41]
abbrev ytG:List Bool:=[O,I,O,I,O,I,O,O,O,O,O,O,O,O,O,O,O,O,O,O,O,O,O,O,O,O,O,O,O,O,O,O,O,O,O,O,O,O,O,O,O,O]
abbrev ytH:List Bool:=[O,O,O,I,O,O,O,O,O,O,O,O,O,O,O,O,O,O,O,O,O,O,O,O,O,O,O,O,O,O,O,O,O,O,O,O,O,O,O,O,O,O]
abbrev ytI:List AG:=[zz1 31 5,zz6 32 31 1,zz1 5 32]
abbrev ytJ:List AG:=[zz1 33 3,zz4 34 3 1,zz2 35 1 34,zz1 36 5,zz5 37 5 35 36,zz4 38 2 37,zz2 39 1 38,o 40 (.append 1 t_string 16 (.t 33) (.t 39)),zz1 3 40]
abbrev ytK:List AG:=[zz1 26 5,zz4 27 3 1,zz2 28 1 27,zza 29 28,zz7 30 26 29]
abbrev ytL:ACode:=(.seq (.seq (.reg ytK) (.cond (.t 30) .skip (.exit 2))) (.seq (.block 3 [] (.reg ytJ)) (.reg ytI)))
abbrev ytM:List AG:=[zz9 5 0]
abbrev ytN:List Bool:=[O,I,O,I,I,O,O,O,O,O,O,O,O,O,O,O,O,O,O,O,O,O,O,O,O,O,O,O,O,O,O,O,O,O,O,O,O,O,O,O,O,O]
abbrev ytO:List Bool:=[O,I,O,I,O,O,O,O,O,O,O,O,O,O,O,O,O,O,O,O,O,O,O,O,O,O,O,O,O,O,O,O,O,O,O,O,O,O,O,O,O,O]
abbrev ytP:List AG:=[zz1 15 4,zz6 16 15 1,zz1 4 16]
abbrev ytQ:List AG:=[zz1 17 3,zz4 18 2 1,zz2 19 1 18,zz1 20 4,zz5 21 3 19 20,zz4 22 1 21,zz2 23 1 22,o 24 (.lit 1 [(.str [])] [(0,(.t 23))]),o 25 (.append 1 t_string 16 (.t 17) (.t 24)),zz1 3 25]
abbrev ytR:List AG:=[zz1 10 4,zz4 11 2 1,zz2 12 1 11,zza 13 12,zz7 14 10 13]
abbrev ytS:ACode:=(.seq (.seq (.reg ytR) (.cond (.t 14) .skip (.exit 0))) (.seq (.block 1 [] (.reg ytQ)) (.reg ytP)))
abbrev ytT:List AG:=[zz9 4 0]
abbrev ytU:List AG:=[zz1 6 3,zz4 7 1 1,zz2 8 1 7,o 9 (.append 1 t_string 16 (.t 6) (.t 8)),zz1 3 9]
abbrev ytV:List AG:=[o 3 (.nilrow 1 t_string)]
abbrev ytW:List AG:=[o 1 (.box 4 (.t 0)),o 2 (.nilrow 1 t_string)]
abbrev r06_Used:AFun:=⟨(.seq (.reg ytW) (.seq (.reg ytV) (.seq (.reg ytU) (.seq (.seq (.reg ytT) (.block 0 ytO (.loop ytN ytS))) (.seq (.seq (.reg ytM) (.block 2 ytH (.loop ytG ytL))) (.seq (.reg ytF) .ret)))))),42,[.tmp 2]⟩
abbrev ytX:List It:=[.code (.seq (.reg ytF) .ret)]
abbrev ytY (x1 x3 x5:AV) (h:List Ob) (e:Cx:=cx):Cfg:=atC n_r06_Used (.code ytL::.inLoop ytG ytL::.inBlock 2 ytH::ytX) [U,x1,U,x3,U,x5,U,U,U,U,U,U,U,U,U,U,U,U,U,U,U,U,U,U,U,U,U,U,U,U,U,U,U,U,U,U,U,U,U,U,U,U] h e
abbrev ytZ:List It:=[.code (.seq (.seq (.reg ytM) (.block 2 ytH (.loop ytG ytL))) (.seq (.reg ytF) .ret))]
abbrev yua (x1 x3 x4:AV) (h:List Ob) (e:Cx:=cx):Cfg:=atC n_r06_Used (.code ytS::.inLoop ytN ytS::.inBlock 0 ytO::ytZ) [U,x1,U,x3,x4,U,U,U,U,U,U,U,U,U,U,U,U,U,U,U,U,U,U,U,U,U,U,U,U,U,U,U,U,U,U,U,U,U,U,U,U,U] h e
@[simp] theorem c_r06_Used:cfun Tryd.prog n_r06_Used=some r06_Used:=by kernel_rfl
@[simp] theorem e_r06_Used:hasBody Tryd.prog n_r06_Used=true:=by kernel_rfl
abbrev yub:List AG:=[o 4 (.mv (.c (.int .i64 (-1))))]
abbrev yuc:List Bool:=[I,I,O,O,O,O,O,I,I,O,O,O,O,O,O,O,O,O,O]
abbrev yud:List Bool:=[O,O,O,O,O,O,O,O,O,O,O,O,O,O,O,O,O,O,O]
abbrev yue:List AG:=[zz6 18 8 1,zz1 8 18]
abbrev yuf:List AG:=[zz1 17 5,zz1 4 17]
abbrev yug:ACode:=(.seq (.reg yuf) .ret)
abbrev yuh:List AG:=[zz1 11 1,zz1 12 0,zz1 13 5,zz5 14 5 12 13,zz3 15 5 14,o 16 (.call (.t 11) [(.t 15)])]
abbrev yui:List AG:=[zz1 10 8,zz1 5 10]
abbrev yuj:ACode:=(.seq (.reg yui) (.seq (.reg yuh) (.cond (.t 16) yug .skip)))
abbrev yuk:List AG:=[zz7 9 8 7]
abbrev yul:ACode:=(.seq (.reg yuk) (.seq (.cond (.t 9) .skip (.exit 0)) (.seq (.block 1 [] yuj) (.reg yue))))
abbrev yum:List AG:=[zz1 6 0,zza 7 6,zz9 8 0]
abbrev yun:List AG:=[zz9 4 0]
abbrev slices_IndexFunc_api_Gate_api_Gate:AFun:=⟨(.seq (.reg yun) (.seq (.seq (.reg yum) (.block 0 yud (.loop yuc yul))) (.seq (.reg yub) .ret))),19,[.tmp 4]⟩
abbrev yuo:List It:=[.code (.seq (.reg yub) .ret)]
abbrev yup (x0 x1 x7 x8:AV) (h:List Ob) (e:Cx:=cx):Cfg:=atC n_slices_IndexFunc_api_Gate_api_Gate (.code yul::.inLoop yuc yul::.inBlock 0 yud::yuo) [x0,x1,U,U,U,U,U,x7,x8,U,U,U,U,U,U,U,U,U,U] h e
@[simp] theorem c_slices_IndexFunc_api_Gate_api_Gate:cfun Tryd.prog n_slices_IndexFunc_api_Gate_api_Gate=some slices_IndexFunc_api_Gate_api_Gate:=by kernel_rfl
@[simp] theorem e_slices_IndexFunc_api_Gate_api_Gate:hasBody Tryd.prog n_slices_IndexFunc_api_Gate_api_Gate=true:=by kernel_rfl
abbrev yuq:List AG:=[zz1 35 6,zz1 2 35]
abbrev yur:List Bool:=[O,O,O,O,O,O,I,O,O,O,O,O,O,O,O,O,O,O,O,O,O,O,O,O,O,I,I,I,O,O,O,O,O,O,O,O]
abbrev yus:List Bool:=[O,O,O,O,O,O,I,O,O,O,O,O,O,O,O,O,O,O,O,O,O,O,O,O,O,O,O,O,O,O,O,O,O,O,O,O]
abbrev yut:List AG:=[zz6 34 27 1,zz1 27 34]
abbrev yuu:List AG:=[zz1 31 6,zz1 32 8,o 33 (.append 1 t_string 16 (.t 31) (.t 32)),zz1 6 33]
abbrev yuv:List AG:=[zz5 29 1 25 27,zz2 30 1 29,zz1 8 30]
abbrev yuw:ACode:=(.seq (.reg yuv) (.reg yuu))
abbrev yux:List AG:=[zz7 28 27 26]
abbrev yuy:ACode:=(.seq (.reg yux) (.seq (.cond (.t 28) .skip (.exit 2)) (.seq (.block 3 [] yuw) (.reg yut))))
abbrev yuz:List AG:=[zz1 25 0,zza 26 25,zz9 27 0]
abbrev yuA:List AG:=[zz1 23 3,o 24 (.call (.f n_slices_Grow_string_string) [(.c (.list true 0 [])),(.t 23)]),zz1 6 24]
abbrev yuB:List Bool:=[I,O,O,I,O,O,O,O,O,I,I,I,O,O,O,O,O,O,O,O,O,O,O,O,O,O,O,O,O,O,O,O,O,O,O,O]
abbrev yuC:List Bool:=[I,O,O,I,O,O,O,O,O,O,O,O,O,O,O,O,O,O,O,O,O,O,O,O,O,O,O,O,O,O,O,O,O,O,O,O]
abbrev yuD:List AG:=[zz6 22 11 1,zz1 11 22]
abbrev yuE:List AG:=[o 21 (.mkIface t_string (.c (.str [108,101,110,32,111,117,116,32,111,102,32,114,97,110,103,101]))),q (.panic (.t 21))]
abbrev yuF:List AG:=[zz1 19 3,o 20 (.cmp .lss (.sc .int) (.t 19) (.c (.int .i64 0)))]
abbrev yuG:List AG:=[zz1 15 3,zz1 16 5,zza 17 16,o 18 (.ibin .add (.t 15) (.t 17)),zz1 3 18]
abbrev yuH:List AG:=[zz5 13 1 9 11,zz2 14 1 13,zz1 5 14]
abbrev yuI:ACode:=(.seq (.reg yuH) (.seq (.reg yuG) (.seq (.reg yuF) (.cond (.t 20) (.reg yuE) .skip))))
abbrev yuJ:List AG:=[zz7 12 11 10]
abbrev yuK:ACode:=(.seq (.reg yuJ) (.seq (.cond (.t 12) .skip (.exit 0)) (.seq (.block 1 [] yuI) (.reg yuD))))
abbrev yuL:List AG:=[zz1 9 0,zza 10 9,zz9 11 0]
abbrev yuM:List AG:=[zz9 3 0]
abbrev yuN:List AG:=[o 2 (.nilrow 1 t_string)]
abbrev slices_Concat_string_string:AFun:=⟨(.seq (.reg yuN) (.seq (.reg yuM) (.seq (.seq (.reg yuL) (.block 0 yuC (.loop yuB yuK))) (.seq (.reg yuA) (.seq (.seq (.reg yuz) (.block 2 yus (.loop yur yuy))) (.seq (.reg yuq) .ret)))))),36,[.tmp 2]⟩
abbrev yuO:List It:=[.code (.seq (.reg yuq) .ret)]
abbrev yuP (x6 x25 x26 x27:AV) (h:List Ob) (e:Cx:=cx):Cfg:=atC n_slices_Concat_string_string (.code yuy::.inLoop yur yuy::.inBlock 2 yus::yuO) [U,U,U,U,U,U,x6,U,U,U,U,U,U,U,U,U,U,U,U,U,U,U,U,U,U,x25,x26,x27,U,U,U,U,U,U,U,U] h e
abbrev yuQ:List It:=[.code (.seq (.reg yuA) (.seq (.seq (.reg yuz) (.block 2 yus (.loop yur yuy))) (.seq (.reg yuq) .ret)))]
abbrev yuR (x0 x3 x9 x10 x11:AV) (h:List Ob) (e:Cx:=cx):Cfg:=atC n_slices_Concat_string_string (.code yuK::.inLoop yuB yuK::.inBlock 0 yuC::yuQ) [x0,U,U,x3,U,U,U,U,U,x9,x10,x11,U,U,U,U,U,U,U,U,U,U,U,U,U,U,U,U,U,U,U,U,U,U,U,U] h e
@[simp] theorem c_slices_Concat_string_string:cfun Tryd.prog n_slices_Concat_string_string=some slices_Concat_string_string:=by kernel_rfl
@[simp] theorem e_slices_Concat_string_string:hasBody Tryd.prog n_slices_Concat_string_string=true:=by kernel_rfl
abbrev yuS:List AG:=[zz1 4 0,o 5 (.cmp .neq (.sc .str) (.t 4) (.c (.str []))),zz1 6 5,zze 7 6 0,oy 8 6 (.lenStr (.t 7)),oy 9 6 (.cmp .leq (.sc .int) (.t 8) (.c (.int .i64 40))),zz8 10 6 9,zz1 11 10,zze 12 11 0,zze 13 11 3,oy 14 11 (.call (.f n_strings_IndexFunc) [(.t 12),(.t 13)]),oy 15 11 (.cmp .lss (.sc .int) (.t 14) (.c (.int .i64 0))),zz8 16 11 15,zz1 2 16]
abbrev yuT:List AG:=[o 3 (.mv (.f n_ident_name_plain_1))]
abbrev yuU:List AG:=[zzh 2]
abbrev ident_name_plain:AFun:=⟨(.seq (.reg yuU) (.seq (.reg yuT) (.seq (.reg yuS) .ret))),17,[.tmp 2]⟩
@[simp] theorem c_ident_name_plain:cfun Tryd.prog n_ident_name_plain=some ident_name_plain:=by kernel_rfl
@[simp] theorem e_ident_name_plain:hasBody Tryd.prog n_ident_name_plain=true:=by kernel_rfl
abbrev yuV:List AG:=[zz1 4 0,zz4 5 2 1,zz2 6 1 5,zza 7 6,zzg 8 n_net_row 4 7,o 9 (.not (.t 8)),zz1 3 9]
abbrev yuW:List AG:=[zzh 3]
abbrev net_Gate_1:AFun:=⟨(.seq (.reg yuW) (.seq (.reg yuV) .ret)),10,[.tmp 3]⟩
@[simp] theorem c_net_Gate_1:cfun Tryd.prog n_net_Gate_1=some net_Gate_1:=by kernel_rfl
@[simp] theorem e_net_Gate_1:hasBody Tryd.prog n_net_Gate_1=true:=by kernel_rfl
abbrev yuX:List AG:=[zz1 5 0,o 6 (.lenStr (.t 5)),zz1 7 1,o 8 (.cmp .eql (.sc .int) (.t 6) (.t 7)),zz1 9 8,zze 10 9 0,oy 11 9 (.call (.f n_strings_Trim) [(.t 10),(.c (.str [48,49,45]))]),oy 12 9 (.cmp .eql (.sc .str) (.t 11) (.c (.str []))),zz8 13 9 12,zz1 4 13]
abbrev yuY:List AG:=[zzh 4]
abbrev net_row:AFun:=⟨(.seq (.reg yuY) (.seq (.reg yuX) .ret)),14,[.tmp 4]⟩
@[simp] theorem c_net_row:cfun Tryd.prog n_net_row=some net_row:=by kernel_rfl
@[simp] theorem e_net_row:hasBody Tryd.prog n_net_row=true:=by kernel_rfl
abbrev yuZ:List AG:=[zz1 13 6,zz1 14 13,zze 15 14 1,oy 16 14 (.arrAddr 2 1 (.t 5) (.c (.int .i64 0))),zzd 17 14 1 16,oy 18 14 (.cmp .geq (.sc .int) (.t 15) (.t 17)),zz8 19 14 18,zz1 20 19,zze 21 20 1,oy 22 20 (.arrAddr 2 1 (.t 5) (.c (.int .i64 1))),zzd 23 20 1 22,oy 24 20 (.cmp .leq (.sc .int) (.t 21) (.t 23)),zz8 25 20 24,zz1 4 25]
abbrev yva:List AG:=[o 8 (.load false 1 (.g 0)),zz1 9 0,o 10 (.lookup (.sc .int) (.agg [(.int .i64 0),(.int .i64 0)]) (.t 8) (.t 9) true),zz1 7 10,zzc 11 7 0,zzc 12 7 1,o 5 (.alloc [(.int .i64 0),(.int .i64 0)]),zzb 2 5 11,zz1 6 12]
abbrev yvb:List AG:=[zzh 4]
abbrev net_has:AFun:=⟨(.seq (.reg yvb) (.seq (.reg yva) (.seq (.reg yuZ) .ret))),26,[.tmp 4]⟩
@[simp] theorem c_net_has:cfun Tryd.prog n_net_has=some net_has:=by kernel_rfl
@[simp] theorem e_net_has:hasBody Tryd.prog n_net_has=true:=by kernel_rfl
abbrev yvc:List AG:=[zz1 5 0,zz1 6 1,zzg 7 n_slices_IndexFunc_string_string 5 6,o 8 (.cmp .geq (.sc .int) (.t 7) (.c (.int .i64 0))),zz1 4 8]
abbrev yvd:List AG:=[zzh 4]
abbrev slices_ContainsFunc_string_string:AFun:=⟨(.seq (.reg yvd) (.seq (.reg yvc) .ret)),9,[.tmp 4]⟩
@[simp] theorem c_slices_ContainsFunc_string_string:cfun Tryd.prog n_slices_ContainsFunc_string_string=some slices_ContainsFunc_string_string:=by kernel_rfl
@[simp] theorem e_slices_ContainsFunc_string_string:hasBody Tryd.prog n_slices_ContainsFunc_string_string=true:=by kernel_rfl
abbrev yve:List Bool:=[I,I,O,O,O,O,O,O,O,O,O,O,O,O,O,O,O,O,O,O,O,O,O]
abbrev yvf:List Bool:=[O,O,O,O,O,O,O,O,O,O,O,O,O,O,O,O,O,O,O,O,O,O,O]
abbrev yvg:List AG:=[zz1 22 4,zz1 1 22]
abbrev yvh:List AG:=[zz1 18 0,zz1 19 4,zz1 20 1,o 21 (.invoke (.t 18) "Swap" [(.t 19),(.t 20)])]
abbrev yvi:List AG:=[zz1 8 4,zz1 9 1,o 10 (.cmp .eql (.sc .int) (.t 8) (.t 9)),zz1 11 10,on 12 11 (.mv (.t 0)),on 13 11 (.mv (.t 1)),on 14 11 (.mv (.t 4)),on 15 11 (.invoke (.t 12) "Less" [(.t 13),(.t 14)]),on 16 11 (.not (.t 15)),o 17 (.pick (.t 11) (.c (.bool true)) (.t 16))]
abbrev yvj:List AG:=[zz1 5 1,o 6 (.ibin .sub (.t 5) (.c (.int .i64 1))),o 7 (.ibin .quo (.t 6) (.c (.int .i64 2))),zz1 4 7]
abbrev yvk:ACode:=(.seq (.reg yvj) (.seq (.seq (.reg yvi) (.cond (.t 17) (.exit 0) .skip)) (.seq (.reg yvh) (.reg yvg))))
abbrev yvl:ACode:=(.block 1 [] yvk)
abbrev container_heap_up:AFun:=⟨(.block 0 yvf (.loop yve yvl)),23,[]⟩
abbrev yvm:List It:=[]
abbrev yvn (x0 x1:AV) (h:List Ob) (e:Cx:=cx):Cfg:=atC n_container_heap_up (.code yvl::.inLoop yve yvl::.inBlock 0 yvf::yvm) [x0,x1,U,U,U,U,U,U,U,U,U,U,U,U,U,U,U,U,U,U,U,U,U] h e
@[simp] theorem c_container_heap_up:cfun Tryd.prog n_container_heap_up=some container_heap_up:=by kernel_rfl
@[simp] theorem e_container_heap_up:hasBody Tryd.prog n_container_heap_up=true:=by kernel_rfl
abbrev yvo:List AG:=[zz1 45 7,zz1 46 1,o 47 (.cmp .gtr (.sc .int) (.t 45) (.t 46)),zz1 6 47]
abbrev yvp:List Bool:=[I,I,I,O,O,O,O,I,O,O,O,O,O,O,O,O,O,O,O,O,O,O,O,O,O,O,O,O,O,O,O,O,O,O,O,O,O,O,O,O,O,O,O,O,O,O,O,O]
abbrev yvq:List Bool:=[O,I,O,O,O,O,O,I,O,O,O,O,O,O,O,O,O,O,O,O,O,O,O,O,O,O,O,O,O,O,O,O,O,O,O,O,O,O,O,O,O,O,O,O,O,O,O,O]
abbrev yvr:List AG:=[zz1 44 9,zz1 7 44]
abbrev yvs:List AG:=[zz1 40 0,zz1 41 7,zz1 42 9,o 43 (.invoke (.t 40) "Swap" [(.t 41),(.t 42)])]
abbrev yvt:List AG:=[zz1 35 0,zz1 36 9,zz1 37 7,o 38 (.invoke (.t 35) "Less" [(.t 36),(.t 37)]),o 39 (.not (.t 38))]
abbrev yvu:List AG:=[zz1 34 10,zz1 9 34]
abbrev yvv:List AG:=[zz1 25 10,zz1 26 2,zz7 27 25 26,zz1 28 27,zze 29 28 0,zze 30 28 10,zze 31 28 8,oy 32 28 (.invoke (.t 29) "Less" [(.t 30),(.t 31)]),zz8 33 28 32]
abbrev yvw:List AG:=[zz1 23 8,zz6 24 23 1,zz1 10 24]
abbrev yvx:List AG:=[zz1 22 8,zz1 9 22]
abbrev yvy:List AG:=[zz1 15 8,zz1 16 2,o 17 (.cmp .geq (.sc .int) (.t 15) (.t 16)),zz1 18 17,on 19 18 (.mv (.t 8)),on 20 18 (.cmp .lss (.sc .int) (.t 19) (.c (.int .i64 0))),o 21 (.pick (.t 18) (.c (.bool true)) (.t 20))]
abbrev yvz:List AG:=[zz1 12 7,o 13 (.ibin .mul (.c (.int .i64 2)) (.t 12)),zz6 14 13 1,zz1 8 14]
abbrev yvA:ACode:=(.seq (.reg yvz) (.seq (.seq (.reg yvy) (.cond (.t 21) (.exit 0) .skip)) (.seq (.reg yvx) (.seq (.seq (.reg yvw) (.seq (.reg yvv) (.cond (.t 33) (.reg yvu) .skip))) (.seq (.seq (.reg yvt) (.cond (.t 39) (.exit 0) .skip)) (.seq (.reg yvs) (.reg yvr)))))))
abbrev yvB:ACode:=(.block 1 [] yvA)
abbrev yvC:List AG:=[zz1 11 1,zz1 7 11]
abbrev yvD:List AG:=[zzh 6]
abbrev container_heap_down:AFun:=⟨(.seq (.reg yvD) (.seq (.reg yvC) (.seq (.block 0 yvq (.loop yvp yvB)) (.seq (.reg yvo) .ret)))),48,[.tmp 6]⟩
abbrev yvE:List It:=[.code (.seq (.reg yvo) .ret)]
abbrev yvF (x0 x1 x2 x7:AV) (h:List Ob) (e:Cx:=cx):Cfg:=atC n_container_heap_down (.code yvB::.inLoop yvp yvB::.inBlock 0 yvq::yvE) [x0,x1,x2,U,U,U,U,x7,U,U,U,U,U,U,U,U,U,U,U,U,U,U,U,U,U,U,U,U,U,U,U,U,U,U,U,U,U,U,U,U,U,U,U,U,U,U,U,U] h e
@[simp] theorem c_container_heap_down:cfun Tryd.prog n_container_heap_down=some container_heap_down:=by kernel_rfl
@[simp] theorem e_container_heap_down:hasBody Tryd.prog n_container_heap_down=true:=by kernel_rfl
abbrev yvG:List AG:=[zz1 28 0,o 29 (.lenStr (.t 28)),zz1 30 1,o 31 (.cmp .eql (.sc .int) (.t 29) (.t 30)),zz1 4 31]
abbrev yvH:List Bool:=[I,I,O,O,O,I,O,O,O,O,O,O,O,O,O,O,O,O,O,O,O,O,O,O,O,O,O,O,O,O,O,O]
abbrev yvI:List Bool:=[I,I,O,O,O,O,O,O,O,O,O,O,O,O,O,O,O,O,O,O,O,O,O,O,O,O,O,O,O,O,O,O]
abbrev yvJ:List AG:=[zz1 10 5,zz6 11 10 1,zz1 5 11]
abbrev yvK:List AG:=[zzh 4]
abbrev yvL:ACode:=(.seq (.reg yvK) .ret)
abbrev yvM:List AG:=[zz1 12 0,zz1 13 5,o 14 (.ixStr (.t 12) (.t 13)),o 15 (.cmp .neq (.sc .int) (.t 14) (.c (.int .u8 48))),zz1 16 15,zze 17 16 0,zze 18 16 5,oy 19 16 (.ixStr (.t 17) (.t 18)),oy 20 16 (.cmp .neq (.sc .int) (.t 19) (.c (.int .u8 49))),zz8 21 16 20,zz1 22 21,zze 23 22 0,zze 24 22 5,oy 25 22 (.ixStr (.t 23) (.t 24)),oy 26 22 (.cmp .neq (.sc .int) (.t 25) (.c (.int .u8 45))),zz8 27 22 26]
abbrev yvN:ACode:=(.seq (.reg yvM) (.cond (.t 27) yvL .skip))
abbrev yvO:List AG:=[zz1 6 5,zz1 7 0,o 8 (.lenStr (.t 7)),zz7 9 6 8]
abbrev yvP:ACode:=(.seq (.seq (.reg yvO) (.cond (.t 9) .skip (.exit 0))) (.seq (.block 1 [] yvN) (.reg yvJ)))
abbrev yvQ:List AG:=[zz9 5 0]
abbrev yvR:List AG:=[zzh 4]
abbrev r06_row:AFun:=⟨(.seq (.reg yvR) (.seq (.seq (.reg yvQ) (.block 0 yvI (.loop yvH yvP))) (.seq (.reg yvG) .ret))),32,[.tmp 4]⟩
abbrev yvS:List It:=[.code (.seq (.reg yvG) .ret)]
abbrev yvT (x0 x1 x5:AV) (h:List Ob) (e:Cx:=cx):Cfg:=atC n_r06_row (.code yvP::.inLoop yvH yvP::.inBlock 0 yvI::yvS) [x0,x1,U,U,U,x5,U,U,U,U,U,U,U,U,U,U,U,U,U,U,U,U,U,U,U,U,U,U,U,U,U,U] h e
@[simp] theorem c_r06_row:cfun Tryd.prog n_r06_row=some r06_row:=by kernel_rfl
@[simp] theorem e_r06_row:hasBody Tryd.prog n_r06_row=true:=by kernel_rfl
abbrev yvU:List AG:=[zz1 26 0,zz1 4 26]
abbrev yvV:List AG:=[zz1 17 0,zz1 18 0,o 19 (.cap (.t 18)),o 20 (.slice 1 (.t 17) none (some (.t 19))),zz1 21 1,o 22 (.appendZ 1 t_string 16 (.str []) (.t 20) (.t 21)),zz1 23 0,zza 24 23,o 25 (.slice 1 (.t 22) none (some (.t 24))),zz1 0 25]
abbrev yvW:List AG:=[zz1 15 1,o 16 (.cmp .gtr (.sc .int) (.t 15) (.c (.int .i64 0)))]
abbrev yvX:List AG:=[zz1 8 1,zz1 9 0,o 10 (.cap (.t 9)),zz1 11 0,zza 12 11,o 13 (.ibin .sub (.t 10) (.t 12)),o 14 (.ibin .sub (.t 8) (.t 13)),zz1 1 14]
abbrev yvY:List AG:=[o 7 (.mkIface t_string (.c (.str [99,97,110,110,111,116,32,98,101,32,110,101,103,97,116,105,118,101]))),q (.panic (.t 7))]
abbrev yvZ:List AG:=[zz1 5 1,o 6 (.cmp .lss (.sc .int) (.t 5) (.c (.int .i64 0)))]
abbrev ywa:List AG:=[o 4 (.nilrow 1 t_string)]
abbrev slices_Grow_string_string:AFun:=⟨(.seq (.reg ywa) (.seq (.seq (.reg yvZ) (.cond (.t 6) (.reg yvY) .skip)) (.seq (.seq (.reg yvX) (.seq (.reg yvW) (.cond (.t 16) (.reg yvV) .skip))) (.seq (.reg yvU) .ret)))),27,[.tmp 4]⟩
@[simp] theorem c_slices_Grow_string_string:cfun Tryd.prog n_slices_Grow_string_string=some slices_Grow_string_string:=by kernel_rfl
@[simp] theorem e_slices_Grow_string_string:hasBody Tryd.prog n_slices_Grow_string_string=true:=by kernel_rfl
abbrev ywb:List AG:=[zz1 3 0,o 4 (.cmp .leq (.sc .int) (.t 3) (.c (.int .i32 32))),zz1 5 4,on 6 5 (.mv (.t 0)),on 7 5 (.cmp .gtr (.sc .int) (.t 6) (.c (.int .i32 126))),o 8 (.pick (.t 5) (.c (.bool true)) (.t 7)),zz1 2 8]
abbrev ywc:List AG:=[zzh 2]
abbrev ident_name_plain_1:AFun:=⟨(.seq (.reg ywc) (.seq (.reg ywb) .ret)),9,[.tmp 2]⟩
@[simp] theorem c_ident_name_plain_1:cfun Tryd.prog n_ident_name_plain_1=some ident_name_plain_1:=by kernel_rfl
@[simp] theorem e_ident_name_plain_1:hasBody Tryd.prog n_ident_name_plain_1=true:=by kernel_rfl
abbrev ywd:List AG:=[zz1 5 0,zz1 6 1,o 7 (.call (.f n_strings_indexFunc) [(.t 5),(.t 6),(.c (.bool true))]),zz1 4 7]
abbrev ywe:List AG:=[zz9 4 0]
abbrev strings_IndexFunc:AFun:=⟨(.seq (.reg ywe) (.seq (.reg ywd) .ret)),8,[.tmp 4]⟩
@[simp] theorem c_strings_IndexFunc:cfun Tryd.prog n_strings_IndexFunc=some strings_IndexFunc:=by kernel_rfl
@[simp] theorem e_strings_IndexFunc:hasBody Tryd.prog n_strings_IndexFunc=true:=by kernel_rfl
@[simp] theorem e_strings_Trim:hasBody Tryd.prog n_strings_Trim=true:=by kernel_rfl
abbrev ywf:List AG:=[o 4 (.mv (.c (.int .i64 (-1))))]
abbrev ywg:List Bool:=[I,I,O,O,O,O,O,I,I,O,O,O,O,O,O,O,O,O,O]
abbrev ywh:List Bool:=[O,O,O,O,O,O,O,O,O,O,O,O,O,O,O,O,O,O,O]
abbrev ywi:List AG:=[zz6 18 8 1,zz1 8 18]
abbrev ywj:List AG:=[zz1 17 5,zz1 4 17]
abbrev ywk:ACode:=(.seq (.reg ywj) .ret)
abbrev ywl:List AG:=[zz1 11 1,zz1 12 0,zz1 13 5,zz5 14 1 12 13,zz2 15 1 14,o 16 (.call (.t 11) [(.t 15)])]
abbrev ywm:List AG:=[zz1 10 8,zz1 5 10]
abbrev ywn:ACode:=(.seq (.reg ywm) (.seq (.reg ywl) (.cond (.t 16) ywk .skip)))
abbrev ywo:List AG:=[zz7 9 8 7]
abbrev ywp:ACode:=(.seq (.reg ywo) (.seq (.cond (.t 9) .skip (.exit 0)) (.seq (.block 1 [] ywn) (.reg ywi))))
abbrev ywq:List AG:=[zz1 6 0,zza 7 6,zz9 8 0]
abbrev ywr:List AG:=[zz9 4 0]
abbrev slices_IndexFunc_string_string:AFun:=⟨(.seq (.reg ywr) (.seq (.seq (.reg ywq) (.block 0 ywh (.loop ywg ywp))) (.seq (.reg ywf) .ret))),19,[.tmp 4]⟩
abbrev yws:List It:=[.code (.seq (.reg ywf) .ret)]
abbrev ywt (x0 x1 x7 x8:AV) (h:List Ob) (e:Cx:=cx):Cfg:=atC n_slices_IndexFunc_string_string (.code ywp::.inLoop ywg ywp::.inBlock 0 ywh::yws) [x0,x1,U,U,U,U,U,x7,x8,U,U,U,U,U,U,U,U,U,U] h e
@[simp] theorem c_slices_IndexFunc_string_string:cfun Tryd.prog n_slices_IndexFunc_string_string=some slices_IndexFunc_string_string:=by kernel_rfl
@[simp] theorem e_slices_IndexFunc_string_string:hasBody Tryd.prog n_slices_IndexFunc_string_string=true:=by kernel_rfl
abbrev ywu:List AG:=[o 6 (.mv (.c (.int .i64 (-1))))]
abbrev ywv:List Bool:=[O,I,I,O,O,O,O,O,O,O,I,O,O,O,O,O,O,O,O,O,O]
abbrev yww:List Bool:=[O,O,O,O,O,O,O,O,O,O,O,O,O,O,O,O,O,O,O,O,O]
abbrev ywx:List AG:=[zz1 20 7,zz1 6 20]
abbrev ywy:ACode:=(.seq (.reg ywx) .ret)
abbrev ywz:List AG:=[zz1 15 1,zz1 16 8,o 17 (.call (.t 15) [(.t 16)]),zz1 18 2,o 19 (.cmp .eql (.sc .bool) (.t 17) (.t 18))]
abbrev ywA:List AG:=[zzc 13 11 1,zzc 14 11 2,zz1 7 13,zz1 8 14]
abbrev ywB:ACode:=(.seq (.reg ywA) (.seq (.reg ywz) (.cond (.t 19) ywy .skip)))
abbrev ywC:List AG:=[o 11 (.next (.t 10)),zzc 12 11 0]
abbrev ywD:ACode:=(.seq (.reg ywC) (.seq (.cond (.t 12) .skip (.exit 0)) (.block 1 [] ywB)))
abbrev ywE:List AG:=[zz1 9 0,o 10 (.range (.t 9))]
abbrev ywF:List AG:=[zz9 6 0]
abbrev strings_indexFunc:AFun:=⟨(.seq (.reg ywF) (.seq (.seq (.reg ywE) (.block 0 yww (.loop ywv ywD))) (.seq (.reg ywu) .ret))),21,[.tmp 6]⟩
abbrev ywG:List It:=[.code (.seq (.reg ywu) .ret)]
abbrev ywH (x1 x2 x10:AV) (h:List Ob) (e:Cx:=cx):Cfg:=atC n_strings_indexFunc (.code ywD::.inLoop ywv ywD::.inBlock 0 yww::ywG) [U,x1,x2,U,U,U,U,U,U,U,x10,U,U,U,U,U,U,U,U,U,U] h e
@[simp] theorem c_strings_indexFunc:cfun Tryd.prog n_strings_indexFunc=some strings_indexFunc:=by kernel_rfl
@[simp] theorem e_strings_indexFunc:hasBody Tryd.prog n_strings_indexFunc=true:=by kernel_rfl
abbrev ywI:List AG:=[zz1 7 0,zz1 8 1,zz5 9 1 7 8,zz2 10 1 9,zz1 11 0,zz1 12 2,zz5 13 1 11 12,zz2 14 1 13,zz7 15 10 14,zz1 6 15]
abbrev ywJ:List AG:=[zzh 6]
abbrev order_pile_Less:AFun:=⟨(.seq (.reg ywJ) (.seq (.dreg [O,O,O,O,O,O,O,O,O,O] [11,11,11,11,11,11,11,11,11,11] ywI) .ret)),16,[.tmp 6]⟩
@[simp] theorem c_order_pile_Less:cfun Tryd.prog n_order_pile_Less=some order_pile_Less:=by kernel_rfl
@[simp] theorem e_order_pile_Less:hasBody Tryd.prog n_order_pile_Less=true:=by kernel_rfl
abbrev ywK:List AG:=[zz1 25 3,o 26 (.mkIface t_int (.t 25)),zz1 2 26]
abbrev ywL:List AG:=[zz1 14 0,zz1 15 0,o 16 (.nilck (.t 15)),zz2 17 1 16,zz1 18 0,o 19 (.nilck (.t 18)),zz2 20 1 19,zza 21 20,o 22 (.ibin .sub (.t 21) (.c (.int .i64 1))),o 23 (.slice 1 (.t 17) none (some (.t 22))),o 24 (.nilck (.t 14)),zzb 1 24 23]
abbrev ywM:List AG:=[zz1 4 0,o 5 (.nilck (.t 4)),zz2 6 1 5,zz1 7 0,o 8 (.nilck (.t 7)),zz2 9 1 8,zza 10 9,o 11 (.ibin .sub (.t 10) (.c (.int .i64 1))),zz5 12 1 6 11,zz2 13 1 12,zz1 3 13]
abbrev ywN:List AG:=[o 2 (.mv (.c .nili))]
abbrev order_pile_Pop:AFun:=⟨(.seq (.reg ywN) (.seq (.dreg [O,O,O,O,O,O,O,O,O,O,O] [12,12,12,12,12,12,12,12,12,12,12] ywM) (.seq (.dreg [O,O,O,O,O,O,O,O,O,O,O,O] [12,12,12,12,12,12,12,12,12,12,12,13] ywL) (.seq (.reg ywK) .ret)))),27,[.tmp 2]⟩
@[simp] theorem c_order_pile_Pop:cfun Tryd.prog n_order_pile_Pop=some order_pile_Pop:=by kernel_rfl
@[simp] theorem e_order_pile_Pop:hasBody Tryd.prog n_order_pile_Pop=true:=by kernel_rfl
abbrev ywO:List AG:=[zz1 4 0,zz1 5 0,o 6 (.nilck (.t 5)),zz2 7 1 6,zz1 8 1,o 9 (.tassert (.t 8) t_int (.int .i64 0) false),o 10 (.lit 1 [(.int .i64 0)] [(0,(.t 9))]),o 11 (.append 1 t_int 8 (.t 7) (.t 10)),o 12 (.nilck (.t 4)),zzb 1 12 11]
abbrev order_pile_Push:AFun:=⟨(.dreg [O,O,O,I,O,O,O,O,O,O] [10,8,8,8,7,7,8,10,10,11] ywO),13,[]⟩
@[simp] theorem c_order_pile_Push:cfun Tryd.prog n_order_pile_Push=some order_pile_Push:=by kernel_rfl
@[simp] theorem e_order_pile_Push:hasBody Tryd.prog n_order_pile_Push=true:=by kernel_rfl
abbrev ywP:List AG:=[zz1 6 0,zz1 7 1,zz1 8 0,zz1 9 2,zz1 10 0,zz1 11 2,zz5 12 1 10 11,zz2 13 1 12,zz1 14 0,zz1 15 1,zz5 16 1 14 15,zz2 17 1 16,zz5 18 1 6 7,zzb 1 18 13,zz5 19 1 8 9,zzb 1 19 17]
abbrev order_pile_Swap:AFun:=⟨(.dreg [O,O,O,O,O,O,O,O,O,O,O,O,O,O,O,O] [14,14,16,16,14,14,14,14,14,14,14,14,14,16,16,17] ywP),20,[]⟩
@[simp] theorem c_order_pile_Swap:cfun Tryd.prog n_order_pile_Swap=some order_pile_Swap:=by kernel_rfl
@[simp] theorem e_order_pile_Swap:hasBody Tryd.prog n_order_pile_Swap=true:=by kernel_rfl
end Go.Proofs.YtpkngebjapfibaaDoor
