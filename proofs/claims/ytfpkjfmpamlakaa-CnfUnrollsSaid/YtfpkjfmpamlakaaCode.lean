/- The functions, as the abstract machine has them. Printed by a program. -/
import Derived.Test.YtfpkjfmpamlakaaAMd
import Derived.Test.YtfpkjfmpamlakaaChecked
import Derived.KernelRfl
set_option linter.unusedSimpArgs false
set_option linter.unusedVariables false
namespace Go.Proofs.Ytfpkjfmpamlakaa
open Go.AM Go.Proofs
abbrev zz1 (d i:Nat):AG:=o d (.mv (.t i))
abbrev zz2 (d k i:Nat):AG:=o d (.load false k (.t i))
abbrev zz3 (d k i:Nat):AG:=o d (.load true k (.t i))
abbrev zz4 (d k i:Nat):AG:=o d (.off k (.t i))
abbrev zz5 (d k i j:Nat):AG:=o d (.ixAddr k (.t i) (.t j))
abbrev zz6 (d i:Nat) (n:Int):AG:=o d (.ibin .add (.t i) (.c (.int .i64 n)))
abbrev zz7 (d i j:Nat):AG:=o d (.cmp .lss (.sc .int) (.t i) (.t j))
abbrev zz8 (d i j:Nat):AG:=o d (.pick (.t i) (.t j) (.c (.bool false)))
abbrev zz9 (d:Nat) (n:Int):AG:=o d (.mv (.c (.int .i64 n)))
abbrev zza (d i:Nat):AG:=o d (.len (.t i))
abbrev zzb (k a x:Nat):AG:=q (.store k (.t a) (.t x))
abbrev zzc (d i k:Nat):AG:=o d (.extract (.t i) k)
abbrev zzd (d j k i:Nat):AG:=oy d j (.load false k (.t i))
abbrev zze (d j i:Nat):AG:=oy d j (.mv (.t i))
abbrev zzf (d:Nat) (f:FuncId) (i:Nat):AG:=o d (.call (.f f) [(.t i)])
abbrev zzg (d:Nat) (f:FuncId) (i j:Nat):AG:=o d (.call (.f f) [(.t i),(.t j)])
abbrev zzh (d:Nat):AG:=o d (.mv (.c (.bool false)))
abbrev n_w19_CnfUnrolls:FuncId:=4
abbrev n_w19_CnfSizes:FuncId:=7
abbrev n_w19_works:FuncId:=9
abbrev n_cnf_True:FuncId:=13
abbrev n_w19_Of:FuncId:=16
abbrev n_r19_Same:FuncId:=17
abbrev n_cnf_Check:FuncId:=18
abbrev n_cnf_Lit:FuncId:=19
abbrev n_cnf_Same:FuncId:=20
abbrev n_w19_small:FuncId:=21
abbrev n_w08_Rows:FuncId:=22
abbrev n_cnf_Unroll:FuncId:=23
abbrev n_r19_Unroll:FuncId:=24
abbrev n_cnf_Values:FuncId:=25
abbrev n_r19_Values:FuncId:=26
abbrev n_r08_Bools:FuncId:=27
abbrev n_aig_Values:FuncId:=28
abbrev n_aig_Step:FuncId:=30
abbrev n_r09_First:FuncId:=31
abbrev n_r01_Ints:FuncId:=32
abbrev n_r19_Clauses:FuncId:=33
abbrev n_cnf_True_1:FuncId:=35
abbrev n_cnf_True_2:FuncId:=36
abbrev n_slices_ContainsFunc_api_Clause_int:FuncId:=37
abbrev n_slices_ContainsFunc_api_Clause_api_Clause:FuncId:=38
abbrev n_r19_in:FuncId:=40
abbrev n_cnf_Check_1:FuncId:=41
abbrev n_cnf_Check_2:FuncId:=42
abbrev n_cnf_builder_lit:FuncId:=43
abbrev n_cnf_Same_1:FuncId:=44
abbrev n_slices_Equal_api_Clause_int:FuncId:=45
abbrev n_slices_EqualFunc_api_Clause_api_Clause_api_Clause_api_Clause:FuncId:=46
abbrev n_slices_EqualFunc_int_int_int_int:FuncId:=47
abbrev n_slices_Equal_int_int:FuncId:=48
abbrev n_w09_Few:FuncId:=49
abbrev n_cnf_can:FuncId:=50
abbrev n_cnf_builder_add:FuncId:=51
abbrev n_cnf_builder_fresh:FuncId:=52
abbrev n_cnf_builder_begin:FuncId:=53
abbrev n_cnf_builder_step:FuncId:=54
abbrev n_r19_can:FuncId:=55
abbrev n_r19_begins:FuncId:=56
abbrev n_r19_step:FuncId:=57
abbrev n_slices_Concat_bool_bool:FuncId:=58
abbrev n_r09_Values:FuncId:=59
abbrev n_r09_Lit:FuncId:=60
abbrev n_aig_Check:FuncId:=61
abbrev n_aig_value:FuncId:=62
abbrev n_aig_Step_1:FuncId:=63
abbrev n_slices_IndexFunc_api_Clause_int:FuncId:=64
abbrev n_slices_IndexFunc_api_Clause_api_Clause:FuncId:=65
abbrev n_slices_ContainsFunc_int_int:FuncId:=67
abbrev n_cnf_can_1:FuncId:=68
abbrev n_r09_Check:FuncId:=69
abbrev n_r19_right:FuncId:=70
abbrev n_r19_many:FuncId:=71
abbrev n_slices_Grow_bool_bool:FuncId:=72
abbrev n_aig_first:FuncId:=73
abbrev n_aig_Check_1:FuncId:=74
abbrev n_aig_Check_2:FuncId:=75
abbrev n_slices_IndexFunc_int_int:FuncId:=76
abbrev n_r09_literal:FuncId:=77
abbrev t_int:TypeId:=3
abbrev t_bool:TypeId:=4
abbrev t_string:TypeId:=9
abbrev t_int_3:TypeId:=41
abbrev t_2_int_2:TypeId:=66
abbrev t_api_Clause_2:TypeId:=67
abbrev ya:List AG:=[zz1 82 11,zz1 83 82,zze 84 83 21,zz8 85 83 84,zz1 86 85,zze 87 86 14,zze 88 86 16,oy 89 86 (.cmp .eql (.sc .int) (.t 87) (.t 88)),zz8 90 86 89,zz1 91 90,zze 92 91 17,zze 93 91 19,oy 94 91 (.call (.f n_r08_Bools) [(.t 92),(.t 93)]),zz8 95 91 94,zz1 96 95,zze 97 96 18,zze 98 96 20,oy 99 96 (.cmp .eql (.sc .int) (.t 97) (.t 98)),zz8 100 96 99,zz1 10 100]
abbrev yb:List AG:=[zz3 78 3 13,zzf 79 n_w19_Of 78,zz3 80 3 15,zzg 81 n_r19_Same 79 80,zz1 21 81]
abbrev yc:List AG:=[zz3 71 5 5,zz1 72 1,zz1 73 3,zz1 74 4,o 75 (.call (.f n_r19_Values) [(.t 71),(.t 72),(.t 73),(.t 74)]),zz1 70 75,zzc 76 70 0,zzc 77 70 1,zz1 19 76,zz1 20 77]
abbrev yd:List AG:=[zz3 63 5 5,zz1 64 1,zz1 65 3,zz1 66 4,o 67 (.call (.f n_cnf_Values) [(.t 63),(.t 64),(.t 65),(.t 66)]),zz1 62 67,zzc 68 62 0,zzc 69 62 1,zz1 17 68,zz1 18 69]
abbrev ye:List AG:=[zz3 56 5 5,zz1 57 1,zz1 58 2,o 59 (.call (.f n_r19_Unroll) [(.t 56),(.t 57),(.t 58)]),zz1 55 59,zzc 60 55 0,zzc 61 55 1,o 15 (.alloc [(.int .i64 0),(.own 1 t_api_Clause_2 []),(.own 1 t_int_3 [])]),zzb 3 15 60,zz1 16 61]
abbrev yf:List AG:=[zz3 49 5 5,zz1 50 1,zz1 51 2,o 52 (.call (.f n_cnf_Unroll) [(.t 49),(.t 50),(.t 51)]),zz1 48 52,zzc 53 48 0,zzc 54 48 1,o 13 (.alloc [(.int .i64 0),(.own 1 t_api_Clause_2 []),(.own 1 t_int_3 [])]),zzb 3 13 53,zz1 14 54]
abbrev yg:List AG:=[zz1 47 11,zz1 10 47]
abbrev yh:ACode:=(.seq (.reg yg) .ret)
abbrev yi:List AG:=[zz1 40 12,o 41 (.not (.t 40)),zz1 42 41,on 43 42 (.mv (.t 3)),on 44 42 (.len (.t 43)),on 45 42 (.cmp .gtr (.sc .int) (.t 44) (.c (.int .i64 60))),o 46 (.pick (.t 42) (.c (.bool true)) (.t 45))]
abbrev yj:List AG:=[zz3 25 5 5,zz1 26 1,zz1 27 2,o 28 (.call (.f n_w19_small) [(.t 25),(.t 26),(.t 27)]),zz1 29 28,oy 30 29 (.load true 5 (.t 5)),zze 31 29 1,zze 32 29 4,oy 33 29 (.len (.t 32)),oy 34 29 (.call (.f n_w19_small) [(.t 30),(.t 31),(.t 33)]),zz8 35 29 34,zz1 36 35,zze 37 36 4,oy 38 36 (.call (.f n_w08_Rows) [(.t 37),(.c (.int .i64 45))]),zz8 39 36 38,zz1 12 39]
abbrev yk:List AG:=[zzh 10]
abbrev yl:ACode:=(.seq (.reg yk) .ret)
abbrev ym:List AG:=[zz1 23 11,o 24 (.not (.t 23))]
abbrev yn:List AG:=[o 22 (.call (.f n_w19_works) []),zz1 11 22]
abbrev yo:List AG:=[o 5 (.box 5 (.t 0)),zzh 10]
abbrev w19_CnfUnrolls:AFun:=⟨(.seq (.reg yo) (.seq (.reg yn) (.seq (.seq (.reg ym) (.cond (.t 24) yl .skip)) (.seq (.reg yj) (.seq (.seq (.reg yi) (.cond (.t 46) yh .skip)) (.seq (.reg yf) (.seq (.reg ye) (.seq (.reg yd) (.seq (.reg yc) (.seq (.dreg [O,O,I,O,O] [2,4,4,6,6] yb) (.seq (.reg ya) .ret))))))))))),101,[.tmp 10]⟩
@[simp] theorem c_w19_CnfUnrolls:cfun Try.prog n_w19_CnfUnrolls=some w19_CnfUnrolls:=by kernel_rfl
@[simp] theorem e_w19_CnfUnrolls:hasBody Try.prog n_w19_CnfUnrolls=true:=by kernel_rfl
abbrev yp:List AG:=[zz1 124 7,zz1 125 124,oy 126 125 (.off 2 (.t 9)),zzd 127 125 1 126,oy 128 125 (.len (.t 127)),zze 129 125 2,oy 130 125 (.ibin .add (.t 129) (.c (.int .i64 1))),oy 131 125 (.cmp .eql (.sc .int) (.t 128) (.t 130)),zz8 132 125 131,zz1 133 132,oy 134 133 (.off 0 (.t 9)),zzd 135 133 1 134,zze 136 133 17,oy 137 133 (.cmp .eql (.sc .int) (.t 135) (.t 136)),zz8 138 133 137,zz1 139 138,oy 140 139 (.off 1 (.t 9)),zzd 141 139 1 140,oy 142 139 (.len (.t 141)),zze 143 139 18,oy 144 139 (.cmp .eql (.sc .int) (.t 142) (.t 143)),zz8 145 139 144,zz1 146 145,oy 147 146 (.off 1 (.t 9)),zzd 148 146 1 147,oy 149 146 (.off 0 (.t 9)),zzd 150 146 1 149,oy 151 146 (.call (.f n_cnf_Check) [(.t 148),(.t 150)]),oy 152 146 (.cmp .eql (.sc .int) (.t 151) (.c (.int .i64 0))),zz8 153 146 152,zz1 154 153,zze 155 154 16,oy 156 154 (.cmp .eql (.sc .int) (.t 155) (.c (.int .i64 0))),zz8 157 154 156,zz1 158 157,oy 159 158 (.load true 3 (.t 15)),oy 160 158 (.load true 3 (.t 9)),oy 161 158 (.call (.f n_cnf_Same) [(.t 159),(.t 160)]),zz8 162 158 161,zz1 6 162]
abbrev yq:List Bool:=[O,O,I,I,O,O,O,I,O,I,O,O,O,O,O,I,I,I,I,I,O,O,O,O,O,O,O,O,O,O,O,O,O,O,O,O,O,O,O,O,O,O,O,O,O,O,O,O,O,O,O,O,O,O,O,O,O,O,O,O,O,O,O,O,O,O,O,O,O,O,O,O,O,O,O,O,O,O,O,O,O,O,O,O,O,O,O,O,O,O,O,O,O,O,O,O,O,O,O,O,O,O,O,O,O,O,O,O,O,O,O,O,O,O,O,O,O,O,O,O,O,O,O,O,O,O,O,O,O,O,O,O,O,O,O,O,O,O,O,O,O,O,O,O,O,O,O,O,O,O,O,O,O,O,O,O,O,O,O,O,O,O,O]
abbrev yr:List Bool:=[O,O,I,O,O,O,O,I,O,I,O,O,O,O,O,I,I,I,I,O,O,O,O,O,O,O,O,O,O,O,O,O,O,O,O,O,O,O,O,O,O,O,O,O,O,O,O,O,O,O,O,O,O,O,O,O,O,O,O,O,O,O,O,O,O,O,O,O,O,O,O,O,O,O,O,O,O,O,O,O,O,O,O,O,O,O,O,O,O,O,O,O,O,O,O,O,O,O,O,O,O,O,O,O,O,O,O,O,O,O,O,O,O,O,O,O,O,O,O,O,O,O,O,O,O,O,O,O,O,O,O,O,O,O,O,O,O,O,O,O,O,O,O,O,O,O,O,O,O,O,O,O,O,O,O,O,O,O,O,O,O,O,O]
abbrev ys:List AG:=[zz1 108 19,zz6 109 108 1,zz1 19 109]
abbrev yt:List AG:=[zz1 118 18,zz4 119 3 3,zz2 120 1 119,zza 121 120,o 122 (.ibin .mul (.c (.int .i64 3)) (.t 121)),o 123 (.ibin .add (.t 118) (.t 122)),zz1 18 123]
abbrev yu:List AG:=[zz1 110 17,zz4 111 0 3,zz2 112 1 111,o 113 (.ibin .add (.t 110) (.t 112)),zz4 114 3 3,zz2 115 1 114,zza 116 115,o 117 (.ibin .add (.t 113) (.t 116)),zz1 17 117]
abbrev yw:ACode:=(.seq (.reg yu) (.reg yt))
abbrev yx:List AG:=[zz1 103 19,zz4 104 2 9,zz2 105 1 104,zza 106 105,zz7 107 103 106]
abbrev yy:ACode:=(.seq (.seq (.reg yx) (.cond (.t 107) .skip (.exit 4))) (.seq (.block 5 [] yw) (.reg ys)))
abbrev yz:List AG:=[zz9 19 1]
abbrev yA:List AG:=[zz9 18 1]
abbrev yB:List AG:=[zz1 101 11,o 102 (.ibin .add (.c (.int .i64 1)) (.t 101)),zz1 17 102]
abbrev yC:List AG:=[zz3 95 5 3,zz1 96 1,zz1 97 2,o 98 (.call (.f n_cnf_Unroll) [(.t 95),(.t 96),(.t 97)]),zz1 94 98,zzc 99 94 0,zzc 100 94 1,o 15 (.alloc [(.int .i64 0),(.own 1 t_api_Clause_2 []),(.own 1 t_int_3 [])]),zzb 3 15 99,zz1 16 100]
abbrev yD:List Bool:=[O,I,I,I,O,O,O,I,O,I,O,I,O,I,I,O,O,O,O,O,O,O,O,O,O,O,O,O,O,O,O,O,O,O,O,O,O,O,O,O,O,O,O,O,O,O,O,O,O,O,O,O,O,O,O,O,O,O,O,O,O,O,O,O,O,O,O,O,O,O,O,O,O,O,O,O,O,O,O,O,O,O,O,O,O,O,O,O,O,O,O,O,O,O,O,O,O,O,O,O,O,O,O,O,O,O,O,O,O,O,O,O,O,O,O,O,O,O,O,O,O,O,O,O,O,O,O,O,O,O,O,O,O,O,O,O,O,O,O,O,O,O,O,O,O,O,O,O,O,O,O,O,O,O,O,O,O,O,O,O,O,O,O]
abbrev yE:List Bool:=[O,I,I,I,O,O,O,I,O,I,O,I,O,O,O,O,O,O,O,O,O,O,O,O,O,O,O,O,O,O,O,O,O,O,O,O,O,O,O,O,O,O,O,O,O,O,O,O,O,O,O,O,O,O,O,O,O,O,O,O,O,O,O,O,O,O,O,O,O,O,O,O,O,O,O,O,O,O,O,O,O,O,O,O,O,O,O,O,O,O,O,O,O,O,O,O,O,O,O,O,O,O,O,O,O,O,O,O,O,O,O,O,O,O,O,O,O,O,O,O,O,O,O,O,O,O,O,O,O,O,O,O,O,O,O,O,O,O,O,O,O,O,O,O,O,O,O,O,O,O,O,O,O,O,O,O,O,O,O,O,O,O,O]
abbrev yF:List AG:=[zz1 74 14,zz6 75 74 1,zz1 14 75]
abbrev yG:List AG:=[zzh 6]
abbrev yH:ACode:=(.seq (.reg yG) .ret)
abbrev yI:List AG:=[zz4 76 2 9,zz2 77 1 76,zz1 78 14,zz5 79 1 77 78,zz2 80 1 79,zza 81 80,zz1 82 13,o 83 (.cmp .neq (.sc .int) (.t 81) (.t 82)),zz1 84 83,on 85 84 (.off 2 (.t 9)),on 86 84 (.load false 1 (.t 85)),on 87 84 (.mv (.t 14)),on 88 84 (.ixAddr 1 (.t 86) (.t 87)),on 89 84 (.load false 1 (.t 88)),on 90 84 (.ixAddr 1 (.t 89) (.c (.int .i64 0))),on 91 84 (.load false 1 (.t 90)),on 92 84 (.cmp .neq (.sc .int) (.t 91) (.c (.int .i64 (-1)))),o 93 (.pick (.t 84) (.c (.bool true)) (.t 92))]
abbrev yJ:ACode:=(.seq (.reg yI) (.cond (.t 93) yH .skip))
abbrev yK:List AG:=[zz1 69 14,zz4 70 2 9,zz2 71 1 70,zza 72 71,zz7 73 69 72]
abbrev yL:ACode:=(.seq (.seq (.reg yK) (.cond (.t 73) .skip (.exit 2))) (.seq (.block 3 [] yJ) (.reg yF)))
abbrev yM:List AG:=[zz9 14 0]
abbrev yN:List AG:=[zz3 63 5 3,zzf 64 n_r09_First 63,zz4 65 3 3,zz2 66 1 65,zza 67 66,o 68 (.ibin .add (.t 64) (.t 67)),zz1 13 68]
abbrev yO:List Bool:=[O,I,I,I,O,O,O,I,O,I,O,I,I,O,O,O,O,O,O,O,O,O,O,O,O,O,O,O,O,O,O,O,O,O,O,O,O,O,O,O,O,O,O,O,O,O,O,O,O,O,O,O,O,O,O,O,O,O,O,O,O,O,O,O,O,O,O,O,O,O,O,O,O,O,O,O,O,O,O,O,O,O,O,O,O,O,O,O,O,O,O,O,O,O,O,O,O,O,O,O,O,O,O,O,O,O,O,O,O,O,O,O,O,O,O,O,O,O,O,O,O,O,O,O,O,O,O,O,O,O,O,O,O,O,O,O,O,O,O,O,O,O,O,O,O,O,O,O,O,O,O,O,O,O,O,O,O,O,O,O,O,O,O]
abbrev yP:List Bool:=[O,I,I,I,O,O,O,I,O,I,O,I,O,O,O,O,O,O,O,O,O,O,O,O,O,O,O,O,O,O,O,O,O,O,O,O,O,O,O,O,O,O,O,O,O,O,O,O,O,O,O,O,O,O,O,O,O,O,O,O,O,O,O,O,O,O,O,O,O,O,O,O,O,O,O,O,O,O,O,O,O,O,O,O,O,O,O,O,O,O,O,O,O,O,O,O,O,O,O,O,O,O,O,O,O,O,O,O,O,O,O,O,O,O,O,O,O,O,O,O,O,O,O,O,O,O,O,O,O,O,O,O,O,O,O,O,O,O,O,O,O,O,O,O,O,O,O,O,O,O,O,O,O,O,O,O,O,O,O,O,O,O,O]
abbrev yQ:List AG:=[zz1 54 12,zz6 55 54 1,zz1 12 55]
abbrev yR:List AG:=[zz1 61 11,zz6 62 61 1,zz1 11 62]
abbrev yS:List AG:=[zz1 56 1,zz1 57 12,zz5 58 1 56 57,zz2 59 1 58,o 60 (.cmp .eql (.sc .int) (.t 59) (.c (.int .i64 2)))]
abbrev yT:ACode:=(.seq (.reg yS) (.cond (.t 60) (.reg yR) .skip))
abbrev yU:List AG:=[zz1 50 12,zz1 51 1,zza 52 51,zz7 53 50 52]
abbrev yV:ACode:=(.seq (.seq (.reg yU) (.cond (.t 53) .skip (.exit 0))) (.seq (.block 1 [] yT) (.reg yQ)))
abbrev yW:List AG:=[zz9 12 0]
abbrev yX:List AG:=[zz9 11 0]
abbrev yY:List AG:=[zz1 40 7,zz1 41 40,zze 42 41 8,oy 43 41 (.not (.t 42)),zze 44 41 43,on 45 44 (.off 0 (.t 9)),on 46 44 (.load false 1 (.t 45)),on 47 44 (.cmp .eql (.sc .int) (.t 46) (.c (.int .i64 0))),oy 48 41 (.pick (.t 44) (.c (.bool true)) (.t 47)),zz8 49 41 48,zz1 6 49]
abbrev yZ:ACode:=(.seq (.reg yY) .ret)
abbrev yba:List AG:=[zz1 34 8,o 35 (.not (.t 34)),zz1 36 35,on 37 36 (.mv (.t 10)),on 38 36 (.cmp .neq (.sc .int) (.t 37) (.c (.int .i64 0))),o 39 (.pick (.t 36) (.c (.bool true)) (.t 38))]
abbrev ybb:List AG:=[zz3 28 5 3,zz1 29 1,zz1 30 2,o 31 (.call (.f n_cnf_Unroll) [(.t 28),(.t 29),(.t 30)]),zz1 27 31,zzc 32 27 0,zzc 33 27 1,o 9 (.alloc [(.int .i64 0),(.own 1 t_api_Clause_2 []),(.own 1 t_int_3 [])]),zzb 3 9 32,zz1 10 33]
abbrev ybc:List AG:=[zz3 23 5 3,zz1 24 1,zz1 25 2,o 26 (.call (.f n_w19_small) [(.t 23),(.t 24),(.t 25)]),zz1 8 26]
abbrev ybd:List AG:=[zzh 6]
abbrev ybe:ACode:=(.seq (.reg ybd) .ret)
abbrev ybf:List AG:=[zz1 21 7,o 22 (.not (.t 21))]
abbrev ybg:List AG:=[o 20 (.call (.f n_w19_works) []),zz1 7 20]
abbrev ybh:List AG:=[o 3 (.box 5 (.t 0)),zzh 6]
abbrev w19_CnfSizes:AFun:=⟨(.seq (.reg ybh) (.seq (.reg ybg) (.seq (.seq (.reg ybf) (.cond (.t 22) ybe .skip)) (.seq (.reg ybc) (.seq (.reg ybb) (.seq (.seq (.reg yba) (.cond (.t 39) yZ .skip)) (.seq (.reg yX) (.seq (.seq (.reg yW) (.block 0 yP (.loop yO yV))) (.seq (.dreg [O,O,O,I,O,O,O] [2,8,8,8,8,8,8] yN) (.seq (.seq (.reg yM) (.block 2 yE (.loop yD yL))) (.seq (.reg yC) (.seq (.reg yB) (.seq (.reg yA) (.seq (.seq (.reg yz) (.block 4 yr (.loop yq yy))) (.seq (.reg yp) .ret))))))))))))))),163,[.tmp 6]⟩
@[simp] theorem c_w19_CnfSizes:cfun Try.prog n_w19_CnfSizes=some w19_CnfSizes:=by kernel_rfl
@[simp] theorem e_w19_CnfSizes:hasBody Try.prog n_w19_CnfSizes=true:=by kernel_rfl
abbrev ybi:List AG:=[zz4 66 0 1,zz2 67 1 66,o 68 (.cmp .eql (.sc .int) (.t 67) (.c (.int .i64 1))),zz1 69 68,oy 70 69 (.off 1 (.t 1)),zzd 71 69 1 70,oy 72 69 (.len (.t 71)),oy 73 69 (.cmp .eql (.sc .int) (.t 72) (.c (.int .i64 1))),zz8 74 69 73,zz1 75 74,zze 76 75 2,oy 77 75 (.cmp .eql (.sc .int) (.t 76) (.c (.int .i64 0))),zz8 78 75 77,zz1 79 78,zze 80 79 5,oy 81 79 (.cmp .eql (.sc .int) (.t 80) (.c (.int .i64 0))),zz8 82 79 81,zz1 83 82,oy 84 83 (.off 0 (.t 4)),zzd 85 83 1 84,oy 86 83 (.cmp .eql (.sc .int) (.t 85) (.c (.int .i64 4))),zz8 87 83 86,zz1 88 87,oy 89 88 (.off 1 (.t 4)),zzd 90 88 1 89,oy 91 88 (.len (.t 90)),oy 92 88 (.cmp .eql (.sc .int) (.t 91) (.c (.int .i64 4))),zz8 93 88 92,zz1 94 93,zze 95 94 7,oy 96 94 (.cmp .eql (.sc .int) (.t 95) (.c (.int .i64 0))),zz8 97 94 96,zz1 98 97,zze 99 98 6,oy 100 98 (.len (.t 99)),oy 101 98 (.cmp .eql (.sc .int) (.t 100) (.c (.int .i64 4))),zz8 102 98 101,zz1 103 102,zze 104 103 8,zz8 105 103 104,zz1 106 105,zze 107 106 9,oy 108 106 (.cmp .eql (.sc .int) (.t 107) (.c (.int .i64 0))),zz8 109 106 108,zz1 110 109,zze 111 110 10,oy 112 110 (.not (.t 111)),zz8 113 110 112,zz1 114 113,zze 115 114 13,oy 116 114 (.cmp .eql (.sc .int) (.t 115) (.c (.int .i64 1))),zz8 117 114 116,zz1 118 117,oy 119 118 (.load true 3 (.t 4)),oy 120 118 (.call (.f n_cnf_Lit) [(.t 119),(.c (.int .i64 0)),(.c (.int .i64 7))]),oy 121 118 (.cmp .eql (.sc .int) (.t 120) (.c (.int .i64 (-4)))),zz8 122 118 121,zz1 123 122,oy 124 123 (.load true 3 (.t 4)),oy 125 123 (.call (.f n_cnf_Lit) [(.t 124),(.c (.int .i64 1)),(.c (.int .i64 4))]),oy 126 123 (.cmp .eql (.sc .int) (.t 125) (.c (.int .i64 4))),zz8 127 123 126,zz1 128 127,oy 129 128 (.load true 3 (.t 4)),oy 130 128 (.call (.f n_cnf_Lit) [(.t 129),(.c (.int .i64 2)),(.c (.int .i64 4))]),oy 131 128 (.cmp .eql (.sc .int) (.t 130) (.c (.int .i64 0))),zz8 132 128 131,zz1 133 132,oy 134 133 (.off 1 (.t 4)),zzd 135 133 1 134,oy 136 133 (.call (.f n_cnf_Check) [(.t 135),(.c (.int .i64 4))]),oy 137 133 (.cmp .eql (.sc .int) (.t 136) (.c (.int .i64 0))),zz8 138 133 137,zz1 139 138,oy 140 139 (.off 1 (.t 4)),zzd 141 139 1 140,oy 142 139 (.call (.f n_cnf_Check) [(.t 141),(.c (.int .i64 3))]),oy 143 139 (.cmp .eql (.sc .int) (.t 142) (.c (.int .i64 1))),zz8 144 139 143,zz1 145 144,oy 146 145 (.load true 3 (.t 4)),oy 147 145 (.load true 3 (.t 4)),oy 148 145 (.call (.f n_cnf_Same) [(.t 146),(.t 147)]),zz8 149 145 148,zz1 150 149,oy 151 150 (.load true 3 (.t 1)),oy 152 150 (.load true 3 (.t 4)),oy 153 150 (.call (.f n_cnf_Same) [(.t 151),(.t 152)]),oy 154 150 (.not (.t 153)),zz8 155 150 154,zz1 0 155]
abbrev ybj:List AG:=[o 60 (.lit 1 [(.int .i64 0)] [(0,(.c (.int .i64 3)))]),o 61 (.lit 1 [(.list true 0 [])] [(0,(.t 60))]),o 62 (.lit 1 [(.bool false)] [(0,(.c (.bool true)))]),zzg 63 n_cnf_True 61 62,zz1 59 63,zzc 64 59 0,zzc 65 59 1,zz1 12 64,zz1 13 65]
abbrev ybk:List AG:=[zz4 53 1 4,zz2 54 1 53,zz1 55 6,zzg 56 n_cnf_True 54 55,zz1 52 56,zzc 57 52 0,zzc 58 52 1,zz1 10 57,zz1 11 58]
abbrev ybl:List AG:=[zz1 50 6,o 51 (.ixAddr 1 (.t 50) (.c (.int .i64 3))),q (.store 1 (.t 51) (.c (.bool false)))]
abbrev ybm:List AG:=[zz4 44 1 4,zz2 45 1 44,zz1 46 6,zzg 47 n_cnf_True 45 46,zz1 43 47,zzc 48 43 0,zzc 49 43 1,zz1 8 48,zz1 9 49]
abbrev ybn:List AG:=[zzh 0]
abbrev ybo:ACode:=(.seq (.reg ybn) .ret)
abbrev ybp:List AG:=[zz1 40 6,zza 41 40,o 42 (.cmp .neq (.sc .int) (.t 41) (.c (.int .i64 4)))]
abbrev ybq:List AG:=[zz3 32 5 3,o 33 (.lit 1 [(.int .i64 0)] [(0,(.c (.int .i64 2)))]),o 34 (.lit 1 [(.bool false)] [(0,(.c (.bool false)))]),o 35 (.lit 1 [(.bool false)] [(0,(.c (.bool true)))]),o 36 (.lit 1 [(.list true 0 [])] [(0,(.t 35))]),o 37 (.call (.f n_cnf_Values) [(.t 32),(.t 33),(.t 34),(.t 36)]),zz1 31 37,zzc 38 31 0,zzc 39 31 1,zz1 6 38,zz1 7 39]
abbrev ybr:List AG:=[zz3 26 5 3,o 27 (.lit 1 [(.int .i64 0)] [(0,(.c (.int .i64 2)))]),o 28 (.call (.f n_cnf_Unroll) [(.t 26),(.t 27),(.c (.int .i64 1))]),zz1 25 28,zzc 29 25 0,zzc 30 25 1,o 4 (.alloc [(.int .i64 0),(.own 1 t_api_Clause_2 []),(.own 1 t_int_3 [])]),zzb 3 4 29,zz1 5 30]
abbrev ybs:List AG:=[o 19 (.lit 1 [(.int .i64 0)] [(0,(.c (.int .i64 6)))]),o 20 (.lit 1 [(.int .i64 0)] [(0,(.c (.int .i64 2)))]),o 21 (.build [(.int .i64 0),(.int .i64 0)] [(0,1,(.c (.int .i64 5))),(1,1,(.c (.int .i64 2)))]),o 22 (.lit 2 [(.agg [(.int .i64 0),(.int .i64 0)])] [(0,(.t 21))]),o 23 (.lit 1 [(.int .i64 0)] [(0,(.c (.int .i64 7)))]),o 24 (.build [(.int .i64 0),(.list true 0 []),(.list true 0 []),(.list true 0 []),(.list true 0 [])] [(0,1,(.c (.int .i64 1))),(1,1,(.t 19)),(2,1,(.t 20)),(3,1,(.t 22)),(4,1,(.t 23))]),o 3 (.alloc [(.int .i64 0),(.own 1 t_int []),(.own 1 t_int []),(.own 2 t_2_int_2 []),(.own 1 t_int [])]),zzb 5 3 24]
abbrev ybt:List AG:=[o 15 (.build [(.int .i64 0),(.list true 0 []),(.list true 0 []),(.list true 0 []),(.list true 0 [])] []),o 16 (.call (.f n_cnf_Unroll) [(.t 15),(.c (.list true 0 [])),(.c (.int .i64 0))]),zz1 14 16,zzc 17 14 0,zzc 18 14 1,o 1 (.alloc [(.int .i64 0),(.own 1 t_api_Clause_2 []),(.own 1 t_int_3 [])]),zzb 3 1 17,zz1 2 18]
abbrev ybu:List AG:=[zzh 0]
abbrev w19_works:AFun:=⟨(.seq (.reg ybu) (.seq (.reg ybt) (.seq (.reg ybs) (.seq (.reg ybr) (.seq (.reg ybq) (.seq (.seq (.reg ybp) (.cond (.t 42) ybo .skip)) (.seq (.reg ybm) (.seq (.reg ybl) (.seq (.reg ybk) (.seq (.reg ybj) (.seq (.reg ybi) .ret))))))))))),156,[.tmp 0]⟩
@[simp] theorem c_w19_works:cfun Try.prog n_w19_works=some w19_works:=by kernel_rfl
@[simp] theorem e_w19_works:hasBody Try.prog n_w19_works=true:=by kernel_rfl
abbrev ybv:List AG:=[zz1 18 0,zz1 19 8,zzg 20 n_slices_ContainsFunc_api_Clause_api_Clause 18 19,o 21 (.not (.t 20)),zz1 4 21,zz9 5 0]
abbrev ybw:List AG:=[o 17 (.mkFunc (.func n_cnf_True_2) [] [(.t 7)]),zz1 8 17]
abbrev ybx:List AG:=[o 16 (.mkFunc (.func n_cnf_True_1) [] [(.t 3)]),o 7 (.alloc [.nilf]),zzb 1 7 16]
abbrev yby:List AG:=[zz1 15 6,zzh 4,zz1 5 15]
abbrev ybz:ACode:=(.seq (.reg yby) .ret)
abbrev ybA:List AG:=[zz1 13 6,o 14 (.cmp .neq (.sc .int) (.t 13) (.c (.int .i64 0)))]
abbrev ybB:List AG:=[zz1 9 0,zz2 10 1 3,zza 11 10,zzg 12 n_cnf_Check 9 11,zz1 6 12]
abbrev ybC:List AG:=[o 3 (.box 1 (.t 1)),zzh 4,zz9 5 0]
abbrev cnf_True:AFun:=⟨(.seq (.reg ybC) (.seq (.seq (.reg ybB) (.seq (.reg ybA) (.cond (.t 14) ybz .skip))) (.seq (.reg ybx) (.seq (.reg ybw) (.seq (.reg ybv) .ret))))),22,[.tmp 4,.tmp 5]⟩
@[simp] theorem c_cnf_True:cfun Try.prog n_cnf_True=some cnf_True:=by kernel_rfl
@[simp] theorem e_cnf_True:hasBody Try.prog n_cnf_True=true:=by kernel_rfl
abbrev ybD:List AG:=[zz4 3 0 1,zz2 4 1 3,zz4 5 1 1,zz2 6 1 5,zz4 7 2 1,zz2 8 1 7,o 9 (.build [(.int .i64 0),(.list true 0 []),(.list true 0 [])] [(0,1,(.t 4)),(1,1,(.t 6)),(2,1,(.t 8))]),zzb 3 2 9]
abbrev ybE:List AG:=[o 1 (.box 3 (.t 0)),o 2 (.alloc [(.int .i64 0),(.own 1 t_api_Clause_2 []),(.own 1 t_int_3 [])])]
abbrev w19_Of:AFun:=⟨(.seq (.reg ybE) (.seq (.reg ybD) .ret)),10,[.cell 2 true 3]⟩
@[simp] theorem c_w19_Of:cfun Try.prog n_w19_Of=some w19_Of:=by kernel_rfl
@[simp] theorem e_w19_Of:hasBody Try.prog n_w19_Of=true:=by kernel_rfl
abbrev ybF:List AG:=[o 4 (.mv (.c (.bool true)))]
abbrev ybG:List Bool:=[O,O,I,I,O,I,O,O,O,O,O,O,O,O,O,O,O,O,O,O,O,O,O,O,O,O,O,O,O,O,O,O,O,O,O,O,O,O,O,O,O,O,O,O,O,O,O]
abbrev ybH:List Bool:=[O,O,O,O,O,O,O,O,O,O,O,O,O,O,O,O,O,O,O,O,O,O,O,O,O,O,O,O,O,O,O,O,O,O,O,O,O,O,O,O,O,O,O,O,O,O,O]
abbrev ybI:List AG:=[zz1 33 5,zz6 34 33 1,zz1 5 34]
abbrev ybJ:List AG:=[zzh 4]
abbrev ybK:ACode:=(.seq (.reg ybJ) .ret)
abbrev ybL:List AG:=[zz4 35 2 2,zz2 36 1 35,zz1 37 5,zz5 38 1 36 37,zz2 39 1 38,zz4 40 2 3,zz2 41 1 40,zz1 42 5,zz5 43 1 41 42,zz2 44 1 43,zzg 45 n_r01_Ints 39 44,o 46 (.not (.t 45))]
abbrev ybM:ACode:=(.seq (.dreg [O,O,O,O,O,O,O,O,O,O,O,O] [11,11,11,11,11,11,11,11,11,11,13,13] ybL) (.cond (.t 46) ybK .skip))
abbrev ybN:List AG:=[zz1 28 5,zz4 29 2 2,zz2 30 1 29,zza 31 30,zz7 32 28 31]
abbrev ybO:ACode:=(.seq (.seq (.reg ybN) (.cond (.t 32) .skip (.exit 0))) (.seq (.block 1 [] ybM) (.reg ybI)))
abbrev ybP:List AG:=[zz9 5 0]
abbrev ybQ:List AG:=[zzh 4]
abbrev ybR:ACode:=(.seq (.reg ybQ) .ret)
abbrev ybS:List AG:=[zz4 6 0 2,zz2 7 1 6,zz4 8 0 3,zz2 9 1 8,o 10 (.cmp .neq (.sc .int) (.t 7) (.t 9)),zz1 11 10,on 12 11 (.off 1 (.t 2)),on 13 11 (.load false 1 (.t 12)),on 14 11 (.off 1 (.t 3)),on 15 11 (.load false 1 (.t 14)),on 16 11 (.call (.f n_r19_Clauses) [(.t 13),(.t 15)]),on 17 11 (.not (.t 16)),o 18 (.pick (.t 11) (.c (.bool true)) (.t 17)),zz1 19 18,on 20 19 (.off 2 (.t 2)),on 21 19 (.load false 1 (.t 20)),on 22 19 (.len (.t 21)),on 23 19 (.off 2 (.t 3)),on 24 19 (.load false 1 (.t 23)),on 25 19 (.len (.t 24)),on 26 19 (.cmp .neq (.sc .int) (.t 22) (.t 25)),o 27 (.pick (.t 19) (.c (.bool true)) (.t 26))]
abbrev ybT:List AG:=[o 2 (.box 3 (.t 0)),o 3 (.box 3 (.t 1)),zzh 4]
abbrev r19_Same:AFun:=⟨(.seq (.reg ybT) (.seq (.seq (.reg ybS) (.cond (.t 27) ybR .skip)) (.seq (.seq (.reg ybP) (.block 0 ybH (.loop ybG ybO))) (.seq (.reg ybF) .ret)))),47,[.tmp 4]⟩
abbrev ybU:List It:=[.code (.seq (.reg ybF) .ret)]
abbrev ybV (x2 x3 x5:AV) (h:List Ob) (e:Cx:=cx):Cfg:=atC n_r19_Same (.code ybO::.inLoop ybG ybO::.inBlock 0 ybH::ybU) [U,U,x2,x3,U,x5,U,U,U,U,U,U,U,U,U,U,U,U,U,U,U,U,U,U,U,U,U,U,U,U,U,U,U,U,U,U,U,U,U,U,U,U,U,U,U,U,U] h e
@[simp] theorem c_r19_Same:cfun Try.prog n_r19_Same=some r19_Same:=by kernel_rfl
@[simp] theorem e_r19_Same:hasBody Try.prog n_r19_Same=true:=by kernel_rfl
abbrev ybW:List AG:=[zz9 4 0]
abbrev ybX:List AG:=[zz9 4 1]
abbrev ybY:ACode:=(.seq (.reg ybX) .ret)
abbrev ybZ:List AG:=[zz1 18 0,o 19 (.mkFunc (.func n_cnf_Check_2) [] [(.t 5)]),zzg 20 n_slices_ContainsFunc_api_Clause_api_Clause 18 19]
abbrev yca:List AG:=[o 17 (.mkFunc (.func n_cnf_Check_1) [] [(.t 3)]),o 5 (.alloc [.nilf]),zzb 1 5 17]
abbrev ycb:List AG:=[zz9 4 8]
abbrev ycc:ACode:=(.seq (.reg ycb) .ret)
abbrev ycd:List AG:=[zz2 6 1 3,o 7 (.cmp .lss (.sc .int) (.t 6) (.c (.int .i64 0))),zz1 8 7,on 9 8 (.load false 1 (.t 3)),on 10 8 (.cmp .gtr (.sc .int) (.t 9) (.c (.int .i64 20000))),o 11 (.pick (.t 8) (.c (.bool true)) (.t 10)),zz1 12 11,on 13 12 (.mv (.t 0)),on 14 12 (.len (.t 13)),on 15 12 (.cmp .gtr (.sc .int) (.t 14) (.c (.int .i64 100000))),o 16 (.pick (.t 12) (.c (.bool true)) (.t 15))]
abbrev yce:List AG:=[o 3 (.box 1 (.t 1)),zz9 4 0]
abbrev cnf_Check:AFun:=⟨(.seq (.reg yce) (.seq (.seq (.reg ycd) (.cond (.t 16) ycc .skip)) (.seq (.reg yca) (.seq (.seq (.reg ybZ) (.cond (.t 20) ybY .skip)) (.seq (.reg ybW) .ret))))),21,[.tmp 4]⟩
@[simp] theorem c_cnf_Check:cfun Try.prog n_cnf_Check=some cnf_Check:=by kernel_rfl
@[simp] theorem e_cnf_Check:hasBody Try.prog n_cnf_Check=true:=by kernel_rfl
abbrev ycf:List AG:=[zz4 31 2 3,zz2 32 1 31,zz1 33 1,zz5 34 1 32 33,zz2 35 1 34,o 36 (.build [(.int .i64 0),(.list true 0 []),(.list true 0 []),(.int .i64 0),(.list true 0 []),(.list true 0 []),(.list true 0 []),(.list true 0 []),(.list true 0 [])] [(8,1,(.t 35))]),o 37 (.box 9 (.t 36)),zz1 38 2,zzg 39 n_cnf_builder_lit 37 38,zz1 6 39]
abbrev ycg:List AG:=[zz9 6 0]
abbrev ych:ACode:=(.seq (.reg ycg) .ret)
abbrev yci:List AG:=[zz1 7 1,o 8 (.cmp .lss (.sc .int) (.t 7) (.c (.int .i64 0))),zz1 9 8,on 10 9 (.mv (.t 1)),on 11 9 (.off 2 (.t 3)),on 12 9 (.load false 1 (.t 11)),on 13 9 (.len (.t 12)),on 14 9 (.cmp .geq (.sc .int) (.t 10) (.t 13)),o 15 (.pick (.t 9) (.c (.bool true)) (.t 14)),zz1 16 15,on 17 16 (.mv (.t 2)),on 18 16 (.cmp .lss (.sc .int) (.t 17) (.c (.int .i64 0))),o 19 (.pick (.t 16) (.c (.bool true)) (.t 18)),zz1 20 19,on 21 20 (.mv (.t 2)),on 22 20 (.ibin .shr (.t 21) (.c (.int .u64 1))),on 23 20 (.off 2 (.t 3)),on 24 20 (.load false 1 (.t 23)),on 25 20 (.mv (.t 1)),on 26 20 (.ixAddr 1 (.t 24) (.t 25)),on 27 20 (.load false 1 (.t 26)),on 28 20 (.len (.t 27)),on 29 20 (.cmp .geq (.sc .int) (.t 22) (.t 28)),o 30 (.pick (.t 20) (.c (.bool true)) (.t 29))]
abbrev ycj:List AG:=[o 3 (.box 3 (.t 0)),zz9 6 0]
abbrev cnf_Lit:AFun:=⟨(.seq (.reg ycj) (.seq (.seq (.reg yci) (.cond (.t 30) ych .skip)) (.seq (.reg ycf) .ret))),40,[.tmp 6]⟩
@[simp] theorem c_cnf_Lit:cfun Try.prog n_cnf_Lit=some cnf_Lit:=by kernel_rfl
@[simp] theorem e_cnf_Lit:hasBody Try.prog n_cnf_Lit=true:=by kernel_rfl
abbrev yck:List AG:=[zz4 6 0 2,zz2 7 1 6,zz4 8 0 3,zz2 9 1 8,o 10 (.cmp .eql (.sc .int) (.t 7) (.t 9)),zz1 11 10,oy 12 11 (.off 1 (.t 2)),zzd 13 11 1 12,oy 14 11 (.off 1 (.t 3)),zzd 15 11 1 14,zze 16 11 5,oy 17 11 (.call (.f n_slices_EqualFunc_api_Clause_api_Clause_api_Clause_api_Clause) [(.t 13),(.t 15),(.t 16)]),zz8 18 11 17,zz1 19 18,oy 20 19 (.off 2 (.t 2)),zzd 21 19 1 20,oy 22 19 (.off 2 (.t 3)),zzd 23 19 1 22,oy 24 19 (.call (.f n_slices_EqualFunc_int_int_int_int) [(.t 21),(.t 23),(.f n_slices_Equal_int_int)]),zz8 25 19 24,zz1 4 25]
abbrev ycl:List AG:=[o 5 (.mv (.f n_cnf_Same_1))]
abbrev ycm:List AG:=[o 2 (.box 3 (.t 0)),o 3 (.box 3 (.t 1)),zzh 4]
abbrev cnf_Same:AFun:=⟨(.seq (.reg ycm) (.seq (.reg ycl) (.seq (.reg yck) .ret))),26,[.tmp 4]⟩
@[simp] theorem c_cnf_Same:cfun Try.prog n_cnf_Same=some cnf_Same:=by kernel_rfl
@[simp] theorem e_cnf_Same:hasBody Try.prog n_cnf_Same=true:=by kernel_rfl
abbrev ycn:List AG:=[zz1 10 7,zz1 11 10,zze 12 11 1,oy 13 11 (.len (.t 12)),oy 14 11 (.cmp .leq (.sc .int) (.t 13) (.c (.int .i64 60))),zz8 15 11 14,zz1 16 15,oy 17 16 (.off 0 (.t 3)),zzd 18 16 1 17,oy 19 16 (.cmp .leq (.sc .int) (.t 18) (.c (.int .i64 30))),zze 20 16 19,on 21 20 (.off 0 (.t 3)),on 22 20 (.load false 1 (.t 21)),on 23 20 (.cmp .gtr (.sc .int) (.t 22) (.c (.int .i64 4000))),oy 24 16 (.pick (.t 20) (.c (.bool true)) (.t 23)),zz8 25 16 24,zz1 26 25,zze 27 26 2,oy 28 26 (.cmp .leq (.sc .int) (.t 27) (.c (.int .i64 6))),zze 29 26 28,on 30 29 (.mv (.t 2)),on 31 29 (.cmp .gtr (.sc .int) (.t 30) (.c (.int .i64 40))),oy 32 26 (.pick (.t 29) (.c (.bool true)) (.t 31)),zz8 33 26 32,zz1 6 33]
abbrev yco:List AG:=[zz3 8 5 3,zzf 9 n_w09_Few 8,zz1 7 9]
abbrev ycp:List AG:=[o 3 (.box 5 (.t 0)),zzh 6]
abbrev w19_small:AFun:=⟨(.seq (.reg ycp) (.seq (.reg yco) (.seq (.reg ycn) .ret))),34,[.tmp 6]⟩
@[simp] theorem c_w19_small:cfun Try.prog n_w19_small=some w19_small:=by kernel_rfl
@[simp] theorem e_w19_small:hasBody Try.prog n_w19_small=true:=by kernel_rfl
abbrev ycq:List AG:=[zz1 23 0,zza 24 23,zz1 25 1,o 26 (.cmp .leq (.sc .int) (.t 24) (.t 25)),zz1 4 26]
abbrev ycr:List Bool:=[I,I,O,O,O,I,O,O,O,O,O,O,O,O,O,O,O,O,O,O,O,O,O,O,O,O,O]
abbrev ycs:List Bool:=[I,I,O,O,O,O,O,O,O,O,O,O,O,O,O,O,O,O,O,O,O,O,O,O,O,O,O]
abbrev yct:List AG:=[zz1 15 5,zz6 16 15 1,zz1 5 16]
abbrev ycu:List AG:=[zzh 4]
abbrev ycv:ACode:=(.seq (.reg ycu) .ret)
abbrev ycw:List AG:=[zz1 17 0,zz1 18 5,zz5 19 1 17 18,zz2 20 1 19,zza 21 20,o 22 (.cmp .gtr (.sc .int) (.t 21) (.c (.int .i64 60)))]
abbrev ycx:ACode:=(.seq (.reg ycw) (.cond (.t 22) ycv .skip))
abbrev ycy:List AG:=[zz1 6 5,zz1 7 0,zza 8 7,zz7 9 6 8,zz1 10 9,zze 11 10 5,zze 12 10 1,oy 13 10 (.cmp .leq (.sc .int) (.t 11) (.t 12)),zz8 14 10 13]
abbrev ycz:ACode:=(.seq (.seq (.reg ycy) (.cond (.t 14) .skip (.exit 0))) (.seq (.block 1 [] ycx) (.reg yct)))
abbrev ycA:List AG:=[zz9 5 0]
abbrev ycB:List AG:=[zzh 4]
abbrev w08_Rows:AFun:=⟨(.seq (.reg ycB) (.seq (.seq (.reg ycA) (.block 0 ycs (.loop ycr ycz))) (.seq (.reg ycq) .ret))),27,[.tmp 4]⟩
abbrev ycC:List It:=[.code (.seq (.reg ycq) .ret)]
abbrev ycD (x0 x1 x5:AV) (h:List Ob) (e:Cx:=cx):Cfg:=atC n_w08_Rows (.code ycz::.inLoop ycr ycz::.inBlock 0 ycs::ycC) [x0,x1,U,U,U,x5,U,U,U,U,U,U,U,U,U,U,U,U,U,U,U,U,U,U,U,U,U] h e
@[simp] theorem c_w08_Rows:cfun Try.prog n_w08_Rows=some w08_Rows:=by kernel_rfl
@[simp] theorem e_w08_Rows:hasBody Try.prog n_w08_Rows=true:=by kernel_rfl
abbrev ycE:List AG:=[zz1 76 9,o 77 (.nilck (.t 76)),zz4 78 0 77,zz3 79 3 78,zzb 3 6 79,zz9 7 0]
abbrev ycF:List AG:=[zz1 57 9,zz1 58 9,o 59 (.nilck (.t 58)),zz4 60 0 59,zz4 61 2 60,zz2 62 1 61,zz1 63 9,o 64 (.nilck (.t 63)),zz4 65 8 64,zz2 66 1 65,zz4 67 3 3,zz2 68 1 67,zza 69 68,o 70 (.appendZ 1 t_int 8 (.int .i64 0) (.t 66) (.t 69)),o 71 (.lit 1 [(.list true 0 [])] [(0,(.t 70))]),o 72 (.append 1 t_int_3 24 (.t 62) (.t 71)),o 73 (.nilck (.t 57)),zz4 74 0 73,zz4 75 2 74,zzb 1 75 72]
abbrev ycG:List Bool:=[O,O,O,I,O,O,I,O,O,I,O,O,O,O,O,O,O,O,O,O,O,O,O,O,O,O,O,O,O,O,O,O,O,O,O,O,O,O,O,O,O,O,O,O,O,O,O,O,O,O,O,I,I,O,O,O,O,O,O,O,O,O,O,O,O,O,O,O,O,O,O,O,O,O,O,O,O,O,O,O]
abbrev ycH:List Bool:=[O,O,O,I,O,O,I,O,O,I,O,O,O,O,O,O,O,O,O,O,O,O,O,O,O,O,O,O,O,O,O,O,O,O,O,O,O,O,O,O,O,O,O,O,O,O,O,O,O,O,O,O,O,O,O,O,O,O,O,O,O,O,O,O,O,O,O,O,O,O,O,O,O,O,O,O,O,O,O,O]
abbrev ycI:List AG:=[zz6 56 52 1,zz1 52 56]
abbrev ycJ:List AG:=[zz1 54 9,zzf 55 n_cnf_builder_step 54]
abbrev ycK:List AG:=[zz7 53 52 51]
abbrev ycL:ACode:=(.seq (.reg ycK) (.seq (.cond (.t 53) .skip (.exit 2)) (.seq (.block 3 [] (.reg ycJ)) (.reg ycI))))
abbrev ycM:List AG:=[zz1 51 2,zz9 52 0]
abbrev ycN:List AG:=[zz1 48 9,zz1 49 10,zzg 50 n_cnf_builder_begin 48 49]
abbrev ycO:List Bool:=[O,O,I,I,O,O,I,O,O,I,I,O,O,O,O,O,O,O,O,O,O,O,O,O,O,O,O,O,O,O,I,I,I,O,O,O,O,O,O,O,O,O,O,O,O,O,O,O,O,O,O,O,O,O,O,O,O,O,O,O,O,O,O,O,O,O,O,O,O,O,O,O,O,O,O,O,O,O,O,O]
abbrev ycP:List Bool:=[O,O,I,I,O,O,I,O,O,I,I,O,O,O,O,O,O,O,O,O,O,O,O,O,O,O,O,O,O,O,O,O,O,O,O,O,O,O,O,O,O,O,O,O,O,O,O,O,O,O,O,O,O,O,O,O,O,O,O,O,O,O,O,O,O,O,O,O,O,O,O,O,O,O,O,O,O,O,O,O]
abbrev ycQ:List AG:=[zz6 47 32 1,zz1 32 47]
abbrev ycR:List AG:=[zz1 43 10,zz1 44 13,o 45 (.lit 1 [(.int .i64 0)] [(0,(.t 44))]),o 46 (.append 1 t_int 8 (.t 43) (.t 45)),zz1 10 46]
abbrev ycS:List AG:=[zz1 41 9,zzf 42 n_cnf_builder_fresh 41,zz1 13 42]
abbrev ycT:List AG:=[zz1 39 12,o 40 (.cmp .eql (.sc .int) (.t 39) (.c (.int .i64 2)))]
abbrev ycU:List AG:=[zz1 36 12,o 37 (.ibin .mul (.c (.int .i64 2)) (.t 36)),o 38 (.ibin .sub (.t 37) (.c (.int .i64 1))),zz1 13 38]
abbrev ycV:List AG:=[zz5 34 1 30 32,zz2 35 1 34,zz1 12 35]
abbrev ycW:ACode:=(.seq (.reg ycV) (.seq (.reg ycU) (.seq (.seq (.reg ycT) (.cond (.t 40) (.reg ycS) .skip)) (.reg ycR))))
abbrev ycX:List AG:=[zz7 33 32 31]
abbrev ycY:ACode:=(.seq (.reg ycX) (.seq (.cond (.t 33) .skip (.exit 0)) (.seq (.block 1 [] ycW) (.reg ycQ))))
abbrev ycZ:List AG:=[zz1 30 1,zza 31 30,zz9 32 0]
abbrev yda:List AG:=[o 10 (.nilrow 1 t_int)]
abbrev ydb:List AG:=[zz1 25 9,zz1 26 9,zzf 27 n_cnf_builder_fresh 26,o 28 (.lit 1 [(.int .i64 0)] [(0,(.t 27))]),zzg 29 n_cnf_builder_add 25 28]
abbrev ydc:List AG:=[zz3 22 5 3,o 23 (.build [(.int .i64 0),(.list true 0 []),(.list true 0 []),(.int .i64 0),(.list true 0 []),(.list true 0 []),(.list true 0 []),(.list true 0 []),(.list true 0 [])] [(3,5,(.t 22))]),o 24 (.box 9 (.t 23)),zz1 9 24]
abbrev ydd:List AG:=[o 20 (.build [(.int .i64 0),(.list true 0 []),(.list true 0 [])] []),zz1 21 8,zzb 3 6 20,zz1 7 21]
abbrev yde:ACode:=(.seq (.reg ydd) .ret)
abbrev ydf:List AG:=[zz1 18 8,o 19 (.cmp .neq (.sc .int) (.t 18) (.c (.int .i64 0)))]
abbrev ydg:List AG:=[zz3 14 5 3,zz1 15 1,zz1 16 2,o 17 (.call (.f n_cnf_can) [(.t 14),(.t 15),(.t 16)]),zz1 8 17]
abbrev ydh:List AG:=[o 3 (.box 5 (.t 0)),o 6 (.alloc [(.int .i64 0),(.own 1 t_api_Clause_2 []),(.own 1 t_int_3 [])]),zz9 7 0]
abbrev cnf_Unroll:AFun:=⟨(.seq (.reg ydh) (.seq (.seq (.reg ydg) (.seq (.reg ydf) (.cond (.t 19) yde .skip))) (.seq (.reg ydc) (.seq (.reg ydb) (.seq (.reg yda) (.seq (.seq (.reg ycZ) (.block 0 ycP (.loop ycO ycY))) (.seq (.reg ycN) (.seq (.seq (.reg ycM) (.block 2 ycH (.loop ycG ycL))) (.seq (.dreg [O,O,O,O,O,I,O,O,O,O,O,O,O,O,O,O,O,O,O,O] [20,16,16,16,16,16,14,14,14,14,14,14,14,15,16,20,20,20,20,21] ycF) (.seq (.reg ycE) .ret)))))))))),80,[.cell 6 true 3,.tmp 7]⟩
abbrev ydi:List It:=[.code (.seq (.dreg [O,O,O,O,O,I,O,O,O,O,O,O,O,O,O,O,O,O,O,O] [20,16,16,16,16,16,14,14,14,14,14,14,14,15,16,20,20,20,20,21] ycF) (.seq (.reg ycE) .ret))]
abbrev ydj (x3 x6 x9 x51 x52:AV) (h:List Ob) (e:Cx:=cx):Cfg:=atC n_cnf_Unroll (.code ycL::.inLoop ycG ycL::.inBlock 2 ycH::ydi) [U,U,U,x3,U,U,x6,U,U,x9,U,U,U,U,U,U,U,U,U,U,U,U,U,U,U,U,U,U,U,U,U,U,U,U,U,U,U,U,U,U,U,U,U,U,U,U,U,U,U,U,U,x51,x52,U,U,U,U,U,U,U,U,U,U,U,U,U,U,U,U,U,U,U,U,U,U,U,U,U,U,U] h e
abbrev ydk (x3 x6 x9:AV) (h:List Ob) (e:Cx:=cx):Cfg:=atC n_cnf_Unroll ydi [U,U,U,x3,U,U,x6,U,U,x9,U,U,U,U,U,U,U,U,U,U,U,U,U,U,U,U,U,U,U,U,U,U,U,U,U,U,U,U,U,U,U,U,U,U,U,U,U,U,U,U,U,U,U,U,U,U,U,U,U,U,U,U,U,U,U,U,U,U,U,U,U,U,U,U,U,U,U,U,U,U] h e
abbrev ydl:List It:=[.code (.seq (.reg ycN) (.seq (.seq (.reg ycM) (.block 2 ycH (.loop ycG ycL))) (.seq (.dreg [O,O,O,O,O,I,O,O,O,O,O,O,O,O,O,O,O,O,O,O] [20,16,16,16,16,16,14,14,14,14,14,14,14,15,16,20,20,20,20,21] ycF) (.seq (.reg ycE) .ret))))]
abbrev ydm (x2 x3 x6 x9 x10 x30 x31 x32:AV) (h:List Ob) (e:Cx:=cx):Cfg:=atC n_cnf_Unroll (.code ycY::.inLoop ycO ycY::.inBlock 0 ycP::ydl) [U,U,x2,x3,U,U,x6,U,U,x9,x10,U,U,U,U,U,U,U,U,U,U,U,U,U,U,U,U,U,U,U,x30,x31,x32,U,U,U,U,U,U,U,U,U,U,U,U,U,U,U,U,U,U,U,U,U,U,U,U,U,U,U,U,U,U,U,U,U,U,U,U,U,U,U,U,U,U,U,U,U,U,U] h e
abbrev ydn (x2 x3 x6 x9 x10:AV) (h:List Ob) (e:Cx:=cx):Cfg:=atC n_cnf_Unroll ydl [U,U,x2,x3,U,U,x6,U,U,x9,x10,U,U,U,U,U,U,U,U,U,U,U,U,U,U,U,U,U,U,U,U,U,U,U,U,U,U,U,U,U,U,U,U,U,U,U,U,U,U,U,U,U,U,U,U,U,U,U,U,U,U,U,U,U,U,U,U,U,U,U,U,U,U,U,U,U,U,U,U,U] h e
@[simp] theorem c_cnf_Unroll:cfun Try.prog n_cnf_Unroll=some cnf_Unroll:=by kernel_rfl
@[simp] theorem e_cnf_Unroll:hasBody Try.prog n_cnf_Unroll=true:=by kernel_rfl
abbrev ydo:List AG:=[zz3 49 3 9,zzb 3 6 49,zz9 7 0]
abbrev ydp:List Bool:=[O,O,I,I,O,O,I,O,O,I,O,I,O,O,O,O,O,O,O,O,O,O,O,O,O,O,O,O,O,O,O,O,O,O,O,O,O,O,O,O,O,O,O,O,O,O,O,O,O,O]
abbrev ydq:List Bool:=[O,O,O,O,O,O,I,O,O,I,O,O,O,O,O,O,O,O,O,O,O,O,O,O,O,O,O,O,O,O,O,O,O,O,O,O,O,O,O,O,O,O,O,O,O,O,O,O,O,O]
abbrev ydr:List AG:=[zz1 36 11,zz6 37 36 1,zz1 11 37]
abbrev yds:List AG:=[zz4 38 2 9,zz2 39 1 38,zz1 40 2,zz4 41 2 9,zz2 42 1 41,zz1 43 2,zz5 44 1 42 43,zz2 45 1 44,o 46 (.lit 1 [(.int .i64 0)] [(0,(.c (.int .i64 0)))]),o 47 (.append 1 t_int 8 (.t 45) (.t 46)),zz5 48 1 39 40,zzb 1 48 47]
abbrev ydt:List AG:=[zz1 31 11,zz4 32 3 3,zz2 33 1 32,zza 34 33,zz7 35 31 34]
abbrev ydu:ACode:=(.seq (.seq (.reg ydt) (.cond (.t 35) .skip (.exit 2))) (.seq (.block 3 [] (.dreg [O,I,O,O,I,O,O,I,O,O,O,O] [12,12,12,10,10,10,10,10,10,12,12,13] yds)) (.reg ydr)))
abbrev ydv:List AG:=[zz9 11 0]
abbrev ydw:List Bool:=[O,O,I,I,O,O,I,O,O,I,I,O,O,O,O,O,O,O,O,O,O,O,O,O,O,O,O,O,O,O,O,O,O,O,O,O,O,O,O,O,O,O,O,O,O,O,O,O,O,O]
abbrev ydx:List Bool:=[O,O,I,I,O,O,I,O,O,I,O,O,O,O,O,O,O,O,O,O,O,O,O,O,O,O,O,O,O,O,O,O,O,O,O,O,O,O,O,O,O,O,O,O,O,O,O,O,O,O]
abbrev ydy:List AG:=[zz1 26 10,zz6 27 26 1,zz1 10 27]
abbrev ydz:List AG:=[zz3 28 3 9,zz3 29 5 3,zzg 30 n_r19_step 28 29,zzb 3 9 30]
abbrev ydA:List AG:=[zz1 23 10,zz1 24 2,zz7 25 23 24]
abbrev ydB:ACode:=(.seq (.seq (.reg ydA) (.cond (.t 25) .skip (.exit 0))) (.seq (.block 1 [] (.reg ydz)) (.reg ydy)))
abbrev ydC:List AG:=[zz9 10 0]
abbrev ydD:List AG:=[zz3 20 5 3,zz1 21 1,zzg 22 n_r19_begins 20 21,o 9 (.alloc [(.int .i64 0),(.own 1 t_api_Clause_2 []),(.own 1 t_int_3 [])]),zzb 3 9 22]
abbrev ydE:List AG:=[o 18 (.build [(.int .i64 0),(.list true 0 []),(.list true 0 [])] []),zz1 19 8,zzb 3 6 18,zz1 7 19]
abbrev ydF:ACode:=(.seq (.reg ydE) .ret)
abbrev ydG:List AG:=[zz1 16 8,o 17 (.cmp .neq (.sc .int) (.t 16) (.c (.int .i64 0)))]
abbrev ydH:List AG:=[zz3 12 5 3,zz1 13 1,zz1 14 2,o 15 (.call (.f n_r19_can) [(.t 12),(.t 13),(.t 14)]),zz1 8 15]
abbrev ydI:List AG:=[o 3 (.box 5 (.t 0)),o 6 (.alloc [(.int .i64 0),(.own 1 t_api_Clause_2 []),(.own 1 t_int_3 [])]),zz9 7 0]
abbrev r19_Unroll:AFun:=⟨(.seq (.reg ydI) (.seq (.reg ydH) (.seq (.seq (.reg ydG) (.cond (.t 17) ydF .skip)) (.seq (.reg ydD) (.seq (.seq (.reg ydC) (.block 0 ydx (.loop ydw ydB))) (.seq (.seq (.reg ydv) (.block 2 ydq (.loop ydp ydu))) (.seq (.reg ydo) .ret))))))),50,[.cell 6 true 3,.tmp 7]⟩
abbrev ydJ:List It:=[.code (.seq (.reg ydo) .ret)]
abbrev ydK (x2 x3 x6 x9 x11:AV) (h:List Ob) (e:Cx:=cx):Cfg:=atC n_r19_Unroll (.code ydu::.inLoop ydp ydu::.inBlock 2 ydq::ydJ) [U,U,x2,x3,U,U,x6,U,U,x9,U,x11,U,U,U,U,U,U,U,U,U,U,U,U,U,U,U,U,U,U,U,U,U,U,U,U,U,U,U,U,U,U,U,U,U,U,U,U,U,U] h e
abbrev ydL (x6 x9:AV) (h:List Ob) (e:Cx:=cx):Cfg:=atC n_r19_Unroll ydJ [U,U,U,U,U,U,x6,U,U,x9,U,U,U,U,U,U,U,U,U,U,U,U,U,U,U,U,U,U,U,U,U,U,U,U,U,U,U,U,U,U,U,U,U,U,U,U,U,U,U,U] h e
abbrev ydM:List It:=[.code (.seq (.seq (.reg ydv) (.block 2 ydq (.loop ydp ydu))) (.seq (.reg ydo) .ret))]
abbrev ydN (x2 x3 x6 x9 x10:AV) (h:List Ob) (e:Cx:=cx):Cfg:=atC n_r19_Unroll (.code ydB::.inLoop ydw ydB::.inBlock 0 ydx::ydM) [U,U,x2,x3,U,U,x6,U,U,x9,x10,U,U,U,U,U,U,U,U,U,U,U,U,U,U,U,U,U,U,U,U,U,U,U,U,U,U,U,U,U,U,U,U,U,U,U,U,U,U,U] h e
abbrev ydO (x2 x3 x6 x9:AV) (h:List Ob) (e:Cx:=cx):Cfg:=atC n_r19_Unroll ydM [U,U,x2,x3,U,U,x6,U,U,x9,U,U,U,U,U,U,U,U,U,U,U,U,U,U,U,U,U,U,U,U,U,U,U,U,U,U,U,U,U,U,U,U,U,U,U,U,U,U,U,U] h e
@[simp] theorem c_r19_Unroll:cfun Try.prog n_r19_Unroll=some r19_Unroll:=by kernel_rfl
@[simp] theorem e_r19_Unroll:hasBody Try.prog n_r19_Unroll=true:=by kernel_rfl
abbrev ydP:List AG:=[zz1 95 11,zz1 8 95,zz9 9 0]
abbrev ydQ:List Bool:=[O,O,I,O,I,O,O,O,O,O,O,I,O,O,O,O,O,O,O,O,O,O,O,O,O,O,O,O,O,O,O,O,O,O,O,O,O,O,O,O,O,O,O,O,O,O,O,O,O,O,O,O,O,O,O,O,O,O,I,I,I,O,O,O,O,O,O,O,O,O,O,O,O,O,O,O,O,O,O,O,O,O,O,O,O,O,O,O,O,O,O,O,O,O,O,O]
abbrev ydR:List Bool:=[O,O,O,O,O,O,O,O,O,O,O,I,O,O,O,O,O,O,O,O,O,O,O,O,O,O,O,O,O,O,O,O,O,O,O,O,O,O,O,O,O,O,O,O,O,O,O,O,O,O,O,O,O,O,O,O,O,O,O,O,O,O,O,O,O,O,O,O,O,O,O,O,O,O,O,O,O,O,O,O,O,O,O,O,O,O,O,O,O,O,O,O,O,O,O,O]
abbrev ydS:List AG:=[zz6 94 60 1,zz1 60 94]
abbrev ydT:List AG:=[zz3 87 5 4,zz1 88 2,zz1 89 15,o 90 (.call (.f n_aig_Step) [(.t 87),(.t 88),(.t 89)]),zz1 86 90,zzc 91 86 0,zzc 92 86 1,zzc 93 86 2,zz1 2 92]
abbrev ydU:List AG:=[zz1 74 11,zz1 75 15,zz1 76 16,zz4 77 0 4,zz2 78 1 77,o 79 (.ibin .add (.c (.int .i64 1)) (.t 78)),zz1 80 2,zza 81 80,o 82 (.ibin .add (.t 79) (.t 81)),o 83 (.slice 1 (.t 76) (some (.t 82)) none),o 84 (.lit 1 [(.list true 0 []),(.list true 0 []),(.list true 0 [])] [(0,(.t 74)),(1,(.t 75)),(2,(.t 83))]),zzf 85 n_slices_Concat_bool_bool 84,zz1 11 85]
abbrev ydV:List AG:=[zz1 73 17,o 8 (.nilrow 1 t_bool),zz1 9 73]
abbrev ydW:ACode:=(.seq (.reg ydV) .ret)
abbrev ydX:List AG:=[zz1 71 17,o 72 (.cmp .neq (.sc .int) (.t 71) (.c (.int .i64 0)))]
abbrev ydY:List AG:=[zz3 65 5 4,zz1 66 2,zz1 67 15,o 68 (.call (.f n_aig_Values) [(.t 65),(.t 66),(.t 67)]),zz1 64 68,zzc 69 64 0,zzc 70 64 1,zz1 16 69,zz1 17 70]
abbrev ydZ:List AG:=[zz5 62 1 58 60,zz2 63 1 62,zz1 15 63]
abbrev yea:ACode:=(.seq (.reg ydZ) (.seq (.reg ydY) (.seq (.seq (.reg ydX) (.cond (.t 72) ydW .skip)) (.seq (.reg ydU) (.reg ydT)))))
abbrev yeb:List AG:=[zz7 61 60 59]
abbrev yec:ACode:=(.seq (.reg yeb) (.seq (.cond (.t 61) .skip (.exit 3)) (.seq (.block 4 [] yea) (.reg ydS))))
abbrev yed:List AG:=[zz1 58 3,zza 59 58,zz9 60 0]
abbrev yee:List Bool:=[O,I,I,I,I,O,O,O,O,O,O,I,O,O,O,O,O,O,O,O,O,O,O,O,O,O,O,O,O,O,O,O,I,I,I,O,O,O,O,O,O,O,O,O,O,O,O,O,O,O,O,O,O,O,O,O,O,O,O,O,O,O,O,O,O,O,O,O,O,O,O,O,O,O,O,O,O,O,O,O,O,O,O,O,O,O,O,O,O,O,O,O,O,O,O,O]
abbrev yef:List Bool:=[O,O,I,I,I,O,O,O,O,O,O,I,O,O,O,O,O,O,O,O,O,O,O,O,O,O,O,O,O,O,O,O,O,O,O,O,O,O,O,O,O,O,O,O,O,O,O,O,O,O,O,O,O,O,O,O,O,O,O,O,O,O,O,O,O,O,O,O,O,O,O,O,O,O,O,O,O,O,O,O,O,O,O,O,O,O,O,O,O,O,O,O,O,O,O,O]
abbrev yeg:List AG:=[zz6 57 34 1,zz1 34 57]
abbrev yeh:List AG:=[zz1 45 11,zz1 46 13,o 47 (.lit 1 [(.bool false)] [(0,(.t 46))]),o 48 (.append 1 t_bool 1 (.t 45) (.t 47)),zz1 11 48]
abbrev yei:List AG:=[o 8 (.nilrow 1 t_bool),zz9 9 11]
abbrev yej:ACode:=(.seq (.reg yei) .ret)
abbrev yek:List AG:=[zz1 50 1,zz1 51 12,zz5 52 1 50 51,zz2 53 1 52,o 54 (.cmp .eql (.sc .int) (.t 53) (.c (.int .i64 1))),zz1 55 13,o 56 (.cmp .neq (.sc .bool) (.t 54) (.t 55)),zz1 49 56]
abbrev yel:ACode:=(.seq (.reg yek) (.cond (.t 49) yej .skip))
abbrev yem:List AG:=[zz1 40 1,zz1 41 12,zz5 42 1 40 41,zz2 43 1 42,o 44 (.cmp .eql (.sc .int) (.t 43) (.c (.int .i64 2))),zz1 39 44]
abbrev yen:ACode:=(.seq (.reg yem) (.cond (.t 39) (.reg yeh) yel))
abbrev yeo:List AG:=[zz1 36 34,zz5 37 1 32 34,zz2 38 1 37,zz1 12 36,zz1 13 38]
abbrev yep:ACode:=(.seq (.reg yeo) (.block 2 [] yen))
abbrev yeq:List AG:=[zz7 35 34 33]
abbrev yer:ACode:=(.seq (.reg yeq) (.seq (.cond (.t 35) .skip (.exit 0)) (.seq (.block 1 [] yep) (.reg yeg))))
abbrev yes:List AG:=[zz1 32 2,zza 33 32,zz9 34 0]
abbrev yet:List AG:=[o 31 (.lit 1 [(.bool false)] [(0,(.c (.bool true)))]),zz1 11 31]
abbrev yeu:List AG:=[o 8 (.nilrow 1 t_bool),zz9 9 11]
abbrev yev:ACode:=(.seq (.reg yeu) .ret)
abbrev yew:List AG:=[zz1 26 2,zza 27 26,zz1 28 1,zza 29 28,o 30 (.cmp .neq (.sc .int) (.t 27) (.t 29))]
abbrev yex:List AG:=[zz1 25 10,o 8 (.nilrow 1 t_bool),zz1 9 25]
abbrev yey:ACode:=(.seq (.reg yex) .ret)
abbrev yez:List AG:=[zz1 23 10,o 24 (.cmp .neq (.sc .int) (.t 23) (.c (.int .i64 0)))]
abbrev yeA:List AG:=[zz3 18 5 4,zz1 19 1,zz1 20 3,zza 21 20,o 22 (.call (.f n_cnf_can) [(.t 18),(.t 19),(.t 21)]),zz1 10 22]
abbrev yeB:List AG:=[o 4 (.box 5 (.t 0)),o 8 (.nilrow 1 t_bool),zz9 9 0]
abbrev cnf_Values:AFun:=⟨(.seq (.reg yeB) (.seq (.seq (.reg yeA) (.seq (.reg yez) (.cond (.t 24) yey .skip))) (.seq (.seq (.reg yew) (.cond (.t 30) yev .skip)) (.seq (.reg yet) (.seq (.seq (.reg yes) (.block 0 yef (.loop yee yer))) (.seq (.seq (.reg yed) (.block 3 ydR (.loop ydQ yec))) (.seq (.reg ydP) .ret))))))),96,[.tmp 8,.tmp 9]⟩
abbrev yeC:List It:=[.code (.seq (.reg ydP) .ret)]
abbrev yeD (x2 x4 x11 x58 x59 x60:AV) (h:List Ob) (e:Cx:=cx):Cfg:=atC n_cnf_Values (.code yec::.inLoop ydQ yec::.inBlock 3 ydR::yeC) [U,U,x2,U,x4,U,U,U,U,U,U,x11,U,U,U,U,U,U,U,U,U,U,U,U,U,U,U,U,U,U,U,U,U,U,U,U,U,U,U,U,U,U,U,U,U,U,U,U,U,U,U,U,U,U,U,U,U,U,x58,x59,x60,U,U,U,U,U,U,U,U,U,U,U,U,U,U,U,U,U,U,U,U,U,U,U,U,U,U,U,U,U,U,U,U,U,U,U] h e
abbrev yeE:List It:=[.code (.seq (.seq (.reg yed) (.block 3 ydR (.loop ydQ yec))) (.seq (.reg ydP) .ret))]
abbrev yeF (x1 x2 x3 x4 x11 x32 x33 x34:AV) (h:List Ob) (e:Cx:=cx):Cfg:=atC n_cnf_Values (.code yer::.inLoop yee yer::.inBlock 0 yef::yeE) [U,x1,x2,x3,x4,U,U,U,U,U,U,x11,U,U,U,U,U,U,U,U,U,U,U,U,U,U,U,U,U,U,U,U,x32,x33,x34,U,U,U,U,U,U,U,U,U,U,U,U,U,U,U,U,U,U,U,U,U,U,U,U,U,U,U,U,U,U,U,U,U,U,U,U,U,U,U,U,U,U,U,U,U,U,U,U,U,U,U,U,U,U,U,U,U,U,U,U,U] h e
abbrev yeG (x2 x3 x4 x11:AV) (h:List Ob) (e:Cx:=cx):Cfg:=atC n_cnf_Values yeE [U,U,x2,x3,x4,U,U,U,U,U,U,x11,U,U,U,U,U,U,U,U,U,U,U,U,U,U,U,U,U,U,U,U,U,U,U,U,U,U,U,U,U,U,U,U,U,U,U,U,U,U,U,U,U,U,U,U,U,U,U,U,U,U,U,U,U,U,U,U,U,U,U,U,U,U,U,U,U,U,U,U,U,U,U,U,U,U,U,U,U,U,U,U,U,U,U,U] h e
@[simp] theorem c_cnf_Values:cfun Try.prog n_cnf_Values=some cnf_Values:=by kernel_rfl
@[simp] theorem e_cnf_Values:hasBody Try.prog n_cnf_Values=true:=by kernel_rfl
abbrev yeH:List AG:=[zz1 110 11,zz1 8 110,zz9 9 0]
abbrev yeI:List Bool:=[O,O,I,I,I,O,O,O,O,O,O,I,O,I,O,O,O,O,O,O,O,O,O,O,O,O,O,O,O,O,O,O,O,O,O,O,O,O,O,O,O,O,O,O,O,O,O,O,O,O,O,O,O,O,O,O,O,O,O,O,O,O,O,O,O,O,O,O,O,O,O,O,O,O,O,O,O,O,O,O,O,O,O,O,O,O,O,O,O,O,O,O,O,O,O,O,O,O,O,O,O,O,O,O,O,O,O,O,O,O,O]
abbrev yeJ:List Bool:=[O,O,O,O,O,O,O,O,O,O,O,I,O,O,O,O,O,O,O,O,O,O,O,O,O,O,O,O,O,O,O,O,O,O,O,O,O,O,O,O,O,O,O,O,O,O,O,O,O,O,O,O,O,O,O,O,O,O,O,O,O,O,O,O,O,O,O,O,O,O,O,O,O,O,O,O,O,O,O,O,O,O,O,O,O,O,O,O,O,O,O,O,O,O,O,O,O,O,O,O,O,O,O,O,O,O,O,O,O,O,O]
abbrev yeK:List AG:=[zz1 65 13,zz6 66 65 1,zz1 13 66]
abbrev yeL:List AG:=[zz1 109 16,zz1 2 109]
abbrev yeM:List Bool:=[O,O,O,I,I,O,O,O,O,O,O,I,O,I,I,O,I,I,O,O,O,O,O,O,O,O,O,O,O,O,O,O,O,O,O,O,O,O,O,O,O,O,O,O,O,O,O,O,O,O,O,O,O,O,O,O,O,O,O,O,O,O,O,O,O,O,O,O,O,O,O,O,O,O,O,O,O,O,O,O,O,O,O,O,O,O,O,O,O,O,O,O,O,O,O,O,O,O,O,O,O,O,O,O,O,O,O,O,O,O,O]
abbrev yeN:List Bool:=[O,O,O,I,I,O,O,O,O,O,O,I,O,I,O,O,I,O,O,O,O,O,O,O,O,O,O,O,O,O,O,O,O,O,O,O,O,O,O,O,O,O,O,O,O,O,O,O,O,O,O,O,O,O,O,O,O,O,O,O,O,O,O,O,O,O,O,O,O,O,O,O,O,O,O,O,O,O,O,O,O,O,O,O,O,O,O,O,O,O,O,O,O,O,O,O,O,O,O,O,O,O,O,O,O,O,O,O,O,O,O]
abbrev yeO:List AG:=[zz1 97 17,zz6 98 97 1,zz1 17 98]
abbrev yeP:List AG:=[zz1 99 16,zz1 100 14,zz4 101 1 4,zz2 102 1 101,zz1 103 17,zz5 104 1 102 103,zz2 105 1 104,zzg 106 n_r09_Lit 100 105,o 107 (.lit 1 [(.bool false)] [(0,(.t 106))]),o 108 (.append 1 t_bool 1 (.t 99) (.t 107)),zz1 16 108]
abbrev yeQ:List AG:=[zz1 92 17,zz4 93 1 4,zz2 94 1 93,zza 95 94,zz7 96 92 95]
abbrev yeR:ACode:=(.seq (.seq (.reg yeQ) (.cond (.t 96) .skip (.exit 4))) (.seq (.block 5 [] (.reg yeP)) (.reg yeO)))
abbrev yeS:List AG:=[zz9 17 0]
abbrev yeT:List AG:=[o 16 (.nilrow 1 t_bool)]
abbrev yeU:List AG:=[zz1 86 11,zz1 87 14,zz3 88 5 4,zzf 89 n_r09_First 88,o 90 (.slice 1 (.t 87) (some (.t 89)) none),o 91 (.append 1 t_bool 1 (.t 86) (.t 90)),zz1 11 91]
abbrev yeV:List AG:=[zz1 80 11,zz1 81 3,zz1 82 13,zz5 83 1 81 82,zz2 84 1 83,o 85 (.append 1 t_bool 1 (.t 80) (.t 84)),zz1 11 85]
abbrev yeW:List AG:=[zz1 79 15,o 8 (.nilrow 1 t_bool),zz1 9 79]
abbrev yeX:ACode:=(.seq (.reg yeW) .ret)
abbrev yeY:List AG:=[zz1 77 15,o 78 (.cmp .neq (.sc .int) (.t 77) (.c (.int .i64 0)))]
abbrev yeZ:List AG:=[zz3 68 5 4,zz1 69 2,zz1 70 3,zz1 71 13,zz5 72 1 70 71,zz2 73 1 72,o 74 (.call (.f n_r09_Values) [(.t 68),(.t 69),(.t 73)]),zz1 67 74,zzc 75 67 0,zzc 76 67 1,zz1 14 75,zz1 15 76]
abbrev yfa:ACode:=(.seq (.dreg [O,O,O,O,O,O,O,O,O,O,O,O] [7,7,7,7,7,7,13,13,13,13,13,13] yeZ) (.seq (.seq (.reg yeY) (.cond (.t 78) yeX .skip)) (.seq (.reg yeV) (.seq (.reg yeU) (.seq (.reg yeT) (.seq (.seq (.reg yeS) (.block 4 yeN (.loop yeM yeR))) (.reg yeL)))))))
abbrev yfb:List AG:=[zz1 61 13,zz1 62 3,zza 63 62,zz7 64 61 63]
abbrev yfc:ACode:=(.seq (.seq (.reg yfb) (.cond (.t 64) .skip (.exit 2))) (.seq (.block 3 [] yfa) (.reg yeK)))
abbrev yfd:List AG:=[zz9 13 0]
abbrev yfe:List Bool:=[O,I,I,I,I,O,O,O,O,O,O,I,I,O,O,O,O,O,O,O,O,O,O,O,O,O,O,O,O,O,O,O,O,O,O,O,O,O,O,O,O,O,O,O,O,O,O,O,O,O,O,O,O,O,O,O,O,O,O,O,O,O,O,O,O,O,O,O,O,O,O,O,O,O,O,O,O,O,O,O,O,O,O,O,O,O,O,O,O,O,O,O,O,O,O,O,O,O,O,O,O,O,O,O,O,O,O,O,O,O,O]
abbrev yff:List Bool:=[O,O,I,I,I,O,O,O,O,O,O,I,O,O,O,O,O,O,O,O,O,O,O,O,O,O,O,O,O,O,O,O,O,O,O,O,O,O,O,O,O,O,O,O,O,O,O,O,O,O,O,O,O,O,O,O,O,O,O,O,O,O,O,O,O,O,O,O,O,O,O,O,O,O,O,O,O,O,O,O,O,O,O,O,O,O,O,O,O,O,O,O,O,O,O,O,O,O,O,O,O,O,O,O,O,O,O,O,O,O,O]
abbrev yfg:List AG:=[zz1 37 12,zz6 38 37 1,zz1 12 38]
abbrev yfh:List AG:=[zz1 44 11,zz1 45 2,zz1 46 12,zz5 47 1 45 46,zz2 48 1 47,o 49 (.lit 1 [(.bool false)] [(0,(.t 48))]),o 50 (.append 1 t_bool 1 (.t 44) (.t 49)),zz1 11 50]
abbrev yfi:List AG:=[o 8 (.nilrow 1 t_bool),zz9 9 11]
abbrev yfj:ACode:=(.seq (.reg yfi) .ret)
abbrev yfk:List AG:=[zz1 51 2,zz1 52 12,zz5 53 1 51 52,zz2 54 1 53,zz1 55 1,zz1 56 12,zz5 57 1 55 56,zz2 58 1 57,o 59 (.cmp .eql (.sc .int) (.t 58) (.c (.int .i64 1))),o 60 (.cmp .neq (.sc .bool) (.t 54) (.t 59))]
abbrev yfl:ACode:=(.seq (.dreg [O,O,O,O,O,O,O,O,O,O] [11,11,11,11,11,11,11,11,11,11] yfk) (.cond (.t 60) yfj .skip))
abbrev yfm:List AG:=[zz1 39 1,zz1 40 12,zz5 41 1 39 40,zz2 42 1 41,o 43 (.cmp .eql (.sc .int) (.t 42) (.c (.int .i64 2)))]
abbrev yfn:ACode:=(.seq (.reg yfm) (.cond (.t 43) (.reg yfh) yfl))
abbrev yfo:List AG:=[zz1 33 12,zz1 34 2,zza 35 34,zz7 36 33 35]
abbrev yfp:ACode:=(.seq (.seq (.reg yfo) (.cond (.t 36) .skip (.exit 0))) (.seq (.block 1 [] yfn) (.reg yfg)))
abbrev yfq:List AG:=[zz9 12 0]
abbrev yfr:List AG:=[o 32 (.lit 1 [(.bool false)] [(0,(.c (.bool true)))]),zz1 11 32]
abbrev yfs:List AG:=[o 8 (.nilrow 1 t_bool),zz9 9 11]
abbrev yft:ACode:=(.seq (.reg yfs) .ret)
abbrev yfu:List AG:=[zz1 26 2,zza 27 26,zz4 28 1 4,zz2 29 1 28,zza 30 29,o 31 (.cmp .neq (.sc .int) (.t 27) (.t 30))]
abbrev yfv:List AG:=[zz1 25 10,o 8 (.nilrow 1 t_bool),zz1 9 25]
abbrev yfw:ACode:=(.seq (.reg yfv) .ret)
abbrev yfx:List AG:=[zz1 23 10,o 24 (.cmp .neq (.sc .int) (.t 23) (.c (.int .i64 0)))]
abbrev yfy:List AG:=[zz3 18 5 4,zz1 19 1,zz1 20 3,zza 21 20,o 22 (.call (.f n_r19_can) [(.t 18),(.t 19),(.t 21)]),zz1 10 22]
abbrev yfz:List AG:=[o 4 (.box 5 (.t 0)),o 8 (.nilrow 1 t_bool),zz9 9 0]
abbrev r19_Values:AFun:=⟨(.seq (.reg yfz) (.seq (.reg yfy) (.seq (.seq (.reg yfx) (.cond (.t 24) yfw .skip)) (.seq (.seq (.reg yfu) (.cond (.t 31) yft .skip)) (.seq (.reg yfr) (.seq (.seq (.reg yfq) (.block 0 yff (.loop yfe yfp))) (.seq (.seq (.reg yfd) (.block 2 yeJ (.loop yeI yfc))) (.seq (.reg yeH) .ret)))))))),111,[.tmp 8,.tmp 9]⟩
abbrev yfA:List It:=[.code (.reg yeL),.inBlock 3 [],.code (.reg yeK),.inLoop yeI yfc,.inBlock 2 yeJ,.code (.seq (.reg yeH) .ret)]
abbrev yfB (x3 x4 x11 x13 x14 x16 x17:AV) (h:List Ob) (e:Cx:=cx):Cfg:=atC n_r19_Values (.code yeR::.inLoop yeM yeR::.inBlock 4 yeN::yfA) [U,U,U,x3,x4,U,U,U,U,U,U,x11,U,x13,x14,U,x16,x17,U,U,U,U,U,U,U,U,U,U,U,U,U,U,U,U,U,U,U,U,U,U,U,U,U,U,U,U,U,U,U,U,U,U,U,U,U,U,U,U,U,U,U,U,U,U,U,U,U,U,U,U,U,U,U,U,U,U,U,U,U,U,U,U,U,U,U,U,U,U,U,U,U,U,U,U,U,U,U,U,U,U,U,U,U,U,U,U,U,U,U,U,U] h e
abbrev yfC (x3 x4 x11 x13 x16:AV) (h:List Ob) (e:Cx:=cx):Cfg:=atC n_r19_Values yfA [U,U,U,x3,x4,U,U,U,U,U,U,x11,U,x13,U,U,x16,U,U,U,U,U,U,U,U,U,U,U,U,U,U,U,U,U,U,U,U,U,U,U,U,U,U,U,U,U,U,U,U,U,U,U,U,U,U,U,U,U,U,U,U,U,U,U,U,U,U,U,U,U,U,U,U,U,U,U,U,U,U,U,U,U,U,U,U,U,U,U,U,U,U,U,U,U,U,U,U,U,U,U,U,U,U,U,U,U,U,U,U,U,U] h e
abbrev yfD:List It:=[.code (.seq (.reg yeH) .ret)]
abbrev yfE (x2 x3 x4 x11 x13:AV) (h:List Ob) (e:Cx:=cx):Cfg:=atC n_r19_Values (.code yfc::.inLoop yeI yfc::.inBlock 2 yeJ::yfD) [U,U,x2,x3,x4,U,U,U,U,U,U,x11,U,x13,U,U,U,U,U,U,U,U,U,U,U,U,U,U,U,U,U,U,U,U,U,U,U,U,U,U,U,U,U,U,U,U,U,U,U,U,U,U,U,U,U,U,U,U,U,U,U,U,U,U,U,U,U,U,U,U,U,U,U,U,U,U,U,U,U,U,U,U,U,U,U,U,U,U,U,U,U,U,U,U,U,U,U,U,U,U,U,U,U,U,U,U,U,U,U,U,U] h e
abbrev yfF:List It:=[.code (.seq (.seq (.reg yfd) (.block 2 yeJ (.loop yeI yfc))) (.seq (.reg yeH) .ret))]
abbrev yfG (x1 x2 x3 x4 x11 x12:AV) (h:List Ob) (e:Cx:=cx):Cfg:=atC n_r19_Values (.code yfp::.inLoop yfe yfp::.inBlock 0 yff::yfF) [U,x1,x2,x3,x4,U,U,U,U,U,U,x11,x12,U,U,U,U,U,U,U,U,U,U,U,U,U,U,U,U,U,U,U,U,U,U,U,U,U,U,U,U,U,U,U,U,U,U,U,U,U,U,U,U,U,U,U,U,U,U,U,U,U,U,U,U,U,U,U,U,U,U,U,U,U,U,U,U,U,U,U,U,U,U,U,U,U,U,U,U,U,U,U,U,U,U,U,U,U,U,U,U,U,U,U,U,U,U,U,U,U,U] h e
abbrev yfH (x2 x3 x4 x11:AV) (h:List Ob) (e:Cx:=cx):Cfg:=atC n_r19_Values yfF [U,U,x2,x3,x4,U,U,U,U,U,U,x11,U,U,U,U,U,U,U,U,U,U,U,U,U,U,U,U,U,U,U,U,U,U,U,U,U,U,U,U,U,U,U,U,U,U,U,U,U,U,U,U,U,U,U,U,U,U,U,U,U,U,U,U,U,U,U,U,U,U,U,U,U,U,U,U,U,U,U,U,U,U,U,U,U,U,U,U,U,U,U,U,U,U,U,U,U,U,U,U,U,U,U,U,U,U,U,U,U,U,U] h e
@[simp] theorem c_r19_Values:cfun Try.prog n_r19_Values=some r19_Values:=by kernel_rfl
@[simp] theorem e_r19_Values:hasBody Try.prog n_r19_Values=true:=by kernel_rfl
abbrev yfI:List AG:=[o 4 (.mv (.c (.bool true)))]
abbrev yfJ:List Bool:=[I,I,O,O,O,I,O,O,O,O,O,O,O,O,O,O,O,O,O,O,O,O,O,O,O,O]
abbrev yfK:List Bool:=[O,O,O,O,O,O,O,O,O,O,O,O,O,O,O,O,O,O,O,O,O,O,O,O,O,O]
abbrev yfL:List AG:=[zz1 15 5,zz6 16 15 1,zz1 5 16]
abbrev yfM:List AG:=[zzh 4]
abbrev yfN:ACode:=(.seq (.reg yfM) .ret)
abbrev yfO:List AG:=[zz1 17 0,zz1 18 5,zz5 19 1 17 18,zz2 20 1 19,zz1 21 1,zz1 22 5,zz5 23 1 21 22,zz2 24 1 23,o 25 (.cmp .neq (.sc .bool) (.t 20) (.t 24))]
abbrev yfP:ACode:=(.seq (.dreg [O,O,O,O,O,O,O,O,O] [10,10,10,10,10,10,10,10,10] yfO) (.cond (.t 25) yfN .skip))
abbrev yfQ:List AG:=[zz1 11 5,zz1 12 0,zza 13 12,zz7 14 11 13]
abbrev yfR:ACode:=(.seq (.seq (.reg yfQ) (.cond (.t 14) .skip (.exit 0))) (.seq (.block 1 [] yfP) (.reg yfL)))
abbrev yfS:List AG:=[zz9 5 0]
abbrev yfT:List AG:=[zzh 4]
abbrev yfU:ACode:=(.seq (.reg yfT) .ret)
abbrev yfV:List AG:=[zz1 6 0,zza 7 6,zz1 8 1,zza 9 8,o 10 (.cmp .neq (.sc .int) (.t 7) (.t 9))]
abbrev yfW:List AG:=[zzh 4]
abbrev r08_Bools:AFun:=⟨(.seq (.reg yfW) (.seq (.seq (.reg yfV) (.cond (.t 10) yfU .skip)) (.seq (.seq (.reg yfS) (.block 0 yfK (.loop yfJ yfR))) (.seq (.reg yfI) .ret)))),26,[.tmp 4]⟩
abbrev yfX:List It:=[.code (.seq (.reg yfI) .ret)]
abbrev yfY (x0 x1 x5:AV) (h:List Ob) (e:Cx:=cx):Cfg:=atC n_r08_Bools (.code yfR::.inLoop yfJ yfR::.inBlock 0 yfK::yfX) [x0,x1,U,U,U,x5,U,U,U,U,U,U,U,U,U,U,U,U,U,U,U,U,U,U,U,U] h e
@[simp] theorem c_r08_Bools:cfun Try.prog n_r08_Bools=some r08_Bools:=by kernel_rfl
@[simp] theorem e_r08_Bools:hasBody Try.prog n_r08_Bools=true:=by kernel_rfl
abbrev yfZ:List AG:=[zz1 56 9,zz1 6 56,zz9 7 0]
abbrev yga:List Bool:=[O,O,O,O,O,O,O,O,O,I,O,O,O,O,O,O,O,O,O,O,O,O,O,O,O,O,O,O,O,O,O,O,O,O,O,O,I,I,I,O,O,O,O,O,O,O,O,O,O,O,O,O,O,O,O,O,O]
abbrev ygb:List Bool:=[O,O,O,O,O,O,O,O,O,I,O,O,O,O,O,O,O,O,O,O,O,O,O,O,O,O,O,O,O,O,O,O,O,O,O,O,O,O,O,O,O,O,O,O,O,O,O,O,O,O,O,O,O,O,O,O,O]
abbrev ygc:List AG:=[zz6 55 38 1,zz1 38 55]
abbrev ygd:List AG:=[zz1 42 9,zz1 43 9,o 44 (.arrAddr 2 1 (.t 11) (.c (.int .i64 0))),zz2 45 1 44,zzg 46 n_aig_value 43 45,zz1 47 46,zze 48 47 9,oy 49 47 (.arrAddr 2 1 (.t 11) (.c (.int .i64 1))),zzd 50 47 1 49,oy 51 47 (.call (.f n_aig_value) [(.t 48),(.t 50)]),zz8 52 47 51,o 53 (.lit 1 [(.bool false)] [(0,(.t 52))]),o 54 (.append 1 t_bool 1 (.t 42) (.t 53)),zz1 9 54]
abbrev yge:List AG:=[zz5 40 2 36 38,zz3 41 2 40,o 11 (.alloc [(.int .i64 0),(.int .i64 0)]),zzb 2 11 41]
abbrev ygf:ACode:=(.seq (.reg yge) (.reg ygd))
abbrev ygg:List AG:=[zz7 39 38 37]
abbrev ygh:ACode:=(.seq (.reg ygg) (.seq (.cond (.t 39) .skip (.exit 0)) (.seq (.block 1 [] ygf) (.reg ygc))))
abbrev ygi:List AG:=[zz4 35 3 3,zz2 36 1 35,zza 37 36,zz9 38 0]
abbrev ygj:List AG:=[o 30 (.lit 1 [(.bool false)] [(0,(.c (.bool false)))]),zz1 31 2,zz1 32 1,o 33 (.lit 1 [(.list true 0 []),(.list true 0 []),(.list true 0 [])] [(0,(.t 30)),(1,(.t 31)),(2,(.t 32))]),zzf 34 n_slices_Concat_bool_bool 33,zz1 9 34]
abbrev ygk:List AG:=[o 6 (.nilrow 1 t_bool),zz9 7 11]
abbrev ygl:ACode:=(.seq (.reg ygk) .ret)
abbrev ygm:List AG:=[zz1 17 1,zza 18 17,zz4 19 1 3,zz2 20 1 19,zza 21 20,o 22 (.cmp .neq (.sc .int) (.t 18) (.t 21)),zz1 23 22,on 24 23 (.mv (.t 2)),on 25 23 (.len (.t 24)),on 26 23 (.off 0 (.t 3)),on 27 23 (.load false 1 (.t 26)),on 28 23 (.cmp .neq (.sc .int) (.t 25) (.t 27)),o 29 (.pick (.t 23) (.c (.bool true)) (.t 28))]
abbrev ygn:List AG:=[zz1 16 8,o 6 (.nilrow 1 t_bool),zz1 7 16]
abbrev ygo:ACode:=(.seq (.reg ygn) .ret)
abbrev ygp:List AG:=[zz1 14 8,o 15 (.cmp .neq (.sc .int) (.t 14) (.c (.int .i64 0)))]
abbrev ygq:List AG:=[zz3 12 5 3,zzf 13 n_aig_Check 12,zz1 8 13]
abbrev ygr:List AG:=[o 3 (.box 5 (.t 0)),o 6 (.nilrow 1 t_bool),zz9 7 0]
abbrev aig_Values:AFun:=⟨(.seq (.reg ygr) (.seq (.seq (.reg ygq) (.seq (.reg ygp) (.cond (.t 15) ygo .skip))) (.seq (.seq (.reg ygm) (.cond (.t 29) ygl .skip)) (.seq (.reg ygj) (.seq (.seq (.reg ygi) (.block 0 ygb (.loop yga ygh))) (.seq (.reg yfZ) .ret)))))),57,[.tmp 6,.tmp 7]⟩
abbrev ygs:List It:=[.code (.seq (.reg yfZ) .ret)]
abbrev ygt (x9 x36 x37 x38:AV) (h:List Ob) (e:Cx:=cx):Cfg:=atC n_aig_Values (.code ygh::.inLoop yga ygh::.inBlock 0 ygb::ygs) [U,U,U,U,U,U,U,U,U,x9,U,U,U,U,U,U,U,U,U,U,U,U,U,U,U,U,U,U,U,U,U,U,U,U,U,U,x36,x37,x38,U,U,U,U,U,U,U,U,U,U,U,U,U,U,U,U,U,U] h e
@[simp] theorem c_aig_Values:cfun Try.prog n_aig_Values=some aig_Values:=by kernel_rfl
@[simp] theorem e_aig_Values:hasBody Try.prog n_aig_Values=true:=by kernel_rfl
abbrev ygu:List AG:=[zz1 23 11,zz4 24 4 3,zz2 25 1 24,o 26 (.call (.t 23) [(.t 25)]),zz1 27 11,zz4 28 1 3,zz2 29 1 28,o 30 (.call (.t 27) [(.t 29)]),zz1 6 26,zz1 7 30,zz9 8 0]
abbrev ygv:List AG:=[o 22 (.mkFunc (.func n_aig_Step_1) [] [(.t 9)]),zz1 11 22]
abbrev ygw:List AG:=[zz1 21 10,o 6 (.nilrow 1 t_bool),o 7 (.nilrow 1 t_bool),zz1 8 21]
abbrev ygx:ACode:=(.seq (.reg ygw) .ret)
abbrev ygy:List AG:=[zz1 19 10,o 20 (.cmp .neq (.sc .int) (.t 19) (.c (.int .i64 0)))]
abbrev ygz:List AG:=[zz3 13 5 3,zz1 14 1,zz1 15 2,o 16 (.call (.f n_aig_Values) [(.t 13),(.t 14),(.t 15)]),zz1 12 16,zzc 17 12 0,zzc 18 12 1,o 9 (.alloc [(.own 1 t_bool [])]),zzb 1 9 17,zz1 10 18]
abbrev ygA:List AG:=[o 3 (.box 5 (.t 0)),o 6 (.nilrow 1 t_bool),o 7 (.nilrow 1 t_bool),zz9 8 0]
abbrev aig_Step:AFun:=⟨(.seq (.reg ygA) (.seq (.reg ygz) (.seq (.seq (.reg ygy) (.cond (.t 20) ygx .skip)) (.seq (.reg ygv) (.seq (.dreg [O,O,O,O,O,O,I,O,O,O,O] [4,4,4,8,8,8,8,12,12,12,12] ygu) .ret))))),31,[.tmp 6,.tmp 7,.tmp 8]⟩
@[simp] theorem c_aig_Step:cfun Try.prog n_aig_Step=some aig_Step:=by kernel_rfl
@[simp] theorem e_aig_Step:hasBody Try.prog n_aig_Step=true:=by kernel_rfl
abbrev ygB:List AG:=[zz4 3 0 1,zz2 4 1 3,o 5 (.ibin .add (.c (.int .i64 1)) (.t 4)),zz4 6 1 1,zz2 7 1 6,zza 8 7,o 9 (.ibin .add (.t 5) (.t 8)),zz1 2 9]
abbrev ygC:List AG:=[o 1 (.box 5 (.t 0)),zz9 2 0]
abbrev r09_First:AFun:=⟨(.seq (.reg ygC) (.seq (.reg ygB) .ret)),10,[.tmp 2]⟩
@[simp] theorem c_r09_First:cfun Try.prog n_r09_First=some r09_First:=by kernel_rfl
@[simp] theorem e_r09_First:hasBody Try.prog n_r09_First=true:=by kernel_rfl
abbrev ygD:List AG:=[o 4 (.mv (.c (.bool true)))]
abbrev ygE:List Bool:=[I,I,O,O,O,I,O,O,O,O,O,O,O,O,O,O,O,O,O,O,O,O,O,O,O,O]
abbrev ygF:List Bool:=[O,O,O,O,O,O,O,O,O,O,O,O,O,O,O,O,O,O,O,O,O,O,O,O,O,O]
abbrev ygG:List AG:=[zz1 15 5,zz6 16 15 1,zz1 5 16]
abbrev ygH:List AG:=[zzh 4]
abbrev ygI:ACode:=(.seq (.reg ygH) .ret)
abbrev ygJ:List AG:=[zz1 17 0,zz1 18 5,zz5 19 1 17 18,zz2 20 1 19,zz1 21 1,zz1 22 5,zz5 23 1 21 22,zz2 24 1 23,o 25 (.cmp .neq (.sc .int) (.t 20) (.t 24))]
abbrev ygK:ACode:=(.seq (.dreg [O,O,O,O,O,O,O,O,O] [10,10,10,10,10,10,10,10,10] ygJ) (.cond (.t 25) ygI .skip))
abbrev ygL:List AG:=[zz1 11 5,zz1 12 0,zza 13 12,zz7 14 11 13]
abbrev ygM:ACode:=(.seq (.seq (.reg ygL) (.cond (.t 14) .skip (.exit 0))) (.seq (.block 1 [] ygK) (.reg ygG)))
abbrev ygN:List AG:=[zz9 5 0]
abbrev ygO:List AG:=[zzh 4]
abbrev ygP:ACode:=(.seq (.reg ygO) .ret)
abbrev ygQ:List AG:=[zz1 6 0,zza 7 6,zz1 8 1,zza 9 8,o 10 (.cmp .neq (.sc .int) (.t 7) (.t 9))]
abbrev ygR:List AG:=[zzh 4]
abbrev r01_Ints:AFun:=⟨(.seq (.reg ygR) (.seq (.seq (.reg ygQ) (.cond (.t 10) ygP .skip)) (.seq (.seq (.reg ygN) (.block 0 ygF (.loop ygE ygM))) (.seq (.reg ygD) .ret)))),26,[.tmp 4]⟩
abbrev ygS:List It:=[.code (.seq (.reg ygD) .ret)]
abbrev ygT (x0 x1 x5:AV) (h:List Ob) (e:Cx:=cx):Cfg:=atC n_r01_Ints (.code ygM::.inLoop ygE ygM::.inBlock 0 ygF::ygS) [x0,x1,U,U,U,x5,U,U,U,U,U,U,U,U,U,U,U,U,U,U,U,U,U,U,U,U] h e
@[simp] theorem c_r01_Ints:cfun Try.prog n_r01_Ints=some r01_Ints:=by kernel_rfl
@[simp] theorem e_r01_Ints:hasBody Try.prog n_r01_Ints=true:=by kernel_rfl
abbrev ygU:List AG:=[o 4 (.mv (.c (.bool true)))]
abbrev ygV:List Bool:=[I,I,O,O,O,I,O,O,O,O,O,O,O,O,O,O,O,O,O,O,O,O,O,O,O,O,O]
abbrev ygW:List Bool:=[O,O,O,O,O,O,O,O,O,O,O,O,O,O,O,O,O,O,O,O,O,O,O,O,O,O,O]
abbrev ygX:List AG:=[zz1 15 5,zz6 16 15 1,zz1 5 16]
abbrev ygY:List AG:=[zzh 4]
abbrev ygZ:ACode:=(.seq (.reg ygY) .ret)
abbrev yha:List AG:=[zz1 17 0,zz1 18 5,zz5 19 1 17 18,zz2 20 1 19,zz1 21 1,zz1 22 5,zz5 23 1 21 22,zz2 24 1 23,zzg 25 n_r01_Ints 20 24,o 26 (.not (.t 25))]
abbrev yhb:ACode:=(.seq (.dreg [O,O,O,O,O,O,O,O,O,O] [9,9,9,9,9,9,9,9,11,11] yha) (.cond (.t 26) ygZ .skip))
abbrev yhc:List AG:=[zz1 11 5,zz1 12 0,zza 13 12,zz7 14 11 13]
abbrev yhd:ACode:=(.seq (.seq (.reg yhc) (.cond (.t 14) .skip (.exit 0))) (.seq (.block 1 [] yhb) (.reg ygX)))
abbrev yhe:List AG:=[zz9 5 0]
abbrev yhf:List AG:=[zzh 4]
abbrev yhg:ACode:=(.seq (.reg yhf) .ret)
abbrev yhh:List AG:=[zz1 6 0,zza 7 6,zz1 8 1,zza 9 8,o 10 (.cmp .neq (.sc .int) (.t 7) (.t 9))]
abbrev yhi:List AG:=[zzh 4]
abbrev r19_Clauses:AFun:=⟨(.seq (.reg yhi) (.seq (.seq (.reg yhh) (.cond (.t 10) yhg .skip)) (.seq (.seq (.reg yhe) (.block 0 ygW (.loop ygV yhd))) (.seq (.reg ygU) .ret)))),27,[.tmp 4]⟩
abbrev yhj:List It:=[.code (.seq (.reg ygU) .ret)]
abbrev yhk (x0 x1 x5:AV) (h:List Ob) (e:Cx:=cx):Cfg:=atC n_r19_Clauses (.code yhd::.inLoop ygV yhd::.inBlock 0 ygW::yhj) [x0,x1,U,U,U,x5,U,U,U,U,U,U,U,U,U,U,U,U,U,U,U,U,U,U,U,U,U] h e
@[simp] theorem c_r19_Clauses:cfun Try.prog n_r19_Clauses=some r19_Clauses:=by kernel_rfl
@[simp] theorem e_r19_Clauses:hasBody Try.prog n_r19_Clauses=true:=by kernel_rfl
abbrev yhl:List AG:=[zz2 4 1 1,zz1 5 0,zz1 6 0,o 7 (.neg (.t 6)),o 8 (.max [(.t 5),(.t 7)]),o 9 (.ibin .sub (.t 8) (.c (.int .i64 1))),zz5 10 1 4 9,zz2 11 1 10,zz1 12 0,o 13 (.cmp .gtr (.sc .int) (.t 12) (.c (.int .i64 0))),o 14 (.cmp .eql (.sc .bool) (.t 11) (.t 13)),zz1 3 14]
abbrev yhm:List AG:=[zzh 3]
abbrev cnf_True_1:AFun:=⟨(.seq (.reg yhm) (.seq (.reg yhl) .ret)),15,[.tmp 3]⟩
@[simp] theorem c_cnf_True_1:cfun Try.prog n_cnf_True_1=some cnf_True_1:=by kernel_rfl
@[simp] theorem e_cnf_True_1:hasBody Try.prog n_cnf_True_1=true:=by kernel_rfl
abbrev yhn:List AG:=[zz1 4 0,zz2 5 1 1,zzg 6 n_slices_ContainsFunc_api_Clause_int 4 5,o 7 (.not (.t 6)),zz1 3 7]
abbrev yho:List AG:=[zzh 3]
abbrev cnf_True_2:AFun:=⟨(.seq (.reg yho) (.seq (.reg yhn) .ret)),8,[.tmp 3]⟩
@[simp] theorem c_cnf_True_2:cfun Try.prog n_cnf_True_2=some cnf_True_2:=by kernel_rfl
@[simp] theorem e_cnf_True_2:hasBody Try.prog n_cnf_True_2=true:=by kernel_rfl
abbrev yhp:List AG:=[zz1 5 0,zz1 6 1,zzg 7 n_slices_IndexFunc_api_Clause_int 5 6,o 8 (.cmp .geq (.sc .int) (.t 7) (.c (.int .i64 0))),zz1 4 8]
abbrev yhq:List AG:=[zzh 4]
abbrev slices_ContainsFunc_api_Clause_int:AFun:=⟨(.seq (.reg yhq) (.seq (.reg yhp) .ret)),9,[.tmp 4]⟩
@[simp] theorem c_slices_ContainsFunc_api_Clause_int:cfun Try.prog n_slices_ContainsFunc_api_Clause_int=some slices_ContainsFunc_api_Clause_int:=by kernel_rfl
@[simp] theorem e_slices_ContainsFunc_api_Clause_int:hasBody Try.prog n_slices_ContainsFunc_api_Clause_int=true:=by kernel_rfl
abbrev yhr:List AG:=[zz1 5 0,zz1 6 1,zzg 7 n_slices_IndexFunc_api_Clause_api_Clause 5 6,o 8 (.cmp .geq (.sc .int) (.t 7) (.c (.int .i64 0))),zz1 4 8]
abbrev yhs:List AG:=[zzh 4]
abbrev slices_ContainsFunc_api_Clause_api_Clause:AFun:=⟨(.seq (.reg yhs) (.seq (.reg yhr) .ret)),9,[.tmp 4]⟩
@[simp] theorem c_slices_ContainsFunc_api_Clause_api_Clause:cfun Try.prog n_slices_ContainsFunc_api_Clause_api_Clause=some slices_ContainsFunc_api_Clause_api_Clause:=by kernel_rfl
@[simp] theorem e_slices_ContainsFunc_api_Clause_api_Clause:hasBody Try.prog n_slices_ContainsFunc_api_Clause_api_Clause=true:=by kernel_rfl
abbrev yht:List AG:=[zz1 14 0,zz1 15 1,o 16 (.ibin .quo (.t 15) (.c (.int .i64 2))),zz5 17 1 14 16,zz2 18 1 17,zz1 4 18]
abbrev yhu:List AG:=[zz1 8 0,zz1 9 1,o 10 (.ibin .quo (.t 9) (.c (.int .i64 2))),zz5 11 1 8 10,zz2 12 1 11,o 13 (.neg (.t 12)),zz1 4 13]
abbrev yhv:ACode:=(.seq (.reg yhu) .ret)
abbrev yhw:List AG:=[zz1 5 1,o 6 (.ibin .rem (.t 5) (.c (.int .i64 2))),o 7 (.cmp .eql (.sc .int) (.t 6) (.c (.int .i64 1)))]
abbrev yhx:List AG:=[zz9 4 0]
abbrev r19_in:AFun:=⟨(.seq (.reg yhx) (.seq (.seq (.reg yhw) (.cond (.t 7) yhv .skip)) (.seq (.reg yht) .ret))),19,[.tmp 4]⟩
@[simp] theorem c_r19_in:cfun Try.prog n_r19_in=some r19_in:=by kernel_rfl
@[simp] theorem e_r19_in:hasBody Try.prog n_r19_in=true:=by kernel_rfl
abbrev yhy:List AG:=[zz1 4 0,o 5 (.cmp .eql (.sc .int) (.t 4) (.c (.int .i64 0))),zz1 6 5,on 7 6 (.mv (.t 0)),on 8 6 (.load false 1 (.t 1)),on 9 6 (.neg (.t 8)),on 10 6 (.cmp .lss (.sc .int) (.t 7) (.t 9)),o 11 (.pick (.t 6) (.c (.bool true)) (.t 10)),zz1 12 11,on 13 12 (.mv (.t 0)),on 14 12 (.load false 1 (.t 1)),on 15 12 (.cmp .gtr (.sc .int) (.t 13) (.t 14)),o 16 (.pick (.t 12) (.c (.bool true)) (.t 15)),zz1 3 16]
abbrev yhz:List AG:=[zzh 3]
abbrev cnf_Check_1:AFun:=⟨(.seq (.reg yhz) (.seq (.reg yhy) .ret)),17,[.tmp 3]⟩
@[simp] theorem c_cnf_Check_1:cfun Try.prog n_cnf_Check_1=some cnf_Check_1:=by kernel_rfl
@[simp] theorem e_cnf_Check_1:hasBody Try.prog n_cnf_Check_1=true:=by kernel_rfl
abbrev yhA:List AG:=[zz1 4 0,zz2 5 1 1,zzg 6 n_slices_ContainsFunc_api_Clause_int 4 5,zz1 3 6]
abbrev yhB:List AG:=[zzh 3]
abbrev cnf_Check_2:AFun:=⟨(.seq (.reg yhB) (.seq (.reg yhA) .ret)),7,[.tmp 3]⟩
@[simp] theorem c_cnf_Check_2:cfun Try.prog n_cnf_Check_2=some cnf_Check_2:=by kernel_rfl
@[simp] theorem e_cnf_Check_2:hasBody Try.prog n_cnf_Check_2=true:=by kernel_rfl
abbrev yhC:List AG:=[zz1 17 0,o 18 (.nilck (.t 17)),zz4 19 8 18,zz2 20 1 19,zz1 21 1,o 22 (.ibin .shr (.t 21) (.c (.int .u64 1))),zz5 23 1 20 22,zz2 24 1 23,zz1 4 24]
abbrev yhD:List AG:=[zz1 8 0,o 9 (.nilck (.t 8)),zz4 10 8 9,zz2 11 1 10,zz1 12 1,o 13 (.ibin .shr (.t 12) (.c (.int .u64 1))),zz5 14 1 11 13,zz2 15 1 14,o 16 (.neg (.t 15)),zz1 4 16]
abbrev yhE:ACode:=(.seq (.reg yhD) .ret)
abbrev yhF:List AG:=[zz1 5 1,o 6 (.ibin .and (.t 5) (.c (.int .i64 1))),o 7 (.cmp .eql (.sc .int) (.t 6) (.c (.int .i64 1)))]
abbrev yhG:List AG:=[zz9 4 0]
abbrev cnf_builder_lit:AFun:=⟨(.seq (.reg yhG) (.seq (.seq (.reg yhF) (.cond (.t 7) yhE .skip)) (.seq (.reg yhC) .ret))),25,[.tmp 4]⟩
@[simp] theorem c_cnf_builder_lit:cfun Try.prog n_cnf_builder_lit=some cnf_builder_lit:=by kernel_rfl
@[simp] theorem e_cnf_builder_lit:hasBody Try.prog n_cnf_builder_lit=true:=by kernel_rfl
abbrev yhH:List AG:=[zz1 5 0,zz1 6 1,zzg 7 n_slices_Equal_api_Clause_int 5 6,zz1 4 7]
abbrev yhI:List AG:=[zzh 4]
abbrev cnf_Same_1:AFun:=⟨(.seq (.reg yhI) (.seq (.reg yhH) .ret)),8,[.tmp 4]⟩
@[simp] theorem c_cnf_Same_1:cfun Try.prog n_cnf_Same_1=some cnf_Same_1:=by kernel_rfl
@[simp] theorem e_cnf_Same_1:hasBody Try.prog n_cnf_Same_1=true:=by kernel_rfl
abbrev yhJ:List AG:=[o 4 (.mv (.c (.bool true)))]
abbrev yhK:List Bool:=[I,I,O,O,O,O,O,O,O,O,O,O,I,I,O,O,O,O,O,O,O,O,O,O,O,O]
abbrev yhL:List Bool:=[O,O,O,O,O,O,O,O,O,O,O,O,O,O,O,O,O,O,O,O,O,O,O,O,O,O]
abbrev yhM:List AG:=[zz6 25 13 1,zz1 13 25]
abbrev yhN:List AG:=[zzh 4]
abbrev yhO:ACode:=(.seq (.reg yhN) .ret)
abbrev yhP:List AG:=[zz1 16 0,zz1 17 5,zz5 18 1 16 17,zz2 19 1 18,zz1 20 1,zz1 21 5,zz5 22 1 20 21,zz2 23 1 22,o 24 (.cmp .neq (.sc .int) (.t 19) (.t 23))]
abbrev yhQ:List AG:=[zz1 15 13,zz1 5 15]
abbrev yhR:ACode:=(.seq (.reg yhQ) (.seq (.dreg [O,O,O,O,O,O,O,O,O] [10,10,10,10,10,10,10,10,10] yhP) (.cond (.t 24) yhO .skip)))
abbrev yhS:List AG:=[zz7 14 13 12]
abbrev yhT:ACode:=(.seq (.reg yhS) (.seq (.cond (.t 14) .skip (.exit 0)) (.seq (.block 1 [] yhR) (.reg yhM))))
abbrev yhU:List AG:=[zz1 11 0,zza 12 11,zz9 13 0]
abbrev yhV:List AG:=[zzh 4]
abbrev yhW:ACode:=(.seq (.reg yhV) .ret)
abbrev yhX:List AG:=[zz1 6 0,zza 7 6,zz1 8 1,zza 9 8,o 10 (.cmp .neq (.sc .int) (.t 7) (.t 9))]
abbrev yhY:List AG:=[zzh 4]
abbrev slices_Equal_api_Clause_int:AFun:=⟨(.seq (.reg yhY) (.seq (.seq (.reg yhX) (.cond (.t 10) yhW .skip)) (.seq (.seq (.reg yhU) (.block 0 yhL (.loop yhK yhT))) (.seq (.reg yhJ) .ret)))),26,[.tmp 4]⟩
abbrev yhZ:List It:=[.code (.seq (.reg yhJ) .ret)]
abbrev yia (x0 x1 x12 x13:AV) (h:List Ob) (e:Cx:=cx):Cfg:=atC n_slices_Equal_api_Clause_int (.code yhT::.inLoop yhK yhT::.inBlock 0 yhL::yhZ) [x0,x1,U,U,U,U,U,U,U,U,U,U,x12,x13,U,U,U,U,U,U,U,U,U,U,U,U] h e
@[simp] theorem c_slices_Equal_api_Clause_int:cfun Try.prog n_slices_Equal_api_Clause_int=some slices_Equal_api_Clause_int:=by kernel_rfl
@[simp] theorem e_slices_Equal_api_Clause_int:hasBody Try.prog n_slices_Equal_api_Clause_int=true:=by kernel_rfl
abbrev yib:List AG:=[o 6 (.mv (.c (.bool true)))]
abbrev yic:List Bool:=[O,I,I,O,O,O,O,O,O,O,O,O,O,O,O,I,I,I,O,O,O,O,O,O,O,O,O,O,O,O,O,O]
abbrev yid:List Bool:=[O,O,O,O,O,O,O,O,O,O,O,O,O,O,O,O,O,O,O,O,O,O,O,O,O,O,O,O,O,O,O,O]
abbrev yie:List AG:=[zz6 31 17 1,zz1 17 31]
abbrev yif:List AG:=[zzh 6]
abbrev yig:ACode:=(.seq (.reg yif) .ret)
abbrev yih:List AG:=[zz1 26 2,zz1 27 8,zz1 28 9,o 29 (.call (.t 26) [(.t 27),(.t 28)]),o 30 (.not (.t 29))]
abbrev yii:List AG:=[zz1 22 1,zz1 23 7,zz5 24 1 22 23,zz2 25 1 24,zz1 9 25]
abbrev yij:List AG:=[zz1 19 17,zz5 20 1 15 17,zz2 21 1 20,zz1 7 19,zz1 8 21]
abbrev yik:ACode:=(.seq (.reg yij) (.seq (.reg yii) (.seq (.reg yih) (.cond (.t 30) yig .skip))))
abbrev yil:List AG:=[zz7 18 17 16]
abbrev yim:ACode:=(.seq (.reg yil) (.seq (.cond (.t 18) .skip (.exit 0)) (.seq (.block 1 [] yik) (.reg yie))))
abbrev yin:List AG:=[zz1 15 0,zza 16 15,zz9 17 0]
abbrev yio:List AG:=[zzh 6]
abbrev yip:ACode:=(.seq (.reg yio) .ret)
abbrev yiq:List AG:=[zz1 10 0,zza 11 10,zz1 12 1,zza 13 12,o 14 (.cmp .neq (.sc .int) (.t 11) (.t 13))]
abbrev yir:List AG:=[zzh 6]
abbrev slices_EqualFunc_api_Clause_api_Clause_api_Clause_api_Clause:AFun:=⟨(.seq (.reg yir) (.seq (.seq (.reg yiq) (.cond (.t 14) yip .skip)) (.seq (.seq (.reg yin) (.block 0 yid (.loop yic yim))) (.seq (.reg yib) .ret)))),32,[.tmp 6]⟩
abbrev yis:List It:=[.code (.seq (.reg yib) .ret)]
abbrev yit (x1 x2 x15 x16 x17:AV) (h:List Ob) (e:Cx:=cx):Cfg:=atC n_slices_EqualFunc_api_Clause_api_Clause_api_Clause_api_Clause (.code yim::.inLoop yic yim::.inBlock 0 yid::yis) [U,x1,x2,U,U,U,U,U,U,U,U,U,U,U,U,x15,x16,x17,U,U,U,U,U,U,U,U,U,U,U,U,U,U] h e
@[simp] theorem c_slices_EqualFunc_api_Clause_api_Clause_api_Clause_api_Clause:cfun Try.prog n_slices_EqualFunc_api_Clause_api_Clause_api_Clause_api_Clause=some slices_EqualFunc_api_Clause_api_Clause_api_Clause_api_Clause:=by kernel_rfl
@[simp] theorem e_slices_EqualFunc_api_Clause_api_Clause_api_Clause_api_Clause:hasBody Try.prog n_slices_EqualFunc_api_Clause_api_Clause_api_Clause_api_Clause=true:=by kernel_rfl
abbrev yiu:List AG:=[o 6 (.mv (.c (.bool true)))]
abbrev yiv:List Bool:=[O,I,I,O,O,O,O,O,O,O,O,O,O,O,O,I,I,I,O,O,O,O,O,O,O,O,O,O,O,O,O,O]
abbrev yiw:List Bool:=[O,O,O,O,O,O,O,O,O,O,O,O,O,O,O,O,O,O,O,O,O,O,O,O,O,O,O,O,O,O,O,O]
abbrev yix:List AG:=[zz6 31 17 1,zz1 17 31]
abbrev yiy:List AG:=[zzh 6]
abbrev yiz:ACode:=(.seq (.reg yiy) .ret)
abbrev yiA:List AG:=[zz1 26 2,zz1 27 8,zz1 28 9,o 29 (.call (.t 26) [(.t 27),(.t 28)]),o 30 (.not (.t 29))]
abbrev yiB:List AG:=[zz1 22 1,zz1 23 7,zz5 24 1 22 23,zz2 25 1 24,zz1 9 25]
abbrev yiC:List AG:=[zz1 19 17,zz5 20 1 15 17,zz2 21 1 20,zz1 7 19,zz1 8 21]
abbrev yiD:ACode:=(.seq (.reg yiC) (.seq (.reg yiB) (.seq (.reg yiA) (.cond (.t 30) yiz .skip))))
abbrev yiE:List AG:=[zz7 18 17 16]
abbrev yiF:ACode:=(.seq (.reg yiE) (.seq (.cond (.t 18) .skip (.exit 0)) (.seq (.block 1 [] yiD) (.reg yix))))
abbrev yiG:List AG:=[zz1 15 0,zza 16 15,zz9 17 0]
abbrev yiH:List AG:=[zzh 6]
abbrev yiI:ACode:=(.seq (.reg yiH) .ret)
abbrev yiJ:List AG:=[zz1 10 0,zza 11 10,zz1 12 1,zza 13 12,o 14 (.cmp .neq (.sc .int) (.t 11) (.t 13))]
abbrev yiK:List AG:=[zzh 6]
abbrev slices_EqualFunc_int_int_int_int:AFun:=⟨(.seq (.reg yiK) (.seq (.seq (.reg yiJ) (.cond (.t 14) yiI .skip)) (.seq (.seq (.reg yiG) (.block 0 yiw (.loop yiv yiF))) (.seq (.reg yiu) .ret)))),32,[.tmp 6]⟩
abbrev yiL:List It:=[.code (.seq (.reg yiu) .ret)]
abbrev yiM (x1 x2 x15 x16 x17:AV) (h:List Ob) (e:Cx:=cx):Cfg:=atC n_slices_EqualFunc_int_int_int_int (.code yiF::.inLoop yiv yiF::.inBlock 0 yiw::yiL) [U,x1,x2,U,U,U,U,U,U,U,U,U,U,U,U,x15,x16,x17,U,U,U,U,U,U,U,U,U,U,U,U,U,U] h e
@[simp] theorem c_slices_EqualFunc_int_int_int_int:cfun Try.prog n_slices_EqualFunc_int_int_int_int=some slices_EqualFunc_int_int_int_int:=by kernel_rfl
@[simp] theorem e_slices_EqualFunc_int_int_int_int:hasBody Try.prog n_slices_EqualFunc_int_int_int_int=true:=by kernel_rfl
abbrev yiN:List AG:=[o 4 (.mv (.c (.bool true)))]
abbrev yiO:List Bool:=[I,I,O,O,O,O,O,O,O,O,O,O,I,I,O,O,O,O,O,O,O,O,O,O,O,O]
abbrev yiP:List Bool:=[O,O,O,O,O,O,O,O,O,O,O,O,O,O,O,O,O,O,O,O,O,O,O,O,O,O]
abbrev yiQ:List AG:=[zz6 25 13 1,zz1 13 25]
abbrev yiR:List AG:=[zzh 4]
abbrev yiS:ACode:=(.seq (.reg yiR) .ret)
abbrev yiT:List AG:=[zz1 16 0,zz1 17 5,zz5 18 1 16 17,zz2 19 1 18,zz1 20 1,zz1 21 5,zz5 22 1 20 21,zz2 23 1 22,o 24 (.cmp .neq (.sc .int) (.t 19) (.t 23))]
abbrev yiU:List AG:=[zz1 15 13,zz1 5 15]
abbrev yiV:ACode:=(.seq (.reg yiU) (.seq (.dreg [O,O,O,O,O,O,O,O,O] [10,10,10,10,10,10,10,10,10] yiT) (.cond (.t 24) yiS .skip)))
abbrev yiW:List AG:=[zz7 14 13 12]
abbrev yiX:ACode:=(.seq (.reg yiW) (.seq (.cond (.t 14) .skip (.exit 0)) (.seq (.block 1 [] yiV) (.reg yiQ))))
abbrev yiY:List AG:=[zz1 11 0,zza 12 11,zz9 13 0]
abbrev yiZ:List AG:=[zzh 4]
abbrev yja:ACode:=(.seq (.reg yiZ) .ret)
abbrev yjb:List AG:=[zz1 6 0,zza 7 6,zz1 8 1,zza 9 8,o 10 (.cmp .neq (.sc .int) (.t 7) (.t 9))]
abbrev yjc:List AG:=[zzh 4]
abbrev slices_Equal_int_int:AFun:=⟨(.seq (.reg yjc) (.seq (.seq (.reg yjb) (.cond (.t 10) yja .skip)) (.seq (.seq (.reg yiY) (.block 0 yiP (.loop yiO yiX))) (.seq (.reg yiN) .ret)))),26,[.tmp 4]⟩
abbrev yjd:List It:=[.code (.seq (.reg yiN) .ret)]
abbrev yje (x0 x1 x12 x13:AV) (h:List Ob) (e:Cx:=cx):Cfg:=atC n_slices_Equal_int_int (.code yiX::.inLoop yiO yiX::.inBlock 0 yiP::yjd) [x0,x1,U,U,U,U,U,U,U,U,U,U,x12,x13,U,U,U,U,U,U,U,U,U,U,U,U] h e
@[simp] theorem c_slices_Equal_int_int:cfun Try.prog n_slices_Equal_int_int=some slices_Equal_int_int:=by kernel_rfl
@[simp] theorem e_slices_Equal_int_int:hasBody Try.prog n_slices_Equal_int_int=true:=by kernel_rfl
abbrev yjf:List AG:=[zz4 3 0 1,zz2 4 1 3,o 5 (.cmp .leq (.sc .int) (.t 4) (.c (.int .i64 100))),zz1 6 5,on 7 6 (.off 0 (.t 1)),on 8 6 (.load false 1 (.t 7)),on 9 6 (.cmp .gtr (.sc .int) (.t 8) (.c (.int .i64 4000))),o 10 (.pick (.t 6) (.c (.bool true)) (.t 9)),zz1 11 10,oy 12 11 (.off 1 (.t 1)),zzd 13 11 1 12,oy 14 11 (.len (.t 13)),oy 15 11 (.cmp .leq (.sc .int) (.t 14) (.c (.int .i64 40))),zz8 16 11 15,zz1 17 16,oy 18 17 (.off 2 (.t 1)),zzd 19 17 1 18,oy 20 17 (.len (.t 19)),oy 21 17 (.cmp .leq (.sc .int) (.t 20) (.c (.int .i64 40))),zz8 22 17 21,zz1 23 22,oy 24 23 (.off 3 (.t 1)),zzd 25 23 1 24,oy 26 23 (.len (.t 25)),oy 27 23 (.cmp .leq (.sc .int) (.t 26) (.c (.int .i64 60))),zz8 28 23 27,zz1 29 28,oy 30 29 (.off 4 (.t 1)),zzd 31 29 1 30,oy 32 29 (.len (.t 31)),oy 33 29 (.cmp .leq (.sc .int) (.t 32) (.c (.int .i64 60))),zz8 34 29 33,zz1 2 34]
abbrev yjg:List AG:=[o 1 (.box 5 (.t 0)),zzh 2]
abbrev w09_Few:AFun:=⟨(.seq (.reg yjg) (.seq (.reg yjf) .ret)),35,[.tmp 2]⟩
@[simp] theorem c_w09_Few:cfun Try.prog n_w09_Few=some w09_Few:=by kernel_rfl
@[simp] theorem e_w09_Few:hasBody Try.prog n_w09_Few=true:=by kernel_rfl
abbrev yjh:List AG:=[zz9 6 0]
abbrev yji:List AG:=[zz9 6 8]
abbrev yjj:ACode:=(.seq (.reg yji) .ret)
abbrev yjk:List AG:=[zz1 52 8,o 53 (.cmp .gtr (.sc .int) (.t 52) (.c (.int .i64 20000)))]
abbrev yjl:List Bool:=[O,O,O,O,O,O,O,O,I,O,O,O,O,O,O,O,O,O,O,O,O,O,O,O,O,O,O,O,O,O,O,O,O,O,O,O,O,O,O,O,O,I,I,I,O,O,O,O,O,O,O,O,O,O]
abbrev yjm:List Bool:=[O,O,O,O,O,O,O,O,I,O,O,O,O,O,O,O,O,O,O,O,O,O,O,O,O,O,O,O,O,O,O,O,O,O,O,O,O,O,O,O,O,O,O,O,O,O,O,O,O,O,O,O,O,O]
abbrev yjn:List AG:=[zz6 51 43 1,zz1 43 51]
abbrev yjo:List AG:=[zz1 47 8,zz1 48 10,o 49 (.ibin .quo (.t 48) (.c (.int .i64 2))),o 50 (.ibin .add (.t 47) (.t 49)),zz1 8 50]
abbrev yjp:List AG:=[zz5 45 1 41 43,zz2 46 1 45,zz1 10 46]
abbrev yjq:ACode:=(.seq (.reg yjp) (.reg yjo))
abbrev yjr:List AG:=[zz7 44 43 42]
abbrev yjs:ACode:=(.seq (.reg yjr) (.seq (.cond (.t 44) .skip (.exit 0)) (.seq (.block 1 [] yjq) (.reg yjn))))
abbrev yjt:List AG:=[zz1 41 1,zza 42 41,zz9 43 0]
abbrev yju:List AG:=[zz1 32 2,zz4 33 0 3,zz2 34 1 33,zz4 35 3 3,zz2 36 1 35,zza 37 36,o 38 (.ibin .add (.t 34) (.t 37)),o 39 (.ibin .mul (.t 32) (.t 38)),o 40 (.ibin .add (.c (.int .i64 1)) (.t 39)),zz1 8 40]
abbrev yjv:List AG:=[zz9 6 8]
abbrev yjw:ACode:=(.seq (.reg yjv) .ret)
abbrev yjx:List AG:=[zz1 26 2,o 27 (.cmp .lss (.sc .int) (.t 26) (.c (.int .i64 0))),zz1 28 27,on 29 28 (.mv (.t 2)),on 30 28 (.cmp .gtr (.sc .int) (.t 29) (.c (.int .i64 40))),o 31 (.pick (.t 28) (.c (.bool true)) (.t 30))]
abbrev yjy:List AG:=[zz9 6 1]
abbrev yjz:ACode:=(.seq (.reg yjy) .ret)
abbrev yjA:List AG:=[zz1 16 1,zza 17 16,zz4 18 1 3,zz2 19 1 18,zza 20 19,o 21 (.cmp .neq (.sc .int) (.t 17) (.t 20)),zz1 22 21,on 23 22 (.mv (.t 1)),on 24 22 (.call (.f n_slices_ContainsFunc_int_int) [(.t 23),(.f n_cnf_can_1)]),o 25 (.pick (.t 22) (.c (.bool true)) (.t 24))]
abbrev yjB:List AG:=[zz1 15 7,zz1 6 15]
abbrev yjC:ACode:=(.seq (.reg yjB) .ret)
abbrev yjD:List AG:=[zz1 13 7,o 14 (.cmp .neq (.sc .int) (.t 13) (.c (.int .i64 0)))]
abbrev yjE:List AG:=[zz3 11 5 3,zzf 12 n_aig_Check 11,zz1 7 12]
abbrev yjF:List AG:=[o 3 (.box 5 (.t 0)),zz9 6 0]
abbrev cnf_can:AFun:=⟨(.seq (.reg yjF) (.seq (.seq (.reg yjE) (.seq (.reg yjD) (.cond (.t 14) yjC .skip))) (.seq (.seq (.reg yjA) (.cond (.t 25) yjz .skip)) (.seq (.seq (.reg yjx) (.cond (.t 31) yjw .skip)) (.seq (.reg yju) (.seq (.seq (.reg yjt) (.block 0 yjm (.loop yjl yjs))) (.seq (.seq (.reg yjk) (.cond (.t 53) yjj .skip)) (.seq (.reg yjh) .ret)))))))),54,[.tmp 6]⟩
abbrev yjG:List It:=[.code (.seq (.seq (.reg yjk) (.cond (.t 53) yjj .skip)) (.seq (.reg yjh) .ret))]
abbrev yjH (x8 x41 x42 x43:AV) (h:List Ob) (e:Cx:=cx):Cfg:=atC n_cnf_can (.code yjs::.inLoop yjl yjs::.inBlock 0 yjm::yjG) [U,U,U,U,U,U,U,U,x8,U,U,U,U,U,U,U,U,U,U,U,U,U,U,U,U,U,U,U,U,U,U,U,U,U,U,U,U,U,U,U,U,x41,x42,x43,U,U,U,U,U,U,U,U,U,U] h e
@[simp] theorem c_cnf_can:cfun Try.prog n_cnf_can=some cnf_can:=by kernel_rfl
@[simp] theorem e_cnf_can:hasBody Try.prog n_cnf_can=true:=by kernel_rfl
abbrev yjI:List AG:=[zz1 4 0,zz1 5 0,o 6 (.nilck (.t 5)),zz4 7 0 6,zz4 8 1 7,zz2 9 1 8,zz1 10 1,o 11 (.lit 1 [(.list true 0 [])] [(0,(.t 10))]),o 12 (.append 1 t_api_Clause_2 24 (.t 9) (.t 11)),o 13 (.nilck (.t 4)),zz4 14 0 13,zz4 15 1 14,zzb 1 15 12]
abbrev cnf_builder_add:AFun:=⟨(.reg yjI),16,[]⟩
@[simp] theorem c_cnf_builder_add:cfun Try.prog n_cnf_builder_add=some cnf_builder_add:=by kernel_rfl
@[simp] theorem e_cnf_builder_add:hasBody Try.prog n_cnf_builder_add=true:=by kernel_rfl
abbrev yjJ:List AG:=[zz1 12 0,o 13 (.nilck (.t 12)),zz4 14 0 13,zz4 15 0 14,zz2 16 1 15,zz1 2 16]
abbrev yjK:List AG:=[zz1 3 0,o 4 (.nilck (.t 3)),zz4 5 0 4,zz4 6 0 5,zz2 7 1 6,zz6 8 7 1,o 9 (.nilck (.t 3)),zz4 10 0 9,zz4 11 0 10,zzb 1 11 8]
abbrev yjL:List AG:=[zz9 2 0]
abbrev cnf_builder_fresh:AFun:=⟨(.seq (.reg yjL) (.seq (.reg yjK) (.seq (.reg yjJ) .ret))),17,[.tmp 2]⟩
@[simp] theorem c_cnf_builder_fresh:cfun Try.prog n_cnf_builder_fresh=some cnf_builder_fresh:=by kernel_rfl
@[simp] theorem e_cnf_builder_fresh:hasBody Try.prog n_cnf_builder_fresh=true:=by kernel_rfl
abbrev yjM:List AG:=[zz1 14 0,zz1 15 0,o 16 (.nilck (.t 15)),zz4 17 8 16,zz2 18 1 17,zz1 19 1,o 20 (.append 1 t_int 8 (.t 18) (.t 19)),o 21 (.nilck (.t 14)),zz4 22 8 21,zzb 1 22 20]
abbrev yjN:List AG:=[zz1 4 0,o 5 (.lit 1 [(.int .i64 0)] [(0,(.c (.int .i64 (-1))))]),zz1 6 0,o 7 (.nilck (.t 6)),zz4 8 3 7,zz4 9 0 8,zz2 10 1 9,o 11 (.appendZ 1 t_int 8 (.int .i64 0) (.t 5) (.t 10)),o 12 (.nilck (.t 4)),zz4 13 8 12,zzb 1 13 11]
abbrev cnf_builder_begin:AFun:=⟨(.seq (.reg yjN) (.reg yjM)),23,[]⟩
@[simp] theorem c_cnf_builder_begin:cfun Try.prog n_cnf_builder_begin=some cnf_builder_begin:=by kernel_rfl
@[simp] theorem e_cnf_builder_begin:hasBody Try.prog n_cnf_builder_begin=true:=by kernel_rfl
abbrev yjO:List AG:=[zz1 115 0,zz1 116 9,zzg 117 n_cnf_builder_begin 115 116]
abbrev yjP:List Bool:=[I,O,O,O,O,O,O,O,I,I,O,O,O,O,O,O,O,O,O,O,O,O,O,O,O,O,O,O,O,O,O,O,O,O,O,O,O,O,O,O,O,O,O,O,O,O,O,O,O,O,O,O,O,O,O,O,O,O,O,O,O,O,O,O,O,O,O,O,O,O,O,O,O,O,O,O,O,O,O,O,O,O,O,O,O,O,O,O,O,O,O,O,O,O,O,O,O,O,O,O,O,O,I,I,I,O,O,O,O,O,O,O,O,O,O,O,O,O]
abbrev yjQ:List Bool:=[I,O,O,O,O,O,O,O,O,I,O,O,O,O,O,O,O,O,O,O,O,O,O,O,O,O,O,O,O,O,O,O,O,O,O,O,O,O,O,O,O,O,O,O,O,O,O,O,O,O,O,O,O,O,O,O,O,O,O,O,O,O,O,O,O,O,O,O,O,O,O,O,O,O,O,O,O,O,O,O,O,O,O,O,O,O,O,O,O,O,O,O,O,O,O,O,O,O,O,O,O,O,O,O,O,O,O,O,O,O,O,O,O,O,O,O,O,O]
abbrev yjR:List AG:=[zz6 114 104 1,zz1 104 114]
abbrev yjS:List AG:=[zz1 108 9,zz1 109 8,zz1 110 11,o 111 (.call (.t 109) [(.t 110)]),o 112 (.lit 1 [(.int .i64 0)] [(0,(.t 111))]),o 113 (.append 1 t_int 8 (.t 108) (.t 112)),zz1 9 113]
abbrev yjT:List AG:=[zz5 106 1 102 104,zz2 107 1 106,zz1 11 107]
abbrev yjU:ACode:=(.seq (.reg yjT) (.reg yjS))
abbrev yjV:List AG:=[zz7 105 104 103]
abbrev yjW:ACode:=(.seq (.reg yjV) (.seq (.cond (.t 105) .skip (.exit 4)) (.seq (.block 5 [] yjU) (.reg yjR))))
abbrev yjX:List AG:=[zz1 98 0,o 99 (.nilck (.t 98)),zz4 100 3 99,zz4 101 1 100,zz2 102 1 101,zza 103 102,zz9 104 0]
abbrev yjY:List AG:=[o 9 (.nilrow 1 t_int)]
abbrev yjZ:List AG:=[zz1 96 0,o 97 (.mkFunc (.func n_cnf_builder_lit) [(.t 96)] []),zz1 8 97]
abbrev yka:List AG:=[zz1 81 0,zz1 82 0,o 83 (.nilck (.t 82)),zz4 84 0 83,zz4 85 2 84,zz2 86 1 85,zz1 87 0,o 88 (.nilck (.t 87)),zz4 89 8 88,zz2 90 1 89,o 91 (.lit 1 [(.list true 0 [])] [(0,(.t 90))]),o 92 (.append 1 t_int_3 24 (.t 86) (.t 91)),o 93 (.nilck (.t 81)),zz4 94 0 93,zz4 95 2 94,zzb 1 95 92]
abbrev ykb:List Bool:=[I,O,O,O,O,O,O,O,O,O,O,O,O,O,O,O,O,O,O,O,O,O,O,O,O,O,O,O,O,O,O,O,O,O,I,I,I,O,O,O,O,O,O,O,O,O,O,O,O,O,O,O,O,O,O,O,O,O,O,O,O,O,O,O,O,O,O,O,O,O,O,O,O,O,O,O,O,O,O,O,O,O,O,O,O,O,O,O,O,O,O,O,O,O,O,O,O,O,O,O,O,O,O,O,O,O,O,O,O,O,O,O,O,O,O,O,O,O]
abbrev ykc:List Bool:=[I,O,O,O,O,O,O,O,O,O,O,O,O,O,O,O,O,O,O,O,O,O,O,O,O,O,O,O,O,O,O,O,O,O,O,O,O,O,O,O,O,O,O,O,O,O,O,O,O,O,O,O,O,O,O,O,O,O,O,O,O,O,O,O,O,O,O,O,O,O,O,O,O,O,O,O,O,O,O,O,O,O,O,O,O,O,O,O,O,O,O,O,O,O,O,O,O,O,O,O,O,O,O,O,O,O,O,O,O,O,O,O,O,O,O,O,O,O]
abbrev ykd:List AG:=[zz6 80 36 1,zz1 36 80]
abbrev yke:List AG:=[zz1 70 0,zz1 71 0,o 72 (.nilck (.t 71)),zz4 73 8 72,zz2 74 1 73,zz1 75 5,o 76 (.lit 1 [(.int .i64 0)] [(0,(.t 75))]),o 77 (.append 1 t_int 8 (.t 74) (.t 76)),o 78 (.nilck (.t 70)),zz4 79 8 78,zzb 1 79 77]
abbrev ykf:List AG:=[zz1 62 0,zz1 63 5,zz1 64 6,o 65 (.neg (.t 64)),zz1 66 7,o 67 (.neg (.t 66)),o 68 (.lit 1 [(.int .i64 0),(.int .i64 0),(.int .i64 0)] [(0,(.t 63)),(1,(.t 65)),(2,(.t 67))]),zzg 69 n_cnf_builder_add 62 68]
abbrev ykg:List AG:=[zz1 56 0,zz1 57 5,o 58 (.neg (.t 57)),zz1 59 7,o 60 (.lit 1 [(.int .i64 0),(.int .i64 0)] [(0,(.t 58)),(1,(.t 59))]),zzg 61 n_cnf_builder_add 56 60]
abbrev ykh:List AG:=[zz1 50 0,zz1 51 5,o 52 (.neg (.t 51)),zz1 53 6,o 54 (.lit 1 [(.int .i64 0),(.int .i64 0)] [(0,(.t 52)),(1,(.t 53))]),zzg 55 n_cnf_builder_add 50 54]
abbrev yki:List AG:=[zz1 40 0,zzf 41 n_cnf_builder_fresh 40,zz1 42 0,o 43 (.arrAddr 2 1 (.t 4) (.c (.int .i64 0))),zz2 44 1 43,zzg 45 n_cnf_builder_lit 42 44,zz1 46 0,o 47 (.arrAddr 2 1 (.t 4) (.c (.int .i64 1))),zz2 48 1 47,zzg 49 n_cnf_builder_lit 46 48,zz1 5 41,zz1 6 45,zz1 7 49]
abbrev ykj:List AG:=[zz5 38 2 34 36,zz3 39 2 38,o 4 (.alloc [(.int .i64 0),(.int .i64 0)]),zzb 2 4 39]
abbrev ykk:ACode:=(.seq (.reg ykj) (.seq (.dreg [O,O,O,O,I,O,O,O,I,O,O,O,O] [2,6,6,6,6,10,10,10,10,14,14,14,14] yki) (.seq (.reg ykh) (.seq (.reg ykg) (.seq (.reg ykf) (.reg yke))))))
abbrev ykl:List AG:=[zz7 37 36 35]
abbrev ykm:ACode:=(.seq (.reg ykl) (.seq (.cond (.t 37) .skip (.exit 2)) (.seq (.block 3 [] ykk) (.reg ykd))))
abbrev ykn:List AG:=[zz1 30 0,o 31 (.nilck (.t 30)),zz4 32 3 31,zz4 33 3 32,zz2 34 1 33,zza 35 34,zz9 36 0]
abbrev yko:List Bool:=[I,O,O,O,O,O,O,O,O,O,O,O,O,O,O,O,I,I,O,O,O,O,O,O,O,O,O,O,O,O,O,O,O,O,O,O,O,O,O,O,O,O,O,O,O,O,O,O,O,O,O,O,O,O,O,O,O,O,O,O,O,O,O,O,O,O,O,O,O,O,O,O,O,O,O,O,O,O,O,O,O,O,O,O,O,O,O,O,O,O,O,O,O,O,O,O,O,O,O,O,O,O,O,O,O,O,O,O,O,O,O,O,O,O,O,O,O,O]
abbrev ykp:List Bool:=[I,O,O,O,O,O,O,O,O,O,O,O,O,O,O,O,O,O,O,O,O,O,O,O,O,O,O,O,O,O,O,O,O,O,O,O,O,O,O,O,O,O,O,O,O,O,O,O,O,O,O,O,O,O,O,O,O,O,O,O,O,O,O,O,O,O,O,O,O,O,O,O,O,O,O,O,O,O,O,O,O,O,O,O,O,O,O,O,O,O,O,O,O,O,O,O,O,O,O,O,O,O,O,O,O,O,O,O,O,O,O,O,O,O,O,O,O,O]
abbrev ykq:List AG:=[zz6 29 17 1,zz1 17 29]
abbrev ykr:List AG:=[zz1 20 0,o 21 (.nilck (.t 20)),zz4 22 8 21,zz2 23 1 22,zz1 24 2,o 25 (.ibin .add (.c (.int .i64 1)) (.t 24)),zz1 26 0,zzf 27 n_cnf_builder_fresh 26,zz5 28 1 23 25,zzb 1 28 27]
abbrev yks:List AG:=[zz1 19 17,zz1 2 19]
abbrev ykt:ACode:=(.seq (.reg yks) (.dreg [O,O,O,I,O,O,O,O,O,O] [10,10,10,10,10,10,8,10,10,11] ykr))
abbrev yku:List AG:=[zz7 18 17 16]
abbrev ykv:ACode:=(.seq (.reg yku) (.seq (.cond (.t 18) .skip (.exit 0)) (.seq (.block 1 [] ykt) (.reg ykq))))
abbrev ykw:List AG:=[zz1 12 0,o 13 (.nilck (.t 12)),zz4 14 3 13,zz4 15 0 14,zz2 16 1 15,zz9 17 0]
abbrev cnf_builder_step:AFun:=⟨(.seq (.seq (.reg ykw) (.block 0 ykp (.loop yko ykv))) (.seq (.seq (.reg ykn) (.block 2 ykc (.loop ykb ykm))) (.seq (.dreg [O,O,O,O,O,I,O,O,O,O,O,O,O,O,O,O] [16,12,12,12,12,12,11,11,11,11,12,16,16,16,16,17] yka) (.seq (.reg yjZ) (.seq (.reg yjY) (.seq (.seq (.reg yjX) (.block 4 yjQ (.loop yjP yjW))) (.reg yjO))))))),118,[]⟩
abbrev ykx:List It:=[.code (.reg yjO)]
abbrev yky (x0 x8 x9 x102 x103 x104:AV) (h:List Ob) (e:Cx:=cx):Cfg:=atC n_cnf_builder_step (.code yjW::.inLoop yjP yjW::.inBlock 4 yjQ::ykx) [x0,U,U,U,U,U,U,U,x8,x9,U,U,U,U,U,U,U,U,U,U,U,U,U,U,U,U,U,U,U,U,U,U,U,U,U,U,U,U,U,U,U,U,U,U,U,U,U,U,U,U,U,U,U,U,U,U,U,U,U,U,U,U,U,U,U,U,U,U,U,U,U,U,U,U,U,U,U,U,U,U,U,U,U,U,U,U,U,U,U,U,U,U,U,U,U,U,U,U,U,U,U,U,x102,x103,x104,U,U,U,U,U,U,U,U,U,U,U,U,U] h e
abbrev ykz (x0 x9:AV) (h:List Ob) (e:Cx:=cx):Cfg:=atC n_cnf_builder_step ykx [x0,U,U,U,U,U,U,U,U,x9,U,U,U,U,U,U,U,U,U,U,U,U,U,U,U,U,U,U,U,U,U,U,U,U,U,U,U,U,U,U,U,U,U,U,U,U,U,U,U,U,U,U,U,U,U,U,U,U,U,U,U,U,U,U,U,U,U,U,U,U,U,U,U,U,U,U,U,U,U,U,U,U,U,U,U,U,U,U,U,U,U,U,U,U,U,U,U,U,U,U,U,U,U,U,U,U,U,U,U,U,U,U,U,U,U,U,U,U] h e
abbrev ykA:List It:=[.code (.seq (.dreg [O,O,O,O,O,I,O,O,O,O,O,O,O,O,O,O] [16,12,12,12,12,12,11,11,11,11,12,16,16,16,16,17] yka) (.seq (.reg yjZ) (.seq (.reg yjY) (.seq (.seq (.reg yjX) (.block 4 yjQ (.loop yjP yjW))) (.reg yjO)))))]
abbrev ykB (x0 x34 x35 x36:AV) (h:List Ob) (e:Cx:=cx):Cfg:=atC n_cnf_builder_step (.code ykm::.inLoop ykb ykm::.inBlock 2 ykc::ykA) [x0,U,U,U,U,U,U,U,U,U,U,U,U,U,U,U,U,U,U,U,U,U,U,U,U,U,U,U,U,U,U,U,U,U,x34,x35,x36,U,U,U,U,U,U,U,U,U,U,U,U,U,U,U,U,U,U,U,U,U,U,U,U,U,U,U,U,U,U,U,U,U,U,U,U,U,U,U,U,U,U,U,U,U,U,U,U,U,U,U,U,U,U,U,U,U,U,U,U,U,U,U,U,U,U,U,U,U,U,U,U,U,U,U,U,U,U,U,U,U] h e
abbrev ykC (x0:AV) (h:List Ob) (e:Cx:=cx):Cfg:=atC n_cnf_builder_step ykA [x0,U,U,U,U,U,U,U,U,U,U,U,U,U,U,U,U,U,U,U,U,U,U,U,U,U,U,U,U,U,U,U,U,U,U,U,U,U,U,U,U,U,U,U,U,U,U,U,U,U,U,U,U,U,U,U,U,U,U,U,U,U,U,U,U,U,U,U,U,U,U,U,U,U,U,U,U,U,U,U,U,U,U,U,U,U,U,U,U,U,U,U,U,U,U,U,U,U,U,U,U,U,U,U,U,U,U,U,U,U,U,U,U,U,U,U,U,U] h e
abbrev ykD:List It:=[.code (.seq (.seq (.reg ykn) (.block 2 ykc (.loop ykb ykm))) (.seq (.dreg [O,O,O,O,O,I,O,O,O,O,O,O,O,O,O,O] [16,12,12,12,12,12,11,11,11,11,12,16,16,16,16,17] yka) (.seq (.reg yjZ) (.seq (.reg yjY) (.seq (.seq (.reg yjX) (.block 4 yjQ (.loop yjP yjW))) (.reg yjO))))))]
abbrev ykE (x0 x16 x17:AV) (h:List Ob) (e:Cx:=cx):Cfg:=atC n_cnf_builder_step (.code ykv::.inLoop yko ykv::.inBlock 0 ykp::ykD) [x0,U,U,U,U,U,U,U,U,U,U,U,U,U,U,U,x16,x17,U,U,U,U,U,U,U,U,U,U,U,U,U,U,U,U,U,U,U,U,U,U,U,U,U,U,U,U,U,U,U,U,U,U,U,U,U,U,U,U,U,U,U,U,U,U,U,U,U,U,U,U,U,U,U,U,U,U,U,U,U,U,U,U,U,U,U,U,U,U,U,U,U,U,U,U,U,U,U,U,U,U,U,U,U,U,U,U,U,U,U,U,U,U,U,U,U,U,U,U] h e
abbrev ykF (x0:AV) (h:List Ob) (e:Cx:=cx):Cfg:=atC n_cnf_builder_step ykD [x0,U,U,U,U,U,U,U,U,U,U,U,U,U,U,U,U,U,U,U,U,U,U,U,U,U,U,U,U,U,U,U,U,U,U,U,U,U,U,U,U,U,U,U,U,U,U,U,U,U,U,U,U,U,U,U,U,U,U,U,U,U,U,U,U,U,U,U,U,U,U,U,U,U,U,U,U,U,U,U,U,U,U,U,U,U,U,U,U,U,U,U,U,U,U,U,U,U,U,U,U,U,U,U,U,U,U,U,U,U,U,U,U,U,U,U,U,U] h e
@[simp] theorem c_cnf_builder_step:cfun Try.prog n_cnf_builder_step=some cnf_builder_step:=by kernel_rfl
@[simp] theorem e_cnf_builder_step:hasBody Try.prog n_cnf_builder_step=true:=by kernel_rfl
abbrev ykG:List AG:=[zz9 6 0]
abbrev ykH:List AG:=[zz9 6 8]
abbrev ykI:ACode:=(.seq (.reg ykH) .ret)
abbrev ykJ:List AG:=[zz1 17 2,o 18 (.cmp .lss (.sc .int) (.t 17) (.c (.int .i64 0))),zz1 19 18,on 20 19 (.mv (.t 2)),on 21 19 (.cmp .gtr (.sc .int) (.t 20) (.c (.int .i64 40))),o 22 (.pick (.t 19) (.c (.bool true)) (.t 21)),zz1 23 22,on 24 23 (.load true 5 (.t 3)),on 25 23 (.mv (.t 1)),on 26 23 (.mv (.t 2)),on 27 23 (.call (.f n_r19_many) [(.t 24),(.t 25),(.t 26)]),on 28 23 (.cmp .gtr (.sc .int) (.t 27) (.c (.int .i64 20000))),o 29 (.pick (.t 23) (.c (.bool true)) (.t 28))]
abbrev ykK:List AG:=[zz9 6 1]
abbrev ykL:ACode:=(.seq (.reg ykK) .ret)
abbrev ykM:List AG:=[zz3 13 5 3,zz1 14 1,zzg 15 n_r19_right 13 14,o 16 (.not (.t 15))]
abbrev ykN:List AG:=[zz1 12 7,zz1 6 12]
abbrev ykO:ACode:=(.seq (.reg ykN) .ret)
abbrev ykP:List AG:=[zz1 10 7,o 11 (.cmp .neq (.sc .int) (.t 10) (.c (.int .i64 0)))]
abbrev ykQ:List AG:=[zz3 8 5 3,zzf 9 n_r09_Check 8,zz1 7 9]
abbrev ykR:List AG:=[o 3 (.box 5 (.t 0)),zz9 6 0]
abbrev r19_can:AFun:=⟨(.seq (.reg ykR) (.seq (.reg ykQ) (.seq (.seq (.reg ykP) (.cond (.t 11) ykO .skip)) (.seq (.seq (.reg ykM) (.cond (.t 16) ykL .skip)) (.seq (.seq (.reg ykJ) (.cond (.t 29) ykI .skip)) (.seq (.reg ykG) .ret)))))),30,[.tmp 6]⟩
@[simp] theorem c_r19_can:cfun Try.prog n_r19_can=some r19_can:=by kernel_rfl
@[simp] theorem e_r19_can:hasBody Try.prog n_r19_can=true:=by kernel_rfl
abbrev ykS:List AG:=[zz3 54 3 5,zzb 3 4 54]
abbrev ykT:List AG:=[zz1 51 6,o 52 (.lit 1 [(.list true 0 [])] [(0,(.t 51))]),zz4 53 2 5,zzb 1 53 52]
abbrev ykU:List Bool:=[O,I,O,O,I,I,I,O,I,O,O,O,O,O,O,O,O,O,O,O,O,O,O,O,O,O,O,O,O,O,O,O,O,O,O,O,O,O,O,O,O,O,O,O,O,O,O,O,O,O,O,O,O,O,O]
abbrev ykV:List Bool:=[O,O,O,O,I,I,I,O,O,O,O,O,O,O,O,O,O,O,O,O,O,O,O,O,O,O,O,O,O,O,O,O,O,O,O,O,O,O,O,O,O,O,O,O,O,O,O,O,O,O,O,O,O,O,O]
abbrev ykW:List AG:=[zz1 26 8,zz6 27 26 1,zz1 8 27]
abbrev ykX:List AG:=[zz1 37 6,zz4 38 0 5,zz2 39 1 38,o 40 (.lit 1 [(.int .i64 0)] [(0,(.t 39))]),o 41 (.append 1 t_int 8 (.t 37) (.t 40)),zz1 6 41]
abbrev ykY:List AG:=[zz4 33 0 5,zz2 34 1 33,zz6 35 34 1,zz4 36 0 5,zzb 1 36 35]
abbrev ykZ:List AG:=[zz1 42 6,zz1 43 1,zz1 44 8,zz5 45 1 43 44,zz2 46 1 45,o 47 (.ibin .mul (.c (.int .i64 2)) (.t 46)),o 48 (.ibin .sub (.t 47) (.c (.int .i64 1))),o 49 (.lit 1 [(.int .i64 0)] [(0,(.t 48))]),o 50 (.append 1 t_int 8 (.t 42) (.t 49)),zz1 6 50]
abbrev yla:ACode:=(.seq (.reg ykY) (.reg ykX))
abbrev ylb:List AG:=[zz1 28 1,zz1 29 8,zz5 30 1 28 29,zz2 31 1 30,o 32 (.cmp .eql (.sc .int) (.t 31) (.c (.int .i64 2)))]
abbrev ylc:ACode:=(.seq (.reg ylb) (.cond (.t 32) yla (.reg ykZ)))
abbrev yld:List AG:=[zz1 22 8,zz1 23 1,zza 24 23,zz7 25 22 24]
abbrev yle:ACode:=(.seq (.seq (.reg yld) (.cond (.t 25) .skip (.exit 2))) (.seq (.block 3 [] ylc) (.reg ykW)))
abbrev ylf:List AG:=[zz9 8 0]
abbrev ylg:List Bool:=[O,I,I,O,I,I,I,I,O,O,O,O,O,O,O,O,O,O,O,O,O,O,O,O,O,O,O,O,O,O,O,O,O,O,O,O,O,O,O,O,O,O,O,O,O,O,O,O,O,O,O,O,O,O,O]
abbrev ylh:List Bool:=[O,I,O,O,I,I,I,O,O,O,O,O,O,O,O,O,O,O,O,O,O,O,O,O,O,O,O,O,O,O,O,O,O,O,O,O,O,O,O,O,O,O,O,O,O,O,O,O,O,O,O,O,O,O,O]
abbrev yli:List AG:=[zz1 17 7,zz6 18 17 1,zz1 7 18]
abbrev ylj:List AG:=[zz1 19 6,o 20 (.lit 1 [(.int .i64 0)] [(0,(.c (.int .i64 0)))]),o 21 (.append 1 t_int 8 (.t 19) (.t 20)),zz1 6 21]
abbrev ylk:List AG:=[zz1 13 7,zz4 14 0 2,zz2 15 1 14,zz7 16 13 15]
abbrev yll:ACode:=(.seq (.seq (.reg ylk) (.cond (.t 16) .skip (.exit 0))) (.seq (.block 1 [] (.reg ylj)) (.reg yli)))
abbrev ylm:List AG:=[zz9 7 0]
abbrev yln:List AG:=[o 12 (.lit 1 [(.int .i64 0)] [(0,(.c (.int .i64 (-1))))]),zz1 6 12]
abbrev ylo:List AG:=[o 9 (.lit 1 [(.int .i64 0)] [(0,(.c (.int .i64 1)))]),o 10 (.lit 1 [(.list true 0 [])] [(0,(.t 9))]),o 11 (.build [(.int .i64 0),(.list true 0 []),(.list true 0 [])] [(0,1,(.c (.int .i64 1))),(1,1,(.t 10))]),o 5 (.alloc [(.int .i64 0),(.own 1 t_api_Clause_2 []),(.own 1 t_int_3 [])]),zzb 3 5 11]
abbrev ylp:List AG:=[o 2 (.box 5 (.t 0)),o 4 (.alloc [(.int .i64 0),(.own 1 t_api_Clause_2 []),(.own 1 t_int_3 [])])]
abbrev r19_begins:AFun:=⟨(.seq (.reg ylp) (.seq (.reg ylo) (.seq (.reg yln) (.seq (.seq (.reg ylm) (.block 0 ylh (.loop ylg yll))) (.seq (.seq (.reg ylf) (.block 2 ykV (.loop ykU yle))) (.seq (.reg ykT) (.seq (.reg ykS) .ret))))))),55,[.cell 4 true 3]⟩
abbrev ylq:List It:=[.code (.seq (.reg ykT) (.seq (.reg ykS) .ret))]
abbrev ylr (x1 x4 x5 x6 x8:AV) (h:List Ob) (e:Cx:=cx):Cfg:=atC n_r19_begins (.code yle::.inLoop ykU yle::.inBlock 2 ykV::ylq) [U,x1,U,U,x4,x5,x6,U,x8,U,U,U,U,U,U,U,U,U,U,U,U,U,U,U,U,U,U,U,U,U,U,U,U,U,U,U,U,U,U,U,U,U,U,U,U,U,U,U,U,U,U,U,U,U,U] h e
abbrev yls (x4 x5 x6:AV) (h:List Ob) (e:Cx:=cx):Cfg:=atC n_r19_begins ylq [U,U,U,U,x4,x5,x6,U,U,U,U,U,U,U,U,U,U,U,U,U,U,U,U,U,U,U,U,U,U,U,U,U,U,U,U,U,U,U,U,U,U,U,U,U,U,U,U,U,U,U,U,U,U,U,U] h e
abbrev ylt:List It:=[.code (.seq (.seq (.reg ylf) (.block 2 ykV (.loop ykU yle))) (.seq (.reg ykT) (.seq (.reg ykS) .ret)))]
abbrev ylu (x1 x2 x4 x5 x6 x7:AV) (h:List Ob) (e:Cx:=cx):Cfg:=atC n_r19_begins (.code yll::.inLoop ylg yll::.inBlock 0 ylh::ylt) [U,x1,x2,U,x4,x5,x6,x7,U,U,U,U,U,U,U,U,U,U,U,U,U,U,U,U,U,U,U,U,U,U,U,U,U,U,U,U,U,U,U,U,U,U,U,U,U,U,U,U,U,U,U,U,U,U,U] h e
abbrev ylv (x1 x4 x5 x6:AV) (h:List Ob) (e:Cx:=cx):Cfg:=atC n_r19_begins ylt [U,x1,U,U,x4,x5,x6,U,U,U,U,U,U,U,U,U,U,U,U,U,U,U,U,U,U,U,U,U,U,U,U,U,U,U,U,U,U,U,U,U,U,U,U,U,U,U,U,U,U,U,U,U,U,U,U] h e
@[simp] theorem c_r19_begins:cfun Try.prog n_r19_begins=some r19_begins:=by kernel_rfl
@[simp] theorem e_r19_begins:hasBody Try.prog n_r19_begins=true:=by kernel_rfl
abbrev ylw:List AG:=[zz3 130 3 2,zzb 3 4 130]
abbrev ylx:List AG:=[zz4 124 2 2,zz2 125 1 124,zz1 126 12,o 127 (.lit 1 [(.list true 0 [])] [(0,(.t 126))]),o 128 (.append 1 t_int_3 24 (.t 125) (.t 127)),zz4 129 2 2,zzb 1 129 128]
abbrev yly:List Bool:=[O,O,I,I,I,O,I,O,O,O,O,O,I,O,I,O,O,O,O,O,O,O,O,O,O,O,O,O,O,O,O,O,O,O,O,O,O,O,O,O,O,O,O,O,O,O,O,O,O,O,O,O,O,O,O,O,O,O,O,O,O,O,O,O,O,O,O,O,O,O,O,O,O,O,O,O,O,O,O,O,O,O,O,O,O,O,O,O,O,O,O,O,O,O,O,O,O,O,O,O,O,O,O,O,O,O,O,O,O,O,O,O,O,O,O,O,O,O,O,O,O,O,O,O,O,O,O,O,O,O,O]
abbrev ylz:List Bool:=[O,O,I,O,I,O,O,O,O,O,O,O,I,O,O,O,O,O,O,O,O,O,O,O,O,O,O,O,O,O,O,O,O,O,O,O,O,O,O,O,O,O,O,O,O,O,O,O,O,O,O,O,O,O,O,O,O,O,O,O,O,O,O,O,O,O,O,O,O,O,O,O,O,O,O,O,O,O,O,O,O,O,O,O,O,O,O,O,O,O,O,O,O,O,O,O,O,O,O,O,O,O,O,O,O,O,O,O,O,O,O,O,O,O,O,O,O,O,O,O,O,O,O,O,O,O,O,O,O,O,O]
abbrev ylA:List AG:=[zz1 112 14,zz6 113 112 1,zz1 14 113]
abbrev ylB:List AG:=[zz1 114 12,zz1 115 6,zz4 116 1 3,zz2 117 1 116,zz1 118 14,zz5 119 1 117 118,zz2 120 1 119,zzg 121 n_r19_in 115 120,o 122 (.lit 1 [(.int .i64 0)] [(0,(.t 121))]),o 123 (.append 1 t_int 8 (.t 114) (.t 122)),zz1 12 123]
abbrev ylC:List AG:=[zz1 107 14,zz4 108 1 3,zz2 109 1 108,zza 110 109,zz7 111 107 110]
abbrev ylD:ACode:=(.seq (.seq (.reg ylC) (.cond (.t 111) .skip (.exit 6))) (.seq (.block 7 [] (.reg ylB)) (.reg ylA)))
abbrev ylE:List AG:=[zz9 14 0]
abbrev ylF:List Bool:=[O,O,I,I,I,O,I,O,O,O,O,O,I,I,O,O,O,O,O,O,O,O,O,O,O,O,O,O,O,O,O,O,O,O,O,O,O,O,O,O,O,O,O,O,O,O,O,O,O,O,O,O,O,O,O,O,O,O,O,O,O,O,O,O,O,O,O,O,O,O,O,O,O,O,O,O,O,O,O,O,O,O,O,O,O,O,O,O,O,O,O,O,O,O,O,O,O,O,O,O,O,O,O,O,O,O,O,O,O,O,O,O,O,O,O,O,O,O,O,O,O,O,O,O,O,O,O,O,O,O,O]
abbrev ylG:List Bool:=[O,O,I,I,I,O,I,O,O,O,O,O,I,O,O,O,O,O,O,O,O,O,O,O,O,O,O,O,O,O,O,O,O,O,O,O,O,O,O,O,O,O,O,O,O,O,O,O,O,O,O,O,O,O,O,O,O,O,O,O,O,O,O,O,O,O,O,O,O,O,O,O,O,O,O,O,O,O,O,O,O,O,O,O,O,O,O,O,O,O,O,O,O,O,O,O,O,O,O,O,O,O,O,O,O,O,O,O,O,O,O,O,O,O,O,O,O,O,O,O,O,O,O,O,O,O,O,O,O,O,O]
abbrev ylH:List AG:=[zz1 102 13,zz6 103 102 1,zz1 13 103]
abbrev ylI:List AG:=[zz1 104 12,o 105 (.lit 1 [(.int .i64 0)] [(0,(.c (.int .i64 0)))]),o 106 (.append 1 t_int 8 (.t 104) (.t 105)),zz1 12 106]
abbrev ylJ:List AG:=[zz1 98 13,zz4 99 0 3,zz2 100 1 99,zz7 101 98 100]
abbrev ylK:ACode:=(.seq (.seq (.reg ylJ) (.cond (.t 101) .skip (.exit 4))) (.seq (.block 5 [] (.reg ylI)) (.reg ylH)))
abbrev ylL:List AG:=[zz9 13 0]
abbrev ylM:List AG:=[o 97 (.lit 1 [(.int .i64 0)] [(0,(.c (.int .i64 (-1))))]),zz1 12 97]
abbrev ylN:List AG:=[zz4 92 2 2,zz2 93 1 92,zz1 94 5,zz1 95 6,zz5 96 1 93 94,zzb 1 96 95]
abbrev ylO:List Bool:=[O,O,I,I,I,I,I,O,I,O,O,O,O,O,O,O,O,O,O,O,O,O,O,O,O,O,O,O,O,O,O,O,O,O,O,O,O,O,O,O,O,O,O,O,O,O,O,O,O,O,O,O,O,O,O,O,O,O,O,O,O,O,O,O,O,O,O,O,O,O,O,O,O,O,O,O,O,O,O,O,O,O,O,O,O,O,O,O,O,O,O,O,O,O,O,O,O,O,O,O,O,O,O,O,O,O,O,O,O,O,O,O,O,O,O,O,O,O,O,O,O,O,O,O,O,O,O,O,O,O,O]
abbrev ylP:List Bool:=[O,O,I,I,I,I,I,O,O,O,O,O,O,O,O,O,O,O,O,O,O,O,O,O,O,O,O,O,O,O,O,O,O,O,O,O,O,O,O,O,O,O,O,O,O,O,O,O,O,O,O,O,O,O,O,O,O,O,O,O,O,O,O,O,O,O,O,O,O,O,O,O,O,O,O,O,O,O,O,O,O,O,O,O,O,O,O,O,O,O,O,O,O,O,O,O,O,O,O,O,O,O,O,O,O,O,O,O,O,O,O,O,O,O,O,O,O,O,O,O,O,O,O,O,O,O,O,O,O,O,O]
abbrev ylQ:List AG:=[zz1 45 8,zz6 46 45 1,zz1 8 46]
abbrev ylR:List AG:=[zz1 88 6,zz1 89 9,o 90 (.lit 1 [(.int .i64 0)] [(0,(.t 89))]),o 91 (.append 1 t_int 8 (.t 88) (.t 90)),zz1 6 91]
abbrev ylS:List AG:=[zz4 69 1 2,zz2 70 1 69,zz1 71 9,o 72 (.neg (.t 71)),zz1 73 10,o 74 (.lit 1 [(.int .i64 0),(.int .i64 0)] [(0,(.t 72)),(1,(.t 73))]),zz1 75 9,o 76 (.neg (.t 75)),zz1 77 11,o 78 (.lit 1 [(.int .i64 0),(.int .i64 0)] [(0,(.t 76)),(1,(.t 77))]),zz1 79 9,zz1 80 10,o 81 (.neg (.t 80)),zz1 82 11,o 83 (.neg (.t 82)),o 84 (.lit 1 [(.int .i64 0),(.int .i64 0),(.int .i64 0)] [(0,(.t 79)),(1,(.t 81)),(2,(.t 83))]),o 85 (.lit 1 [(.list true 0 []),(.list true 0 []),(.list true 0 [])] [(0,(.t 74)),(1,(.t 78)),(2,(.t 84))]),o 86 (.append 1 t_api_Clause_2 24 (.t 70) (.t 85)),zz4 87 1 2,zzb 1 87 86]
abbrev ylT:List AG:=[zz1 61 6,zz4 62 3 3,zz2 63 1 62,zz1 64 8,zz5 65 2 63 64,o 66 (.arrAddr 2 1 (.t 65) (.c (.int .i64 1))),zz2 67 1 66,zzg 68 n_r19_in 61 67,zz1 11 68]
abbrev ylU:List AG:=[zz1 53 6,zz4 54 3 3,zz2 55 1 54,zz1 56 8,zz5 57 2 55 56,o 58 (.arrAddr 2 1 (.t 57) (.c (.int .i64 0))),zz2 59 1 58,zzg 60 n_r19_in 53 59,zz1 10 60]
abbrev ylV:List AG:=[zz4 51 0 2,zz2 52 1 51,zz1 9 52]
abbrev ylW:List AG:=[zz4 47 0 2,zz2 48 1 47,zz6 49 48 1,zz4 50 0 2,zzb 1 50 49]
abbrev ylX:ACode:=(.seq (.reg ylW) (.seq (.reg ylV) (.seq (.reg ylU) (.seq (.reg ylT) (.seq (.reg ylS) (.reg ylR))))))
abbrev ylY:List AG:=[zz1 40 8,zz4 41 3 3,zz2 42 1 41,zza 43 42,zz7 44 40 43]
abbrev ylZ:ACode:=(.seq (.seq (.reg ylY) (.cond (.t 44) .skip (.exit 2))) (.seq (.block 3 [] ylX) (.reg ylQ)))
abbrev yma:List AG:=[zz9 8 0]
abbrev ymb:List Bool:=[O,O,I,I,I,I,I,I,O,O,O,O,O,O,O,O,O,O,O,O,O,O,O,O,O,O,O,O,O,O,O,O,O,O,O,O,O,O,O,O,O,O,O,O,O,O,O,O,O,O,O,O,O,O,O,O,O,O,O,O,O,O,O,O,O,O,O,O,O,O,O,O,O,O,O,O,O,O,O,O,O,O,O,O,O,O,O,O,O,O,O,O,O,O,O,O,O,O,O,O,O,O,O,O,O,O,O,O,O,O,O,O,O,O,O,O,O,O,O,O,O,O,O,O,O,O,O,O,O,O,O]
abbrev ymc:List Bool:=[O,O,I,I,I,I,I,O,O,O,O,O,O,O,O,O,O,O,O,O,O,O,O,O,O,O,O,O,O,O,O,O,O,O,O,O,O,O,O,O,O,O,O,O,O,O,O,O,O,O,O,O,O,O,O,O,O,O,O,O,O,O,O,O,O,O,O,O,O,O,O,O,O,O,O,O,O,O,O,O,O,O,O,O,O,O,O,O,O,O,O,O,O,O,O,O,O,O,O,O,O,O,O,O,O,O,O,O,O,O,O,O,O,O,O,O,O,O,O,O,O,O,O,O,O,O,O,O,O,O,O]
abbrev ymd:List AG:=[zz1 28 7,zz6 29 28 1,zz1 7 29]
abbrev yme:List AG:=[zz1 34 6,zz1 35 7,o 36 (.ibin .add (.c (.int .i64 1)) (.t 35)),zz4 37 0 2,zz2 38 1 37,zz5 39 1 34 36,zzb 1 39 38]
abbrev ymf:List AG:=[zz4 30 0 2,zz2 31 1 30,zz6 32 31 1,zz4 33 0 2,zzb 1 33 32]
abbrev ymg:ACode:=(.seq (.reg ymf) (.reg yme))
abbrev ymh:List AG:=[zz1 24 7,zz4 25 0 3,zz2 26 1 25,zz7 27 24 26]
abbrev ymi:ACode:=(.seq (.seq (.reg ymh) (.cond (.t 27) .skip (.exit 0))) (.seq (.block 1 [] ymg) (.reg ymd)))
abbrev ymj:List AG:=[zz9 7 0]
abbrev ymk:List AG:=[zz4 19 2 2,zz2 20 1 19,zz1 21 5,zz5 22 1 20 21,zz2 23 1 22,zz1 6 23]
abbrev yml:List AG:=[zz4 15 2 2,zz2 16 1 15,zza 17 16,o 18 (.ibin .sub (.t 17) (.c (.int .i64 1))),zz1 5 18]
abbrev ymm:List AG:=[o 2 (.box 3 (.t 0)),o 3 (.box 5 (.t 1)),o 4 (.alloc [(.int .i64 0),(.own 1 t_api_Clause_2 []),(.own 1 t_int_3 [])])]
abbrev r19_step:AFun:=⟨(.seq (.reg ymm) (.seq (.reg yml) (.seq (.reg ymk) (.seq (.seq (.reg ymj) (.block 0 ymc (.loop ymb ymi))) (.seq (.seq (.reg yma) (.block 2 ylP (.loop ylO ylZ))) (.seq (.reg ylN) (.seq (.reg ylM) (.seq (.seq (.reg ylL) (.block 4 ylG (.loop ylF ylK))) (.seq (.seq (.reg ylE) (.block 6 ylz (.loop yly ylD))) (.seq (.reg ylx) (.seq (.reg ylw) .ret))))))))))),131,[.cell 4 true 3]⟩
abbrev ymn:List It:=[.code (.seq (.reg ylx) (.seq (.reg ylw) .ret))]
abbrev ymo (x2 x3 x4 x6 x12 x14:AV) (h:List Ob) (e:Cx:=cx):Cfg:=atC n_r19_step (.code ylD::.inLoop yly ylD::.inBlock 6 ylz::ymn) [U,U,x2,x3,x4,U,x6,U,U,U,U,U,x12,U,x14,U,U,U,U,U,U,U,U,U,U,U,U,U,U,U,U,U,U,U,U,U,U,U,U,U,U,U,U,U,U,U,U,U,U,U,U,U,U,U,U,U,U,U,U,U,U,U,U,U,U,U,U,U,U,U,U,U,U,U,U,U,U,U,U,U,U,U,U,U,U,U,U,U,U,U,U,U,U,U,U,U,U,U,U,U,U,U,U,U,U,U,U,U,U,U,U,U,U,U,U,U,U,U,U,U,U,U,U,U,U,U,U,U,U,U,U] h e
abbrev ymp (x2 x4 x12:AV) (h:List Ob) (e:Cx:=cx):Cfg:=atC n_r19_step ymn [U,U,x2,U,x4,U,U,U,U,U,U,U,x12,U,U,U,U,U,U,U,U,U,U,U,U,U,U,U,U,U,U,U,U,U,U,U,U,U,U,U,U,U,U,U,U,U,U,U,U,U,U,U,U,U,U,U,U,U,U,U,U,U,U,U,U,U,U,U,U,U,U,U,U,U,U,U,U,U,U,U,U,U,U,U,U,U,U,U,U,U,U,U,U,U,U,U,U,U,U,U,U,U,U,U,U,U,U,U,U,U,U,U,U,U,U,U,U,U,U,U,U,U,U,U,U,U,U,U,U,U,U] h e
abbrev ymq:List It:=[.code (.seq (.seq (.reg ylE) (.block 6 ylz (.loop yly ylD))) (.seq (.reg ylx) (.seq (.reg ylw) .ret)))]
abbrev ymr (x2 x3 x4 x6 x12 x13:AV) (h:List Ob) (e:Cx:=cx):Cfg:=atC n_r19_step (.code ylK::.inLoop ylF ylK::.inBlock 4 ylG::ymq) [U,U,x2,x3,x4,U,x6,U,U,U,U,U,x12,x13,U,U,U,U,U,U,U,U,U,U,U,U,U,U,U,U,U,U,U,U,U,U,U,U,U,U,U,U,U,U,U,U,U,U,U,U,U,U,U,U,U,U,U,U,U,U,U,U,U,U,U,U,U,U,U,U,U,U,U,U,U,U,U,U,U,U,U,U,U,U,U,U,U,U,U,U,U,U,U,U,U,U,U,U,U,U,U,U,U,U,U,U,U,U,U,U,U,U,U,U,U,U,U,U,U,U,U,U,U,U,U,U,U,U,U,U,U] h e
abbrev yms (x2 x3 x4 x6 x12:AV) (h:List Ob) (e:Cx:=cx):Cfg:=atC n_r19_step ymq [U,U,x2,x3,x4,U,x6,U,U,U,U,U,x12,U,U,U,U,U,U,U,U,U,U,U,U,U,U,U,U,U,U,U,U,U,U,U,U,U,U,U,U,U,U,U,U,U,U,U,U,U,U,U,U,U,U,U,U,U,U,U,U,U,U,U,U,U,U,U,U,U,U,U,U,U,U,U,U,U,U,U,U,U,U,U,U,U,U,U,U,U,U,U,U,U,U,U,U,U,U,U,U,U,U,U,U,U,U,U,U,U,U,U,U,U,U,U,U,U,U,U,U,U,U,U,U,U,U,U,U,U,U] h e
abbrev ymt:List It:=[.code (.seq (.reg ylN) (.seq (.reg ylM) (.seq (.seq (.reg ylL) (.block 4 ylG (.loop ylF ylK))) (.seq (.seq (.reg ylE) (.block 6 ylz (.loop yly ylD))) (.seq (.reg ylx) (.seq (.reg ylw) .ret))))))]
abbrev ymu (x2 x3 x4 x5 x6 x8:AV) (h:List Ob) (e:Cx:=cx):Cfg:=atC n_r19_step (.code ylZ::.inLoop ylO ylZ::.inBlock 2 ylP::ymt) [U,U,x2,x3,x4,x5,x6,U,x8,U,U,U,U,U,U,U,U,U,U,U,U,U,U,U,U,U,U,U,U,U,U,U,U,U,U,U,U,U,U,U,U,U,U,U,U,U,U,U,U,U,U,U,U,U,U,U,U,U,U,U,U,U,U,U,U,U,U,U,U,U,U,U,U,U,U,U,U,U,U,U,U,U,U,U,U,U,U,U,U,U,U,U,U,U,U,U,U,U,U,U,U,U,U,U,U,U,U,U,U,U,U,U,U,U,U,U,U,U,U,U,U,U,U,U,U,U,U,U,U,U,U] h e
abbrev ymv (x2 x3 x4 x5 x6:AV) (h:List Ob) (e:Cx:=cx):Cfg:=atC n_r19_step ymt [U,U,x2,x3,x4,x5,x6,U,U,U,U,U,U,U,U,U,U,U,U,U,U,U,U,U,U,U,U,U,U,U,U,U,U,U,U,U,U,U,U,U,U,U,U,U,U,U,U,U,U,U,U,U,U,U,U,U,U,U,U,U,U,U,U,U,U,U,U,U,U,U,U,U,U,U,U,U,U,U,U,U,U,U,U,U,U,U,U,U,U,U,U,U,U,U,U,U,U,U,U,U,U,U,U,U,U,U,U,U,U,U,U,U,U,U,U,U,U,U,U,U,U,U,U,U,U,U,U,U,U,U,U] h e
abbrev ymw:List It:=[.code (.seq (.seq (.reg yma) (.block 2 ylP (.loop ylO ylZ))) (.seq (.reg ylN) (.seq (.reg ylM) (.seq (.seq (.reg ylL) (.block 4 ylG (.loop ylF ylK))) (.seq (.seq (.reg ylE) (.block 6 ylz (.loop yly ylD))) (.seq (.reg ylx) (.seq (.reg ylw) .ret)))))))]
abbrev ymx (x2 x3 x4 x5 x6 x7:AV) (h:List Ob) (e:Cx:=cx):Cfg:=atC n_r19_step (.code ymi::.inLoop ymb ymi::.inBlock 0 ymc::ymw) [U,U,x2,x3,x4,x5,x6,x7,U,U,U,U,U,U,U,U,U,U,U,U,U,U,U,U,U,U,U,U,U,U,U,U,U,U,U,U,U,U,U,U,U,U,U,U,U,U,U,U,U,U,U,U,U,U,U,U,U,U,U,U,U,U,U,U,U,U,U,U,U,U,U,U,U,U,U,U,U,U,U,U,U,U,U,U,U,U,U,U,U,U,U,U,U,U,U,U,U,U,U,U,U,U,U,U,U,U,U,U,U,U,U,U,U,U,U,U,U,U,U,U,U,U,U,U,U,U,U,U,U,U,U] h e
abbrev ymy (x2 x3 x4 x5 x6:AV) (h:List Ob) (e:Cx:=cx):Cfg:=atC n_r19_step ymw [U,U,x2,x3,x4,x5,x6,U,U,U,U,U,U,U,U,U,U,U,U,U,U,U,U,U,U,U,U,U,U,U,U,U,U,U,U,U,U,U,U,U,U,U,U,U,U,U,U,U,U,U,U,U,U,U,U,U,U,U,U,U,U,U,U,U,U,U,U,U,U,U,U,U,U,U,U,U,U,U,U,U,U,U,U,U,U,U,U,U,U,U,U,U,U,U,U,U,U,U,U,U,U,U,U,U,U,U,U,U,U,U,U,U,U,U,U,U,U,U,U,U,U,U,U,U,U,U,U,U,U,U,U] h e
@[simp] theorem c_r19_step:cfun Try.prog n_r19_step=some r19_step:=by kernel_rfl
@[simp] theorem e_r19_step:hasBody Try.prog n_r19_step=true:=by kernel_rfl
abbrev ymz:List AG:=[zz1 35 6,zz1 2 35]
abbrev ymA:List Bool:=[O,O,O,O,O,O,I,O,O,O,O,O,O,O,O,O,O,O,O,O,O,O,O,O,O,I,I,I,O,O,O,O,O,O,O,O]
abbrev ymB:List Bool:=[O,O,O,O,O,O,I,O,O,O,O,O,O,O,O,O,O,O,O,O,O,O,O,O,O,O,O,O,O,O,O,O,O,O,O,O]
abbrev ymC:List AG:=[zz6 34 27 1,zz1 27 34]
abbrev ymD:List AG:=[zz1 31 6,zz1 32 8,o 33 (.append 1 t_bool 1 (.t 31) (.t 32)),zz1 6 33]
abbrev ymE:List AG:=[zz5 29 1 25 27,zz2 30 1 29,zz1 8 30]
abbrev ymF:ACode:=(.seq (.reg ymE) (.reg ymD))
abbrev ymG:List AG:=[zz7 28 27 26]
abbrev ymH:ACode:=(.seq (.reg ymG) (.seq (.cond (.t 28) .skip (.exit 2)) (.seq (.block 3 [] ymF) (.reg ymC))))
abbrev ymI:List AG:=[zz1 25 0,zza 26 25,zz9 27 0]
abbrev ymJ:List AG:=[zz1 23 3,o 24 (.call (.f n_slices_Grow_bool_bool) [(.c (.list true 0 [])),(.t 23)]),zz1 6 24]
abbrev ymK:List Bool:=[I,O,O,I,O,O,O,O,O,I,I,I,O,O,O,O,O,O,O,O,O,O,O,O,O,O,O,O,O,O,O,O,O,O,O,O]
abbrev ymL:List Bool:=[I,O,O,I,O,O,O,O,O,O,O,O,O,O,O,O,O,O,O,O,O,O,O,O,O,O,O,O,O,O,O,O,O,O,O,O]
abbrev ymM:List AG:=[zz6 22 11 1,zz1 11 22]
abbrev ymN:List AG:=[o 21 (.mkIface t_string (.c (.str [108,101,110,32,111,117,116,32,111,102,32,114,97,110,103,101]))),q (.panic (.t 21))]
abbrev ymO:List AG:=[zz1 19 3,o 20 (.cmp .lss (.sc .int) (.t 19) (.c (.int .i64 0)))]
abbrev ymP:List AG:=[zz1 15 3,zz1 16 5,zza 17 16,o 18 (.ibin .add (.t 15) (.t 17)),zz1 3 18]
abbrev ymQ:List AG:=[zz5 13 1 9 11,zz2 14 1 13,zz1 5 14]
abbrev ymR:ACode:=(.seq (.reg ymQ) (.seq (.reg ymP) (.seq (.reg ymO) (.cond (.t 20) (.reg ymN) .skip))))
abbrev ymS:List AG:=[zz7 12 11 10]
abbrev ymT:ACode:=(.seq (.reg ymS) (.seq (.cond (.t 12) .skip (.exit 0)) (.seq (.block 1 [] ymR) (.reg ymM))))
abbrev ymU:List AG:=[zz1 9 0,zza 10 9,zz9 11 0]
abbrev ymV:List AG:=[zz9 3 0]
abbrev ymW:List AG:=[o 2 (.nilrow 1 t_bool)]
abbrev slices_Concat_bool_bool:AFun:=⟨(.seq (.reg ymW) (.seq (.reg ymV) (.seq (.seq (.reg ymU) (.block 0 ymL (.loop ymK ymT))) (.seq (.reg ymJ) (.seq (.seq (.reg ymI) (.block 2 ymB (.loop ymA ymH))) (.seq (.reg ymz) .ret)))))),36,[.tmp 2]⟩
abbrev ymX:List It:=[.code (.seq (.reg ymz) .ret)]
abbrev ymY (x6 x25 x26 x27:AV) (h:List Ob) (e:Cx:=cx):Cfg:=atC n_slices_Concat_bool_bool (.code ymH::.inLoop ymA ymH::.inBlock 2 ymB::ymX) [U,U,U,U,U,U,x6,U,U,U,U,U,U,U,U,U,U,U,U,U,U,U,U,U,U,x25,x26,x27,U,U,U,U,U,U,U,U] h e
abbrev ymZ:List It:=[.code (.seq (.reg ymJ) (.seq (.seq (.reg ymI) (.block 2 ymB (.loop ymA ymH))) (.seq (.reg ymz) .ret)))]
abbrev yna (x0 x3 x9 x10 x11:AV) (h:List Ob) (e:Cx:=cx):Cfg:=atC n_slices_Concat_bool_bool (.code ymT::.inLoop ymK ymT::.inBlock 0 ymL::ymZ) [x0,U,U,x3,U,U,U,U,U,x9,x10,x11,U,U,U,U,U,U,U,U,U,U,U,U,U,U,U,U,U,U,U,U,U,U,U,U] h e
@[simp] theorem c_slices_Concat_bool_bool:cfun Try.prog n_slices_Concat_bool_bool=some slices_Concat_bool_bool:=by kernel_rfl
@[simp] theorem e_slices_Concat_bool_bool:hasBody Try.prog n_slices_Concat_bool_bool=true:=by kernel_rfl
abbrev ynb:List AG:=[zz1 64 9,zz1 6 64,zz9 7 0]
abbrev ync:List Bool:=[O,O,O,I,O,O,O,O,O,I,I,O,O,O,O,O,O,O,O,O,O,O,O,O,O,O,O,O,O,O,O,O,O,O,O,O,O,O,O,O,O,O,O,O,O,O,O,O,O,O,O,O,O,O,O,O,O,O,O,O,O,O,O,O,O]
abbrev ynd:List Bool:=[O,O,O,O,O,O,O,O,O,I,O,O,O,O,O,O,O,O,O,O,O,O,O,O,O,O,O,O,O,O,O,O,O,O,O,O,O,O,O,O,O,O,O,O,O,O,O,O,O,O,O,O,O,O,O,O,O,O,O,O,O,O,O,O,O]
abbrev yne:List AG:=[zz1 41 10,zz6 42 41 1,zz1 10 42]
abbrev ynf:List AG:=[zz1 43 9,zz1 44 9,zz4 45 3 3,zz2 46 1 45,zz1 47 10,zz5 48 2 46 47,o 49 (.arrAddr 2 1 (.t 48) (.c (.int .i64 0))),zz2 50 1 49,zzg 51 n_r09_Lit 44 50,zz1 52 51,zze 53 52 9,oy 54 52 (.off 3 (.t 3)),zzd 55 52 1 54,zze 56 52 10,oy 57 52 (.ixAddr 2 (.t 55) (.t 56)),oy 58 52 (.arrAddr 2 1 (.t 57) (.c (.int .i64 1))),zzd 59 52 1 58,oy 60 52 (.call (.f n_r09_Lit) [(.t 53),(.t 59)]),zz8 61 52 60,o 62 (.lit 1 [(.bool false)] [(0,(.t 61))]),o 63 (.append 1 t_bool 1 (.t 43) (.t 62)),zz1 9 63]
abbrev yng:List AG:=[zz1 36 10,zz4 37 3 3,zz2 38 1 37,zza 39 38,zz7 40 36 39]
abbrev ynh:ACode:=(.seq (.seq (.reg yng) (.cond (.t 40) .skip (.exit 0))) (.seq (.block 1 [] (.reg ynf)) (.reg yne)))
abbrev yni:List AG:=[zz9 10 0]
abbrev ynj:List AG:=[zz1 33 9,zz1 34 1,o 35 (.append 1 t_bool 1 (.t 33) (.t 34)),zz1 9 35]
abbrev ynk:List AG:=[zz1 30 9,zz1 31 2,o 32 (.append 1 t_bool 1 (.t 30) (.t 31)),zz1 9 32]
abbrev ynl:List AG:=[o 29 (.lit 1 [(.bool false)] [(0,(.c (.bool false)))]),zz1 9 29]
abbrev ynm:List AG:=[o 6 (.nilrow 1 t_bool),zz9 7 11]
abbrev ynn:ACode:=(.seq (.reg ynm) .ret)
abbrev yno:List AG:=[zz1 16 1,zza 17 16,zz4 18 1 3,zz2 19 1 18,zza 20 19,o 21 (.cmp .neq (.sc .int) (.t 17) (.t 20)),zz1 22 21,on 23 22 (.mv (.t 2)),on 24 22 (.len (.t 23)),on 25 22 (.off 0 (.t 3)),on 26 22 (.load false 1 (.t 25)),on 27 22 (.cmp .neq (.sc .int) (.t 24) (.t 26)),o 28 (.pick (.t 22) (.c (.bool true)) (.t 27))]
abbrev ynp:List AG:=[zz1 15 8,o 6 (.nilrow 1 t_bool),zz1 7 15]
abbrev ynq:ACode:=(.seq (.reg ynp) .ret)
abbrev ynr:List AG:=[zz1 13 8,o 14 (.cmp .neq (.sc .int) (.t 13) (.c (.int .i64 0)))]
abbrev yns:List AG:=[zz3 11 5 3,zzf 12 n_r09_Check 11,zz1 8 12]
abbrev ynt:List AG:=[o 3 (.box 5 (.t 0)),o 6 (.nilrow 1 t_bool),zz9 7 0]
abbrev r09_Values:AFun:=⟨(.seq (.reg ynt) (.seq (.reg yns) (.seq (.seq (.reg ynr) (.cond (.t 14) ynq .skip)) (.seq (.seq (.reg yno) (.cond (.t 28) ynn .skip)) (.seq (.reg ynl) (.seq (.reg ynk) (.seq (.reg ynj) (.seq (.seq (.reg yni) (.block 0 ynd (.loop ync ynh))) (.seq (.reg ynb) .ret))))))))),65,[.tmp 6,.tmp 7]⟩
abbrev ynu:List It:=[.code (.seq (.reg ynb) .ret)]
abbrev ynv (x3 x9 x10:AV) (h:List Ob) (e:Cx:=cx):Cfg:=atC n_r09_Values (.code ynh::.inLoop ync ynh::.inBlock 0 ynd::ynu) [U,U,U,x3,U,U,U,U,U,x9,x10,U,U,U,U,U,U,U,U,U,U,U,U,U,U,U,U,U,U,U,U,U,U,U,U,U,U,U,U,U,U,U,U,U,U,U,U,U,U,U,U,U,U,U,U,U,U,U,U,U,U,U,U,U,U] h e
@[simp] theorem c_r09_Values:cfun Try.prog n_r09_Values=some r09_Values:=by kernel_rfl
@[simp] theorem e_r09_Values:hasBody Try.prog n_r09_Values=true:=by kernel_rfl
abbrev ynw:List AG:=[zz1 5 0,zz1 6 1,o 7 (.ibin .quo (.t 6) (.c (.int .i64 2))),zz5 8 1 5 7,zz2 9 1 8,zz1 10 1,o 11 (.ibin .rem (.t 10) (.c (.int .i64 2))),o 12 (.cmp .eql (.sc .int) (.t 11) (.c (.int .i64 1))),o 13 (.cmp .neq (.sc .bool) (.t 9) (.t 12)),zz1 4 13]
abbrev ynx:List AG:=[zzh 4]
abbrev r09_Lit:AFun:=⟨(.seq (.reg ynx) (.seq (.reg ynw) .ret)),14,[.tmp 4]⟩
@[simp] theorem c_r09_Lit:cfun Try.prog n_r09_Lit=some r09_Lit:=by kernel_rfl
@[simp] theorem e_r09_Lit:hasBody Try.prog n_r09_Lit=true:=by kernel_rfl
abbrev yny:List AG:=[zz9 2 0]
abbrev ynz:List Bool:=[O,I,O,O,O,O,O,O,O,O,O,O,O,O,O,O,O,O,O,O,O,O,O,O,O,O,O,O,O,O,O,O,O,O,O,O,O,O,O,O,O,O,O,O,O,O,O,O,O,O,O,O,O,O,O,O,O,O,O,O,O,O,O,O,O,O,O,O,O,O,I,I,I,O,O,O,O,O,O,O,O,O,O,O,O,O,O,O,O,O,O,O,O,O,O,O,O,O,O,O,O,O,O]
abbrev ynA:List Bool:=[O,O,O,O,O,O,O,O,O,O,O,O,O,O,O,O,O,O,O,O,O,O,O,O,O,O,O,O,O,O,O,O,O,O,O,O,O,O,O,O,O,O,O,O,O,O,O,O,O,O,O,O,O,O,O,O,O,O,O,O,O,O,O,O,O,O,O,O,O,O,O,O,O,O,O,O,O,O,O,O,O,O,O,O,O,O,O,O,O,O,O,O,O,O,O,O,O,O,O,O,O,O,O]
abbrev ynB:List AG:=[zz6 102 72 1,zz1 72 102]
abbrev ynC:List AG:=[zz9 2 1]
abbrev ynD:ACode:=(.seq (.reg ynC) .ret)
abbrev ynE:List AG:=[o 82 (.arrAddr 2 1 (.t 7) (.c (.int .i64 0))),zz2 83 1 82,o 84 (.cmp .lss (.sc .int) (.t 83) (.c (.int .i64 0))),zz1 85 84,on 86 85 (.arrAddr 2 1 (.t 7) (.c (.int .i64 1))),on 87 85 (.load false 1 (.t 86)),on 88 85 (.cmp .lss (.sc .int) (.t 87) (.c (.int .i64 0))),o 89 (.pick (.t 85) (.c (.bool true)) (.t 88)),zz1 90 89,on 91 90 (.arrAddr 2 1 (.t 7) (.c (.int .i64 0))),on 92 90 (.load false 1 (.t 91)),on 93 90 (.mv (.t 8)),on 94 90 (.cmp .geq (.sc .int) (.t 92) (.t 93)),o 95 (.pick (.t 90) (.c (.bool true)) (.t 94)),zz1 96 95,on 97 96 (.arrAddr 2 1 (.t 7) (.c (.int .i64 1))),on 98 96 (.load false 1 (.t 97)),on 99 96 (.mv (.t 8)),on 100 96 (.cmp .geq (.sc .int) (.t 98) (.t 99)),o 101 (.pick (.t 96) (.c (.bool true)) (.t 100))]
abbrev ynF:List AG:=[zz3 77 5 1,zzf 78 n_aig_first 77,zz1 79 6,o 80 (.ibin .add (.t 78) (.t 79)),o 81 (.ibin .mul (.c (.int .i64 2)) (.t 80)),zz1 8 81]
abbrev ynG:List AG:=[zz1 74 72,zz5 75 2 70 72,zz3 76 2 75,o 7 (.alloc [(.int .i64 0),(.int .i64 0)]),zz1 6 74,zzb 2 7 76]
abbrev ynH:ACode:=(.seq (.reg ynG) (.seq (.reg ynF) (.seq (.reg ynE) (.cond (.t 101) ynD .skip))))
abbrev ynI:List AG:=[zz7 73 72 71]
abbrev ynJ:ACode:=(.seq (.reg ynI) (.seq (.cond (.t 73) .skip (.exit 0)) (.seq (.block 1 [] ynH) (.reg ynB))))
abbrev ynK:List AG:=[zz4 69 3 1,zz2 70 1 69,zza 71 70,zz9 72 0]
abbrev ynL:List AG:=[zz9 2 1]
abbrev ynM:ACode:=(.seq (.reg ynL) .ret)
abbrev ynN:List AG:=[zz4 44 2 1,zz2 45 1 44,zza 46 45,zz4 47 1 1,zz2 48 1 47,zza 49 48,o 50 (.cmp .neq (.sc .int) (.t 46) (.t 49)),zz1 51 50,on 52 51 (.off 2 (.t 1)),on 53 51 (.load false 1 (.t 52)),on 54 51 (.mv (.t 5)),on 55 51 (.call (.f n_slices_ContainsFunc_int_int) [(.t 53),(.t 54)]),o 56 (.pick (.t 51) (.c (.bool true)) (.t 55)),zz1 57 56,on 58 57 (.off 1 (.t 1)),on 59 57 (.load false 1 (.t 58)),on 60 57 (.mv (.t 4)),on 61 57 (.call (.f n_slices_ContainsFunc_int_int) [(.t 59),(.t 60)]),o 62 (.pick (.t 57) (.c (.bool true)) (.t 61)),zz1 63 62,on 64 63 (.off 4 (.t 1)),on 65 63 (.load false 1 (.t 64)),on 66 63 (.mv (.t 4)),on 67 63 (.call (.f n_slices_ContainsFunc_int_int) [(.t 65),(.t 66)]),o 68 (.pick (.t 63) (.c (.bool true)) (.t 67))]
abbrev ynO:List AG:=[o 5 (.mv (.f n_aig_Check_2))]
abbrev ynP:List AG:=[o 43 (.mkFunc (.func n_aig_Check_1) [] [(.t 3)]),zz1 4 43]
abbrev ynQ:List AG:=[zz3 36 5 1,zzf 37 n_aig_first 36,zz4 38 3 1,zz2 39 1 38,zza 40 39,o 41 (.ibin .add (.t 37) (.t 40)),o 42 (.ibin .mul (.c (.int .i64 2)) (.t 41)),o 3 (.alloc [(.int .i64 0)]),zzb 1 3 42]
abbrev ynR:List AG:=[zz9 2 8]
abbrev ynS:ACode:=(.seq (.reg ynR) .ret)
abbrev ynT:List AG:=[zz4 9 0 1,zz2 10 1 9,o 11 (.cmp .lss (.sc .int) (.t 10) (.c (.int .i64 0))),zz1 12 11,on 13 12 (.off 0 (.t 1)),on 14 12 (.load false 1 (.t 13)),on 15 12 (.cmp .gtr (.sc .int) (.t 14) (.c (.int .i64 4000))),o 16 (.pick (.t 12) (.c (.bool true)) (.t 15)),zz1 17 16,on 18 17 (.off 0 (.t 1)),on 19 17 (.load false 1 (.t 18)),on 20 17 (.off 1 (.t 1)),on 21 17 (.load false 1 (.t 20)),on 22 17 (.len (.t 21)),on 23 17 (.ibin .add (.t 19) (.t 22)),on 24 17 (.off 3 (.t 1)),on 25 17 (.load false 1 (.t 24)),on 26 17 (.len (.t 25)),on 27 17 (.ibin .add (.t 23) (.t 26)),on 28 17 (.cmp .gtr (.sc .int) (.t 27) (.c (.int .i64 4000))),o 29 (.pick (.t 17) (.c (.bool true)) (.t 28)),zz1 30 29,on 31 30 (.off 4 (.t 1)),on 32 30 (.load false 1 (.t 31)),on 33 30 (.len (.t 32)),on 34 30 (.cmp .gtr (.sc .int) (.t 33) (.c (.int .i64 4000))),o 35 (.pick (.t 30) (.c (.bool true)) (.t 34))]
abbrev ynU:List AG:=[o 1 (.box 5 (.t 0)),zz9 2 0]
abbrev aig_Check:AFun:=⟨(.seq (.reg ynU) (.seq (.seq (.reg ynT) (.cond (.t 35) ynS .skip)) (.seq (.dreg [I,I,O,I,O,O,O,O,O] [9,9,9,9,9,9,9,9,10] ynQ) (.seq (.reg ynP) (.seq (.reg ynO) (.seq (.seq (.reg ynN) (.cond (.t 68) ynM .skip)) (.seq (.seq (.reg ynK) (.block 0 ynA (.loop ynz ynJ))) (.seq (.reg yny) .ret)))))))),103,[.tmp 2]⟩
abbrev ynV:List It:=[.code (.seq (.reg yny) .ret)]
abbrev ynW (x1 x70 x71 x72:AV) (h:List Ob) (e:Cx:=cx):Cfg:=atC n_aig_Check (.code ynJ::.inLoop ynz ynJ::.inBlock 0 ynA::ynV) [U,x1,U,U,U,U,U,U,U,U,U,U,U,U,U,U,U,U,U,U,U,U,U,U,U,U,U,U,U,U,U,U,U,U,U,U,U,U,U,U,U,U,U,U,U,U,U,U,U,U,U,U,U,U,U,U,U,U,U,U,U,U,U,U,U,U,U,U,U,U,x70,x71,x72,U,U,U,U,U,U,U,U,U,U,U,U,U,U,U,U,U,U,U,U,U,U,U,U,U,U,U,U,U,U] h e
@[simp] theorem c_aig_Check:cfun Try.prog n_aig_Check=some aig_Check:=by kernel_rfl
@[simp] theorem e_aig_Check:hasBody Try.prog n_aig_Check=true:=by kernel_rfl
abbrev ynX:List AG:=[zz1 5 0,zz1 6 1,o 7 (.ibin .shr (.t 6) (.c (.int .u64 1))),zz5 8 1 5 7,zz2 9 1 8,zz1 10 1,o 11 (.ibin .and (.t 10) (.c (.int .i64 1))),o 12 (.cmp .eql (.sc .int) (.t 11) (.c (.int .i64 1))),o 13 (.cmp .neq (.sc .bool) (.t 9) (.t 12)),zz1 4 13]
abbrev ynY:List AG:=[zzh 4]
abbrev aig_value:AFun:=⟨(.seq (.reg ynY) (.seq (.reg ynX) .ret)),14,[.tmp 4]⟩
@[simp] theorem c_aig_value:cfun Try.prog n_aig_value=some aig_value:=by kernel_rfl
@[simp] theorem e_aig_value:hasBody Try.prog n_aig_value=true:=by kernel_rfl
abbrev ynZ:List AG:=[zz1 20 4,zz1 3 20]
abbrev yoa:List Bool:=[O,I,O,O,I,O,O,I,I,I,O,O,O,O,O,O,O,O,O,O,O]
abbrev yob:List Bool:=[O,O,O,O,I,O,O,O,O,O,O,O,O,O,O,O,O,O,O,O,O]
abbrev yoc:List AG:=[zz6 19 9 1,zz1 9 19]
abbrev yod:List AG:=[zz1 13 4,zz2 14 1 1,zz1 15 6,zzg 16 n_aig_value 14 15,o 17 (.lit 1 [(.bool false)] [(0,(.t 16))]),o 18 (.append 1 t_bool 1 (.t 13) (.t 17)),zz1 4 18]
abbrev yoe:List AG:=[zz5 11 1 7 9,zz2 12 1 11,zz1 6 12]
abbrev yof:ACode:=(.seq (.reg yoe) (.reg yod))
abbrev yog:List AG:=[zz7 10 9 8]
abbrev yoh:ACode:=(.seq (.reg yog) (.seq (.cond (.t 10) .skip (.exit 0)) (.seq (.block 1 [] yof) (.reg yoc))))
abbrev yoi:List AG:=[zz1 7 0,zza 8 7,zz9 9 0]
abbrev yoj:List AG:=[o 4 (.nilrow 1 t_bool)]
abbrev yok:List AG:=[o 3 (.nilrow 1 t_bool)]
abbrev aig_Step_1:AFun:=⟨(.seq (.reg yok) (.seq (.reg yoj) (.seq (.seq (.reg yoi) (.block 0 yob (.loop yoa yoh))) (.seq (.reg ynZ) .ret)))),21,[.tmp 3]⟩
abbrev yol:List It:=[.code (.seq (.reg ynZ) .ret)]
abbrev yom (x1 x4 x7 x8 x9:AV) (h:List Ob) (e:Cx:=cx):Cfg:=atC n_aig_Step_1 (.code yoh::.inLoop yoa yoh::.inBlock 0 yob::yol) [U,x1,U,U,x4,U,U,x7,x8,x9,U,U,U,U,U,U,U,U,U,U,U] h e
@[simp] theorem c_aig_Step_1:cfun Try.prog n_aig_Step_1=some aig_Step_1:=by kernel_rfl
@[simp] theorem e_aig_Step_1:hasBody Try.prog n_aig_Step_1=true:=by kernel_rfl
abbrev yon:List AG:=[o 4 (.mv (.c (.int .i64 (-1))))]
abbrev yoo:List Bool:=[I,I,O,O,O,O,O,I,I,O,O,O,O,O,O,O,O,O,O]
abbrev yop:List Bool:=[O,O,O,O,O,O,O,O,O,O,O,O,O,O,O,O,O,O,O]
abbrev yoq:List AG:=[zz6 18 8 1,zz1 8 18]
abbrev yor:List AG:=[zz1 17 5,zz1 4 17]
abbrev yos:ACode:=(.seq (.reg yor) .ret)
abbrev yot:List AG:=[zz1 11 1,zz1 12 0,zz1 13 5,zz5 14 1 12 13,zz2 15 1 14,o 16 (.call (.t 11) [(.t 15)])]
abbrev you:List AG:=[zz1 10 8,zz1 5 10]
abbrev yov:ACode:=(.seq (.reg you) (.seq (.reg yot) (.cond (.t 16) yos .skip)))
abbrev yow:List AG:=[zz7 9 8 7]
abbrev yox:ACode:=(.seq (.reg yow) (.seq (.cond (.t 9) .skip (.exit 0)) (.seq (.block 1 [] yov) (.reg yoq))))
abbrev yoy:List AG:=[zz1 6 0,zza 7 6,zz9 8 0]
abbrev yoz:List AG:=[zz9 4 0]
abbrev slices_IndexFunc_api_Clause_int:AFun:=⟨(.seq (.reg yoz) (.seq (.seq (.reg yoy) (.block 0 yop (.loop yoo yox))) (.seq (.reg yon) .ret))),19,[.tmp 4]⟩
abbrev yoA:List It:=[.code (.seq (.reg yon) .ret)]
abbrev yoB (x0 x1 x7 x8:AV) (h:List Ob) (e:Cx:=cx):Cfg:=atC n_slices_IndexFunc_api_Clause_int (.code yox::.inLoop yoo yox::.inBlock 0 yop::yoA) [x0,x1,U,U,U,U,U,x7,x8,U,U,U,U,U,U,U,U,U,U] h e
@[simp] theorem c_slices_IndexFunc_api_Clause_int:cfun Try.prog n_slices_IndexFunc_api_Clause_int=some slices_IndexFunc_api_Clause_int:=by kernel_rfl
@[simp] theorem e_slices_IndexFunc_api_Clause_int:hasBody Try.prog n_slices_IndexFunc_api_Clause_int=true:=by kernel_rfl
abbrev yoC:List AG:=[o 4 (.mv (.c (.int .i64 (-1))))]
abbrev yoD:List Bool:=[I,I,O,O,O,O,O,I,I,O,O,O,O,O,O,O,O,O,O]
abbrev yoE:List Bool:=[O,O,O,O,O,O,O,O,O,O,O,O,O,O,O,O,O,O,O]
abbrev yoF:List AG:=[zz6 18 8 1,zz1 8 18]
abbrev yoG:List AG:=[zz1 17 5,zz1 4 17]
abbrev yoH:ACode:=(.seq (.reg yoG) .ret)
abbrev yoI:List AG:=[zz1 11 1,zz1 12 0,zz1 13 5,zz5 14 1 12 13,zz2 15 1 14,o 16 (.call (.t 11) [(.t 15)])]
abbrev yoJ:List AG:=[zz1 10 8,zz1 5 10]
abbrev yoK:ACode:=(.seq (.reg yoJ) (.seq (.reg yoI) (.cond (.t 16) yoH .skip)))
abbrev yoL:List AG:=[zz7 9 8 7]
abbrev yoM:ACode:=(.seq (.reg yoL) (.seq (.cond (.t 9) .skip (.exit 0)) (.seq (.block 1 [] yoK) (.reg yoF))))
abbrev yoN:List AG:=[zz1 6 0,zza 7 6,zz9 8 0]
abbrev yoO:List AG:=[zz9 4 0]
abbrev slices_IndexFunc_api_Clause_api_Clause:AFun:=⟨(.seq (.reg yoO) (.seq (.seq (.reg yoN) (.block 0 yoE (.loop yoD yoM))) (.seq (.reg yoC) .ret))),19,[.tmp 4]⟩
abbrev yoP:List It:=[.code (.seq (.reg yoC) .ret)]
abbrev yoQ (x0 x1 x7 x8:AV) (h:List Ob) (e:Cx:=cx):Cfg:=atC n_slices_IndexFunc_api_Clause_api_Clause (.code yoM::.inLoop yoD yoM::.inBlock 0 yoE::yoP) [x0,x1,U,U,U,U,U,x7,x8,U,U,U,U,U,U,U,U,U,U] h e
@[simp] theorem c_slices_IndexFunc_api_Clause_api_Clause:cfun Try.prog n_slices_IndexFunc_api_Clause_api_Clause=some slices_IndexFunc_api_Clause_api_Clause:=by kernel_rfl
@[simp] theorem e_slices_IndexFunc_api_Clause_api_Clause:hasBody Try.prog n_slices_IndexFunc_api_Clause_api_Clause=true:=by kernel_rfl
abbrev yoR:List AG:=[zz1 5 0,zz1 6 1,zzg 7 n_slices_IndexFunc_int_int 5 6,o 8 (.cmp .geq (.sc .int) (.t 7) (.c (.int .i64 0))),zz1 4 8]
abbrev yoS:List AG:=[zzh 4]
abbrev slices_ContainsFunc_int_int:AFun:=⟨(.seq (.reg yoS) (.seq (.reg yoR) .ret)),9,[.tmp 4]⟩
@[simp] theorem c_slices_ContainsFunc_int_int:cfun Try.prog n_slices_ContainsFunc_int_int=some slices_ContainsFunc_int_int:=by kernel_rfl
@[simp] theorem e_slices_ContainsFunc_int_int:hasBody Try.prog n_slices_ContainsFunc_int_int=true:=by kernel_rfl
abbrev yoT:List AG:=[zz1 3 0,o 4 (.cmp .lss (.sc .int) (.t 3) (.c (.int .i64 0))),zz1 5 4,on 6 5 (.mv (.t 0)),on 7 5 (.cmp .gtr (.sc .int) (.t 6) (.c (.int .i64 2))),o 8 (.pick (.t 5) (.c (.bool true)) (.t 7)),zz1 2 8]
abbrev yoU:List AG:=[zzh 2]
abbrev cnf_can_1:AFun:=⟨(.seq (.reg yoU) (.seq (.reg yoT) .ret)),9,[.tmp 2]⟩
@[simp] theorem c_cnf_can_1:cfun Try.prog n_cnf_can_1=some cnf_can_1:=by kernel_rfl
@[simp] theorem e_cnf_can_1:hasBody Try.prog n_cnf_can_1=true:=by kernel_rfl
abbrev yoV:List AG:=[zz9 2 0]
abbrev yoW:List Bool:=[O,I,O,I,O,O,O,I,O,O,O,O,O,O,O,O,O,O,O,O,O,O,O,O,O,O,O,O,O,O,O,O,O,O,O,O,O,O,O,O,O,O,O,O,O,O,O,O,O,O,O,O,O,O,O,O,O,O,O,O,O,O,O,O,O,O,O,O,O,O,O,O,O,O,O,O,O,O,O,O,O,O,O,O,O,O,O,O,O,O,O,O,O,O,O,O,O,O,O,O,O,O,O,O,O,O,O,O,O,O,O,O,O,O,O,O,O,O,O,O,O,O,O,O,O]
abbrev yoX:List Bool:=[O,O,O,O,O,O,O,O,O,O,O,O,O,O,O,O,O,O,O,O,O,O,O,O,O,O,O,O,O,O,O,O,O,O,O,O,O,O,O,O,O,O,O,O,O,O,O,O,O,O,O,O,O,O,O,O,O,O,O,O,O,O,O,O,O,O,O,O,O,O,O,O,O,O,O,O,O,O,O,O,O,O,O,O,O,O,O,O,O,O,O,O,O,O,O,O,O,O,O,O,O,O,O,O,O,O,O,O,O,O,O,O,O,O,O,O,O,O,O,O,O,O,O,O,O]
abbrev yoY:List AG:=[zz1 115 7,zz6 116 115 1,zz1 7 116]
abbrev yoZ:List AG:=[zz9 2 1]
abbrev ypa:ACode:=(.seq (.reg yoZ) .ret)
abbrev ypb:List AG:=[zz4 117 4 1,zz2 118 1 117,zz1 119 7,zz5 120 1 118 119,zz2 121 1 120,zz1 122 3,zzg 123 n_r09_literal 121 122,o 124 (.not (.t 123))]
abbrev ypc:ACode:=(.seq (.reg ypb) (.cond (.t 124) ypa .skip))
abbrev ypd:List AG:=[zz1 110 7,zz4 111 4 1,zz2 112 1 111,zza 113 112,zz7 114 110 113]
abbrev ype:ACode:=(.seq (.seq (.reg ypd) (.cond (.t 114) .skip (.exit 4))) (.seq (.block 5 [] ypc) (.reg yoY)))
abbrev ypf:List AG:=[zz9 7 0]
abbrev ypg:List Bool:=[O,I,O,I,O,I,O,O,O,O,O,O,O,O,O,O,O,O,O,O,O,O,O,O,O,O,O,O,O,O,O,O,O,O,O,O,O,O,O,O,O,O,O,O,O,O,O,O,O,O,O,O,O,O,O,O,O,O,O,O,O,O,O,O,O,O,O,O,O,O,O,O,O,O,O,O,O,O,O,O,O,O,O,O,O,O,O,O,O,O,O,O,O,O,O,O,O,O,O,O,O,O,O,O,O,O,O,O,O,O,O,O,O,O,O,O,O,O,O,O,O,O,O,O,O]
abbrev yph:List Bool:=[O,I,O,I,O,O,O,O,O,O,O,O,O,O,O,O,O,O,O,O,O,O,O,O,O,O,O,O,O,O,O,O,O,O,O,O,O,O,O,O,O,O,O,O,O,O,O,O,O,O,O,O,O,O,O,O,O,O,O,O,O,O,O,O,O,O,O,O,O,O,O,O,O,O,O,O,O,O,O,O,O,O,O,O,O,O,O,O,O,O,O,O,O,O,O,O,O,O,O,O,O,O,O,O,O,O,O,O,O,O,O,O,O,O,O,O,O,O,O,O,O,O,O,O,O]
abbrev ypi:List AG:=[zz1 84 5,zz6 85 84 1,zz1 5 85]
abbrev ypj:List AG:=[zz9 2 1]
abbrev ypk:ACode:=(.seq (.reg ypj) .ret)
abbrev ypl:List AG:=[zz4 90 3 1,zz2 91 1 90,zz1 92 5,zz5 93 2 91 92,o 94 (.arrAddr 2 1 (.t 93) (.c (.int .i64 0))),zz2 95 1 94,zz1 96 6,zzg 97 n_r09_literal 95 96,o 98 (.not (.t 97)),zz1 99 98,on 100 99 (.off 3 (.t 1)),on 101 99 (.load false 1 (.t 100)),on 102 99 (.mv (.t 5)),on 103 99 (.ixAddr 2 (.t 101) (.t 102)),on 104 99 (.arrAddr 2 1 (.t 103) (.c (.int .i64 1))),on 105 99 (.load false 1 (.t 104)),on 106 99 (.mv (.t 6)),on 107 99 (.call (.f n_r09_literal) [(.t 105),(.t 106)]),on 108 99 (.not (.t 107)),o 109 (.pick (.t 99) (.c (.bool true)) (.t 108))]
abbrev ypm:List AG:=[zz3 86 5 1,zzf 87 n_r09_First 86,zz1 88 5,o 89 (.ibin .add (.t 87) (.t 88)),zz1 6 89]
abbrev ypn:ACode:=(.seq (.reg ypm) (.seq (.reg ypl) (.cond (.t 109) ypk .skip)))
abbrev ypo:List AG:=[zz1 79 5,zz4 80 3 1,zz2 81 1 80,zza 82 81,zz7 83 79 82]
abbrev ypp:ACode:=(.seq (.seq (.reg ypo) (.cond (.t 83) .skip (.exit 2))) (.seq (.block 3 [] ypn) (.reg ypi)))
abbrev ypq:List AG:=[zz9 5 0]
abbrev ypr:List Bool:=[O,I,O,I,I,O,O,O,O,O,O,O,O,O,O,O,O,O,O,O,O,O,O,O,O,O,O,O,O,O,O,O,O,O,O,O,O,O,O,O,O,O,O,O,O,O,O,O,O,O,O,O,O,O,O,O,O,O,O,O,O,O,O,O,O,O,O,O,O,O,O,O,O,O,O,O,O,O,O,O,O,O,O,O,O,O,O,O,O,O,O,O,O,O,O,O,O,O,O,O,O,O,O,O,O,O,O,O,O,O,O,O,O,O,O,O,O,O,O,O,O,O,O,O,O]
abbrev yps:List Bool:=[O,I,O,I,O,O,O,O,O,O,O,O,O,O,O,O,O,O,O,O,O,O,O,O,O,O,O,O,O,O,O,O,O,O,O,O,O,O,O,O,O,O,O,O,O,O,O,O,O,O,O,O,O,O,O,O,O,O,O,O,O,O,O,O,O,O,O,O,O,O,O,O,O,O,O,O,O,O,O,O,O,O,O,O,O,O,O,O,O,O,O,O,O,O,O,O,O,O,O,O,O,O,O,O,O,O,O,O,O,O,O,O,O,O,O,O,O,O,O,O,O,O,O,O,O]
abbrev ypt:List AG:=[zz1 53 4,zz6 54 53 1,zz1 4 54]
abbrev ypu:List AG:=[zz9 2 1]
abbrev ypv:ACode:=(.seq (.reg ypu) .ret)
abbrev ypw:List AG:=[zz4 55 2 1,zz2 56 1 55,zz1 57 4,zz5 58 1 56 57,zz2 59 1 58,o 60 (.cmp .lss (.sc .int) (.t 59) (.c (.int .i64 0))),zz1 61 60,on 62 61 (.off 2 (.t 1)),on 63 61 (.load false 1 (.t 62)),on 64 61 (.mv (.t 4)),on 65 61 (.ixAddr 1 (.t 63) (.t 64)),on 66 61 (.load false 1 (.t 65)),on 67 61 (.cmp .gtr (.sc .int) (.t 66) (.c (.int .i64 2))),o 68 (.pick (.t 61) (.c (.bool true)) (.t 67)),zz1 69 68,on 70 69 (.off 1 (.t 1)),on 71 69 (.load false 1 (.t 70)),on 72 69 (.mv (.t 4)),on 73 69 (.ixAddr 1 (.t 71) (.t 72)),on 74 69 (.load false 1 (.t 73)),on 75 69 (.mv (.t 3)),on 76 69 (.call (.f n_r09_literal) [(.t 74),(.t 75)]),on 77 69 (.not (.t 76)),o 78 (.pick (.t 69) (.c (.bool true)) (.t 77))]
abbrev ypx:ACode:=(.seq (.reg ypw) (.cond (.t 78) ypv .skip))
abbrev ypy:List AG:=[zz1 48 4,zz4 49 1 1,zz2 50 1 49,zza 51 50,zz7 52 48 51]
abbrev ypz:ACode:=(.seq (.seq (.reg ypy) (.cond (.t 52) .skip (.exit 0))) (.seq (.block 1 [] ypx) (.reg ypt)))
abbrev ypA:List AG:=[zz9 4 0]
abbrev ypB:List AG:=[zz3 42 5 1,zzf 43 n_r09_First 42,zz4 44 3 1,zz2 45 1 44,zza 46 45,o 47 (.ibin .add (.t 43) (.t 46)),zz1 3 47]
abbrev ypC:List AG:=[zz9 2 1]
abbrev ypD:ACode:=(.seq (.reg ypC) .ret)
abbrev ypE:List AG:=[zz4 35 2 1,zz2 36 1 35,zza 37 36,zz4 38 1 1,zz2 39 1 38,zza 40 39,o 41 (.cmp .neq (.sc .int) (.t 37) (.t 40))]
abbrev ypF:List AG:=[zz9 2 8]
abbrev ypG:ACode:=(.seq (.reg ypF) .ret)
abbrev ypH:List AG:=[zz4 8 0 1,zz2 9 1 8,o 10 (.cmp .lss (.sc .int) (.t 9) (.c (.int .i64 0))),zz1 11 10,on 12 11 (.off 0 (.t 1)),on 13 11 (.load false 1 (.t 12)),on 14 11 (.cmp .gtr (.sc .int) (.t 13) (.c (.int .i64 4000))),o 15 (.pick (.t 11) (.c (.bool true)) (.t 14)),zz1 16 15,on 17 16 (.off 0 (.t 1)),on 18 16 (.load false 1 (.t 17)),on 19 16 (.off 1 (.t 1)),on 20 16 (.load false 1 (.t 19)),on 21 16 (.len (.t 20)),on 22 16 (.ibin .add (.t 18) (.t 21)),on 23 16 (.off 3 (.t 1)),on 24 16 (.load false 1 (.t 23)),on 25 16 (.len (.t 24)),on 26 16 (.ibin .add (.t 22) (.t 25)),on 27 16 (.cmp .gtr (.sc .int) (.t 26) (.c (.int .i64 4000))),o 28 (.pick (.t 16) (.c (.bool true)) (.t 27)),zz1 29 28,on 30 29 (.off 4 (.t 1)),on 31 29 (.load false 1 (.t 30)),on 32 29 (.len (.t 31)),on 33 29 (.cmp .gtr (.sc .int) (.t 32) (.c (.int .i64 4000))),o 34 (.pick (.t 29) (.c (.bool true)) (.t 33))]
abbrev ypI:List AG:=[o 1 (.box 5 (.t 0)),zz9 2 0]
abbrev r09_Check:AFun:=⟨(.seq (.reg ypI) (.seq (.seq (.reg ypH) (.cond (.t 34) ypG .skip)) (.seq (.seq (.reg ypE) (.cond (.t 41) ypD .skip)) (.seq (.dreg [O,O,O,I,O,O,O] [2,8,8,8,8,8,8] ypB) (.seq (.seq (.reg ypA) (.block 0 yps (.loop ypr ypz))) (.seq (.seq (.reg ypq) (.block 2 yph (.loop ypg ypp))) (.seq (.seq (.reg ypf) (.block 4 yoX (.loop yoW ype))) (.seq (.reg yoV) .ret)))))))),125,[.tmp 2]⟩
abbrev ypJ:List It:=[.code (.seq (.reg yoV) .ret)]
abbrev ypK (x1 x3 x7:AV) (h:List Ob) (e:Cx:=cx):Cfg:=atC n_r09_Check (.code ype::.inLoop yoW ype::.inBlock 4 yoX::ypJ) [U,x1,U,x3,U,U,U,x7,U,U,U,U,U,U,U,U,U,U,U,U,U,U,U,U,U,U,U,U,U,U,U,U,U,U,U,U,U,U,U,U,U,U,U,U,U,U,U,U,U,U,U,U,U,U,U,U,U,U,U,U,U,U,U,U,U,U,U,U,U,U,U,U,U,U,U,U,U,U,U,U,U,U,U,U,U,U,U,U,U,U,U,U,U,U,U,U,U,U,U,U,U,U,U,U,U,U,U,U,U,U,U,U,U,U,U,U,U,U,U,U,U,U,U,U,U] h e
abbrev ypL:List It:=[.code (.seq (.seq (.reg ypf) (.block 4 yoX (.loop yoW ype))) (.seq (.reg yoV) .ret))]
abbrev ypM (x1 x3 x5:AV) (h:List Ob) (e:Cx:=cx):Cfg:=atC n_r09_Check (.code ypp::.inLoop ypg ypp::.inBlock 2 yph::ypL) [U,x1,U,x3,U,x5,U,U,U,U,U,U,U,U,U,U,U,U,U,U,U,U,U,U,U,U,U,U,U,U,U,U,U,U,U,U,U,U,U,U,U,U,U,U,U,U,U,U,U,U,U,U,U,U,U,U,U,U,U,U,U,U,U,U,U,U,U,U,U,U,U,U,U,U,U,U,U,U,U,U,U,U,U,U,U,U,U,U,U,U,U,U,U,U,U,U,U,U,U,U,U,U,U,U,U,U,U,U,U,U,U,U,U,U,U,U,U,U,U,U,U,U,U,U,U] h e
abbrev ypN:List It:=[.code (.seq (.seq (.reg ypq) (.block 2 yph (.loop ypg ypp))) (.seq (.seq (.reg ypf) (.block 4 yoX (.loop yoW ype))) (.seq (.reg yoV) .ret)))]
abbrev ypO (x1 x3 x4:AV) (h:List Ob) (e:Cx:=cx):Cfg:=atC n_r09_Check (.code ypz::.inLoop ypr ypz::.inBlock 0 yps::ypN) [U,x1,U,x3,x4,U,U,U,U,U,U,U,U,U,U,U,U,U,U,U,U,U,U,U,U,U,U,U,U,U,U,U,U,U,U,U,U,U,U,U,U,U,U,U,U,U,U,U,U,U,U,U,U,U,U,U,U,U,U,U,U,U,U,U,U,U,U,U,U,U,U,U,U,U,U,U,U,U,U,U,U,U,U,U,U,U,U,U,U,U,U,U,U,U,U,U,U,U,U,U,U,U,U,U,U,U,U,U,U,U,U,U,U,U,U,U,U,U,U,U,U,U,U,U,U] h e
@[simp] theorem c_r09_Check:cfun Try.prog n_r09_Check=some r09_Check:=by kernel_rfl
@[simp] theorem e_r09_Check:hasBody Try.prog n_r09_Check=true:=by kernel_rfl
abbrev ypP:List AG:=[zz1 24 1,zza 25 24,zz4 26 1 2,zz2 27 1 26,zza 28 27,o 29 (.cmp .eql (.sc .int) (.t 25) (.t 28)),zz1 4 29]
abbrev ypQ:List Bool:=[O,I,I,O,O,I,O,O,O,O,O,O,O,O,O,O,O,O,O,O,O,O,O,O,O,O,O,O,O,O]
abbrev ypR:List Bool:=[O,I,I,O,O,O,O,O,O,O,O,O,O,O,O,O,O,O,O,O,O,O,O,O,O,O,O,O,O,O]
abbrev ypS:List AG:=[zz1 10 5,zz6 11 10 1,zz1 5 11]
abbrev ypT:List AG:=[zzh 4]
abbrev ypU:ACode:=(.seq (.reg ypT) .ret)
abbrev ypV:List AG:=[zz1 12 1,zz1 13 5,zz5 14 1 12 13,zz2 15 1 14,o 16 (.cmp .lss (.sc .int) (.t 15) (.c (.int .i64 0))),zz1 17 16,on 18 17 (.mv (.t 1)),on 19 17 (.mv (.t 5)),on 20 17 (.ixAddr 1 (.t 18) (.t 19)),on 21 17 (.load false 1 (.t 20)),on 22 17 (.cmp .gtr (.sc .int) (.t 21) (.c (.int .i64 2))),o 23 (.pick (.t 17) (.c (.bool true)) (.t 22))]
abbrev ypW:ACode:=(.seq (.reg ypV) (.cond (.t 23) ypU .skip))
abbrev ypX:List AG:=[zz1 6 5,zz1 7 1,zza 8 7,zz7 9 6 8]
abbrev ypY:ACode:=(.seq (.seq (.reg ypX) (.cond (.t 9) .skip (.exit 0))) (.seq (.block 1 [] ypW) (.reg ypS)))
abbrev ypZ:List AG:=[zz9 5 0]
abbrev yqa:List AG:=[o 2 (.box 5 (.t 0)),zzh 4]
abbrev r19_right:AFun:=⟨(.seq (.reg yqa) (.seq (.seq (.reg ypZ) (.block 0 ypR (.loop ypQ ypY))) (.seq (.reg ypP) .ret))),30,[.tmp 4]⟩
abbrev yqb:List It:=[.code (.seq (.reg ypP) .ret)]
abbrev yqc (x1 x2 x5:AV) (h:List Ob) (e:Cx:=cx):Cfg:=atC n_r19_right (.code ypY::.inLoop ypQ ypY::.inBlock 0 ypR::yqb) [U,x1,x2,U,U,x5,U,U,U,U,U,U,U,U,U,U,U,U,U,U,U,U,U,U,U,U,U,U,U,U] h e
@[simp] theorem c_r19_right:cfun Try.prog n_r19_right=some r19_right:=by kernel_rfl
@[simp] theorem e_r19_right:hasBody Try.prog n_r19_right=true:=by kernel_rfl
abbrev yqd:List AG:=[zz1 22 7,zz1 23 2,zz4 24 0 3,zz2 25 1 24,zz4 26 3 3,zz2 27 1 26,zza 28 27,o 29 (.ibin .add (.t 25) (.t 28)),o 30 (.ibin .mul (.t 23) (.t 29)),o 31 (.ibin .add (.t 22) (.t 30)),zz1 6 31]
abbrev yqe:List Bool:=[O,I,I,I,O,O,O,I,I,O,O,O,O,O,O,O,O,O,O,O,O,O,O,O,O,O,O,O,O,O,O,O]
abbrev yqf:List Bool:=[O,O,I,I,O,O,O,I,O,O,O,O,O,O,O,O,O,O,O,O,O,O,O,O,O,O,O,O,O,O,O,O]
abbrev yqg:List AG:=[zz1 13 8,zz6 14 13 1,zz1 8 14]
abbrev yqh:List AG:=[zz1 20 7,zz6 21 20 1,zz1 7 21]
abbrev yqi:List AG:=[zz1 15 1,zz1 16 8,zz5 17 1 15 16,zz2 18 1 17,o 19 (.cmp .eql (.sc .int) (.t 18) (.c (.int .i64 2)))]
abbrev yqj:ACode:=(.seq (.reg yqi) (.cond (.t 19) (.reg yqh) .skip))
abbrev yqk:List AG:=[zz1 9 8,zz1 10 1,zza 11 10,zz7 12 9 11]
abbrev yql:ACode:=(.seq (.seq (.reg yqk) (.cond (.t 12) .skip (.exit 0))) (.seq (.block 1 [] yqj) (.reg yqg)))
abbrev yqm:List AG:=[zz9 8 0]
abbrev yqn:List AG:=[zz9 7 1]
abbrev yqo:List AG:=[o 3 (.box 5 (.t 0)),zz9 6 0]
abbrev r19_many:AFun:=⟨(.seq (.reg yqo) (.seq (.reg yqn) (.seq (.seq (.reg yqm) (.block 0 yqf (.loop yqe yql))) (.seq (.reg yqd) .ret)))),32,[.tmp 6]⟩
abbrev yqp:List It:=[.code (.seq (.reg yqd) .ret)]
abbrev yqq (x1 x2 x3 x7 x8:AV) (h:List Ob) (e:Cx:=cx):Cfg:=atC n_r19_many (.code yql::.inLoop yqe yql::.inBlock 0 yqf::yqp) [U,x1,x2,x3,U,U,U,x7,x8,U,U,U,U,U,U,U,U,U,U,U,U,U,U,U,U,U,U,U,U,U,U,U] h e
@[simp] theorem c_r19_many:cfun Try.prog n_r19_many=some r19_many:=by kernel_rfl
@[simp] theorem e_r19_many:hasBody Try.prog n_r19_many=true:=by kernel_rfl
abbrev yqr:List AG:=[zz1 26 0,zz1 4 26]
abbrev yqs:List AG:=[zz1 17 0,zz1 18 0,o 19 (.cap (.t 18)),o 20 (.slice 1 (.t 17) none (some (.t 19))),zz1 21 1,o 22 (.appendZ 1 t_bool 1 (.bool false) (.t 20) (.t 21)),zz1 23 0,zza 24 23,o 25 (.slice 1 (.t 22) none (some (.t 24))),zz1 0 25]
abbrev yqt:List AG:=[zz1 15 1,o 16 (.cmp .gtr (.sc .int) (.t 15) (.c (.int .i64 0)))]
abbrev yqu:List AG:=[zz1 8 1,zz1 9 0,o 10 (.cap (.t 9)),zz1 11 0,zza 12 11,o 13 (.ibin .sub (.t 10) (.t 12)),o 14 (.ibin .sub (.t 8) (.t 13)),zz1 1 14]
abbrev yqv:List AG:=[o 7 (.mkIface t_string (.c (.str [99,97,110,110,111,116,32,98,101,32,110,101,103,97,116,105,118,101]))),q (.panic (.t 7))]
abbrev yqw:List AG:=[zz1 5 1,o 6 (.cmp .lss (.sc .int) (.t 5) (.c (.int .i64 0)))]
abbrev yqx:List AG:=[o 4 (.nilrow 1 t_bool)]
abbrev slices_Grow_bool_bool:AFun:=⟨(.seq (.reg yqx) (.seq (.seq (.reg yqw) (.cond (.t 6) (.reg yqv) .skip)) (.seq (.seq (.reg yqu) (.seq (.reg yqt) (.cond (.t 16) (.reg yqs) .skip))) (.seq (.reg yqr) .ret)))),27,[.tmp 4]⟩
@[simp] theorem c_slices_Grow_bool_bool:cfun Try.prog n_slices_Grow_bool_bool=some slices_Grow_bool_bool:=by kernel_rfl
@[simp] theorem e_slices_Grow_bool_bool:hasBody Try.prog n_slices_Grow_bool_bool=true:=by kernel_rfl
abbrev yqy:List AG:=[zz4 3 0 1,zz2 4 1 3,o 5 (.ibin .add (.c (.int .i64 1)) (.t 4)),zz4 6 1 1,zz2 7 1 6,zza 8 7,o 9 (.ibin .add (.t 5) (.t 8)),zz1 2 9]
abbrev yqz:List AG:=[o 1 (.box 5 (.t 0)),zz9 2 0]
abbrev aig_first:AFun:=⟨(.seq (.reg yqz) (.seq (.reg yqy) .ret)),10,[.tmp 2]⟩
@[simp] theorem c_aig_first:cfun Try.prog n_aig_first=some aig_first:=by kernel_rfl
@[simp] theorem e_aig_first:hasBody Try.prog n_aig_first=true:=by kernel_rfl
abbrev yqA:List AG:=[zz1 4 0,o 5 (.cmp .lss (.sc .int) (.t 4) (.c (.int .i64 0))),zz1 6 5,on 7 6 (.mv (.t 0)),on 8 6 (.load false 1 (.t 1)),on 9 6 (.cmp .geq (.sc .int) (.t 7) (.t 8)),o 10 (.pick (.t 6) (.c (.bool true)) (.t 9)),zz1 3 10]
abbrev yqB:List AG:=[zzh 3]
abbrev aig_Check_1:AFun:=⟨(.seq (.reg yqB) (.seq (.reg yqA) .ret)),11,[.tmp 3]⟩
@[simp] theorem c_aig_Check_1:cfun Try.prog n_aig_Check_1=some aig_Check_1:=by kernel_rfl
@[simp] theorem e_aig_Check_1:hasBody Try.prog n_aig_Check_1=true:=by kernel_rfl
abbrev yqC:List AG:=[zz1 3 0,o 4 (.cmp .lss (.sc .int) (.t 3) (.c (.int .i64 0))),zz1 5 4,on 6 5 (.mv (.t 0)),on 7 5 (.cmp .gtr (.sc .int) (.t 6) (.c (.int .i64 2))),o 8 (.pick (.t 5) (.c (.bool true)) (.t 7)),zz1 2 8]
abbrev yqD:List AG:=[zzh 2]
abbrev aig_Check_2:AFun:=⟨(.seq (.reg yqD) (.seq (.reg yqC) .ret)),9,[.tmp 2]⟩
@[simp] theorem c_aig_Check_2:cfun Try.prog n_aig_Check_2=some aig_Check_2:=by kernel_rfl
@[simp] theorem e_aig_Check_2:hasBody Try.prog n_aig_Check_2=true:=by kernel_rfl
abbrev yqE:List AG:=[o 4 (.mv (.c (.int .i64 (-1))))]
abbrev yqF:List Bool:=[I,I,O,O,O,O,O,I,I,O,O,O,O,O,O,O,O,O,O]
abbrev yqG:List Bool:=[O,O,O,O,O,O,O,O,O,O,O,O,O,O,O,O,O,O,O]
abbrev yqH:List AG:=[zz6 18 8 1,zz1 8 18]
abbrev yqI:List AG:=[zz1 17 5,zz1 4 17]
abbrev yqJ:ACode:=(.seq (.reg yqI) .ret)
abbrev yqK:List AG:=[zz1 11 1,zz1 12 0,zz1 13 5,zz5 14 1 12 13,zz2 15 1 14,o 16 (.call (.t 11) [(.t 15)])]
abbrev yqL:List AG:=[zz1 10 8,zz1 5 10]
abbrev yqM:ACode:=(.seq (.reg yqL) (.seq (.reg yqK) (.cond (.t 16) yqJ .skip)))
abbrev yqN:List AG:=[zz7 9 8 7]
abbrev yqO:ACode:=(.seq (.reg yqN) (.seq (.cond (.t 9) .skip (.exit 0)) (.seq (.block 1 [] yqM) (.reg yqH))))
abbrev yqP:List AG:=[zz1 6 0,zza 7 6,zz9 8 0]
abbrev yqQ:List AG:=[zz9 4 0]
abbrev slices_IndexFunc_int_int:AFun:=⟨(.seq (.reg yqQ) (.seq (.seq (.reg yqP) (.block 0 yqG (.loop yqF yqO))) (.seq (.reg yqE) .ret))),19,[.tmp 4]⟩
abbrev yqR:List It:=[.code (.seq (.reg yqE) .ret)]
abbrev yqS (x0 x1 x7 x8:AV) (h:List Ob) (e:Cx:=cx):Cfg:=atC n_slices_IndexFunc_int_int (.code yqO::.inLoop yqF yqO::.inBlock 0 yqG::yqR) [x0,x1,U,U,U,U,U,x7,x8,U,U,U,U,U,U,U,U,U,U] h e
@[simp] theorem c_slices_IndexFunc_int_int:cfun Try.prog n_slices_IndexFunc_int_int=some slices_IndexFunc_int_int:=by kernel_rfl
@[simp] theorem e_slices_IndexFunc_int_int:hasBody Try.prog n_slices_IndexFunc_int_int=true:=by kernel_rfl
abbrev yqT:List AG:=[zz1 5 0,o 6 (.cmp .geq (.sc .int) (.t 5) (.c (.int .i64 0))),zz1 7 6,zze 8 7 0,zze 9 7 1,oy 10 7 (.ibin .mul (.c (.int .i64 2)) (.t 9)),oy 11 7 (.cmp .lss (.sc .int) (.t 8) (.t 10)),zz8 12 7 11,zz1 4 12]
abbrev yqU:List AG:=[zzh 4]
abbrev r09_literal:AFun:=⟨(.seq (.reg yqU) (.seq (.reg yqT) .ret)),13,[.tmp 4]⟩
@[simp] theorem c_r09_literal:cfun Try.prog n_r09_literal=some r09_literal:=by kernel_rfl
@[simp] theorem e_r09_literal:hasBody Try.prog n_r09_literal=true:=by kernel_rfl
end Go.Proofs.Ytfpkjfmpamlakaa
