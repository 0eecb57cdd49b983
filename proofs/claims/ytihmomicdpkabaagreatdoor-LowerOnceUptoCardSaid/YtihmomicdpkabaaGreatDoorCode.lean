/- The functions, as the abstract machine has them. Printed by a program. -/
import Derived.Test.YtihmomicdpkabaaGreatDoorAMd
import Derived.Test.YtihmomicdpkabaaGreatDoorChecked
import Derived.KernelRfl
set_option linter.unusedSimpArgs false
set_option linter.unusedVariables false
namespace Go.Proofs.YtihmomicdpkabaaGreatDoor
open Go.AM Go.Proofs
abbrev zR:=List AG
abbrev zB:=List Bool
abbrev zI:=List It
abbrev ab(d i:Nat):AG:=o d (.mv (.t i))
abbrev ai(d k i:Nat):AG:=o d (.load false k (.t i))
abbrev aJ(d k i:Nat):AG:=o d (.load true k (.t i))
abbrev ak(d k i:Nat):AG:=o d (.off k (.t i))
abbrev aZ(d k i j:Nat):AG:=o d (.iY k (.t i) (.t j))
abbrev bx(d i:Nat)(n:Int):AG:=o d (.bD .add (.t i) (.c (.int .i64 n)))
abbrev cJ(d i j:Nat):AG:=o d (.cmp .lss (.sc .int) (.t i) (.t j))
abbrev bK(d i j:Nat):AG:=o d (.pick (.t i) (.t j) (.c (.bool false)))
abbrev aO(d:Nat)(n:Int):AG:=o d (.mv (.c (.int .i64 n)))
abbrev aP(d i:Nat):AG:=o d (.len (.t i))
abbrev aL(k a x:Nat):AG:=q (.store k (.t a) (.t x))
abbrev bf(d i k:Nat):AG:=o d (.extract (.t i) k)
abbrev cz(d j k i:Nat):AG:=oy d j (.load false k (.t i))
abbrev cK(d j i:Nat):AG:=oy d j (.mv (.t i))
abbrev aU(d:Nat)(f:FuncId)(i:Nat):AG:=o d (.call (.f f) [.t i])
abbrev cE(d:Nat)(f:FuncId)(i j:Nat):AG:=o d (.call (.f f) [.t i,.t j])
abbrev kp(d:Nat):AG:=o d (.mv (.c (.bool false)))
abbrev CG:FuncId:=3
abbrev IE:FuncId:=5
abbrev uY:FuncId:=7
abbrev sC:FuncId:=8
abbrev y0:FuncId:=9
abbrev jT:FuncId:=10
abbrev uR:FuncId:=11
abbrev u5:FuncId:=12
abbrev sq:FuncId:=13
abbrev C5:FuncId:=15
abbrev Ds:FuncId:=16
abbrev xV:FuncId:=17
abbrev JB:FuncId:=18
abbrev JM:FuncId:=20
abbrev vd:FuncId:=21
abbrev sw:FuncId:=22
abbrev uW:FuncId:=23
abbrev xQ:FuncId:=24
abbrev qt:FuncId:=25
abbrev n3:FuncId:=26
abbrev xF:FuncId:=27
abbrev nQ:FuncId:=28
abbrev nR:FuncId:=29
abbrev ma:FuncId:=30
abbrev uK:FuncId:=31
abbrev nV:FuncId:=32
abbrev mT:FuncId:=33
abbrev nW:FuncId:=34
abbrev sE:FuncId:=35
abbrev so:FuncId:=36
abbrev l9:FuncId:=37
abbrev qL:FuncId:=38
abbrev kD:FuncId:=39
abbrev xT:FuncId:=41
abbrev xx:FuncId:=42
abbrev CS:FuncId:=43
abbrev CQ:FuncId:=44
abbrev u0:FuncId:=45
abbrev CP:FuncId:=46
abbrev Cw:FuncId:=47
abbrev Co:FuncId:=48
abbrev qv:FuncId:=49
abbrev uE:FuncId:=50
abbrev qu:FuncId:=51
abbrev qM:FuncId:=52
abbrev xJ:FuncId:=53
abbrev sn:FuncId:=54
abbrev CJ:FuncId:=55
abbrev uQ:FuncId:=56
abbrev sa:FuncId:=57
abbrev sD:FuncId:=58
abbrev pa:FuncId:=59
abbrev mR:FuncId:=60
abbrev xA:FuncId:=61
abbrev xI:FuncId:=62
abbrev uS:FuncId:=63
abbrev mV:FuncId:=64
abbrev xg:FuncId:=65
abbrev sH:FuncId:=66
abbrev uV:FuncId:=67
abbrev qI:FuncId:=68
abbrev u_:FuncId:=69
abbrev sK:FuncId:=70
abbrev xK:FuncId:=71
abbrev xL:FuncId:=72
abbrev r8:FuncId:=73
abbrev o8:FuncId:=74
abbrev xM:FuncId:=75
abbrev Cn:FuncId:=76
abbrev CO:FuncId:=77
abbrev Cv:FuncId:=79
abbrev xZ:FuncId:=80
abbrev xo:FuncId:=81
abbrev Cq:FuncId:=82
abbrev xH:FuncId:=83
abbrev pg:FuncId:=84
abbrev mS:FuncId:=85
abbrev l_:FuncId:=86
abbrev uI:FuncId:=87
abbrev sj:FuncId:=88
abbrev xu:FuncId:=89
abbrev xD:FuncId:=90
abbrev sm:FuncId:=91
abbrev xh:FuncId:=92
abbrev gY:FuncId:=93
abbrev sb:FuncId:=94
abbrev sd:FuncId:=95
abbrev qE:FuncId:=96
abbrev xq:FuncId:=97
abbrev qz:FuncId:=98
abbrev uC:FuncId:=99
abbrev xz:FuncId:=100
abbrev xN:FuncId:=101
abbrev zi:FuncId:=102
abbrev sM:FuncId:=103
abbrev uF:FuncId:=104
abbrev qp:FuncId:=105
abbrev nS:FuncId:=106
abbrev o_:FuncId:=107
abbrev Cl:FuncId:=108
abbrev CU:FuncId:=109
abbrev Cp:FuncId:=110
abbrev uL:FuncId:=111
abbrev uH:FuncId:=112
abbrev xC:FuncId:=120
abbrev sg:FuncId:=121
abbrev sv:FuncId:=122
abbrev qD:FuncId:=123
abbrev pd:FuncId:=124
abbrev sx:FuncId:=125
abbrev xj:FuncId:=126
abbrev uZ:FuncId:=127
abbrev uP:FuncId:=128
abbrev o9:FuncId:=129
abbrev rZ:FuncId:=130
abbrev r_:FuncId:=131
abbrev xk:FuncId:=132
abbrev qw:FuncId:=133
abbrev xv:FuncId:=134
abbrev Cu:FuncId:=135
abbrev uD:FuncId:=136
abbrev DT:FuncId:=137
abbrev CM:FuncId:=138
abbrev CF:FuncId:=139
abbrev CX:FuncId:=140
abbrev qy:FuncId:=145
abbrev xt:FuncId:=146
abbrev xf:FuncId:=147
abbrev nU:FuncId:=148
abbrev Ck:FuncId:=149
abbrev uG:FuncId:=150
abbrev qx:FuncId:=151
abbrev uM:FuncId:=152
abbrev CW:FuncId:=153
abbrev Df:FuncId:=154
abbrev uU:FuncId:=155
abbrev De:FuncId:=156
abbrev C3:FuncId:=157
abbrev zh:FuncId:=161
abbrev uN:FuncId:=185
abbrev xE:FuncId:=186
abbrev xB:FuncId:=187
abbrev uO:FuncId:=188
abbrev uJ:FuncId:=191
abbrev sf:FuncId:=192
abbrev aq:TypeId:=3
abbrev cA:TypeId:=4
abbrev EY:TypeId:=5
abbrev aD:TypeId:=9
abbrev xS:TypeId:=32
abbrev iC:TypeId:=33
abbrev IL:TypeId:=46
abbrev qQ:TypeId:=50
abbrev cH:TypeId:=63
abbrev CT:TypeId:=70
abbrev Dd:TypeId:=126
abbrev jV:TypeId:=153
@[simp] theorem auI:lK Tryz.prog jV "Push" =some (xB,none):=by kernel_rfl
@[simp] theorem auS:lK Tryz.prog jV "Len" =some (sj,some (false,1)):=by kernel_rfl
@[simp] theorem auH:lK Tryz.prog jV "Swap" =some (uO,some (false,1)):=by kernel_rfl
@[simp] theorem auQ:lK Tryz.prog jV "Pop" =some (xE,none):=by kernel_rfl
@[simp] theorem auE:lK Tryz.prog jV "Less" =some (uN,some (false,1)):=by kernel_rfl
abbrev CI:TypeId:=154
@[simp] theorem auy:lK Tryz.prog CI "Len" =some (sj,none):=by kernel_rfl
@[simp] theorem auv:lK Tryz.prog CI "Swap" =some (uO,none):=by kernel_rfl
@[simp] theorem auq:lK Tryz.prog CI "Less" =some (uN,none):=by kernel_rfl
abbrev jv:TypeId:=155
abbrev aR:TypeId:=163
abbrev kC:TypeId:=196
abbrev ya:zR:=[ab 64 5,ab 65 64,oy 66 65 (.off 0 (.t 9)),oy 67 65 (.off 4 (.t 66)),cz 68 65 1 67,oy 69 65 (.len (.t 68)),oy 70 65 (.cmp .eql (.sc .int) (.t 69) (.c (.int .i64 2))),bK 71 65 70,ab 72 71,oy 73 72 (.off 0 (.t 9)),oy 74 72 (.off 4 (.t 73)),cz 75 72 1 74,oy 76 72 (.iY 1 (.t 75) (.c (.int .i64 0))),cz 77 72 1 76,oy 78 72 (.off 0 (.t 9)),oy 79 72 (.off 4 (.t 78)),cz 80 72 1 79,oy 81 72 (.iY 1 (.t 80) (.c (.int .i64 1))),cz 82 72 1 81,oy 83 72 (.cmp .eql (.sc .int) (.t 77) (.t 82)),bK 84 72 83,ab 4 84]
abbrev yd:zR:=[ab 63 5,ab 4 63]
abbrev ye:ah:=.seq (.ae yd) .ret
abbrev yf:zR:=[ab 61 10,o 62 (.cmp .neq (.sc .int) (.t 61) (.c (.int .i64 0)))]
abbrev yg:zR:=[aJ 56 4 8,aU 57 jT 56,ab 55 57,bf 58 55 0,bf 59 55 1,bf 60 55 2,o 9 (.alloc [.int .i64 0,.own 1 aq [],.own 1 aq [],.own 2 cH [],.own 1 aq [],.own 1 aD [],.own 1 aD [],.own 1 aD []]),aL 8 9 58,ab 10 59,ab 11 60]
abbrev yh:zR:=[o 47 (.lit 5 [] []),ak 48 3 2,ai 49 1 48,o 50 (.append 5 xS 80 (.t 47) (.t 49)),aJ 51 5 7,o 52 (.lit 5 [.agg [.str [],.int .i64 0,.list true 0 [],.list true 0 [],.bool false]] [(0,.t 51)]),o 53 (.append 5 xS 80 (.t 50) (.t 52)),ak 54 3 8,aL 1 54 53]
abbrev yi:zR:=[ak 42 0 7,ai 43 1 42,o 44 (.lit 1 [.str [],.str []] [(0,.t 43),(1,.c (.str [99,111,112,121]))]),ak 45 0 7,q (.store 1 (.t 45) (.c (.str [99,111,112,121]))),ak 46 1 8,aL 1 46 44]
abbrev yj:zR:=[aJ 41 4 2,o 8 (.alloc [.own 1 aD [],.own 1 aD [],.own 3 IL [],.own 5 xS []]),aL 4 8 41]
abbrev yk:zR:=[ak 31 3 2,ai 32 1 31,ab 33 1,o 34 (.conv .i64 (.t 33)),ak 35 3 2,ai 36 1 35,aP 37 36,o 38 (.bD .rem (.t 34) (.t 37)),aZ 39 5 32 38,aJ 40 5 39,o 7 (.alloc [.str [],.int .i64 0,.own 1 aD [],.own 1 aD [],.bool false]),aL 5 7 40]
abbrev ym:zR:=[ab 30 5,ab 4 30]
abbrev yo:ah:=.seq (.ae ym) .ret
abbrev yp:zR:=[ab 17 6,o 18 (.not (.t 17)),ab 19 18,on 20 19 (.off 3 (.t 2)),on 21 19 (.load false 1 (.t 20)),on 22 19 (.len (.t 21)),on 23 19 (.cmp .lss (.sc .int) (.t 22) (.c (.int .i64 1))),o 24 (.pick (.t 19) (.c (.bool true)) (.t 23)),ab 25 24,on 26 25 (.load true 4 (.t 2)),on 27 25 (.call (.f y0) [.t 26,.c (.str [99,111,112,121])]),on 28 25 (.cmp .geq (.sc .int) (.t 27) (.c (.int .i64 0))),o 29 (.pick (.t 25) (.c (.bool true)) (.t 28))]
abbrev yq:zR:=[aJ 15 4 2,aU 16 sC 15,ab 6 16]
abbrev yr:zR:=[kp 4]
abbrev yu:ah:=.seq (.ae yr) .ret
abbrev yv:zR:=[ab 13 5,o 14 (.not (.t 13))]
abbrev yw:zR:=[o 12 (.call (.f uY) []),ab 5 12]
abbrev yx:zR:=[o 2 (.box 4 (.t 0)),kp 4]
abbrev Ue:aB:=⟨.seq (.ae yx) (.seq (.ae yw) (.seq (.seq (.ae yv) (.cond (.t 14) yu .skip)) (.seq (.ae yq) (.seq (.seq (.ae yp) (.cond (.t 29) yo .skip)) (.seq (.aQ [O,I,O,O,O,I,O,O,O,I,O,O] [12,12,12,12,12,12,12,12,12,12,12,13] yk) (.seq (.ae yj) (.seq (.ae yi) (.seq (.ea [[],[],[1],[0,2],[],[4],[3,5,3],[0,1,2,3,4,5,6],[7,6,6,0,1,2,3,4,5,6]] yh) (.seq (.ae yg) (.seq (.seq (.ae yf) (.cond (.t 62) ye .skip)) (.seq (.aQ ((by(iterate 22 refine O::?_);exact[])) [23,23,23,23,23,23,23,23,23,23,23,23,23,23,23,23,23,23,23,23,23,23] ya) .ret))))))))))),85,[.tmp 4]⟩
@[simp] theorem Tx:aA Tryz.prog CG=some Ue:=by kernel_rfl
@[simp] theorem auV:au Tryz.prog CG=true:=by kernel_rfl
abbrev yy:zR:=[ab 63 7,ab 64 63,cK 65 64 14,cK 66 64 17,oy 67 64 (.cmp .eql (.sc .int) (.t 65) (.t 66)),bK 68 64 67,ab 69 68,cK 70 69 12,cK 71 69 15,oy 72 69 (.call (.f xV) [.t 70,.t 71]),bK 73 69 72,ab 74 73,cK 75 74 13,cK 76 74 16,oy 77 74 (.call (.f xV) [.t 75,.t 76]),bK 78 74 77,ab 6 78]
abbrev yz:zR:=[ak 55 0 9,aJ 56 5 55,ab 57 1,ab 58 2,o 59 (.call (.f Ds) [.t 56,.t 57,.t 58]),ab 54 59,bf 60 54 0,bf 61 54 1,bf 62 54 2,ab 15 60,ab 16 61,ab 17 62]
abbrev yA:zR:=[aJ 47 4 3,ab 48 1,ab 49 2,o 50 (.call (.f C5) [.t 47,.t 48,.t 49]),ab 46 50,bf 51 46 0,bf 52 46 1,bf 53 46 2,ab 12 51,ab 13 52,ab 14 53]
abbrev yB:zR:=[ab 45 7,ab 6 45]
abbrev yC:ah:=.seq (.ae yB) .ret
abbrev yD:zR:=[ab 29 8,o 30 (.not (.t 29)),ab 31 30,on 32 31 (.mv (.t 10)),on 33 31 (.cmp .neq (.sc .int) (.t 32) (.c (.int .i64 0))),o 34 (.pick (.t 31) (.c (.bool true)) (.t 33)),ab 35 34,on 36 35 (.mv (.t 1)),on 37 35 (.len (.t 36)),on 38 35 (.cmp .gtr (.sc .int) (.t 37) (.c (.int .i64 60))),o 39 (.pick (.t 35) (.c (.bool true)) (.t 38)),ab 40 39,on 41 40 (.mv (.t 2)),on 42 40 (.len (.t 41)),on 43 40 (.cmp .gtr (.sc .int) (.t 42) (.c (.int .i64 60))),o 44 (.pick (.t 40) (.c (.bool true)) (.t 43))]
abbrev yE:zR:=[aJ 24 4 3,aU 25 jT 24,ab 23 25,bf 26 23 0,bf 27 23 1,bf 28 23 2,o 9 (.alloc [.int .i64 0,.own 1 aq [],.own 1 aq [],.own 2 cH [],.own 1 aq [],.own 1 aD [],.own 1 aD [],.own 1 aD []]),aL 8 9 26,ab 10 27,ab 11 28]
abbrev yF:zR:=[aJ 21 4 3,aU 22 sC 21,ab 8 22]
abbrev yG:zR:=[kp 6]
abbrev yH:ah:=.seq (.ae yG) .ret
abbrev yI:zR:=[ab 19 7,o 20 (.not (.t 19))]
abbrev yJ:zR:=[o 18 (.call (.f uY) []),ab 7 18]
abbrev yK:zR:=[o 3 (.box 4 (.t 0)),kp 6]
abbrev TP:aB:=⟨.seq (.ae yK) (.seq (.ae yJ) (.seq (.seq (.ae yI) (.cond (.t 20) yH .skip)) (.seq (.ae yF) (.seq (.ae yE) (.seq (.seq (.ae yD) (.cond (.t 44) yC .skip)) (.seq (.ae yA) (.seq (.ae yz) (.seq (.ae yy) .ret)))))))),79,[.tmp 6]⟩
@[simp] theorem auK:aA Tryz.prog IE=some TP:=by kernel_rfl
@[simp] theorem auR:au Tryz.prog IE=true:=by kernel_rfl
abbrev yL:zR:=[ab 41 3,o 42 (.cmp .eql (.sc .int) (.t 41) (.c (.int .i64 0))),ab 43 42,cK 44 43 4,oy 45 43 (.cmp .eql (.sc .str) (.t 44) (.c (.str []))),bK 46 43 45,ab 47 46,oy 48 47 (.off 0 (.t 2)),oy 49 47 (.load true 5 (.t 48)),oy 50 47 (.load true 5 (.t 5)),oy 51 47 (.call (.f vd) [.t 49,.t 50]),bK 52 47 51,ab 53 52,oy 54 53 (.off 6 (.t 2)),cz 55 53 1 54,oy 56 53 (.lit 1 [.str []] [(0,.c (.str [113]))]),oy 57 53 (.call (.f u5) [.t 55,.t 56]),bK 58 53 57,ab 59 58,cK 60 59 7,oy 61 59 (.cmp .eql (.sc .int) (.t 60) (.c (.int .i64 6))),bK 62 59 61,ab 63 62,cK 64 63 8,oy 65 63 (.cmp .eql (.sc .str) (.t 64) (.c (.str [121]))),bK 66 63 65,ab 67 66,oy 68 67 (.load true 8 (.t 2)),oy 69 67 (.call (.f sq) [.t 68]),oy 70 67 (.cmp .eql (.sc .int) (.t 69) (.c (.int .i64 0))),bK 71 67 70,ab 72 71,oy 73 72 (.load true 8 (.t 9)),oy 74 72 (.call (.f sq) [.t 73]),oy 75 72 (.cmp .eql (.sc .int) (.t 74) (.c (.int .i64 5))),bK 76 72 75,ab 77 76,oy 78 77 (.load true 8 (.t 2)),oy 79 77 (.call (.f sw) [.t 78,.c (.str [113])]),oy 80 77 (.cmp .eql (.sc .int) (.t 79) (.c (.int .i64 3))),bK 81 77 80,ab 82 81,oy 83 82 (.load true 8 (.t 2)),oy 84 82 (.call (.f sw) [.t 83,.c (.str [122])]),oy 85 82 (.cmp .eql (.sc .int) (.t 84) (.c (.int .i64 (-1)))),bK 86 82 85,ab 87 86,oy 88 87 (.load true 8 (.t 2)),oy 89 87 (.load true 8 (.t 2)),oy 90 87 (.call (.f uW) [.t 88,.t 89]),bK 91 87 90,ab 92 91,oy 93 92 (.load true 8 (.t 2)),oy 94 92 (.load true 8 (.t 9)),oy 95 92 (.call (.f uW) [.t 93,.t 94]),oy 96 92 (.not (.t 95)),bK 97 92 96,ab 0 97]
abbrev yM:zR:=[o 39 (.lit 1 [.str []] [(0,.c (.str [97]))]),ak 40 7 9,aL 1 40 39]
abbrev yN:zR:=[aJ 38 8 2,o 9 (.alloc [.int .i64 0,.own 1 aq [],.own 1 aq [],.own 2 cH [],.own 1 aq [],.own 1 aD [],.own 1 aD [],.own 1 aD []]),aL 8 9 38]
abbrev yO:zR:=[aJ 33 4 1,aU 34 jT 33,ab 32 34,bf 35 32 0,bf 36 32 1,bf 37 32 2,o 6 (.alloc [.int .i64 0,.own 1 aq [],.own 1 aq [],.own 2 cH [],.own 1 aq [],.own 1 aD [],.own 1 aD [],.own 1 aD []]),aL 8 6 35,ab 7 36,ab 8 37]
abbrev yP:zR:=[o 30 (.lit 1 [.str []] [(0,.c (.str [121]))]),ak 31 1 1,aL 1 31 30]
abbrev yQ:zR:=[o 24 (.lit 1 [.int .i64 0] [(0,.c (.int .i64 9))]),o 25 (.lit 1 [.int .i64 0] [(0,.c (.int .i64 1))]),o 26 (.build [.int .i64 0,.int .i64 0] [(0,1,.c (.int .i64 5)),(1,1,.c (.int .i64 3))]),o 27 (.lit 2 [.agg [.int .i64 0,.int .i64 0]] [(0,.t 26)]),o 28 (.lit 1 [.int .i64 0] [(0,.c (.int .i64 9))]),o 29 (.build [.int .i64 0,.list true 0 [],.list true 0 [],.list true 0 [],.list true 0 []] [(0,1,.c (.int .i64 2)),(1,1,.t 24),(2,1,.t 25),(3,1,.t 27),(4,1,.t 28)]),o 5 (.alloc [.int .i64 0,.own 1 aq [],.own 1 aq [],.own 2 cH [],.own 1 aq []]),aL 5 5 29]
abbrev yR:zR:=[aJ 19 4 1,aU 20 jT 19,ab 18 20,bf 21 18 0,bf 22 18 1,bf 23 18 2,o 2 (.alloc [.int .i64 0,.own 1 aq [],.own 1 aq [],.own 2 cH [],.own 1 aq [],.own 1 aD [],.own 1 aD [],.own 1 aD []]),aL 8 2 21,ab 3 22,ab 4 23]
abbrev yS:zR:=[o 10 (.lit 1 [.str [],.str []] [(0,.c (.str [97])),(1,.c (.str [98]))]),o 11 (.lit 1 [.str []] [(0,.c (.str [122]))]),o 12 (.build [.str [],.str [],.int .i64 0] [(0,1,.c (.str [113])),(1,1,.c (.str [122])),(2,1,.c (.int .i64 1))]),o 13 (.lit 3 [.agg [.str [],.str [],.int .i64 0]] [(0,.t 12)]),o 14 (.lit 1 [.str [],.str []] [(0,.c (.str [97])),(1,.c (.str [98]))]),o 15 (.build [.str [],.int .i64 0,.list true 0 [],.list true 0 [],.bool false] [(0,1,.c (.str [122])),(1,1,.c (.int .i64 6)),(2,1,.t 14)]),o 16 (.lit 5 [.agg [.str [],.int .i64 0,.list true 0 [],.list true 0 [],.bool false]] [(0,.t 15)]),o 17 (.build [.list true 0 [],.list true 0 [],.list true 0 [],.list true 0 []] [(0,1,.t 10),(1,1,.t 11),(2,1,.t 13),(3,1,.t 16)]),o 1 (.alloc [.own 1 aD [],.own 1 aD [],.own 3 IL [],.own 5 xS []]),aL 4 1 17]
abbrev yT:zR:=[kp 0]
abbrev X2:aB:=⟨.seq (.ae yT) (.seq (.ae yS) (.seq (.ae yR) (.seq (.ae yQ) (.seq (.ae yP) (.seq (.ae yO) (.seq (.ae yN) (.seq (.ae yM) (.seq (.ae yL) .ret)))))))),98,[.tmp 0]⟩
@[simp] theorem Vt:aA Tryz.prog uY=some X2:=by kernel_rfl
@[simp] theorem awu:au Tryz.prog uY=true:=by kernel_rfl
abbrev yU:zR:=[ab 24 3,ab 25 24,cK 26 25 4,oy 27 25 (.cmp .leq (.sc .int) (.t 26) (.c (.int .i64 40))),bK 28 25 27,ab 29 28,oy 30 29 (.off 3 (.t 1)),cz 31 29 1 30,oy 32 29 (.len (.t 31)),oy 33 29 (.cmp .leq (.sc .int) (.t 32) (.c (.int .i64 16))),bK 34 29 33,ab 2 34]
abbrev yV:zB:=O::I::O::I::I::I::(by(iterate 29 refine O::?_);exact[])
abbrev yX:zB:=O::I::O::I::I::(by(iterate 30 refine O::?_);exact[])
abbrev yY:zR:=[ab 13 5,bx 14 13 1,ab 5 14]
abbrev yZ:zR:=[ab 15 4,ak 16 3 1,ai 17 1 16,ab 18 5,aZ 19 5 17 18,ak 20 3 19,ai 21 1 20,aP 22 21,o 23 (.bD .add (.t 15) (.t 22)),ab 4 23]
abbrev yba:zR:=[ab 8 5,ak 9 3 1,ai 10 1 9,aP 11 10,cJ 12 8 11]
abbrev Hc:ah:=.seq (.seq (.ae yba) (.cond (.t 12) .skip (.exit 0))) (.seq (.block 1 [] (.ae yZ)) (.ae yY))
abbrev qc:zR:=[aO 5 0]
abbrev lS:zR:=[aO 4 0]
abbrev ybe:zR:=[aJ 6 4 1,aU 7 xQ 6,ab 3 7]
abbrev wF:zR:=[o 1 (.box 4 (.t 0)),kp 2]
abbrev XA:aB:=⟨.seq (.ae wF) (.seq (.ae ybe) (.seq (.ae lS) (.seq (.seq (.ae qc) (.block 0 yX (.loop yV Hc))) (.seq (.ae yU) .ret)))),35,[.tmp 2]⟩
abbrev ybg:zI:=[.code (.seq (.ae yU) .ret)]
abbrev ybh(x1 x3 x4 x5:AV)(h:List Ob)(e:Cx:=cx):ar:=bl sC (.code Hc::.inLoop yV Hc::.inBlock 0 yX::ybg) (U::x1::U::x3::x4::x5::(by(iterate 29 refine U::?_);exact[])) h e
@[simp] theorem U3:aA Tryz.prog sC=some XA:=by kernel_rfl
@[simp] theorem awd:au Tryz.prog sC=true:=by kernel_rfl
abbrev ybi:zR:=[aJ 5 4 2,aU 6 n3 5,ab 7 1,cE 8 qt 6 7,ab 4 8]
abbrev ybj:zR:=[o 2 (.box 4 (.t 0)),aO 4 0]
abbrev Xx:aB:=⟨.seq (.ae ybj) (.seq (.ae ybi) .ret),9,[.tmp 4]⟩
@[simp] theorem U5:aA Tryz.prog y0=some Xx:=by kernel_rfl
@[simp] theorem av5:au Tryz.prog y0=true:=by kernel_rfl
abbrev BC:zR:=[aJ 148 8 2,aL 8 2 148,q (.store 1 (.t 3) (.c (.int .i64 0))),q (.store 1 (.t 4) (.c (.str [])))]
abbrev BQ:zR:=[ab 140 7,o 141 (.cg (.t 140)),ak 142 0 141,aJ 143 5 142,aU 144 nV 143,ab 139 144,bf 145 139 0,bf 146 139 1,ak 147 0 2,aL 5 147 145]
abbrev BZ:zR:=[ab 124 7,ab 125 7,ab 126 11,ab 127 12,o 128 (.call (.t 126) [.t 127]),ab 129 11,ak 130 1 1,ai 131 1 130,o 132 (.call (.t 129) [.t 131]),o 133 (.cg (.t 124)),ak 134 0 133,ak 135 1 134,aL 1 135 128,o 136 (.cg (.t 125)),ak 137 0 136,ak 138 4 137,aL 1 138 132]
abbrev BG:zB:=O::I::I::I::I::O::O::I::I::O::O::I::I::(by(iterate 89 refine O::?_);exact I::I::I::(by(iterate 44 refine O::?_);exact[]))
abbrev Bu:zB:=O::I::I::I::I::O::O::I::O::O::O::I::I::(by(iterate 136 refine O::?_);exact[])
abbrev ybp:zR:=[bx 123 104 1,ab 104 123]
abbrev ybq:zR:=[ai 113 1 8,ak 114 0 19,ai 115 1 114,ab 116 7,aJ 117 5 19,ab 118 11,ak 119 2 19,ai 120 1 119,o 121 (.call (.t 118) [.t 120]),o 122 (.call (.f uK) [.t 116,.t 117,.t 121]),q (.bE (.sc .str) (.t 113) (.t 115) (.t 122))]
abbrev ybr:zR:=[ak 108 3 1,ai 109 1 108,ab 110 18,aZ 111 5 109 110,aJ 112 5 111,o 19 (.alloc [.str [],.int .i64 0,.own 1 aD [],.own 1 aD [],.bool false]),aL 5 19 112]
abbrev ybs:zR:=[aZ 106 1 102 104,ai 107 1 106,ab 18 107]
abbrev ybt:ah:=.seq (.ae ybs) (.seq (.ae ybr) (.aQ [I,O,I,O,I,O,O,O,O,O,O] [11,11,11,10,10,9,9,9,10,11,12] ybq))
abbrev ybu:zR:=[cJ 105 104 103]
abbrev wD:ah:=.seq (.ae ybu) (.seq (.cond (.t 105) .skip (.exit 4)) (.seq (.block 5 [] ybt) (.ae ybp)))
abbrev G7:zR:=[ab 102 15,aP 103 102,aO 104 0]
abbrev G5:zR:=[aJ 98 4 1,aU 99 ma 98,ab 97 99,bf 100 97 0,bf 101 97 1,ab 15 100,ab 16 101]
abbrev G9:zB:=O::I::I::I::I::O::O::I::I::O::O::I::I::(by(iterate 52 refine O::?_);exact I::I::I::(by(iterate 81 refine O::?_);exact[]))
abbrev HM:zB:=O::I::I::I::I::O::O::I::I::O::O::I::I::(by(iterate 136 refine O::?_);exact[])
abbrev ybA:zR:=[bx 96 67 1,ab 67 96]
abbrev ybB:zR:=[ab 91 12,ak 92 1 14,ai 93 1 92,o 94 (.lit 1 [.str []] [(0,.t 93)]),o 95 (.append 1 aD 16 (.t 91) (.t 94)),ab 12 95]
abbrev ybC:zR:=[ab 78 7,ab 79 7,o 80 (.cg (.t 79)),ak 81 0 80,ak 82 2 81,ai 83 1 82,ak 84 2 14,ai 85 1 84,o 86 (.lit 1 [.int .i64 0] [(0,.t 85)]),o 87 (.append 1 aq 8 (.t 83) (.t 86)),o 88 (.cg (.t 78)),ak 89 0 88,ak 90 2 89,aL 1 90 87]
abbrev ybD:zR:=[ak 71 6 2,ai 72 1 71,ak 73 0 14,ai 74 1 73,o 75 (.lit 1 [.str []] [(0,.t 74)]),o 76 (.append 1 aD 16 (.t 72) (.t 75)),ak 77 6 2,aL 1 77 76]
abbrev ybE:zR:=[aZ 69 3 65 67,aJ 70 3 69,o 14 (.alloc [.str [],.str [],.int .i64 0]),aL 3 14 70]
abbrev ybF:ah:=.seq (.ae ybE) (.seq (.ae ybD) (.seq (.aQ [O,O,O,O,O,I,O,O,O,O,O,O,O,O] [14,10,10,10,10,10,9,9,10,14,14,14,14,15] ybC) (.ae ybB)))
abbrev ybG:zR:=[cJ 68 67 66]
abbrev BD:ah:=.seq (.ae ybG) (.seq (.cond (.t 68) .skip (.exit 2)) (.seq (.block 3 [] ybF) (.ae ybA)))
abbrev Qw:zR:=[ak 64 2 1,ai 65 1 64,aP 66 65,aO 67 0]
abbrev PC:zR:=[o 12 (.bA 1 aD)]
abbrev Qf:zR:=[o 63 (.fA (.func nR) [] [.t 8]),ab 11 63]
abbrev Q1:zB:=O::I::I::I::I::O::O::I::I::(by(iterate 41 refine O::?_);exact I::I::I::(by(iterate 96 refine O::?_);exact[]))
abbrev OD:zB:=O::I::I::I::I::O::O::I::I::(by(iterate 140 refine O::?_);exact[])
abbrev ybN:zR:=[bx 62 52 1,ab 52 62]
abbrev ybO:zR:=[ai 57 1 8,ab 58 10,ab 59 9,bx 60 59 1,o 61 (.bD .mul (.c (.int .i64 2)) (.t 60)),q (.bE (.sc .str) (.t 57) (.t 58) (.t 61))]
abbrev ybP:zR:=[ab 54 52,aZ 55 1 50 52,ai 56 1 55,ab 9 54,ab 10 56]
abbrev ybQ:ah:=.seq (.ae ybP) (.ae ybO)
abbrev ybR:zR:=[cJ 53 52 51]
abbrev HY:ah:=.seq (.ae ybR) (.seq (.cond (.t 53) .skip (.exit 0)) (.seq (.block 1 [] ybQ) (.ae ybN)))
abbrev ybT:zR:=[aJ 49 4 1,aU 50 n3 49,aP 51 50,aO 52 0]
abbrev ybU:zR:=[o 48 (.mkMap),o 8 (.alloc [.cY]),aL 1 8 48]
abbrev ybV:zR:=[ak 41 0 1,ai 42 1 41,aU 43 nQ 42,ak 44 1 1,ai 45 1 44,aU 46 nQ 45,o 47 (.build [.int .i64 0,.list true 0 [],.list true 0 [],.list true 0 [],.list true 0 [],.list true 0 [],.list true 0 [],.list true 0 []] [(5,1,.t 43),(7,1,.t 46)]),aL 8 2 47]
abbrev ybW:zR:=[ak 31 0 1,ai 32 1 31,aP 33 32,ak 34 2 1,ai 35 1 34,aP 36 35,o 37 (.mkSlice 1 aq 8 (.int .i64 0) (.t 36) (.t 36)),o 38 (.build [.int .i64 0,.list true 0 [],.list true 0 [],.list true 0 [],.list true 0 []] [(0,1,.t 33),(1,1,.t 37)]),o 39 (.build [.int .i64 0,.list true 0 [],.list true 0 [],.list true 0 [],.list true 0 []] [(0,5,.t 38)]),o 40 (.box 5 (.t 39)),ab 7 40]
abbrev ybX:zR:=[o 30 (.fA (.func xF) [] [.t 2,.t 3,.t 4]),q (.defer (.t 30) [])]
abbrev ybY:zR:=[o 27 (.build [.int .i64 0,.list true 0 [],.list true 0 [],.list true 0 [],.list true 0 [],.list true 0 [],.list true 0 [],.list true 0 []] []),ab 28 5,ab 29 6,aL 8 2 27,aL 1 3 28,aL 1 4 29]
abbrev ybZ:ah:=.seq (.ae ybY) .ret
abbrev yca:zR:=[ab 25 5,o 26 (.cmp .neq (.sc .int) (.t 25) (.c (.int .i64 0)))]
abbrev ycb:zR:=[aJ 21 4 1,aU 22 uR 21,ab 20 22,bf 23 20 0,bf 24 20 1,ab 5 23,ab 6 24]
abbrev ycc:zR:=[o 1 (.box 4 (.t 0)),o 2 (.alloc [.int .i64 0,.own 1 aq [],.own 1 aq [],.own 2 cH [],.own 1 aq [],.own 1 aD [],.own 1 aD [],.own 1 aD []]),o 3 (.alloc [.int .i64 0]),o 4 (.alloc [.str []])]
abbrev Vv:aB:=⟨.seq (.ae ycc) (.seq (.seq (.ae ycb) (.seq (.ae yca) (.cond (.t 26) ybZ .skip))) (.seq (.ae ybX) (.seq (.aQ [O,I,O,O,O,O,O,O,O,O,O] [10,10,10,7,7,7,10,10,10,12,12] ybW) (.seq (.aQ [O,O,O,O,I,O,O,O] [3,3,6,6,6,8,8,9] ybV) (.seq (.ae ybU) (.seq (.seq (.ae ybT) (.block 0 OD (.loop Q1 HY))) (.seq (.ae Qf) (.seq (.ae PC) (.seq (.seq (.ae Qw) (.block 2 HM (.loop G9 BD))) (.seq (.ae G5) (.seq (.seq (.ae G7) (.block 4 Bu (.loop BG wD))) (.seq (.aQ [O,O,O,O,O,O,O,I,O,O,O,O,O,O,O,O,O] [13,17,5,5,9,9,9,9,13,13,13,13,17,17,17,17,18] BZ) (.seq (.ae BQ) (.seq (.ae BC) .ret)))))))))))))),149,[.cell 2 true 8,.cell 3 false 1,.cell 4 false 1]⟩
abbrev O0:zI:=[.code (.seq (.aQ [O,O,O,O,O,O,O,I,O,O,O,O,O,O,O,O,O] [13,17,5,5,9,9,9,9,13,13,13,13,17,17,17,17,18] BZ) (.seq (.ae BQ) (.seq (.ae BC) .ret)))]
abbrev yce(x1 x2 x3 x4 x7 x8 x11 x12 x102 x103 x104:AV)(h:List Ob)(e:Cx:=cx):ar:=bl jT (.code wD::.inLoop BG wD::.inBlock 4 Bu::O0) (U::x1::x2::x3::x4::U::U::x7::x8::U::U::x11::x12::(by(iterate 89 refine U::?_);exact x102::x103::x104::(by(iterate 44 refine U::?_);exact[]))) h e
abbrev ycf(x1 x2 x3 x4 x7 x11 x12:AV)(h:List Ob)(e:Cx:=cx):ar:=bl jT O0 (U::x1::x2::x3::x4::U::U::x7::U::U::U::x11::x12::(by(iterate 136 refine U::?_);exact[])) h e
abbrev QD:zI:=[.code (.seq (.ae G5) (.seq (.seq (.ae G7) (.block 4 Bu (.loop BG wD))) (.seq (.aQ [O,O,O,O,O,O,O,I,O,O,O,O,O,O,O,O,O] [13,17,5,5,9,9,9,9,13,13,13,13,17,17,17,17,18] BZ) (.seq (.ae BQ) (.seq (.ae BC) .ret)))))]
abbrev ych(x1 x2 x3 x4 x7 x8 x11 x12 x65 x66 x67:AV)(h:List Ob)(e:Cx:=cx):ar:=bl jT (.code BD::.inLoop G9 BD::.inBlock 2 HM::QD) (U::x1::x2::x3::x4::U::U::x7::x8::U::U::x11::x12::(by(iterate 52 refine U::?_);exact x65::x66::x67::(by(iterate 81 refine U::?_);exact[]))) h e
abbrev yci(x1 x2 x3 x4 x7 x8 x11 x12:AV)(h:List Ob)(e:Cx:=cx):ar:=bl jT QD (U::x1::x2::x3::x4::U::U::x7::x8::U::U::x11::x12::(by(iterate 136 refine U::?_);exact[])) h e
abbrev O7:zI:=[.code (.seq (.ae Qf) (.seq (.ae PC) (.seq (.seq (.ae Qw) (.block 2 HM (.loop G9 BD))) (.seq (.ae G5) (.seq (.seq (.ae G7) (.block 4 Bu (.loop BG wD))) (.seq (.aQ [O,O,O,O,O,O,O,I,O,O,O,O,O,O,O,O,O] [13,17,5,5,9,9,9,9,13,13,13,13,17,17,17,17,18] BZ) (.seq (.ae BQ) (.seq (.ae BC) .ret))))))))]
abbrev yck(x1 x2 x3 x4 x7 x8 x50 x51 x52:AV)(h:List Ob)(e:Cx:=cx):ar:=bl jT (.code HY::.inLoop Q1 HY::.inBlock 0 OD::O7) (U::x1::x2::x3::x4::U::U::x7::x8::(by(iterate 41 refine U::?_);exact x50::x51::x52::(by(iterate 96 refine U::?_);exact[]))) h e
abbrev ycl(x1 x2 x3 x4 x7 x8:AV)(h:List Ob)(e:Cx:=cx):ar:=bl jT O7 (U::x1::x2::x3::x4::U::U::x7::x8::(by(iterate 140 refine U::?_);exact[])) h e
@[simp] theorem TT:aA Tryz.prog jT=some Vv:=by kernel_rfl
@[simp] theorem avj:au Tryz.prog jT=true:=by kernel_rfl
abbrev ycm:zR:=[aO 2 0,o 3 (.mv (.c (.str [])))]
abbrev ycn:zR:=[ab 25 7,o 26 (.iY 1 (.t 25) (.c (.int .i64 0))),ai 27 1 26,aO 2 7,ab 3 27]
abbrev yco:ah:=.seq (.aQ [O,O,O,O,O] [6,6,6,6,6] ycn) .ret
abbrev ycp:zR:=[ab 22 7,aP 23 22,o 24 (.cmp .gtr (.sc .int) (.t 23) (.c (.int .i64 0)))]
abbrev ycq:zR:=[aJ 18 4 1,aU 19 ma 18,ab 17 19,bf 20 17 0,bf 21 17 1,ab 6 20,ab 7 21]
abbrev ycr:zR:=[ab 15 4,ab 16 5,ab 2 15,ab 3 16]
abbrev ycs:ah:=.seq (.ae ycr) .ret
abbrev yct:zR:=[ab 13 4,o 14 (.cmp .neq (.sc .int) (.t 13) (.c (.int .i64 0)))]
abbrev ycu:zR:=[aJ 9 4 1,aU 10 mT 9,ab 8 10,bf 11 8 0,bf 12 8 1,ab 4 11,ab 5 12]
abbrev ycv:zR:=[o 1 (.box 4 (.t 0)),aO 2 0,o 3 (.mv (.c (.str [])))]
abbrev Vq:aB:=⟨.seq (.ae ycv) (.seq (.seq (.ae ycu) (.seq (.ae yct) (.cond (.t 14) ycs .skip))) (.seq (.seq (.ae ycq) (.seq (.ae ycp) (.cond (.t 24) yco .skip))) (.seq (.ae ycm) .ret))),28,[.tmp 2,.tmp 3]⟩
@[simp] theorem T_:aA Tryz.prog uR=some Vq:=by kernel_rfl
@[simp] theorem avd:au Tryz.prog uR=true:=by kernel_rfl
abbrev rK:zR:=[o 4 (.mv (.c (.bool true)))]
abbrev HB:zB:=I::I::O::O::O::I::(by(iterate 20 refine O::?_);exact[])
abbrev oR:zB:=(by(iterate 26 refine O::?_);exact[])
abbrev Bc:zR:=[ab 15 5,bx 16 15 1,ab 5 16]
abbrev ycC:zR:=[ab 17 0,ab 18 5,aZ 19 1 17 18,ai 20 1 19,ab 21 1,ab 22 5,aZ 23 1 21 22,ai 24 1 23,o 25 (.cmp .neq (.sc .str) (.t 20) (.t 24))]
abbrev ycD:ah:=.seq (.aQ [O,O,O,O,O,O,O,O,O] [10,10,10,10,10,10,10,10,10] ycC) (.cond (.t 25) yu .skip)
abbrev Qb:zR:=[ab 11 5,ab 12 0,aP 13 12,cJ 14 11 13]
abbrev Hx:ah:=.seq (.seq (.ae Qb) (.cond (.t 14) .skip (.exit 0))) (.seq (.block 1 [] ycD) (.ae Bc))
abbrev wK:zR:=[ab 6 0,aP 7 6,ab 8 1,aP 9 8,o 10 (.cmp .neq (.sc .int) (.t 7) (.t 9))]
abbrev WM:aB:=⟨.seq (.ae yr) (.seq (.seq (.ae wK) (.cond (.t 10) yu .skip)) (.seq (.seq (.ae qc) (.block 0 oR (.loop HB Hx))) (.seq (.ae rK) .ret))),26,[.tmp 4]⟩
abbrev BT:zI:=[.code (.seq (.ae rK) .ret)]
abbrev ycM(x0 x1 x5:AV)(h:List Ob)(e:Cx:=cx):ar:=bl u5 (.code Hx::.inLoop HB Hx::.inBlock 0 oR::BT) (x0::x1::U::U::U::x5::(by(iterate 20 refine U::?_);exact[])) h e
@[simp] theorem VA:aA Tryz.prog u5=some WM:=by kernel_rfl
@[simp] theorem av1:au Tryz.prog u5=true:=by kernel_rfl
abbrev wC:zR:=[aO 2 0]
abbrev Pn:zB:=O::I::(by(iterate 58 refine O::?_);exact I::I::I::(by(iterate 21 refine O::?_);exact[]))
abbrev OK:zB:=(by(iterate 84 refine O::?_);exact[])
abbrev ycQ:zR:=[bx 83 62 1,ab 62 83]
abbrev ycR:zR:=[aO 2 5]
abbrev Qc:ah:=.seq (.ae ycR) .ret
abbrev ycT:zR:=[ab 70 6,o 71 (.cmp .geq (.sc .int) (.t 70) (.c (.int .i64 0))),ab 72 71,oy 73 72 (.off 0 (.t 1)),oy 74 72 (.off 4 (.t 73)),cz 75 72 1 74,cK 76 72 4,oy 77 72 (.iY 1 (.t 75) (.t 76)),cz 78 72 1 77,cK 79 72 6,oy 80 72 (.bD .mul (.c (.int .i64 2)) (.t 79)),oy 81 72 (.cmp .neq (.sc .int) (.t 78) (.t 80)),bK 82 72 81]
abbrev ycU:zR:=[aJ 67 8 1,ab 68 5,cE 69 sw 67 68,ab 6 69]
abbrev ycV:zR:=[ab 64 62,aZ 65 1 60 62,ai 66 1 65,ab 4 64,ab 5 66]
abbrev ycW:ah:=.seq (.ae ycV) (.seq (.ae ycU) (.seq (.ae ycT) (.cond (.t 82) Qc .skip)))
abbrev Q':zR:=[cJ 63 62 61]
abbrev Hm:ah:=.seq (.ae Q') (.seq (.cond (.t 63) .skip (.exit 1)) (.seq (.block 2 [] ycW) (.ae ycQ)))
abbrev ycZ:zR:=[ak 59 7 1,ai 60 1 59,aP 61 60,aO 62 0]
abbrev yda:zR:=[ab 13 3,ab 2 13]
abbrev ydb:zR:=[aO 2 1]
abbrev ydc:zR:=[aO 2 4]
abbrev ydf:zR:=[ak 56 7 1,ai 57 1 56,aU 58 so 57,ab 48 58]
abbrev ydg:zR:=[ak 49 5 1,ai 50 1 49,ak 51 6 1,ai 52 1 51,o 53 (.lit 1 [.list true 0 [],.list true 0 []] [(0,.t 50),(1,.t 52)]),aU 54 l9 53,aU 55 so 54,ab 48 55]
abbrev ydh:ah:=.seq (.ae ydc) .ret
abbrev ydi:ah:=.seq (.seq (.ae ydg) (.cond (.t 48) .skip (.ae ydf))) (.cond (.t 48) Qc .skip)
abbrev ydj:zR:=[ak 45 7 1,ai 46 1 45,aU 47 sE 46,ab 38 47]
abbrev ydk:zR:=[ak 42 6 1,ai 43 1 42,aU 44 sE 43,ab 38 44]
abbrev ydl:ah:=.seq (.ae ydk) (.cond (.t 38) .skip (.ae ydj))
abbrev ydm:zR:=[ak 39 5 1,ai 40 1 39,aU 41 sE 40,ab 38 41]
abbrev Gm:ah:=.seq (.ae ydb) .ret
abbrev ydo:ah:=.seq (.seq (.ae ydm) (.cond (.t 38) .skip ydl)) (.cond (.t 38) ydh ydi)
abbrev ydp:zR:=[ak 30 7 1,ai 31 1 30,aP 32 31,ak 33 0 1,ak 34 4 33,ai 35 1 34,aP 36 35,o 37 (.cmp .neq (.sc .int) (.t 32) (.t 36)),ab 14 37]
abbrev ydq:zR:=[ak 22 6 1,ai 23 1 22,aP 24 23,ak 25 0 1,ak 26 1 25,ai 27 1 26,aP 28 27,o 29 (.cmp .neq (.sc .int) (.t 24) (.t 28)),ab 14 29]
abbrev ydr:ah:=.seq (.ae ydq) (.cond (.t 14) .skip (.ae ydp))
abbrev yds:zR:=[ak 15 5 1,ai 16 1 15,aP 17 16,ak 18 0 1,ak 19 0 18,ai 20 1 19,o 21 (.cmp .neq (.sc .int) (.t 17) (.t 20)),ab 14 21]
abbrev ydt:ah:=.seq (.ae yda) .ret
abbrev ydu:ah:=.seq (.seq (.ae yds) (.cond (.t 14) .skip ydr)) (.cond (.t 14) Gm ydo)
abbrev ydv:zR:=[ab 11 3,o 12 (.cmp .neq (.sc .int) (.t 11) (.c (.int .i64 0))),ab 10 12]
abbrev ydw:ah:=.seq (.ae ydv) (.cond (.t 10) ydt ydu)
abbrev ydx:zR:=[ak 7 0 1,aJ 8 5 7,aU 9 nW 8,ab 3 9]
abbrev ydy:zR:=[o 1 (.box 8 (.t 0)),aO 2 0]
abbrev Vm:aB:=⟨.seq (.ae ydy) (.seq (.ae ydx) (.seq (.block 0 [] ydw) (.seq (.seq (.ae ycZ) (.block 1 OK (.loop Pn Hm))) (.seq (.ae wC) .ret)))),84,[.tmp 2]⟩
abbrev PJ:zI:=[.code (.seq (.ae wC) .ret)]
abbrev ydA(x1 x60 x61 x62:AV)(h:List Ob)(e:Cx:=cx):ar:=bl sq (.code Hm::.inLoop Pn Hm::.inBlock 1 OK::PJ) (U::x1::(by(iterate 58 refine U::?_);exact x60::x61::x62::(by(iterate 21 refine U::?_);exact[]))) h e
@[simp] theorem Ud:aA Tryz.prog sq=some Vm:=by kernel_rfl
@[simp] theorem avh:au Tryz.prog sq=true:=by kernel_rfl
abbrev ydB:zR:=[ab 19 9,ab 20 1,ab 21 2,o 22 (.call (.f xx) [.t 19,.t 20,.t 21]),bf 23 22 0,bf 24 22 1,bf 25 22 2,ab 6 23,ab 7 24,ab 8 25]
abbrev ydC:zR:=[ab 18 10,o 6 (.bA 1 cA),o 7 (.bA 1 cA),ab 8 18]
abbrev ydD:ah:=.seq (.ae ydC) .ret
abbrev ydE:zR:=[ab 16 10,o 17 (.cmp .neq (.sc .int) (.t 16) (.c (.int .i64 0)))]
abbrev ydF:zR:=[aJ 12 4 3,aU 13 xT 12,ab 11 13,bf 14 11 0,bf 15 11 1,ab 9 14,ab 10 15]
abbrev ydG:zR:=[o 3 (.box 4 (.t 0)),o 6 (.bA 1 cA),o 7 (.bA 1 cA),aO 8 0]
abbrev XY:aB:=⟨.seq (.ae ydG) (.seq (.ae ydF) (.seq (.seq (.ae ydE) (.cond (.t 17) ydD .skip)) (.seq (.ae ydB) .ret))),26,[.tmp 6,.tmp 7,.tmp 8]⟩
@[simp] theorem avW:aA Tryz.prog C5=some XY:=by kernel_rfl
@[simp] theorem awm:au Tryz.prog C5=true:=by kernel_rfl
abbrev ydH:zR:=[ab 23 11,ak 24 4 3,ai 25 1 24,o 26 (.call (.t 23) [.t 25]),ab 27 11,ak 28 1 3,ai 29 1 28,o 30 (.call (.t 27) [.t 29]),ab 6 26,ab 7 30,aO 8 0]
abbrev ydI:zR:=[o 22 (.fA (.func CQ) [] [.t 9]),ab 11 22]
abbrev ydJ:zR:=[ab 21 10,o 6 (.bA 1 cA),o 7 (.bA 1 cA),ab 8 21]
abbrev ydK:ah:=.seq (.ae ydJ) .ret
abbrev ydL:zR:=[ab 19 10,o 20 (.cmp .neq (.sc .int) (.t 19) (.c (.int .i64 0)))]
abbrev ydM:zR:=[aJ 13 5 3,ab 14 1,ab 15 2,o 16 (.call (.f CS) [.t 13,.t 14,.t 15]),ab 12 16,bf 17 12 0,bf 18 12 1,o 9 (.alloc [.own 1 cA []]),aL 1 9 17,ab 10 18]
abbrev ydN:zR:=[o 3 (.box 5 (.t 0)),o 6 (.bA 1 cA),o 7 (.bA 1 cA),aO 8 0]
abbrev YD:aB:=⟨.seq (.ae ydN) (.seq (.ae ydM) (.seq (.seq (.ae ydL) (.cond (.t 20) ydK .skip)) (.seq (.ae ydI) (.seq (.aQ [O,O,O,O,O,O,I,O,O,O,O] [4,4,4,8,8,8,8,12,12,12,12] ydH) .ret)))),31,[.tmp 6,.tmp 7,.tmp 8]⟩
@[simp] theorem awJ:aA Tryz.prog Ds=some YD:=by kernel_rfl
@[simp] theorem awP:au Tryz.prog Ds=true:=by kernel_rfl
abbrev ydU:zR:=[ab 17 0,ab 18 5,aZ 19 1 17 18,ai 20 1 19,ab 21 1,ab 22 5,aZ 23 1 21 22,ai 24 1 23,o 25 (.cmp .neq (.sc .bool) (.t 20) (.t 24))]
abbrev ydV:ah:=.seq (.aQ [O,O,O,O,O,O,O,O,O] [10,10,10,10,10,10,10,10,10] ydU) (.cond (.t 25) yu .skip)
abbrev ydX:ah:=.seq (.seq (.ae Qb) (.cond (.t 14) .skip (.exit 0))) (.seq (.block 1 [] ydV) (.ae Bc))
abbrev X':aB:=⟨.seq (.ae yr) (.seq (.seq (.ae wK) (.cond (.t 10) yu .skip)) (.seq (.seq (.ae qc) (.block 0 oR (.loop HB ydX))) (.seq (.ae rK) .ret))),26,[.tmp 4]⟩
@[simp] theorem aws:aA Tryz.prog xV=some X':=by kernel_rfl
@[simp] theorem awj:au Tryz.prog xV=true:=by kernel_rfl
abbrev Hs:zR:=[ab 23 0,aP 24 23,ab 25 1,o 26 (.cmp .leq (.sc .int) (.t 24) (.t 25)),ab 4 26]
abbrev Gg:zB:=I::I::O::O::O::I::(by(iterate 21 refine O::?_);exact[])
abbrev HJ:zB:=I::I::(by(iterate 25 refine O::?_);exact[])
abbrev yej:zR:=[ab 17 0,ab 18 5,aZ 19 1 17 18,ai 20 1 19,aP 21 20,o 22 (.cmp .gtr (.sc .int) (.t 21) (.c (.int .i64 60)))]
abbrev yek:ah:=.seq (.ae yej) (.cond (.t 22) yu .skip)
abbrev Q8:zR:=[ab 6 5,ab 7 0,aP 8 7,cJ 9 6 8,ab 10 9,cK 11 10 5,cK 12 10 1,oy 13 10 (.cmp .leq (.sc .int) (.t 11) (.t 12)),bK 14 10 13]
abbrev yem:ah:=.seq (.seq (.ae Q8) (.cond (.t 14) .skip (.exit 0))) (.seq (.block 1 [] yek) (.ae Bc))
abbrev Zz:aB:=⟨.seq (.ae yr) (.seq (.seq (.ae qc) (.block 0 HJ (.loop Gg yem))) (.seq (.ae Hs) .ret)),27,[.tmp 4]⟩
@[simp] theorem awD:aA Tryz.prog JB=some Zz:=by kernel_rfl
@[simp] theorem awI:au Tryz.prog JB=true:=by kernel_rfl
abbrev yep:zR:=[ai 48 1 11,ai 49 1 4,aU 50 Co 49,ab 6 48,ab 7 50,aO 8 0]
abbrev yeq:zR:=[ai 47 1 10,o 6 (.bA 1 qQ),o 7 (.bA 1 cA),ab 8 47]
abbrev yer:ah:=.seq (.aQ [I,O,O,O] [5,3,5,5] yeq) .ret
abbrev yet:zR:=[ai 45 1 10,o 46 (.cmp .neq (.sc .int) (.t 45) (.c (.int .i64 0)))]
abbrev yeu:zR:=[ab 13 39]
abbrev yev:zR:=[ab 12 38]
abbrev yew:zR:=[ai 40 1 11,ab 41 12,o 42 (.lit 1 [.list true 0 []] [(0,.t 41)]),o 43 (.append 1 qQ 24 (.t 40) (.t 42)),ab 44 13,aL 1 11 43,aL 1 4 44]
abbrev yex:ah:=.seq (.ae yev) (.ae yeu)
abbrev yey:ah:=.block 2 [] (.ae yew)
abbrev yez:ah:=.rangeFunc (.t 37) [38,39] (O::O::O::O::I::O::I::I::I::O::O::I::(by(iterate 39 refine O::?_);exact[])) yex yey
abbrev yeA:zR:=[ab 34 9,ai 35 1 4,ab 36 2,o 37 (.call (.f Cw) [.t 34,.t 35,.t 36,.t 10])]
abbrev yeB:zR:=[o 11 (.alloc [.own 1 qQ []])]
abbrev yeC:zR:=[ai 22 1 10,o 6 (.bA 1 qQ),o 7 (.bA 1 cA),ab 8 22]
abbrev yeD:zR:=[o 6 (.bA 1 qQ),o 7 (.bA 1 cA),aO 8 8]
abbrev yeE:zR:=[o 6 (.bA 1 qQ),o 7 (.bA 1 cA),aO 8 11]
abbrev yeF:ah:=.seq (.ae yeE) .ret
abbrev yeG:zR:=[ai 28 1 4,aP 29 28,ak 30 2 3,ai 31 1 30,aP 32 31,o 33 (.cmp .neq (.sc .int) (.t 29) (.t 32)),ab 27 33]
abbrev yeH:ah:=.seq (.ae yeD) .ret
abbrev yeI:ah:=.seq (.ae yeG) (.cond (.t 27) yeF .skip)
abbrev yeJ:zR:=[ab 24 2,aP 25 24,o 26 (.cmp .gtr (.sc .int) (.t 25) (.c (.int .i64 40))),ab 23 26]
abbrev yeK:ah:=.seq (.aQ [I,O,O,O] [5,3,5,5] yeC) .ret
abbrev yeL:ah:=.seq (.ae yeJ) (.cond (.t 23) yeH yeI)
abbrev yeM:zR:=[ai 20 1 10,o 21 (.cmp .neq (.sc .int) (.t 20) (.c (.int .i64 0))),ab 19 21]
abbrev yeN:ah:=.seq (.ae yeM) (.cond (.t 19) yeK yeL)
abbrev yeO:zR:=[aJ 15 4 3,aU 16 xT 15,ab 14 16,bf 17 14 0,bf 18 14 1,o 10 (.alloc [.int .i64 0]),ab 9 17,aL 1 10 18]
abbrev yeP:zR:=[o 3 (.box 4 (.t 0)),o 4 (.box 1 (.t 1)),o 6 (.bA 1 qQ),o 7 (.bA 1 cA),aO 8 0]
abbrev Zy:aB:=⟨.seq (.ae yeP) (.seq (.ae yeO) (.seq (.block 0 [] yeN) (.seq (.ae yeB) (.seq (.seq (.ae yeA) (.block 1 [] yez)) (.seq (.seq (.ae yet) (.cond (.t 46) yer .skip)) (.seq (.aQ [I,O,O,O,O,O] [7,3,7,7,7,7] yep) .ret)))))),51,[.tmp 6,.tmp 7,.tmp 8]⟩
@[simp] theorem awH:aA Tryz.prog JM=some Zy:=by kernel_rfl
@[simp] theorem awM:au Tryz.prog JM=true:=by kernel_rfl
abbrev yeQ:zR:=[ak 5 0 2,ai 6 1 5,ak 7 0 3,ai 8 1 7,o 9 (.cmp .eql (.sc .int) (.t 6) (.t 8)),ab 10 9,oy 11 10 (.off 1 (.t 2)),cz 12 10 1 11,oy 13 10 (.off 1 (.t 3)),cz 14 10 1 13,oy 15 10 (.call (.f qv) [.t 12,.t 14]),bK 16 10 15,ab 17 16,oy 18 17 (.off 2 (.t 2)),cz 19 17 1 18,oy 20 17 (.off 2 (.t 3)),cz 21 17 1 20,oy 22 17 (.call (.f qv) [.t 19,.t 21]),bK 23 17 22,ab 24 23,oy 25 24 (.off 3 (.t 2)),cz 26 24 1 25,oy 27 24 (.off 3 (.t 3)),cz 28 24 1 27,oy 29 24 (.call (.f uE) [.t 26,.t 28]),bK 30 24 29,ab 31 30,oy 32 31 (.off 4 (.t 2)),cz 33 31 1 32,oy 34 31 (.off 4 (.t 3)),cz 35 31 1 34,oy 36 31 (.call (.f qv) [.t 33,.t 35]),bK 37 31 36,ab 4 37]
abbrev yeR:zR:=[o 2 (.box 5 (.t 0)),o 3 (.box 5 (.t 1)),kp 4]
abbrev YB:aB:=⟨.seq (.ae yeR) (.seq (.ae yeQ) .ret),38,[.tmp 4]⟩
@[simp] theorem VP:aA Tryz.prog vd=some YB:=by kernel_rfl
@[simp] theorem awR:au Tryz.prog vd=true:=by kernel_rfl
abbrev yeS:zR:=[ab 16 5,bx 17 16 1,ab 4 17]
abbrev ua:zR:=[o 4 (.mv (.c (.int .i64 (-1))))]
abbrev yeU:ah:=.seq (.ae ua) .ret
abbrev yeV:zR:=[ab 14 5,o 15 (.cmp .lss (.sc .int) (.t 14) (.c (.int .i64 0)))]
abbrev yeW:zR:=[ak 6 5 2,ai 7 1 6,ak 8 6 2,ai 9 1 8,o 10 (.lit 1 [.list true 0 [],.list true 0 []] [(0,.t 7),(1,.t 9)]),aU 11 l9 10,ab 12 1,cE 13 qt 11 12,ab 5 13]
abbrev yeX:zR:=[o 2 (.box 8 (.t 0)),aO 4 0]
abbrev U2:aB:=⟨.seq (.ae yeX) (.seq (.ae yeW) (.seq (.seq (.ae yeV) (.cond (.t 15) yeU .skip)) (.seq (.ae yeS) .ret))),18,[.tmp 4]⟩
@[simp] theorem Uh:aA Tryz.prog sw=some U2:=by kernel_rfl
@[simp] theorem avi:au Tryz.prog sw=true:=by kernel_rfl
abbrev yeY:zR:=[ak 5 0 2,aJ 6 5 5,ak 7 0 3,aJ 8 5 7,cE 9 vd 6 8,ab 10 9,oy 11 10 (.off 5 (.t 2)),cz 12 10 1 11,oy 13 10 (.off 5 (.t 3)),cz 14 10 1 13,oy 15 10 (.call (.f qu) [.t 12,.t 14]),bK 16 10 15,ab 17 16,oy 18 17 (.off 6 (.t 2)),cz 19 17 1 18,oy 20 17 (.off 6 (.t 3)),cz 21 17 1 20,oy 22 17 (.call (.f qu) [.t 19,.t 21]),bK 23 17 22,ab 24 23,oy 25 24 (.off 7 (.t 2)),cz 26 24 1 25,oy 27 24 (.off 7 (.t 3)),cz 28 24 1 27,oy 29 24 (.call (.f qu) [.t 26,.t 28]),bK 30 24 29,ab 4 30]
abbrev yeZ:zR:=[o 2 (.box 8 (.t 0)),o 3 (.box 8 (.t 1)),kp 4]
abbrev VH:aB:=⟨.seq (.ae yeZ) (.seq (.ae yeY) .ret),31,[.tmp 4]⟩
@[simp] theorem Ux:aA Tryz.prog uW=some VH:=by kernel_rfl
@[simp] theorem avM:au Tryz.prog uW=true:=by kernel_rfl
abbrev yfa:zR:=[ab 6 3,ab 7 6,oy 8 7 (.off 3 (.t 1)),cz 9 7 1 8,oy 10 7 (.len (.t 9)),oy 11 7 (.cmp .leq (.sc .int) (.t 10) (.c (.int .i64 24))),bK 12 7 11,ab 13 12,oy 14 13 (.off 0 (.t 1)),cz 15 13 1 14,oy 16 13 (.len (.t 15)),oy 17 13 (.cmp .leq (.sc .int) (.t 16) (.c (.int .i64 24))),bK 18 13 17,ab 19 18,oy 20 19 (.off 2 (.t 1)),cz 21 19 1 20,oy 22 19 (.len (.t 21)),oy 23 19 (.cmp .leq (.sc .int) (.t 22) (.c (.int .i64 24))),bK 24 19 23,ab 2 24]
abbrev yfb:zR:=[aJ 4 4 1,aU 5 qM 4,ab 3 5]
abbrev VX:aB:=⟨.seq (.ae wF) (.seq (.ae yfb) (.seq (.ae yfa) .ret)),25,[.tmp 2]⟩
@[simp] theorem Uy:aA Tryz.prog xQ=some VX:=by kernel_rfl
@[simp] theorem avy:au Tryz.prog xQ=true:=by kernel_rfl
abbrev p3:zB:=[I,I,O,O,O,O,O,I,I,O,O,O,O,O,O,O,O,O,O]
abbrev lW:zB:=(by(iterate 19 refine O::?_);exact[])
abbrev Gh:zR:=[bx 18 8 1,ab 8 18]
abbrev yfh:zR:=[ab 17 5,ab 4 17]
abbrev Gc:ah:=.seq (.ae yfh) .ret
abbrev yfj:zR:=[ab 11 1,ab 12 0,ab 13 5,aZ 14 1 12 13,ai 15 1 14,o 16 (.cmp .eql (.sc .str) (.t 11) (.t 15))]
abbrev G':zR:=[ab 10 8,ab 5 10]
abbrev fK:ah:=.seq (.ae G') (.seq (.ae yfj) (.cond (.t 16) Gc .skip))
abbrev BI:zR:=[cJ 9 8 7]
abbrev Hy:ah:=.seq (.ae BI) (.seq (.cond (.t 9) .skip (.exit 0)) (.seq (.block 1 [] fK) (.ae Gh)))
abbrev wJ:zR:=[ab 6 0,aP 7 6,aO 8 0]
abbrev R5:aB:=⟨.seq (.ae lS) (.seq (.seq (.ae wJ) (.block 0 lW (.loop p3 Hy))) (.seq (.ae ua) .ret)),19,[.tmp 4]⟩
abbrev Bh:zI:=[.code (.seq (.ae ua) .ret)]
abbrev yfr(x0 x1 x7 x8:AV)(h:List Ob)(e:Cx:=cx):ar:=bl qt (.code Hy::.inLoop p3 Hy::.inBlock 0 lW::Bh) [x0,x1,U,U,U,U,U,x7,x8,U,U,U,U,U,U,U,U,U,U] h e
@[simp] theorem RW:aA Tryz.prog qt=some R5:=by kernel_rfl
@[simp] theorem atH:au Tryz.prog qt=true:=by kernel_rfl
abbrev Gz:zR:=[ab 37 3,ab 2 37]
abbrev Hk:zB:=O::O::O::I::(by(iterate 21 refine O::?_);exact[I,I,I,O,O,O,O,O,O,O,O,O,O])
abbrev H3:zB:=O::O::O::I::(by(iterate 34 refine O::?_);exact[])
abbrev yfv:zR:=[bx 36 27 1,ab 27 36]
abbrev yfw:zR:=[ab 31 3,ak 32 0 7,ai 33 1 32,o 34 (.lit 1 [.str []] [(0,.t 33)]),o 35 (.append 1 aD 16 (.t 31) (.t 34)),ab 3 35]
abbrev PZ:zR:=[aZ 29 5 25 27,aJ 30 5 29,o 7 (.alloc [.str [],.int .i64 0,.own 1 aD [],.own 1 aD [],.bool false]),aL 5 7 30]
abbrev yfy:ah:=.seq (.ae PZ) (.ae yfw)
abbrev tY:zR:=[cJ 28 27 26]
abbrev Ba:ah:=.seq (.ae tY) (.seq (.cond (.t 28) .skip (.exit 2)) (.seq (.block 3 [] yfy) (.ae yfv)))
abbrev Bg:zR:=[ak 24 3 1,ai 25 1 24,aP 26 25,aO 27 0]
abbrev O':zB:=O::I::O::I::O::O::O::O::O::O::O::O::I::I::I::(by(iterate 23 refine O::?_);exact[])
abbrev Qk:zB:=O::I::O::I::(by(iterate 34 refine O::?_);exact[])
abbrev QL:zR:=[bx 23 14 1,ab 14 23]
abbrev yfF:zR:=[ab 18 3,ak 19 0 5,ai 20 1 19,o 21 (.lit 1 [.str []] [(0,.t 20)]),o 22 (.append 1 aD 16 (.t 18) (.t 21)),ab 3 22]
abbrev PX:zR:=[aZ 16 3 12 14,aJ 17 3 16,o 5 (.alloc [.str [],.str [],.int .i64 0]),aL 3 5 17]
abbrev yfH:ah:=.seq (.ae PX) (.ae yfF)
abbrev OI:zR:=[cJ 15 14 13]
abbrev H5:ah:=.seq (.ae OI) (.seq (.cond (.t 15) .skip (.exit 0)) (.seq (.block 1 [] yfH) (.ae QL)))
abbrev OH:zR:=[ak 11 2 1,ai 12 1 11,aP 13 12,aO 14 0]
abbrev yfL:zR:=[ak 8 0 1,ai 9 1 8,aU 10 nQ 9,ab 3 10]
abbrev F4:zR:=[o 1 (.box 4 (.t 0)),o 2 (.bA 1 aD)]
abbrev Zs:aB:=⟨.seq (.ae F4) (.seq (.ae yfL) (.seq (.seq (.ae OH) (.block 0 Qk (.loop O' H5))) (.seq (.seq (.ae Bg) (.block 2 H3 (.loop Hk Ba))) (.seq (.ae Gz) .ret)))),38,[.tmp 2]⟩
abbrev yfN:zI:=[.code (.seq (.ae Gz) .ret)]
abbrev yfO(x3 x25 x26 x27:AV)(h:List Ob)(e:Cx:=cx):ar:=bl n3 (.code Ba::.inLoop Hk Ba::.inBlock 2 H3::yfN) (U::U::U::x3::(by(iterate 21 refine U::?_);exact[x25,x26,x27,U,U,U,U,U,U,U,U,U,U])) h e
abbrev yfP:zI:=[.code (.seq (.seq (.ae Bg) (.block 2 H3 (.loop Hk Ba))) (.seq (.ae Gz) .ret))]
abbrev yfQ(x1 x3 x12 x13 x14:AV)(h:List Ob)(e:Cx:=cx):ar:=bl n3 (.code H5::.inLoop O' H5::.inBlock 0 Qk::yfP) (U::x1::U::x3::U::U::U::U::U::U::U::U::x12::x13::x14::(by(iterate 23 refine U::?_);exact[])) h e
@[simp] theorem Wd:aA Tryz.prog n3=some Zs:=by kernel_rfl
@[simp] theorem awO:au Tryz.prog n3=true:=by kernel_rfl
abbrev yfR:zR:=[o 11 (.build [.int .i64 0,.list true 0 [],.list true 0 [],.list true 0 [],.list true 0 [],.list true 0 [],.list true 0 [],.list true 0 []] []),aL 8 0 11,q (.store 1 (.t 1) (.c (.int .i64 8))),q (.store 1 (.t 2) (.c (.str [])))]
abbrev yfS:zR:=[ab 10 4]
abbrev yfT:zR:=[o 6 (.recover),o 7 (.qY (.t 6) CT (.agg []) true),ab 5 7,bf 8 5 0,bf 9 5 1,o 3 (.alloc []),aL 0 3 8,ab 4 9]
abbrev Uc:aB:=⟨.seq (.ae yfT) (.seq (.ae yfS) (.cond (.t 10) (.ae yfR) .skip)),12,[]⟩
@[simp] theorem auW:aA Tryz.prog xF=some Uc:=by kernel_rfl
@[simp] theorem au0:au Tryz.prog xF=true:=by kernel_rfl
abbrev yfU:zR:=[o 5 (.lit 1 [] []),ab 6 0,o 7 (.append 1 aD 16 (.t 5) (.t 6)),ab 2 7]
abbrev GH:zR:=[o 2 (.bA 1 aD)]
abbrev yfW:ah:=.seq (.ae GH) .ret
abbrev Bv:zR:=[ab 3 0,o 4 (.jc false (.t 3))]
abbrev R9:aB:=⟨.seq (.ae GH) (.seq (.seq (.ae Bv) (.cond (.t 4) yfW .skip)) (.seq (.ae yfU) .ret)),8,[.tmp 2]⟩
@[simp] theorem RX:aA Tryz.prog nQ=some R9:=by kernel_rfl
@[simp] theorem atI:au Tryz.prog nQ=true:=by kernel_rfl
abbrev F9:zR:=[ab 20 4,ab 3 20]
abbrev F_:zB:=[O,I,O,O,I,O,O,I,I,I,O,O,O,O,O,O,O,O,O,O,O]
abbrev Hj:zB:=O::O::O::O::I::(by(iterate 16 refine O::?_);exact[])
abbrev Qy:zR:=[bx 19 9 1,ab 9 19]
abbrev ygd:zR:=[ab 13 4,ai 14 1 1,ab 15 6,o 16 (.lookup (.sc .str) (.int .i64 0) (.t 14) (.t 15) false),o 17 (.lit 1 [.int .i64 0] [(0,.t 16)]),o 18 (.append 1 aq 8 (.t 13) (.t 17)),ab 4 18]
abbrev OZ:zR:=[aZ 11 1 7 9,ai 12 1 11,ab 6 12]
abbrev ygf:ah:=.seq (.ae OZ) (.ae ygd)
abbrev wQ:zR:=[cJ 10 9 8]
abbrev Hv:ah:=.seq (.ae wQ) (.seq (.cond (.t 10) .skip (.exit 0)) (.seq (.block 1 [] ygf) (.ae Qy)))
abbrev Bn:zR:=[ab 7 0,aP 8 7,aO 9 0]
abbrev GG:zR:=[o 4 (.bA 1 aq)]
abbrev ygk:zR:=[o 3 (.bA 1 aq)]
abbrev T1:aB:=⟨.seq (.ae ygk) (.seq (.ae GG) (.seq (.seq (.ae Bn) (.block 0 Hj (.loop F_ Hv))) (.seq (.ae F9) .ret))),21,[.tmp 3]⟩
abbrev ygl:zI:=[.code (.seq (.ae F9) .ret)]
abbrev ygm(x1 x4 x7 x8 x9:AV)(h:List Ob)(e:Cx:=cx):ar:=bl nR (.code Hv::.inLoop F_ Hv::.inBlock 0 Hj::ygl) [U,x1,U,U,x4,U,U,x7,x8,x9,U,U,U,U,U,U,U,U,U,U,U] h e
@[simp] theorem Tt:aA Tryz.prog nR=some T1:=by kernel_rfl
@[simp] theorem auY:au Tryz.prog nR=true:=by kernel_rfl
abbrev OS:zR:=[ai 52 1 4,ab 53 7,ab 2 52,ab 3 53]
abbrev QR:zB:=O::O::O::O::I::I::O::I::(by(iterate 24 refine O::?_);exact I::I::I::(by(iterate 19 refine O::?_);exact[]))
abbrev Po:zB:=O::O::O::O::I::O::O::I::(by(iterate 46 refine O::?_);exact[])
abbrev ygq:zR:=[bx 51 34 1,ab 34 51]
abbrev ygr:zR:=[ab 46 7,ak 47 0 9,ai 48 1 47,o 49 (.lit 1 [.str []] [(0,.t 48)]),o 50 (.append 1 aD 16 (.t 46) (.t 49)),ab 7 50]
abbrev ygs:zR:=[ab 45 11]
abbrev ygt:zR:=[ai 39 1 5,ak 40 0 9,ai 41 1 40,o 42 (.lookup (.sc .str) (.int .i64 0) (.t 39) (.t 41) true),ab 38 42,bf 43 38 0,bf 44 38 1,ab 10 43,ab 11 44]
abbrev ygu:zR:=[aZ 36 5 32 34,aJ 37 5 36,o 9 (.alloc [.str [],.int .i64 0,.own 1 aD [],.own 1 aD [],.bool false]),aL 5 9 37]
abbrev ygv:ah:=.seq (.ae ygu) (.seq (.ae ygt) (.seq (.ae ygs) (.cond (.t 45) (.ae ygr) .skip)))
abbrev O_:zR:=[cJ 35 34 33]
abbrev GU:ah:=.seq (.ae O_) (.seq (.cond (.t 35) .skip (.exit 2)) (.seq (.block 3 [] ygv) (.ae ygq)))
abbrev ygy:zR:=[ak 31 3 1,ai 32 1 31,aP 33 32,aO 34 0]
abbrev OU:zR:=[o 7 (.bA 1 aD)]
abbrev Gu:zR:=[ab 6 19]
abbrev ygB:zR:=[ai 24 1 5,ak 25 3 1,ai 26 1 25,ab 27 6,aZ 28 5 26 27,ak 29 0 28,ai 30 1 29,q (.delete (.sc .str) (.t 24) (.t 30))]
abbrev ygC:zR:=[ai 20 1 4,ab 21 6,o 22 (.lit 1 [.int .i64 0] [(0,.t 21)]),o 23 (.append 1 aq 8 (.t 20) (.t 22)),aL 1 4 23]
abbrev ygD:ah:=.seq (.ae ygC) (.aQ [O,O,O,O,O,O,O,O] [8,8,8,8,8,8,8,9] ygB)
abbrev F6:ah:=.block 1 [] ygD
abbrev ygF:ah:=.rangeFunc (.t 18) [19] (O::I::I::I::I::I::(by(iterate 48 refine O::?_);exact[])) (.ae Gu) F6
abbrev ygG:zR:=[aJ 17 4 1,aU 18 CJ 17]
abbrev ygH:zR:=[aJ 15 4 1,aU 16 sn 15,o 5 (.alloc [.cY]),aL 1 5 16]
abbrev ygI:zR:=[o 4 (.alloc [.own 1 aq []])]
abbrev ygJ:zR:=[o 2 (.bA 1 aq),o 3 (.bA 1 aD)]
abbrev ygK:ah:=.seq (.ae ygJ) .ret
abbrev ygL:zR:=[aJ 12 4 1,aU 13 xJ 12,o 14 (.not (.t 13))]
abbrev ygM:zR:=[o 1 (.box 4 (.t 0)),o 2 (.bA 1 aq),o 3 (.bA 1 aD)]
abbrev VW:aB:=⟨.seq (.ae ygM) (.seq (.seq (.ae ygL) (.cond (.t 14) ygK .skip)) (.seq (.ae ygI) (.seq (.ae ygH) (.seq (.seq (.ae ygG) (.block 0 [] ygF)) (.seq (.ae OU) (.seq (.seq (.ae ygy) (.block 2 Po (.loop QR GU))) (.seq (.ae OS) .ret))))))),54,[.tmp 2,.tmp 3]⟩
abbrev ygN:zI:=[.code (.seq (.ae OS) .ret)]
abbrev ygO(x4 x5 x7 x32 x33 x34:AV)(h:List Ob)(e:Cx:=cx):ar:=bl ma (.code GU::.inLoop QR GU::.inBlock 2 Po::ygN) (U::U::U::U::x4::x5::U::x7::(by(iterate 24 refine U::?_);exact x32::x33::x34::(by(iterate 19 refine U::?_);exact[]))) h e
@[simp] theorem IW:aA Tryz.prog ma=some VW:=by kernel_rfl
@[simp] theorem avF:au Tryz.prog ma=true:=by kernel_rfl
abbrev ygP:zR:=[ab 49 11,ab 6 49]
abbrev ygQ:zR:=[ab 47 11,o 48 (.bD .xor (.t 47) (.c (.int .i64 1))),ab 11 48]
abbrev ygR:zR:=[ak 45 4 4,ai 46 1 45]
abbrev ygS:zR:=[ab 39 0,ab 40 9,ab 41 2,o 42 (.call (.f sa) [.t 39,.t 40,.t 41]),ab 38 42,bf 43 38 0,bf 44 38 1,ab 11 43,ab 12 44]
abbrev ygT:zR:=[ak 30 3 4,ai 31 1 30,ak 32 2 4,ai 33 1 32,aP 34 33,cE 35 uQ 31 34,ab 29 35,bf 36 29 0,bf 37 29 1,ab 9 36,ab 10 37]
abbrev ygU:zR:=[ak 21 0 7,ai 22 1 21,ab 23 0,ab 24 2,o 25 (.call (.t 22) [.t 23,.t 24]),ak 26 1 7,ai 27 1 26,o 28 (.bD .xor (.t 25) (.t 27)),ab 6 28]
abbrev ygV:ah:=.seq (.aQ [O,O,O,O,O,O,I,O,O] [5,5,5,5,10,10,10,10,10] ygU) .ret
abbrev ygW:zR:=[ab 20 8]
abbrev ygX:zR:=[o 14 (.load false 1 (.g 0)),ak 15 1 4,ai 16 1 15,o 17 (.lookup (.sc .int) (.agg [.db,.int .i64 0]) (.t 14) (.t 16) true),ab 13 17,bf 18 13 0,bf 19 13 1,o 7 (.alloc [.db,.int .i64 0]),aL 2 7 18,ab 8 19]
abbrev ygY:zR:=[o 4 (.box 5 (.t 1)),aO 6 0]
abbrev SO:aB:=⟨.seq (.ae ygY) (.seq (.seq (.ae ygX) (.seq (.ae ygW) (.cond (.t 20) ygV .skip))) (.seq (.ae ygT) (.seq (.ae ygS) (.seq (.seq (.ae ygR) (.cond (.t 46) (.ae ygQ) .skip)) (.seq (.ae ygP) .ret))))),50,[.tmp 6]⟩
@[simp] theorem Iw:aA Tryz.prog uK=some SO:=by kernel_rfl
@[simp] theorem auj:au Tryz.prog uK=true:=by kernel_rfl
abbrev Bo:zR:=[ab 92 10,aJ 93 5 8,cE 94 xA 92 93,aL 5 2 94,aO 3 0]
abbrev BJ:zB:=O::O::I::O::O::O::O::O::I::I::I::(by(iterate 46 refine O::?_);exact I::I::I::(by(iterate 35 refine O::?_);exact[]))
abbrev Bd:zB:=O::O::I::O::O::O::O::O::I::O::I::(by(iterate 84 refine O::?_);exact[])
abbrev yhc:zR:=[bx 91 59 1,ab 59 91]
abbrev yhd:zR:=[ab 81 10,ab 82 10,o 83 (.cg (.t 82)),ak 84 6 83,ai 85 1 84,ab 86 13,o 87 (.lit 1 [.int .i64 0] [(0,.t 86)]),o 88 (.append 1 aq 8 (.t 85) (.t 87)),o 89 (.cg (.t 81)),ak 90 6 89,aL 1 90 88]
abbrev yhe:zR:=[ab 71 10,ab 72 10,o 73 (.gu 2 1 (.t 12) (.c (.int .i64 0))),ai 74 1 73,cE 75 mR 72 74,ab 76 10,o 77 (.gu 2 1 (.t 12) (.c (.int .i64 1))),ai 78 1 77,cE 79 mR 76 78,o 80 (.call (.f pa) [.t 71,.t 75,.t 79]),ab 13 80]
abbrev yhf:zR:=[ab 64 9,aJ 65 5 8,aU 66 kD 65,ab 67 11,o 68 (.bD .add (.t 66) (.t 67)),aZ 69 1 64 68,ai 70 1 69]
abbrev yhg:zR:=[aO 13 0]
abbrev yhh:zR:=[ab 61 59,aZ 62 2 57 59,aJ 63 2 62,o 12 (.alloc [.int .i64 0,.int .i64 0]),ab 11 61,aL 2 12 63]
abbrev yhi:ah:=.seq (.ae yhh) (.seq (.ae yhg) (.seq (.seq (.ae yhf) (.cond (.t 70) (.aQ [O,O,O,O,O,O,O,I,O,O,O] [10,5,5,5,9,9,9,9,10,12,12] yhe) .skip)) (.ae yhd)))
abbrev yhj:zR:=[cJ 60 59 58]
abbrev wR:ah:=.seq (.ae yhj) (.seq (.cond (.t 60) .skip (.exit 2)) (.seq (.block 3 [] yhi) (.ae yhc)))
abbrev HT:zR:=[ak 56 3 8,ai 57 1 56,aP 58 57,aO 59 0]
abbrev G3:zR:=[aJ 54 5 8,aU 55 sD 54,ab 10 55]
abbrev Q4:zR:=[aJ 52 5 8,aU 53 qL 52,ab 9 53]
abbrev Q2:zR:=[ab 49 5,aJ 50 5 1,cE 51 xA 49 50,o 8 (.alloc [.int .i64 0,.own 1 aq [],.own 1 aq [],.own 2 cH [],.own 1 aq []]),aL 5 8 51]
abbrev P7:zB:=O::I::I::O::O::I::(by(iterate 17 refine O::?_);exact I::I::I::(by(iterate 69 refine O::?_);exact[]))
abbrev QW:zB:=O::I::I::O::O::I::(by(iterate 89 refine O::?_);exact[])
abbrev yhr:zR:=[bx 48 25 1,ab 25 48]
abbrev yhs:zR:=[ab 29 5,ab 30 5,o 31 (.cg (.t 30)),ak 32 6 31,ai 33 1 32,ab 34 5,ab 35 5,o 36 (.gu 2 1 (.t 7) (.c (.int .i64 0))),ai 37 1 36,cE 38 mR 35 37,ab 39 5,o 40 (.gu 2 1 (.t 7) (.c (.int .i64 1))),ai 41 1 40,cE 42 mR 39 41,o 43 (.call (.f pa) [.t 34,.t 38,.t 42]),o 44 (.lit 1 [.int .i64 0] [(0,.t 43)]),o 45 (.append 1 aq 8 (.t 33) (.t 44)),o 46 (.cg (.t 29)),ak 47 6 46,aL 1 47 45]
abbrev yht:zR:=[aZ 27 2 23 25,aJ 28 2 27,o 7 (.alloc [.int .i64 0,.int .i64 0]),aL 2 7 28]
abbrev yhu:ah:=.seq (.ae yht) (.aQ [O,O,O,O,I,O,O,O,O,O,O,O,I,O,O,O,O,O,O,O] [20,17,17,17,17,15,10,10,10,14,14,14,14,15,16,17,20,20,20,21] yhs)
abbrev QZ:zR:=[cJ 26 25 24]
abbrev G4:ah:=.seq (.ae QZ) (.seq (.cond (.t 26) .skip (.exit 0)) (.seq (.block 1 [] yhu) (.ae yhr)))
abbrev Q7:zR:=[ak 22 3 1,ai 23 1 22,aP 24 23,aO 25 0]
abbrev yhy:zR:=[aJ 20 5 1,aU 21 sD 20,ab 5 21]
abbrev yhz:zR:=[o 18 (.build [.int .i64 0,.list true 0 [],.list true 0 [],.list true 0 [],.list true 0 []] []),ab 19 4,aL 5 2 18,ab 3 19]
abbrev yhA:ah:=.seq (.ae yhz) .ret
abbrev yhB:zR:=[ab 16 4,o 17 (.cmp .neq (.sc .int) (.t 16) (.c (.int .i64 0)))]
abbrev yhC:zR:=[aJ 14 5 1,aU 15 nW 14,ab 4 15]
abbrev yhD:zR:=[o 1 (.box 5 (.t 0)),o 2 (.alloc [.int .i64 0,.own 1 aq [],.own 1 aq [],.own 2 cH [],.own 1 aq []]),aO 3 0]
abbrev V':aB:=⟨.seq (.ae yhD) (.seq (.seq (.ae yhC) (.seq (.ae yhB) (.cond (.t 17) yhA .skip))) (.seq (.ae yhy) (.seq (.seq (.ae Q7) (.block 0 QW (.loop P7 G4))) (.seq (.ae Q2) (.seq (.ae Q4) (.seq (.ae G3) (.seq (.seq (.ae HT) (.block 2 Bd (.loop BJ wR))) (.seq (.ae Bo) .ret)))))))),95,[.cell 2 true 5,.tmp 3]⟩
abbrev Ql:zI:=[.code (.seq (.ae Bo) .ret)]
abbrev yhF(x2 x8 x9 x10 x57 x58 x59:AV)(h:List Ob)(e:Cx:=cx):ar:=bl nV (.code wR::.inLoop BJ wR::.inBlock 2 Bd::Ql) (U::U::x2::U::U::U::U::U::x8::x9::x10::(by(iterate 46 refine U::?_);exact x57::x58::x59::(by(iterate 35 refine U::?_);exact[]))) h e
abbrev PK(x2 x8 x10:AV)(h:List Ob)(e:Cx:=cx):ar:=bl nV Ql (U::U::x2::U::U::U::U::U::x8::U::x10::(by(iterate 84 refine U::?_);exact[])) h e
abbrev QG:zI:=[.code (.seq (.ae Q2) (.seq (.ae Q4) (.seq (.ae G3) (.seq (.seq (.ae HT) (.block 2 Bd (.loop BJ wR))) (.seq (.ae Bo) .ret)))))]
abbrev yhI(x1 x2 x5 x23 x24 x25:AV)(h:List Ob)(e:Cx:=cx):ar:=bl nV (.code G4::.inLoop P7 G4::.inBlock 0 QW::QG) (U::x1::x2::U::U::x5::(by(iterate 17 refine U::?_);exact x23::x24::x25::(by(iterate 69 refine U::?_);exact[]))) h e
abbrev Hq(x1 x2 x5:AV)(h:List Ob)(e:Cx:=cx):ar:=bl nV QG (U::x1::x2::U::U::x5::(by(iterate 89 refine U::?_);exact[])) h e
@[simp] theorem Un:aA Tryz.prog nV=some V':=by kernel_rfl
@[simp] theorem avA:au Tryz.prog nV=true:=by kernel_rfl
abbrev wG:zR:=[q (.store 1 (.t 2) (.c (.int .i64 0))),q (.store 1 (.t 3) (.c (.str [])))]
abbrev wz:zB:=O::O::I::I::O::O::O::I::(by(iterate 84 refine O::?_);exact[I,I,I,O,O,O,O,O,O,O,O,O])
abbrev wL:zB:=O::O::I::I::(by(iterate 100 refine O::?_);exact[])
abbrev yhN:zR:=[bx 103 94 1,ab 94 103]
abbrev yhO:zR:=[ab 98 7,ab 99 13,o 100 (.lookup (.sc .str) (.bool false) (.t 98) (.t 99) false),ab 101 13,o 102 (.call (.f mV) [.t 100,.c (.int .i64 6),.t 101])]
abbrev yhP:zR:=[aZ 96 1 92 94,ai 97 1 96,ab 13 97]
abbrev yhQ:ah:=.seq (.ae yhP) (.ae yhO)
abbrev yhR:zR:=[cJ 95 94 93]
abbrev t_:ah:=.seq (.ae yhR) (.seq (.cond (.t 95) .skip (.exit 6)) (.seq (.block 7 [] yhQ) (.ae yhN)))
abbrev B1:zR:=[aJ 91 4 1,aU 92 sK 91,aP 93 92,aO 94 0]
abbrev B4:zB:=O::I::I::I::O::O::O::I::(by(iterate 71 refine O::?_);exact I::I::I::(by(iterate 22 refine O::?_);exact[]))
abbrev rN:zB:=O::I::I::I::O::O::O::I::(by(iterate 96 refine O::?_);exact[])
abbrev yhW:zR:=[bx 90 81 1,ab 81 90]
abbrev GR:zR:=[aJ 85 5 11,aU 86 u_ 85,ak 87 0 11,ai 88 1 87,o 89 (.call (.f mV) [.t 86,.c (.int .i64 1),.t 88])]
abbrev yhY:zR:=[aZ 83 5 79 81,aJ 84 5 83,o 11 (.alloc [.str [],.int .i64 0,.own 1 aD [],.own 1 aD [],.bool false]),aL 5 11 84]
abbrev yhZ:ah:=.seq (.ae yhY) (.aQ [O,O,O,I,O] [2,5,5,5,6] GR)
abbrev yia:zR:=[cJ 82 81 80]
abbrev wB:ah:=.seq (.ae yia) (.seq (.cond (.t 82) .skip (.exit 4)) (.seq (.block 5 [] yhZ) (.ae yhW)))
abbrev GP:zR:=[ak 78 3 1,ai 79 1 78,aP 80 79,aO 81 0]
abbrev HG:zB:=O::I::I::I::O::O::O::I::(by(iterate 52 refine O::?_);exact I::I::I::(by(iterate 41 refine O::?_);exact[]))
abbrev yif:zR:=[bx 77 62 1,ab 62 77]
abbrev yig:zR:=[ak 66 2 9,ai 67 1 66,o 68 (.cmp .geq (.sc .int) (.t 67) (.c (.int .i64 0))),ab 69 68,oy 70 69 (.off 2 (.t 9)),cz 71 69 1 70,oy 72 69 (.cmp .leq (.sc .int) (.t 71) (.c (.int .i64 2))),bK 73 69 72,ak 74 0 9,ai 75 1 74,o 76 (.call (.f mV) [.t 73,.c (.int .i64 1),.t 75])]
abbrev yih:zR:=[aZ 64 3 60 62,aJ 65 3 64,o 9 (.alloc [.str [],.str [],.int .i64 0]),aL 3 9 65]
abbrev yii:ah:=.seq (.ae yih) (.ae yig)
abbrev Bi:ah:=.seq (.ae Q') (.seq (.cond (.t 63) .skip (.exit 2)) (.seq (.block 3 [] yii) (.ae yif)))
abbrev PH:zR:=[ak 59 2 1,ai 60 1 59,aP 61 60,aO 62 0]
abbrev Q6:zR:=[ak 56 1 1,ai 57 1 56,aU 58 qI 57]
abbrev QQ:zR:=[aJ 53 4 1,aU 54 n3 53,aU 55 qI 54,ab 7 55]
abbrev Pc:zB:=O::I::I::I::(by(iterate 38 refine O::?_);exact I::I::I::(by(iterate 59 refine O::?_);exact[]))
abbrev PO:zB:=O::I::I::I::(by(iterate 100 refine O::?_);exact[])
abbrev yiq:zR:=[bx 52 44 1,ab 44 52]
abbrev yir:zR:=[ab 48 6,aU 49 uV 48,ab 50 6,o 51 (.call (.f mV) [.t 49,.c (.int .i64 4),.t 50])]
abbrev yis:zR:=[aZ 46 1 42 44,ai 47 1 46,ab 6 47]
abbrev yit:ah:=.seq (.ae yis) (.ae yir)
abbrev yiu:zR:=[cJ 45 44 43]
abbrev Ht:ah:=.seq (.ae yiu) (.seq (.cond (.t 45) .skip (.exit 0)) (.seq (.block 1 [] yit) (.ae yiq)))
abbrev yiw:zR:=[aJ 41 4 1,aU 42 sH 41,aP 43 42,aO 44 0]
abbrev yix:zR:=[ak 15 0 1,ai 16 1 15,aP 17 16,ak 18 2 1,ai 19 1 18,aP 20 19,o 21 (.bD .add (.t 17) (.t 20)),ak 22 3 1,ai 23 1 22,aP 24 23,o 25 (.bD .add (.t 21) (.t 24)),o 26 (.cmp .leq (.sc .int) (.t 25) (.c (.int .i64 200))),ab 27 26,oy 28 27 (.off 1 (.t 1)),cz 29 27 1 28,oy 30 27 (.len (.t 29)),oy 31 27 (.cmp .leq (.sc .int) (.t 30) (.c (.int .i64 200))),bK 32 27 31,ab 33 32,oy 34 33 (.off 3 (.t 1)),cz 35 33 1 34,cK 36 33 4,oy 37 33 (.call (.f xg) [.t 35,.t 36]),oy 38 33 (.not (.t 37)),bK 39 33 38,o 40 (.call (.f mV) [.t 39,.c (.int .i64 8),.c (.str [])])]
abbrev yiy:zR:=[o 4 (.mv (.f uS))]
abbrev yiz:zR:=[o 14 (.fA (.func xI) [] [.t 2,.t 3]),q (.defer (.t 14) [])]
abbrev yiA:zR:=[o 1 (.box 4 (.t 0)),o 2 (.alloc [.int .i64 0]),o 3 (.alloc [.str []])]
abbrev Xz:aB:=⟨.seq (.ae yiA) (.seq (.ae yiz) (.seq (.ae yiy) (.seq (.ae yix) (.seq (.seq (.ae yiw) (.block 0 PO (.loop Pc Ht))) (.seq (.ae QQ) (.seq (.ae Q6) (.seq (.seq (.ae PH) (.block 2 rN (.loop HG Bi))) (.seq (.seq (.ae GP) (.block 4 rN (.loop B4 wB))) (.seq (.seq (.ae B1) (.block 6 wL (.loop wz t_))) (.seq (.ae wG) .ret)))))))))),104,[.cell 2 false 1,.cell 3 false 1]⟩
abbrev yiB:zI:=[.code (.seq (.ae wG) .ret)]
abbrev yiC(x2 x3 x7 x92 x93 x94:AV)(h:List Ob)(e:Cx:=cx):ar:=bl mT (.code t_::.inLoop wz t_::.inBlock 6 wL::yiB) (U::U::x2::x3::U::U::U::x7::(by(iterate 84 refine U::?_);exact[x92,x93,x94,U,U,U,U,U,U,U,U,U])) h e
abbrev yiD:zI:=[.code (.seq (.seq (.ae B1) (.block 6 wL (.loop wz t_))) (.seq (.ae wG) .ret))]
abbrev yiE(x1 x2 x3 x7 x79 x80 x81:AV)(h:List Ob)(e:Cx:=cx):ar:=bl mT (.code wB::.inLoop B4 wB::.inBlock 4 rN::yiD) (U::x1::x2::x3::U::U::U::x7::(by(iterate 71 refine U::?_);exact x79::x80::x81::(by(iterate 22 refine U::?_);exact[]))) h e
abbrev yiF:zI:=[.code (.seq (.seq (.ae GP) (.block 4 rN (.loop B4 wB))) (.seq (.seq (.ae B1) (.block 6 wL (.loop wz t_))) (.seq (.ae wG) .ret)))]
abbrev yiG(x1 x2 x3 x7 x60 x61 x62:AV)(h:List Ob)(e:Cx:=cx):ar:=bl mT (.code Bi::.inLoop HG Bi::.inBlock 2 rN::yiF) (U::x1::x2::x3::U::U::U::x7::(by(iterate 52 refine U::?_);exact x60::x61::x62::(by(iterate 41 refine U::?_);exact[]))) h e
abbrev yiH:zI:=[.code (.seq (.ae QQ) (.seq (.ae Q6) (.seq (.seq (.ae PH) (.block 2 rN (.loop HG Bi))) (.seq (.seq (.ae GP) (.block 4 rN (.loop B4 wB))) (.seq (.seq (.ae B1) (.block 6 wL (.loop wz t_))) (.seq (.ae wG) .ret))))))]
abbrev yiI(x1 x2 x3 x42 x43 x44:AV)(h:List Ob)(e:Cx:=cx):ar:=bl mT (.code Ht::.inLoop Pc Ht::.inBlock 0 PO::yiH) (U::x1::x2::x3::(by(iterate 38 refine U::?_);exact x42::x43::x44::(by(iterate 59 refine U::?_);exact[]))) h e
@[simp] theorem I6:aA Tryz.prog mT=some Xz:=by kernel_rfl
@[simp] theorem awc:au Tryz.prog mT=true:=by kernel_rfl
abbrev Qu:zB:=O::I::(by(iterate 68 refine O::?_);exact I::I::I::(by(iterate 30 refine O::?_);exact[]))
abbrev PN:zB:=(by(iterate 103 refine O::?_);exact[])
abbrev yiM:zR:=[bx 102 72 1,ab 72 102]
abbrev yiP:zR:=[o 82 (.gu 2 1 (.t 7) (.c (.int .i64 0))),ai 83 1 82,o 84 (.cmp .lss (.sc .int) (.t 83) (.c (.int .i64 0))),ab 85 84,on 86 85 (.gu 2 1 (.t 7) (.c (.int .i64 1))),on 87 85 (.load false 1 (.t 86)),on 88 85 (.cmp .lss (.sc .int) (.t 87) (.c (.int .i64 0))),o 89 (.pick (.t 85) (.c (.bool true)) (.t 88)),ab 90 89,on 91 90 (.gu 2 1 (.t 7) (.c (.int .i64 0))),on 92 90 (.load false 1 (.t 91)),on 93 90 (.mv (.t 8)),on 94 90 (.cmp .geq (.sc .int) (.t 92) (.t 93)),o 95 (.pick (.t 90) (.c (.bool true)) (.t 94)),ab 96 95,on 97 96 (.gu 2 1 (.t 7) (.c (.int .i64 1))),on 98 96 (.load false 1 (.t 97)),on 99 96 (.mv (.t 8)),on 100 96 (.cmp .geq (.sc .int) (.t 98) (.t 99)),o 101 (.pick (.t 96) (.c (.bool true)) (.t 100))]
abbrev yiQ:zR:=[aJ 77 5 1,aU 78 kD 77,ab 79 6,o 80 (.bD .add (.t 78) (.t 79)),o 81 (.bD .mul (.c (.int .i64 2)) (.t 80)),ab 8 81]
abbrev yiR:zR:=[ab 74 72,aZ 75 2 70 72,aJ 76 2 75,o 7 (.alloc [.int .i64 0,.int .i64 0]),ab 6 74,aL 2 7 76]
abbrev yiS:ah:=.seq (.ae yiR) (.seq (.ae yiQ) (.seq (.ae yiP) (.cond (.t 101) Gm .skip)))
abbrev yiT:zR:=[cJ 73 72 71]
abbrev G_:ah:=.seq (.ae yiT) (.seq (.cond (.t 73) .skip (.exit 0)) (.seq (.block 1 [] yiS) (.ae yiM)))
abbrev yiV:zR:=[ak 69 3 1,ai 70 1 69,aP 71 70,aO 72 0]
abbrev yiY:zR:=[ak 44 2 1,ai 45 1 44,aP 46 45,ak 47 1 1,ai 48 1 47,aP 49 48,o 50 (.cmp .neq (.sc .int) (.t 46) (.t 49)),ab 51 50,on 52 51 (.off 2 (.t 1)),on 53 51 (.load false 1 (.t 52)),on 54 51 (.mv (.t 5)),on 55 51 (.call (.f r8) [.t 53,.t 54]),o 56 (.pick (.t 51) (.c (.bool true)) (.t 55)),ab 57 56,on 58 57 (.off 1 (.t 1)),on 59 57 (.load false 1 (.t 58)),on 60 57 (.mv (.t 4)),on 61 57 (.call (.f r8) [.t 59,.t 60]),o 62 (.pick (.t 57) (.c (.bool true)) (.t 61)),ab 63 62,on 64 63 (.off 4 (.t 1)),on 65 63 (.load false 1 (.t 64)),on 66 63 (.mv (.t 4)),on 67 63 (.call (.f r8) [.t 65,.t 66]),o 68 (.pick (.t 63) (.c (.bool true)) (.t 67))]
abbrev yiZ:zR:=[o 5 (.mv (.f xL))]
abbrev yja:zR:=[o 43 (.fA (.func xK) [] [.t 3]),ab 4 43]
abbrev yjb:zR:=[aJ 36 5 1,aU 37 kD 36,ak 38 3 1,ai 39 1 38,aP 40 39,o 41 (.bD .add (.t 37) (.t 40)),o 42 (.bD .mul (.c (.int .i64 2)) (.t 41)),o 3 (.alloc [.int .i64 0]),aL 1 3 42]
abbrev yjc:zR:=[aO 2 8]
abbrev yjd:ah:=.seq (.ae yjc) .ret
abbrev yje:zR:=[ak 9 0 1,ai 10 1 9,o 11 (.cmp .lss (.sc .int) (.t 10) (.c (.int .i64 0))),ab 12 11,on 13 12 (.off 0 (.t 1)),on 14 12 (.load false 1 (.t 13)),on 15 12 (.cmp .gtr (.sc .int) (.t 14) (.c (.int .i64 4000))),o 16 (.pick (.t 12) (.c (.bool true)) (.t 15)),ab 17 16,on 18 17 (.off 0 (.t 1)),on 19 17 (.load false 1 (.t 18)),on 20 17 (.off 1 (.t 1)),on 21 17 (.load false 1 (.t 20)),on 22 17 (.len (.t 21)),on 23 17 (.bD .add (.t 19) (.t 22)),on 24 17 (.off 3 (.t 1)),on 25 17 (.load false 1 (.t 24)),on 26 17 (.len (.t 25)),on 27 17 (.bD .add (.t 23) (.t 26)),on 28 17 (.cmp .gtr (.sc .int) (.t 27) (.c (.int .i64 4000))),o 29 (.pick (.t 17) (.c (.bool true)) (.t 28)),ab 30 29,on 31 30 (.off 4 (.t 1)),on 32 30 (.load false 1 (.t 31)),on 33 30 (.len (.t 32)),on 34 30 (.cmp .gtr (.sc .int) (.t 33) (.c (.int .i64 4000))),o 35 (.pick (.t 30) (.c (.bool true)) (.t 34))]
abbrev QA:zR:=[o 1 (.box 5 (.t 0)),aO 2 0]
abbrev Xe:aB:=⟨.seq (.ae QA) (.seq (.seq (.ae yje) (.cond (.t 35) yjd .skip)) (.seq (.aQ [I,I,O,I,O,O,O,O,O] [9,9,9,9,9,9,9,9,10] yjb) (.seq (.ae yja) (.seq (.ae yiZ) (.seq (.seq (.ae yiY) (.cond (.t 68) Gm .skip)) (.seq (.seq (.ae yiV) (.block 0 PN (.loop Qu G_))) (.seq (.ae wC) .ret))))))),103,[.tmp 2]⟩
abbrev yjh(x1 x70 x71 x72:AV)(h:List Ob)(e:Cx:=cx):ar:=bl nW (.code G_::.inLoop Qu G_::.inBlock 0 PN::PJ) (U::x1::(by(iterate 68 refine U::?_);exact x70::x71::x72::(by(iterate 30 refine U::?_);exact[]))) h e
@[simp] theorem UZ:aA Tryz.prog nW=some Xe:=by kernel_rfl
@[simp] theorem awf:au Tryz.prog nW=true:=by kernel_rfl
abbrev yji:zR:=[ab 3 0,o 4 (.call (.f o8) [.t 3,.f xM]),ab 2 4]
abbrev jm:zR:=[kp 2]
abbrev XK:aB:=⟨.seq (.ae jm) (.seq (.ae yji) .ret),5,[.tmp 2]⟩
@[simp] theorem Vo:aA Tryz.prog sE=some XK:=by kernel_rfl
@[simp] theorem avR:au Tryz.prog sE=true:=by kernel_rfl
abbrev PT:zB:=[O,O,O,I,O,O,O,I,I,I,O,O,O,O,O,O,O,O,O]
abbrev yjn:zR:=[bx 18 9 1,ab 9 18]
abbrev yjo:zR:=[ab 16 3,ab 17 5,q (.bE (.sc .str) (.t 16) (.t 17) (.c (.bool true)))]
abbrev yjp:zR:=[o 2 (.mv (.c (.bool true)))]
abbrev yjq:ah:=.seq (.ae yjp) .ret
abbrev yjr:zR:=[ab 13 3,ab 14 5,o 15 (.lookup (.sc .str) (.bool false) (.t 13) (.t 14) false)]
abbrev O3:zR:=[aZ 11 1 7 9,ai 12 1 11,ab 5 12]
abbrev yjt:ah:=.seq (.ae O3) (.seq (.seq (.ae yjr) (.cond (.t 15) yjq .skip)) (.ae yjo))
abbrev HX:ah:=.seq (.ae wQ) (.seq (.cond (.t 10) .skip (.exit 0)) (.seq (.block 1 [] yjt) (.ae yjn)))
abbrev Gp:zR:=[o 6 (.mkMap),ab 3 6]
abbrev UW:aB:=⟨.seq (.ae jm) (.seq (.ae Gp) (.seq (.seq (.ae Bn) (.block 0 lW (.loop PT HX))) (.seq (.ae jm) .ret))),19,[.tmp 2]⟩
abbrev yjz:zI:=[.code (.seq (.ae jm) .ret)]
abbrev yjA(x3 x7 x8 x9:AV)(h:List Ob)(e:Cx:=cx):ar:=bl so (.code HX::.inLoop PT HX::.inBlock 0 lW::yjz) [U,U,U,x3,U,U,U,x7,x8,x9,U,U,U,U,U,U,U,U,U] h e
@[simp] theorem Ua:aA Tryz.prog so=some UW:=by kernel_rfl
@[simp] theorem avb:au Tryz.prog so=true:=by kernel_rfl
abbrev p5:zR:=[ab 35 6,ab 2 35]
abbrev nD:zB:=O::O::O::O::O::O::I::(by(iterate 18 refine O::?_);exact[I,I,I,O,O,O,O,O,O,O,O])
abbrev nz:zB:=O::O::O::O::O::O::I::(by(iterate 29 refine O::?_);exact[])
abbrev B3:zR:=[bx 34 27 1,ab 27 34]
abbrev yjF:zR:=[ab 31 6,ab 32 8,o 33 (.append 1 aD 16 (.t 31) (.t 32)),ab 6 33]
abbrev By:zR:=[aZ 29 1 25 27,ai 30 1 29,ab 8 30]
abbrev yjH:ah:=.seq (.ae By) (.ae yjF)
abbrev BP:ah:=.seq (.ae tY) (.seq (.cond (.t 28) .skip (.exit 2)) (.seq (.block 3 [] yjH) (.ae B3)))
abbrev rO:zR:=[ab 25 0,aP 26 25,aO 27 0]
abbrev Pq:zR:=[ab 23 3,o 24 (.call (.f Cn) [.c (.list true 0 []),.t 23]),ab 6 24]
abbrev rP:zB:=I::O::O::I::O::O::O::O::O::I::I::I::(by(iterate 24 refine O::?_);exact[])
abbrev rJ:zB:=I::O::O::I::(by(iterate 32 refine O::?_);exact[])
abbrev yjO:zR:=[bx 22 11 1,ab 11 22]
abbrev yjP:zR:=[o 21 (.kH aD (.c (.str [108,101,110,32,111,117,116,32,111,102,32,114,97,110,103,101]))),q (.panic (.t 21))]
abbrev yjQ:zR:=[ab 19 3,o 20 (.cmp .lss (.sc .int) (.t 19) (.c (.int .i64 0)))]
abbrev yjR:zR:=[ab 15 3,ab 16 5,aP 17 16,o 18 (.bD .add (.t 15) (.t 17)),ab 3 18]
abbrev yjS:zR:=[aZ 13 1 9 11,ai 14 1 13,ab 5 14]
abbrev yjT:ah:=.seq (.ae yjS) (.seq (.ae yjR) (.seq (.ae yjQ) (.cond (.t 20) (.ae yjP) .skip)))
abbrev yjU:zR:=[cJ 12 11 10]
abbrev nA:ah:=.seq (.ae yjU) (.seq (.cond (.t 12) .skip (.exit 0)) (.seq (.block 1 [] yjT) (.ae yjO)))
abbrev BF:zR:=[ab 9 0,aP 10 9,aO 11 0]
abbrev rQ:zR:=[aO 3 0]
abbrev R2:aB:=⟨.seq (.ae GH) (.seq (.ae rQ) (.seq (.seq (.ae BF) (.block 0 rJ (.loop rP nA))) (.seq (.ae Pq) (.seq (.seq (.ae rO) (.block 2 nz (.loop nD BP))) (.seq (.ae p5) .ret))))),36,[.tmp 2]⟩
abbrev Gd:zI:=[.code (.seq (.ae p5) .ret)]
abbrev O8(x6 x25 x26 x27:AV)(h:List Ob)(e:Cx:=cx):ar:=bl l9 (.code BP::.inLoop nD BP::.inBlock 2 nz::Gd) (U::U::U::U::U::U::x6::(by(iterate 18 refine U::?_);exact[x25,x26,x27,U,U,U,U,U,U,U,U])) h e
abbrev ykb:zI:=[.code (.seq (.ae Pq) (.seq (.seq (.ae rO) (.block 2 nz (.loop nD BP))) (.seq (.ae p5) .ret)))]
abbrev QV(x0 x3 x9 x10 x11:AV)(h:List Ob)(e:Cx:=cx):ar:=bl l9 (.code nA::.inLoop rP nA::.inBlock 0 rJ::ykb) (x0::U::U::x3::U::U::U::U::U::x9::x10::x11::(by(iterate 24 refine U::?_);exact[])) h e
@[simp] theorem Io:aA Tryz.prog l9=some R2:=by kernel_rfl
@[simp] theorem atF:au Tryz.prog l9=true:=by kernel_rfl
abbrev HQ:zR:=[ai 20 1 3,ab 2 20]
abbrev Qn:zR:=[ab 4 15]
abbrev ykf:zR:=[ai 16 1 3,ab 17 4,o 18 (.bD .shr (.t 17) (.c (.int .u64 1))),aZ 19 1 16 18,q (.store 1 (.t 19) (.c (.bool true)))]
abbrev Pr:ah:=.block 1 [] (.ae ykf)
abbrev OM:ah:=.rangeFunc (.t 14) [15] (O::O::I::I::(by(iterate 17 refine O::?_);exact[])) (.ae Qn) Pr
abbrev Ra:zR:=[aJ 12 5 1,ai 13 1 3,cE 14 CO 12 13]
abbrev ykj:zR:=[aJ 5 5 1,aU 6 kD 5,ak 7 3 1,ai 8 1 7,aP 9 8,o 10 (.bD .add (.t 6) (.t 9)),o 11 (.mkSlice 1 cA 1 (.bool false) (.t 10) (.t 10)),o 3 (.alloc [.own 1 cA []]),aL 1 3 11]
abbrev ykk:zR:=[o 1 (.box 5 (.t 0)),o 2 (.bA 1 cA)]
abbrev aah:aB:=⟨.seq (.ae ykk) (.seq (.ea [[],[0],[],[2],[3],[1,4],[5,5],[],[7,6,1,0,1,2,3,4,5,6,7]] ykj) (.seq (.seq (.ae Ra) (.block 0 [] OM)) (.seq (.ae HQ) .ret))),21,[.tmp 2]⟩
@[simp] theorem X7:aA Tryz.prog qL=some aah:=by kernel_rfl
@[simp] theorem aw2:au Tryz.prog qL=true:=by kernel_rfl
abbrev ykl:zR:=[ak 3 0 1,ai 4 1 3,o 5 (.bD .add (.c (.int .i64 1)) (.t 4)),ak 6 1 1,ai 7 1 6,aP 8 7,o 9 (.bD .add (.t 5) (.t 8)),ab 2 9]
abbrev WJ:aB:=⟨.seq (.ae QA) (.seq (.ae ykl) .ret),10,[.tmp 2]⟩
@[simp] theorem Jg:aA Tryz.prog kD=some WJ:=by kernel_rfl
@[simp] theorem av4:au Tryz.prog kD=true:=by kernel_rfl
abbrev ykn:zR:=[aJ 14 4 1,aJ 15 4 1,aU 16 n3 15,ab 17 4,o 18 (.build [.list true 0 [],.list true 0 [],.list true 0 [],.list true 0 [],.list true 0 [],.list true 0 []] [(0,4,.t 14),(4,1,.t 16),(5,1,.t 17)]),o 19 (.box 6 (.t 18)),ab 2 19,aO 3 0]
abbrev yko:zR:=[aJ 10 4 1,aU 11 ma 10,ab 9 11,bf 12 9 0,bf 13 9 1,ab 4 12,ab 5 13]
abbrev ykp:zR:=[o 2 (.mv (.c .iM)),aO 3 1]
abbrev ykq:ah:=.seq (.ae ykp) .ret
abbrev ykr:zR:=[aJ 6 4 1,aU 7 CP 6,o 8 (.not (.t 7))]
abbrev yks:zR:=[o 1 (.box 4 (.t 0)),o 2 (.mv (.c .iM)),aO 3 0]
abbrev Wg:aB:=⟨.seq (.ae yks) (.seq (.seq (.ae ykr) (.cond (.t 8) ykq .skip)) (.seq (.ae yko) (.seq (.aQ [I,O,O,O,O,O,O,O] [6,3,6,6,6,9,9,9] ykn) .ret))),20,[.tmp 2,.tmp 3]⟩
@[simp] theorem avN:aA Tryz.prog xT=some Wg:=by kernel_rfl
@[simp] theorem avC:au Tryz.prog xT=true:=by kernel_rfl
abbrev ykt:zR:=[ab 42 9,ab 43 0,o 44 (.cg (.t 43)),ak 45 0 44,ak 46 1 45,ai 47 1 46,cE 48 xZ 42 47,ab 49 11,ab 6 48,ab 7 49,aO 8 0]
abbrev yku:zB:=I::O::O::O::O::O::O::O::O::I::O::I::(by(iterate 16 refine O::?_);exact I::I::I::(by(iterate 19 refine O::?_);exact[]))
abbrev ykv:zB:=I::O::O::O::O::O::O::O::O::I::O::I::(by(iterate 38 refine O::?_);exact[])
abbrev ykw:zR:=[bx 41 30 1,ab 30 41]
abbrev ykx:zR:=[ab 34 11,ab 35 9,ak 36 1 13,ai 37 1 36,o 38 (.lookup (.sc .str) (.bool false) (.t 35) (.t 37) false),o 39 (.lit 1 [.bool false] [(0,.t 38)]),o 40 (.append 1 cA 1 (.t 34) (.t 39)),ab 11 40]
abbrev yky:zR:=[aZ 32 3 28 30,aJ 33 3 32,o 13 (.alloc [.str [],.str [],.int .i64 0]),aL 3 13 33]
abbrev ykz:ah:=.seq (.ae yky) (.ae ykx)
abbrev ykA:zR:=[cJ 31 30 29]
abbrev ykB:ah:=.seq (.ae ykA) (.seq (.cond (.t 31) .skip (.exit 0)) (.seq (.block 1 [] ykz) (.ae ykw)))
abbrev ykC:zR:=[ab 24 0,o 25 (.cg (.t 24)),ak 26 0 25,ak 27 2 26,ai 28 1 27,aP 29 28,aO 30 0]
abbrev ykD:zR:=[o 11 (.bA 1 cA)]
abbrev ykE:zR:=[ab 23 10,o 6 (.bA 1 cA),o 7 (.bA 1 cA),ab 8 23]
abbrev ykF:ah:=.seq (.ae ykE) .ret
abbrev ykG:zR:=[ab 21 10,o 22 (.cmp .neq (.sc .int) (.t 21) (.c (.int .i64 0)))]
abbrev ykH:zR:=[ab 15 0,ab 16 1,ab 17 2,o 18 (.call (.f Cv) [.t 15,.t 16,.t 17]),ab 14 18,bf 19 14 0,bf 20 14 1,ab 9 19,ab 10 20]
abbrev ykI:zR:=[o 6 (.bA 1 cA),o 7 (.bA 1 cA),aO 8 0]
abbrev S3:aB:=⟨.seq (.ae ykI) (.seq (.ae ykH) (.seq (.seq (.ae ykG) (.cond (.t 22) ykF .skip)) (.seq (.ae ykD) (.seq (.seq (.ae ykC) (.block 0 ykv (.loop yku ykB))) (.seq (.ae ykt) .ret))))),50,[.tmp 6,.tmp 7,.tmp 8]⟩
@[simp] theorem aut:aA Tryz.prog xx=some S3:=by kernel_rfl
@[simp] theorem aun:au Tryz.prog xx=true:=by kernel_rfl
abbrev ykJ:zR:=[ab 56 9,ab 6 56,aO 7 0]
abbrev ykK:zB:=O::O::O::O::O::O::O::O::O::I::(by(iterate 26 refine O::?_);exact I::I::I::(by(iterate 18 refine O::?_);exact[]))
abbrev ykL:zB:=O::O::O::O::O::O::O::O::O::I::(by(iterate 47 refine O::?_);exact[])
abbrev ykM:zR:=[bx 55 38 1,ab 38 55]
abbrev ykN:zR:=[ab 42 9,ab 43 9,o 44 (.gu 2 1 (.t 11) (.c (.int .i64 0))),ai 45 1 44,cE 46 u0 43 45,ab 47 46,cK 48 47 9,oy 49 47 (.gu 2 1 (.t 11) (.c (.int .i64 1))),cz 50 47 1 49,oy 51 47 (.call (.f u0) [.t 48,.t 50]),bK 52 47 51,o 53 (.lit 1 [.bool false] [(0,.t 52)]),o 54 (.append 1 cA 1 (.t 42) (.t 53)),ab 9 54]
abbrev ykO:zR:=[aZ 40 2 36 38,aJ 41 2 40,o 11 (.alloc [.int .i64 0,.int .i64 0]),aL 2 11 41]
abbrev ykP:ah:=.seq (.ae ykO) (.ae ykN)
abbrev PQ:zR:=[cJ 39 38 37]
abbrev ykR:ah:=.seq (.ae PQ) (.seq (.cond (.t 39) .skip (.exit 0)) (.seq (.block 1 [] ykP) (.ae ykM)))
abbrev ykS:zR:=[ak 35 3 3,ai 36 1 35,aP 37 36,aO 38 0]
abbrev ykT:zR:=[o 30 (.lit 1 [.bool false] [(0,.c (.bool false))]),ab 31 2,ab 32 1,o 33 (.lit 1 [.list true 0 [],.list true 0 [],.list true 0 []] [(0,.t 30),(1,.t 31),(2,.t 32)]),aU 34 xo 33,ab 9 34]
abbrev ykU:zR:=[o 6 (.bA 1 cA),aO 7 11]
abbrev ykV:ah:=.seq (.ae ykU) .ret
abbrev ykW:zR:=[ab 17 1,aP 18 17,ak 19 1 3,ai 20 1 19,aP 21 20,o 22 (.cmp .neq (.sc .int) (.t 18) (.t 21)),ab 23 22,on 24 23 (.mv (.t 2)),on 25 23 (.len (.t 24)),on 26 23 (.off 0 (.t 3)),on 27 23 (.load false 1 (.t 26)),on 28 23 (.cmp .neq (.sc .int) (.t 25) (.t 27)),o 29 (.pick (.t 23) (.c (.bool true)) (.t 28))]
abbrev ykX:zR:=[ab 16 8,o 6 (.bA 1 cA),ab 7 16]
abbrev ykY:ah:=.seq (.ae ykX) .ret
abbrev ykZ:zR:=[ab 14 8,o 15 (.cmp .neq (.sc .int) (.t 14) (.c (.int .i64 0)))]
abbrev yla:zR:=[aJ 12 5 3,aU 13 nW 12,ab 8 13]
abbrev ylb:zR:=[o 3 (.box 5 (.t 0)),o 6 (.bA 1 cA),aO 7 0]
abbrev V2:aB:=⟨.seq (.ae ylb) (.seq (.seq (.ae yla) (.seq (.ae ykZ) (.cond (.t 15) ykY .skip))) (.seq (.seq (.ae ykW) (.cond (.t 29) ykV .skip)) (.seq (.ae ykT) (.seq (.seq (.ae ykS) (.block 0 ykL (.loop ykK ykR))) (.seq (.ae ykJ) .ret))))),57,[.tmp 6,.tmp 7]⟩
@[simp] theorem avx:aA Tryz.prog CS=some V2:=by kernel_rfl
@[simp] theorem avD:au Tryz.prog CS=true:=by kernel_rfl
abbrev ylh:zR:=[ab 13 4,ai 14 1 1,ab 15 6,cE 16 u0 14 15,o 17 (.lit 1 [.bool false] [(0,.t 16)]),o 18 (.append 1 cA 1 (.t 13) (.t 17)),ab 4 18]
abbrev ylj:ah:=.seq (.ae OZ) (.ae ylh)
abbrev yll:ah:=.seq (.ae wQ) (.seq (.cond (.t 10) .skip (.exit 0)) (.seq (.block 1 [] ylj) (.ae Qy)))
abbrev HU:zR:=[o 4 (.bA 1 cA)]
abbrev ylo:zR:=[o 3 (.bA 1 cA)]
abbrev V6:aB:=⟨.seq (.ae ylo) (.seq (.ae HU) (.seq (.seq (.ae Bn) (.block 0 Hj (.loop F_ yll))) (.seq (.ae F9) .ret))),21,[.tmp 3]⟩
@[simp] theorem avI:aA Tryz.prog CQ=some V6:=by kernel_rfl
@[simp] theorem avP:au Tryz.prog CQ=true:=by kernel_rfl
abbrev ylp:zR:=[ab 5 0,ab 6 1,o 7 (.bD .shr (.t 6) (.c (.int .u64 1))),aZ 8 1 5 7,ai 9 1 8,ab 10 1,o 11 (.bD .and (.t 10) (.c (.int .i64 1))),o 12 (.cmp .eql (.sc .int) (.t 11) (.c (.int .i64 1))),o 13 (.cmp .neq (.sc .bool) (.t 9) (.t 12)),ab 4 13]
abbrev Xy:aB:=⟨.seq (.ae yr) (.seq (.ae ylp) .ret),14,[.tmp 4]⟩
@[simp] theorem awk:aA Tryz.prog u0=some Xy:=by kernel_rfl
@[simp] theorem awx:au Tryz.prog u0=true:=by kernel_rfl
abbrev P_:zR:=[ab 10 3,o 11 (.cmp .eql (.sc .int) (.t 10) (.c (.int .i64 0))),ab 2 11]
abbrev yls:zR:=[aJ 6 4 1,aU 7 uR 6,ab 5 7,bf 8 5 0,bf 9 5 1,ab 3 8,ab 4 9]
abbrev Wu:aB:=⟨.seq (.ae wF) (.seq (.ae yls) (.seq (.ae P_) .ret)),12,[.tmp 2]⟩
@[simp] theorem avL:aA Tryz.prog CP=some Wu:=by kernel_rfl
@[simp] theorem avE:au Tryz.prog CP=true:=by kernel_rfl
abbrev ylu:zR:=[o 9 (.fA (.func Cq) [] [.t 6,.t 4,.t 5,.t 7]),ab 8 9]
abbrev ylv:zR:=[o 4 (.box 1 (.t 0)),o 5 (.box 1 (.t 1)),o 6 (.box 1 (.t 2)),o 7 (.box 1 (.t 3)),o 8 (.mv (.c .db))]
abbrev SP:aB:=⟨.seq (.ae ylv) (.seq (.ae ylu) .ret),10,[.tmp 8]⟩
@[simp] theorem aui:aA Tryz.prog Cw=some SP:=by kernel_rfl
@[simp] theorem auh:au Tryz.prog Cw=true:=by kernel_rfl
abbrev ylw:zR:=[o 5 (.lit 1 [] []),ab 6 0,o 7 (.append 1 cA 1 (.t 5) (.t 6)),ab 2 7]
abbrev Ga:zR:=[o 2 (.bA 1 cA)]
abbrev yly:ah:=.seq (.ae Ga) .ret
abbrev Si:aB:=⟨.seq (.ae Ga) (.seq (.seq (.ae Bv) (.cond (.t 4) yly .skip)) (.seq (.ae ylw) .ret)),8,[.tmp 2]⟩
@[simp] theorem atS:aA Tryz.prog Co=some Si:=by kernel_rfl
@[simp] theorem atQ:au Tryz.prog Co=true:=by kernel_rfl
abbrev uc:zB:=[I,I,O,O,O,O,O,O,O,O,O,O,I,I,O,O,O,O,O,O,O,O,O,O,O,O]
abbrev GA:zR:=[bx 25 13 1,ab 13 25]
abbrev ylH:zR:=[ab 16 0,ab 17 5,aZ 18 1 16 17,ai 19 1 18,ab 20 1,ab 21 5,aZ 22 1 20 21,ai 23 1 22,o 24 (.cmp .neq (.sc .int) (.t 19) (.t 23))]
abbrev HW:zR:=[ab 15 13,ab 5 15]
abbrev ylJ:ah:=.seq (.ae HW) (.seq (.aQ [O,O,O,O,O,O,O,O,O] [10,10,10,10,10,10,10,10,10] ylH) (.cond (.t 24) yu .skip))
abbrev tX:zR:=[cJ 14 13 12]
abbrev Hn:ah:=.seq (.ae tX) (.seq (.cond (.t 14) .skip (.exit 0)) (.seq (.block 1 [] ylJ) (.ae GA)))
abbrev B0:zR:=[ab 11 0,aP 12 11,aO 13 0]
abbrev Ss:aB:=⟨.seq (.ae yr) (.seq (.seq (.ae wK) (.cond (.t 10) yu .skip)) (.seq (.seq (.ae B0) (.block 0 oR (.loop uc Hn))) (.seq (.ae rK) .ret))),26,[.tmp 4]⟩
abbrev ylS(x0 x1 x12 x13:AV)(h:List Ob)(e:Cx:=cx):ar:=bl qv (.code Hn::.inLoop uc Hn::.inBlock 0 oR::BT) [x0,x1,U,U,U,U,U,U,U,U,U,U,x12,x13,U,U,U,U,U,U,U,U,U,U,U,U] h e
@[simp] theorem Sg:aA Tryz.prog qv=some Ss:=by kernel_rfl
@[simp] theorem atY:au Tryz.prog qv=true:=by kernel_rfl
abbrev ylZ:zR:=[ab 16 0,ab 17 5,aZ 18 2 16 17,aJ 19 2 18,ab 20 1,ab 21 5,aZ 22 2 20 21,aJ 23 2 22,o 24 (.cmp .neq (.iG [.int,.int]) (.t 19) (.t 23))]
abbrev ymb:ah:=.seq (.ae HW) (.seq (.aQ [O,O,O,O,O,O,O,O,O] [10,10,10,10,10,10,10,10,10] ylZ) (.cond (.t 24) yu .skip))
abbrev GN:ah:=.seq (.ae tX) (.seq (.cond (.t 14) .skip (.exit 0)) (.seq (.block 1 [] ymb) (.ae GA)))
abbrev Sb:aB:=⟨.seq (.ae yr) (.seq (.seq (.ae wK) (.cond (.t 10) yu .skip)) (.seq (.seq (.ae B0) (.block 0 oR (.loop uc GN))) (.seq (.ae rK) .ret))),26,[.tmp 4]⟩
abbrev ymk(x0 x1 x12 x13:AV)(h:List Ob)(e:Cx:=cx):ar:=bl uE (.code GN::.inLoop uc GN::.inBlock 0 oR::BT) [x0,x1,U,U,U,U,U,U,U,U,U,U,x12,x13,U,U,U,U,U,U,U,U,U,U,U,U] h e
@[simp] theorem R7:aA Tryz.prog uE=some Sb:=by kernel_rfl
@[simp] theorem atN:au Tryz.prog uE=true:=by kernel_rfl
abbrev ymr:zR:=[ab 16 0,ab 17 5,aZ 18 1 16 17,ai 19 1 18,ab 20 1,ab 21 5,aZ 22 1 20 21,ai 23 1 22,o 24 (.cmp .neq (.sc .str) (.t 19) (.t 23))]
abbrev ymt:ah:=.seq (.ae HW) (.seq (.aQ [O,O,O,O,O,O,O,O,O] [10,10,10,10,10,10,10,10,10] ymr) (.cond (.t 24) yu .skip))
abbrev GS:ah:=.seq (.ae tX) (.seq (.cond (.t 14) .skip (.exit 0)) (.seq (.block 1 [] ymt) (.ae GA)))
abbrev R6:aB:=⟨.seq (.ae yr) (.seq (.seq (.ae wK) (.cond (.t 10) yu .skip)) (.seq (.seq (.ae B0) (.block 0 oR (.loop uc GS))) (.seq (.ae rK) .ret))),26,[.tmp 4]⟩
abbrev ymC(x0 x1 x12 x13:AV)(h:List Ob)(e:Cx:=cx):ar:=bl qu (.code GS::.inLoop uc GS::.inBlock 0 oR::BT) [x0,x1,U,U,U,U,U,U,U,U,U,U,x12,x13,U,U,U,U,U,U,U,U,U,U,U,U] h e
@[simp] theorem RY:aA Tryz.prog qu=some R6:=by kernel_rfl
@[simp] theorem atJ:au Tryz.prog qu=true:=by kernel_rfl
abbrev Hi:zR:=[ab 62 6,ab 63 62,cK 64 63 7,bK 65 63 64,ab 66 65,oy 67 66 (.off 3 (.t 1)),cz 68 66 1 67,oy 69 66 (.len (.t 68)),oy 70 66 (.cmp .leq (.sc .int) (.t 69) (.c (.int .i64 210))),bK 71 66 70,ab 72 71,oy 73 72 (.off 2 (.t 1)),cz 74 72 1 73,oy 75 72 (.len (.t 74)),oy 76 72 (.cmp .leq (.sc .int) (.t 75) (.c (.int .i64 210))),bK 77 72 76,ab 2 77]
abbrev He:zR:=[ak 59 1 1,ai 60 1 59,o 61 (.call (.f pg) [.t 60,.c (.int .i64 210)]),ab 7 61]
abbrev HO:zR:=[ak 56 0 1,ai 57 1 56,o 58 (.call (.f pg) [.t 57,.c (.int .i64 210)]),ab 6 58]
abbrev Gj:zB:=O::I::O::O::O::I::(by(iterate 72 refine O::?_);exact[])
abbrev wM:zB:=O::I::(by(iterate 76 refine O::?_);exact[])
abbrev ymI:zR:=[ab 36 5,bx 37 36 1,ab 5 37]
abbrev F5:ah:=.seq (.ae jm) .ret
abbrev ymL:zR:=[ak 38 2 1,ai 39 1 38,ab 40 5,aZ 41 3 39 40,ak 42 0 41,ai 43 1 42,o 44 (.lx (.t 43)),o 45 (.cmp .gtr (.sc .int) (.t 44) (.c (.int .i64 60))),ab 46 45,on 47 46 (.off 2 (.t 1)),on 48 46 (.load false 1 (.t 47)),on 49 46 (.mv (.t 5)),on 50 46 (.iY 3 (.t 48) (.t 49)),on 51 46 (.off 1 (.t 50)),on 52 46 (.load false 1 (.t 51)),on 53 46 (.lx (.t 52)),on 54 46 (.cmp .gtr (.sc .int) (.t 53) (.c (.int .i64 60))),o 55 (.pick (.t 46) (.c (.bool true)) (.t 54))]
abbrev ymM:ah:=.seq (.ae ymL) (.cond (.t 55) F5 .skip)
abbrev ymN:zR:=[ab 27 5,ak 28 2 1,ai 29 1 28,aP 30 29,cJ 31 27 30,ab 32 31,cK 33 32 5,oy 34 32 (.cmp .leq (.sc .int) (.t 33) (.c (.int .i64 210))),bK 35 32 34]
abbrev BE:ah:=.seq (.seq (.ae ymN) (.cond (.t 35) .skip (.exit 2))) (.seq (.block 3 [] ymM) (.ae ymI))
abbrev Qq:zB:=O::I::O::I::(by(iterate 74 refine O::?_);exact[])
abbrev ymS:zR:=[ab 17 3,bx 18 17 1,ab 3 18]
abbrev ymV:zR:=[ab 25 4,o 26 (.not (.t 25))]
abbrev ymW:zR:=[ak 19 3 1,ai 20 1 19,ab 21 3,aZ 22 5 20 21,aJ 23 5 22,aU 24 xH 23,ab 4 24]
abbrev ymX:ah:=.seq (.ae ymW) (.seq (.ae ymV) (.cond (.t 26) F5 .skip))
abbrev ymY:zR:=[ab 8 3,ak 9 3 1,ai 10 1 9,aP 11 10,cJ 12 8 11,ab 13 12,cK 14 13 3,oy 15 13 (.cmp .leq (.sc .int) (.t 14) (.c (.int .i64 210))),bK 16 13 15]
abbrev GK:ah:=.seq (.seq (.ae ymY) (.cond (.t 16) .skip (.exit 0))) (.seq (.block 1 [] ymX) (.ae ymS))
abbrev aa8:aB:=⟨.seq (.ae wF) (.seq (.seq (.ae rQ) (.block 0 wM (.loop Qq GK))) (.seq (.seq (.ae qc) (.block 2 wM (.loop Gj BE))) (.seq (.ae HO) (.seq (.ae He) (.seq (.ae Hi) .ret))))),78,[.tmp 2]⟩
abbrev Q5:zI:=[.code (.seq (.ae HO) (.seq (.ae He) (.seq (.ae Hi) .ret)))]
abbrev ynd(x1 x5:AV)(h:List Ob)(e:Cx:=cx):ar:=bl qM (.code BE::.inLoop Gj BE::.inBlock 2 wM::Q5) (U::x1::U::U::U::x5::(by(iterate 72 refine U::?_);exact[])) h e
abbrev yne(x1:AV)(h:List Ob)(e:Cx:=cx):ar:=bl qM Q5 (U::x1::(by(iterate 76 refine U::?_);exact[])) h e
abbrev ynf:zI:=[.code (.seq (.seq (.ae qc) (.block 2 wM (.loop Gj BE))) (.seq (.ae HO) (.seq (.ae He) (.seq (.ae Hi) .ret))))]
abbrev yng(x1 x3:AV)(h:List Ob)(e:Cx:=cx):ar:=bl qM (.code GK::.inLoop Qq GK::.inBlock 0 wM::ynf) (U::x1::U::x3::(by(iterate 74 refine U::?_);exact[])) h e
@[simp] theorem XZ:aA Tryz.prog qM=some aa8:=by kernel_rfl
@[simp] theorem axi:au Tryz.prog qM=true:=by kernel_rfl
abbrev yni:zR:=[aJ 6 4 1,aU 7 mT 6,ab 5 7,bf 8 5 0,bf 9 5 1,ab 3 8,ab 4 9]
abbrev Vy:aB:=⟨.seq (.ae wF) (.seq (.ae yni) (.seq (.ae P_) .ret)),12,[.tmp 2]⟩
@[simp] theorem T0:aA Tryz.prog xJ=some Vy:=by kernel_rfl
@[simp] theorem avm:au Tryz.prog xJ=true:=by kernel_rfl
abbrev P0:zR:=[ab 20 3,ab 2 20]
abbrev Pe:zB:=[O,O,O,I,O,O,O,O,I,I,I,O,O,O,O,O,O,O,O,O,O]
abbrev PD:zB:=O::O::O::I::(by(iterate 17 refine O::?_);exact[])
abbrev ynn:zR:=[bx 19 10 1,ab 10 19]
abbrev yno:zR:=[ab 15 3,ak 16 0 5,ai 17 1 16,ab 18 4,q (.bE (.sc .str) (.t 15) (.t 17) (.t 18))]
abbrev ynp:zR:=[ab 12 10,aZ 13 5 8 10,aJ 14 5 13,o 5 (.alloc [.str [],.int .i64 0,.own 1 aD [],.own 1 aD [],.bool false]),ab 4 12,aL 5 5 14]
abbrev ynq:ah:=.seq (.ae ynp) (.ae yno)
abbrev HE:zR:=[cJ 11 10 9]
abbrev Hl:ah:=.seq (.ae HE) (.seq (.cond (.t 11) .skip (.exit 0)) (.seq (.block 1 [] ynq) (.ae ynn)))
abbrev ynt:zR:=[ak 7 3 1,ai 8 1 7,aP 9 8,aO 10 0]
abbrev ynv:zR:=[o 1 (.box 4 (.t 0)),o 2 (.mv (.c .cY))]
abbrev Uq:aB:=⟨.seq (.ae ynv) (.seq (.ae Gp) (.seq (.seq (.ae ynt) (.block 0 PD (.loop Pe Hl))) (.seq (.ae P0) .ret))),21,[.tmp 2]⟩
abbrev ynw:zI:=[.code (.seq (.ae P0) .ret)]
abbrev ynx(x3 x8 x9 x10:AV)(h:List Ob)(e:Cx:=cx):ar:=bl sn (.code Hl::.inLoop Pe Hl::.inBlock 0 PD::ynw) [U,U,U,x3,U,U,U,U,x8,x9,x10,U,U,U,U,U,U,U,U,U,U] h e
@[simp] theorem TK:aA Tryz.prog sn=some Uq:=by kernel_rfl
@[simp] theorem au7:au Tryz.prog sn=true:=by kernel_rfl
abbrev yny:zR:=[o 3 (.fA (.func mS) [] [.t 1]),ab 2 3]
abbrev ynz:zR:=[o 1 (.box 4 (.t 0)),o 2 (.mv (.c .db))]
abbrev UA:aB:=⟨.seq (.ae ynz) (.seq (.ae yny) .ret),4,[.tmp 2]⟩
@[simp] theorem TI:aA Tryz.prog CJ=some UA:=by kernel_rfl
@[simp] theorem au5:au Tryz.prog CJ=true:=by kernel_rfl
abbrev Qt:zR:=[ab 42 7,aU 43 gY 42,ab 4 43,aO 5 0]
abbrev Pb:zB:=O::O::O::O::O::O::O::I::(by(iterate 19 refine O::?_);exact I::I::I::(by(iterate 14 refine O::?_);exact[]))
abbrev Qj:zB:=O::O::O::O::O::O::O::I::(by(iterate 36 refine O::?_);exact[])
abbrev ynD:zR:=[bx 41 29 1,ab 29 41]
abbrev ynE:zR:=[ab 37 7,ab 38 9,o 39 (.lit 1 [.str []] [(0,.t 38)]),o 40 (.append 1 aD 16 (.t 37) (.t 39)),ab 7 40]
abbrev ynF:zR:=[ab 33 7,ab 34 9,cE 35 xh 33 34,o 36 (.not (.t 35))]
abbrev ynG:zR:=[aZ 31 1 27 29,ai 32 1 31,ab 9 32]
abbrev ynH:ah:=.seq (.ae ynG) (.seq (.ae ynF) (.cond (.t 36) (.ae ynE) .skip))
abbrev ynI:zR:=[cJ 30 29 28]
abbrev GV:ah:=.seq (.ae ynI) (.seq (.cond (.t 30) .skip (.exit 0)) (.seq (.block 1 [] ynH) (.ae ynD)))
abbrev ynK:zR:=[ab 27 0,aP 28 27,aO 29 0]
abbrev ynM:zR:=[o 4 (.bA 3 aR),aO 5 1]
abbrev ynN:ah:=.seq (.ae ynM) .ret
abbrev ynO:zR:=[ai 11 1 3,o 12 (.cmp .lss (.sc .int) (.t 11) (.c (.int .i64 0))),ab 13 12,on 14 13 (.load false 1 (.t 3)),on 15 13 (.cmp .gtr (.sc .int) (.t 14) (.c (.int .i64 8))),o 16 (.pick (.t 13) (.c (.bool true)) (.t 15)),ab 17 16,on 18 17 (.mv (.t 0)),on 19 17 (.len (.t 18)),on 20 17 (.cmp .gtr (.sc .int) (.t 19) (.c (.int .i64 128))),o 21 (.pick (.t 17) (.c (.bool true)) (.t 20)),ab 22 21,on 23 22 (.mv (.t 0)),on 24 22 (.mv (.t 6)),on 25 22 (.call (.f o8) [.t 23,.t 24]),o 26 (.pick (.t 22) (.c (.bool true)) (.t 25))]
abbrev ynP:zR:=[o 10 (.fA (.func xD) [] [.t 3]),ab 6 10]
abbrev ynQ:zR:=[o 3 (.box 1 (.t 1)),o 4 (.bA 3 aR),aO 5 0]
abbrev UE:aB:=⟨.seq (.ae ynQ) (.seq (.ae ynP) (.seq (.seq (.ae ynO) (.cond (.t 26) ynN .skip)) (.seq (.ae OU) (.seq (.seq (.ae ynK) (.block 0 Qj (.loop Pb GV))) (.seq (.ae Qt) .ret))))),44,[.tmp 4,.tmp 5]⟩
abbrev ynR:zI:=[.code (.seq (.ae Qt) .ret)]
abbrev ynS(x7 x27 x28 x29:AV)(h:List Ob)(e:Cx:=cx):ar:=bl uQ (.code GV::.inLoop Pb GV::.inBlock 0 Qj::ynR) (U::U::U::U::U::U::U::x7::(by(iterate 19 refine U::?_);exact x27::x28::x29::(by(iterate 14 refine U::?_);exact[]))) h e
@[simp] theorem TQ:aA Tryz.prog uQ=some UE:=by kernel_rfl
@[simp] theorem au8:au Tryz.prog uQ=true:=by kernel_rfl
abbrev Pz:zR:=[ab 61 0,ab 62 10,cE 63 sd 61 62,ab 64 9,ab 6 63,ab 7 64]
abbrev ynU:zR:=[ab 57 0,ab 58 10,cE 59 sb 57 58,ab 60 9,ab 6 59,ab 7 60]
abbrev Pm:ah:=.seq (.ae ynU) .ret
abbrev Qp:zR:=[ak 54 0 8,ai 55 1 54,o 56 (.cmp .eql (.sc .int) (.t 55) (.c (.int .i64 3)))]
abbrev OT:zB:=I::O::I::O::O::O::O::O::I::I::I::(by(iterate 28 refine O::?_);exact I::I::(by(iterate 24 refine O::?_);exact[]))
abbrev PM:zB:=I::O::O::O::O::O::O::O::I::I::I::(by(iterate 54 refine O::?_);exact[])
abbrev ynZ:zR:=[bx 53 40 1,ab 40 53]
abbrev yoa:zR:=[ab 49 10,ab 50 11,o 51 (.lit 1 [.int .i64 0] [(0,.t 50)]),o 52 (.append 1 aq 8 (.t 49) (.t 51)),ab 10 52]
abbrev yob:zR:=[ab 43 0,ab 44 9,ab 45 2,o 46 (.call (.f sa) [.t 43,.t 44,.t 45]),ab 42 46,bf 47 42 0,bf 48 42 1,ab 11 47,ab 9 48]
abbrev yoc:zR:=[aO 11 0]
abbrev yod:ah:=.seq (.ae yoc) (.seq (.ae yob) (.ae yoa))
abbrev QY:zR:=[cJ 41 40 39]
abbrev HH:ah:=.seq (.ae QY) (.seq (.cond (.t 41) .skip (.exit 1)) (.seq (.block 2 [] yod) (.ae ynZ)))
abbrev yog:zR:=[ak 38 2 8,ai 39 1 38,aO 40 0]
abbrev yoh:zR:=[o 10 (.bA 1 aq)]
abbrev yoi:zR:=[ak 22 0 8,ai 23 1 22,ab 24 9,ab 6 23,ab 7 24]
abbrev yoj:zR:=[ab 27 2,ak 28 1 8,ai 29 1 28,o 30 (.bD .shr (.t 29) (.c (.int .u64 1))),aZ 31 1 27 30,ai 32 1 31,ak 33 1 8,ai 34 1 33,o 35 (.bD .and (.t 34) (.c (.int .i64 1))),o 36 (.bD .xor (.t 32) (.t 35)),ab 37 9,ab 6 36,ab 7 37]
abbrev yok:ah:=.seq (.aQ [O,O,O,O,O,O,O,O,O,O,O,O,O] [14,14,14,14,14,14,14,14,14,14,14,14,14] yoj) .ret
abbrev yol:zR:=[o 26 (.cmp .eql (.sc .int) (.t 18) (.c (.int .i64 2))),ab 25 26]
abbrev yom:ah:=.seq (.ae yoi) .ret
abbrev yon:ah:=.seq (.ae yol) (.cond (.t 25) yok .skip)
abbrev yoo:zR:=[o 21 (.cmp .eql (.sc .int) (.t 18) (.c (.int .i64 1))),ab 19 21]
abbrev yop:zR:=[o 20 (.cmp .eql (.sc .int) (.t 18) (.c (.int .i64 0))),ab 19 20]
abbrev yoq:ah:=.seq (.seq (.ae yop) (.cond (.t 19) .skip (.ae yoo))) (.cond (.t 19) yom yon)
abbrev yor:zR:=[ak 17 0 8,ai 18 1 17]
abbrev yos:zR:=[ab 12 1,o 13 (.iY 3 (.t 12) (.c (.int .i64 0))),aJ 14 3 13,ab 15 1,o 16 (.slice 3 (.t 15) (some (.c (.int .i64 1))) none),o 8 (.alloc [.int .i64 0,.int .i64 0,.int .i64 0]),aL 3 8 14,ab 9 16]
abbrev yot:zR:=[aO 6 0,o 7 (.bA 3 aR)]
abbrev SW:aB:=⟨.seq (.ae yot) (.seq (.aQ [O,O,I,O,I,O,O,O] [7,7,7,9,9,7,9,9] yos) (.seq (.seq (.ae yor) (.block 0 [] yoq)) (.seq (.ae yoh) (.seq (.seq (.ae yog) (.block 1 PM (.loop OT HH))) (.seq (.seq (.ae Qp) (.cond (.t 56) Pm .skip)) (.seq (.ae Pz) .ret)))))),65,[.tmp 6,.tmp 7]⟩
abbrev you:zI:=[.code (.seq (.seq (.ae Qp) (.cond (.t 56) Pm .skip)) (.seq (.ae Pz) .ret))]
abbrev yov(x0 x2 x8 x9 x10 x39 x40:AV)(h:List Ob)(e:Cx:=cx):ar:=bl sa (.code HH::.inLoop OT HH::.inBlock 1 PM::you) (x0::U::x2::U::U::U::U::U::x8::x9::x10::(by(iterate 28 refine U::?_);exact x39::x40::(by(iterate 24 refine U::?_);exact[]))) h e
@[simp] theorem Cy:aA Tryz.prog sa=some SW:=by kernel_rfl
@[simp] theorem auc:au Tryz.prog sa=true:=by kernel_rfl
abbrev OO:zR:=[ab 31 3,ab 2 31]
abbrev OW:zB:=O::O::O::I::O::O::O::O::O::O::O::O::O::O::O::I::I::(by(iterate 15 refine O::?_);exact[])
abbrev P8:zB:=O::O::O::I::(by(iterate 28 refine O::?_);exact[])
abbrev yoz:zR:=[bx 30 16 1,ab 16 30]
abbrev yoA:zR:=[ab 19 3,ab 20 3,o 21 (.cg (.t 20)),ak 22 6 21,ai 23 1 22,ab 24 4,o 25 (.bD .mul (.c (.int .i64 2)) (.t 24)),o 26 (.lit 1 [.int .i64 0] [(0,.t 25)]),o 27 (.append 1 aq 8 (.t 23) (.t 26)),o 28 (.cg (.t 19)),ak 29 6 28,aL 1 29 27]
abbrev yoB:zR:=[ab 18 16,ab 4 18]
abbrev yoC:ah:=.seq (.ae yoB) (.ae yoA)
abbrev BY:zR:=[cJ 17 16 15]
abbrev GO:ah:=.seq (.ae BY) (.seq (.cond (.t 17) .skip (.exit 0)) (.seq (.block 1 [] yoC) (.ae yoz)))
abbrev yoF:zR:=[aJ 14 5 1,aU 15 kD 14,aO 16 0]
abbrev yoG:zR:=[ak 5 0 1,ai 6 1 5,ak 7 1 1,ai 8 1 7,ak 9 2 1,ai 10 1 9,aU 11 xq 10,o 12 (.build [.int .i64 0,.list true 0 [],.list true 0 [],.list true 0 [],.list true 0 []] [(0,1,.t 6),(1,1,.t 8),(2,1,.t 11)]),aU 13 qE 12,ab 3 13]
abbrev PV:zR:=[o 1 (.box 5 (.t 0)),o 2 (.mv (.c .iM))]
abbrev X5:aB:=⟨.seq (.ae PV) (.seq (.aQ [O,I,O,I,O,O,O,O,O,O] [9,9,9,9,7,7,9,9,11,11] yoG) (.seq (.seq (.ae yoF) (.block 0 P8 (.loop OW GO))) (.seq (.ae OO) .ret))),32,[.tmp 2]⟩
abbrev Rb:zI:=[.code (.seq (.ae OO) .ret)]
abbrev yoJ(x3 x15 x16:AV)(h:List Ob)(e:Cx:=cx):ar:=bl sD (.code GO::.inLoop OW GO::.inBlock 0 P8::Rb) (U::U::U::x3::U::U::U::U::U::U::U::U::U::U::U::x15::x16::(by(iterate 15 refine U::?_);exact[])) h e
abbrev yoK(x3:AV)(h:List Ob)(e:Cx:=cx):ar:=bl sD Rb (U::U::U::x3::(by(iterate 28 refine U::?_);exact[])) h e
@[simp] theorem I2:aA Tryz.prog sD=some X5:=by kernel_rfl
@[simp] theorem awn:au Tryz.prog sD=true:=by kernel_rfl
abbrev yoL:zR:=[ab 76 10,ab 6 76]
abbrev yoM:zR:=[ab 70 0,o 71 (.cg (.t 70)),ak 72 5 71,ai 73 1 72,aJ 74 2 7,ab 75 10,q (.bE (.iG [.int,.int]) (.t 73) (.t 74) (.t 75))]
abbrev yoN:zR:=[ab 58 0,ab 59 0,o 60 (.cg (.t 59)),ak 61 0 60,ak 62 3 61,ai 63 1 62,aJ 64 2 7,o 65 (.lit 2 [.agg [.int .i64 0,.int .i64 0]] [(0,.t 64)]),o 66 (.append 2 cH 16 (.t 63) (.t 65)),o 67 (.cg (.t 58)),ak 68 0 67,ak 69 3 68,aL 1 69 66]
abbrev yoO:zR:=[ab 45 0,o 46 (.cg (.t 45)),ak 47 0 46,aJ 48 5 47,aU 49 kD 48,ab 50 0,o 51 (.cg (.t 50)),ak 52 0 51,ak 53 3 52,ai 54 1 53,aP 55 54,o 56 (.bD .add (.t 49) (.t 55)),o 57 (.bD .mul (.c (.int .i64 2)) (.t 56)),ab 10 57]
abbrev yoP:zR:=[ab 44 8,ab 6 44]
abbrev yoQ:ah:=.seq (.ae yoP) .ret
abbrev yoR:zR:=[ab 43 9]
abbrev yoS:zR:=[ab 35 0,o 36 (.cg (.t 35)),ak 37 5 36,ai 38 1 37,aJ 39 2 7,o 40 (.lookup (.iG [.int,.int]) (.int .i64 0) (.t 38) (.t 39) true),ab 34 40,bf 41 34 0,bf 42 34 1,ab 8 41,ab 9 42]
abbrev yoT:zR:=[ab 31 1,ab 32 2,o 33 (.build [.int .i64 0,.int .i64 0] [(0,1,.t 31),(1,1,.t 32)]),o 7 (.alloc [.int .i64 0,.int .i64 0]),aL 2 7 33]
abbrev Bq:zR:=[aO 6 0]
abbrev yoV:zR:=[ab 30 1,ab 6 30]
abbrev yoW:ah:=.seq (.ae yoV) .ret
abbrev yoX:zR:=[ab 27 1,ab 28 2,o 29 (.cmp .eql (.sc .int) (.t 27) (.t 28)),ab 24 29]
abbrev yoY:zR:=[ab 25 2,o 26 (.cmp .eql (.sc .int) (.t 25) (.c (.int .i64 1))),ab 24 26]
abbrev yoZ:ah:=.seq (.ae Bq) .ret
abbrev ypa:ah:=.seq (.seq (.ae yoY) (.cond (.t 24) .skip (.ae yoX))) (.cond (.t 24) yoW .skip)
abbrev ypb:zR:=[ab 20 1,o 21 (.bD .xor (.t 20) (.c (.int .i64 1))),ab 22 2,o 23 (.cmp .eql (.sc .int) (.t 21) (.t 22)),ab 17 23]
abbrev ypc:zR:=[ab 18 2,o 19 (.cmp .eql (.sc .int) (.t 18) (.c (.int .i64 0))),ab 17 19]
abbrev ypd:ah:=.seq (.seq (.ae ypc) (.cond (.t 17) .skip (.ae ypb))) (.cond (.t 17) yoZ ypa)
abbrev ype:zR:=[ab 11 1,ab 12 2,o 13 (.max [.t 11,.t 12]),ab 14 1,ab 15 2,o 16 (.min [.t 14,.t 15]),ab 1 13,ab 2 16]
abbrev TB:aB:=⟨.seq (.ae Bq) (.seq (.ae ype) (.seq (.block 0 [] ypd) (.seq (.ae yoT) (.seq (.seq (.aQ [O,O,O,O,O,O,O,O,O,O,O] [12,12,12,12,12,12,12,12,12,12,12] yoS) (.seq (.ae yoR) (.cond (.t 43) yoQ .skip))) (.seq (.aQ [O,O,O,O,O,O,O,O,O,I,O,O,O,O] [5,5,5,5,15,15,15,15,15,15,15,15,15,15] yoO) (.seq (.aQ [O,O,O,O,O,I,O,O,O,O,O,O,O] [13,9,9,9,9,9,8,9,13,13,13,13,14] yoN) (.seq (.aQ [O,O,O,O,O,O,O] [7,7,7,7,7,7,8] yoM) (.seq (.ae yoL) .ret)))))))),77,[.tmp 6]⟩
@[simp] theorem CD:aA Tryz.prog pa=some TB:=by kernel_rfl
@[simp] theorem auC:au Tryz.prog pa=true:=by kernel_rfl
abbrev ypg:zR:=[ab 5 0,o 6 (.cg (.t 5)),ak 7 6 6,ai 8 1 7,ab 9 1,o 10 (.bD .shr (.t 9) (.c (.int .u64 1))),aZ 11 1 8 10,ai 12 1 11,ab 13 1,o 14 (.bD .and (.t 13) (.c (.int .i64 1))),o 15 (.bD .xor (.t 12) (.t 14)),ab 4 15]
abbrev Tc:aB:=⟨.seq (.ae lS) (.seq (.ae ypg) .ret),16,[.tmp 4]⟩
@[simp] theorem SM:aA Tryz.prog mR=some Tc:=by kernel_rfl
@[simp] theorem auz:au Tryz.prog mR=true:=by kernel_rfl
abbrev ypi:zR:=[ab 21 0,o 22 (.cg (.t 21)),ak 23 0 22,aJ 24 5 23,aL 5 4 24]
abbrev ypj:zR:=[ab 5 0,ab 6 0,ab 7 0,ak 8 1 3,ai 9 1 8,cE 10 qz 7 9,ab 11 0,ak 12 4 3,ai 13 1 12,cE 14 qz 11 13,o 15 (.cg (.t 5)),ak 16 0 15,ak 17 1 16,aL 1 17 10,o 18 (.cg (.t 6)),ak 19 0 18,ak 20 4 19,aL 1 20 14]
abbrev ypk:zR:=[o 3 (.box 5 (.t 1)),o 4 (.alloc [.int .i64 0,.own 1 aq [],.own 1 aq [],.own 2 cH [],.own 1 aq []])]
abbrev Tp:aB:=⟨.seq (.ae ypk) (.seq (.aQ [O,O,O,O,O,O,O,O,I,O,O,O,O,O,O,O,O,O] [14,18,6,6,6,10,10,10,10,14,14,14,14,18,18,18,18,19] ypj) (.seq (.ae ypi) .ret)),25,[.cell 4 true 5]⟩
@[simp] theorem IC:aA Tryz.prog xA=some Tp:=by kernel_rfl
@[simp] theorem auD:au Tryz.prog xA=true:=by kernel_rfl
abbrev ypl:zR:=[ak 10 0 2,ai 11 1 10,ak 12 1 2,ai 13 1 12,aL 1 0 11,aL 1 1 13]
abbrev ypm:zR:=[ab 9 3]
abbrev ypn:zR:=[o 5 (.recover),o 6 (.qY (.t 5) Dd (.agg [.int .i64 0,.str []]) true),ab 4 6,bf 7 4 0,bf 8 4 1,o 2 (.alloc [.int .i64 0,.str []]),aL 2 2 7,ab 3 8]
abbrev U0:aB:=⟨.seq (.ae ypn) (.seq (.ae ypm) (.cond (.t 9) (.aQ [O,O,O,I,O,O] [5,5,6,6,6,7] ypl) .skip)),14,[]⟩
@[simp] theorem avp:aA Tryz.prog xI=some U0:=by kernel_rfl
@[simp] theorem avg:au Tryz.prog xI=true:=by kernel_rfl
abbrev ypo:zR:=[ak 3 2 1,ai 4 1 3,aP 5 4,o 6 (.cmp .gtr (.sc .int) (.t 5) (.c (.int .i64 8))),ab 7 6,on 8 7 (.off 3 (.t 1)),on 9 7 (.load false 1 (.t 8)),on 10 7 (.len (.t 9)),on 11 7 (.cmp .gtr (.sc .int) (.t 10) (.c (.int .i64 128))),o 12 (.pick (.t 7) (.c (.bool true)) (.t 11)),ab 2 12]
abbrev Gb:zR:=[o 1 (.box 5 (.t 0)),kp 2]
abbrev Vs:aB:=⟨.seq (.ae Gb) (.seq (.ae ypo) .ret),13,[.tmp 2]⟩
@[simp] theorem TZ:aA Tryz.prog uS=some Vs:=by kernel_rfl
@[simp] theorem ava:au Tryz.prog uS=true:=by kernel_rfl
abbrev ypq:zR:=[ab 8 1,ab 9 2,o 10 (.build [.int .i64 0,.str []] [(0,1,.t 8),(1,1,.t 9)]),o 11 (.kH Dd (.t 10)),q (.panic (.t 11))]
abbrev ypr:zR:=[ab 6 0,o 7 (.not (.t 6))]
abbrev Zf:aB:=⟨.seq (.ae ypr) (.cond (.t 7) (.ae ypq) .skip),12,[]⟩
@[simp] theorem Jj:aA Tryz.prog mV=some Zf:=by kernel_rfl
@[simp] theorem awF:au Tryz.prog mV=true:=by kernel_rfl
abbrev yps:zR:=[ab 5 0,ab 6 1,cE 7 uC 5 6,o 8 (.cmp .geq (.sc .int) (.t 7) (.c (.int .i64 0))),ab 4 8]
abbrev RB:aB:=⟨.seq (.ae yr) (.seq (.ae yps) .ret),9,[.tmp 4]⟩
@[simp] theorem RA:aA Tryz.prog xg=some RB:=by kernel_rfl
@[simp] theorem att:au Tryz.prog xg=true:=by kernel_rfl
abbrev Gi:zR:=[ab 45 3,ab 2 45]
abbrev HP:zB:=O::O::O::I::(by(iterate 26 refine O::?_);exact I::I::I::(by(iterate 13 refine O::?_);exact[]))
abbrev Hb:zB:=O::O::O::I::(by(iterate 42 refine O::?_);exact[])
abbrev ypx:zR:=[bx 44 32 1,ab 32 44]
abbrev ypy:zR:=[ab 36 3,ak 37 0 7,ai 38 1 37,o 39 (.lit 1 [.str []] [(0,.t 38)]),o 40 (.append 1 aD 16 (.t 36) (.t 39)),ak 41 2 7,ai 42 1 41,o 43 (.append 1 aD 16 (.t 40) (.t 42)),ab 3 43]
abbrev ypz:zR:=[aZ 34 5 30 32,aJ 35 5 34,o 7 (.alloc [.str [],.int .i64 0,.own 1 aD [],.own 1 aD [],.bool false]),aL 5 7 35]
abbrev ypA:ah:=.seq (.ae ypz) (.aQ [O,O,O,O,O,O,I,O,O] [5,4,4,5,8,8,8,10,10] ypy)
abbrev ypB:zR:=[cJ 33 32 31]
abbrev Bj:ah:=.seq (.ae ypB) (.seq (.cond (.t 33) .skip (.exit 2)) (.seq (.block 3 [] ypA) (.ae ypx)))
abbrev PG:zR:=[ak 29 3 1,ai 30 1 29,aP 31 30,aO 32 0]
abbrev PA:zB:=O::I::O::I::O::O::O::O::O::O::O::O::O::O::O::I::I::I::(by(iterate 28 refine O::?_);exact[])
abbrev Rc:zB:=O::I::O::I::(by(iterate 42 refine O::?_);exact[])
abbrev ypG:zR:=[bx 28 17 1,ab 17 28]
abbrev ypH:zR:=[ab 21 3,ak 22 0 5,ai 23 1 22,ak 24 1 5,ai 25 1 24,o 26 (.lit 1 [.str [],.str []] [(0,.t 23),(1,.t 25)]),o 27 (.append 1 aD 16 (.t 21) (.t 26)),ab 3 27]
abbrev ypI:zR:=[aZ 19 3 15 17,aJ 20 3 19,o 5 (.alloc [.str [],.str [],.int .i64 0]),aL 3 5 20]
abbrev ypJ:ah:=.seq (.ae ypI) (.ae ypH)
abbrev ypK:zR:=[cJ 18 17 16]
abbrev Gf:ah:=.seq (.ae ypK) (.seq (.cond (.t 18) .skip (.exit 0)) (.seq (.block 1 [] ypJ) (.ae ypG)))
abbrev ypM:zR:=[ak 14 2 1,ai 15 1 14,aP 16 15,aO 17 0]
abbrev ypN:zR:=[ak 8 0 1,ai 9 1 8,ak 10 1 1,ai 11 1 10,o 12 (.lit 1 [.list true 0 [],.list true 0 []] [(0,.t 9),(1,.t 11)]),aU 13 l9 12,ab 3 13]
abbrev Y':aB:=⟨.seq (.ae F4) (.seq (.ae ypN) (.seq (.seq (.ae ypM) (.block 0 Rc (.loop PA Gf))) (.seq (.seq (.ae PG) (.block 2 Hb (.loop HP Bj))) (.seq (.ae Gi) .ret)))),46,[.tmp 2]⟩
abbrev ypP:zI:=[.code (.seq (.ae Gi) .ret)]
abbrev ypQ(x3 x30 x31 x32:AV)(h:List Ob)(e:Cx:=cx):ar:=bl sH (.code Bj::.inLoop HP Bj::.inBlock 2 Hb::ypP) (U::U::U::x3::(by(iterate 26 refine U::?_);exact x30::x31::x32::(by(iterate 13 refine U::?_);exact[]))) h e
abbrev ypR:zI:=[.code (.seq (.seq (.ae PG) (.block 2 Hb (.loop HP Bj))) (.seq (.ae Gi) .ret))]
abbrev ypS(x1 x3 x15 x16 x17:AV)(h:List Ob)(e:Cx:=cx):ar:=bl sH (.code Gf::.inLoop PA Gf::.inBlock 0 Rc::ypR) (U::x1::U::x3::U::U::U::U::U::U::U::U::U::U::U::x15::x16::x17::(by(iterate 28 refine U::?_);exact[])) h e
@[simp] theorem V1:aA Tryz.prog sH=some Y':=by kernel_rfl
@[simp] theorem awQ:au Tryz.prog sH=true:=by kernel_rfl
abbrev ypT:zR:=[ab 3 0,aU 4 xz 3,ab 2 4]
abbrev VG:aB:=⟨.seq (.ae jm) (.seq (.ae ypT) .ret),5,[.tmp 2]⟩
@[simp] theorem UD:aA Tryz.prog uV=some VG:=by kernel_rfl
@[simp] theorem avB:au Tryz.prog uV=true:=by kernel_rfl
abbrev Pt:zR:=[ab 22 3,ab 2 22]
abbrev Pd:zB:=O::O::O::I::O::O::O::I::I::I::(by(iterate 13 refine O::?_);exact[])
abbrev OG:zB:=O::O::O::I::(by(iterate 19 refine O::?_);exact[])
abbrev ypY:zR:=[bx 21 9 1,ab 9 21]
abbrev ypZ:zR:=[ab 19 3,ab 20 5,q (.bE (.sc .str) (.t 19) (.t 20) (.c (.bool true)))]
abbrev yqa:zR:=[ab 13 3,ab 14 5,o 15 (.lookup (.sc .str) (.bool false) (.t 13) (.t 14) false),o 16 (.not (.t 15)),ab 17 5,o 18 (.call (.f mV) [.t 16,.c (.int .i64 5),.t 17])]
abbrev yqc:ah:=.seq (.ae O3) (.seq (.ae yqa) (.ae ypZ))
abbrev Gk:ah:=.seq (.ae wQ) (.seq (.cond (.t 10) .skip (.exit 0)) (.seq (.block 1 [] yqc) (.ae ypY)))
abbrev yqh:zR:=[o 2 (.mv (.c .cY))]
abbrev YA:aB:=⟨.seq (.ae yqh) (.seq (.ae Gp) (.seq (.seq (.ae Bn) (.block 0 OG (.loop Pd Gk))) (.seq (.ae Pt) .ret))),23,[.tmp 2]⟩
abbrev yqi:zI:=[.code (.seq (.ae Pt) .ret)]
abbrev Q0(x3 x7 x8 x9:AV)(h:List Ob)(e:Cx:=cx):ar:=bl qI (.code Gk::.inLoop Pd Gk::.inBlock 0 OG::yqi) (U::U::U::x3::U::U::U::x7::x8::x9::(by(iterate 13 refine U::?_);exact[])) h e
@[simp] theorem Jm:aA Tryz.prog qI=some YA:=by kernel_rfl
@[simp] theorem awC:au Tryz.prog qI=true:=by kernel_rfl
abbrev yqk:zR:=[ak 18 1 1,ai 19 1 18,ak 20 2 1,ai 21 1 20,aP 22 21,cE 23 sM 19 22,ab 24 23,oy 25 24 (.off 3 (.t 1)),cz 26 24 1 25,oy 27 24 (.len (.t 26)),oy 28 24 (.cmp .leq (.sc .int) (.t 27) (.c (.int .i64 128))),bK 29 24 28,ab 30 29,oy 31 30 (.off 3 (.t 1)),cz 32 30 1 31,cK 33 30 3,oy 34 30 (.call (.f o8) [.t 32,.t 33]),oy 35 30 (.not (.t 34)),bK 36 30 35,ab 2 36]
abbrev yqn:zR:=[ak 5 1 1,ai 6 1 5,o 7 (.cmp .neq (.sc .int) (.t 6) (.c (.int .i64 10))),ab 8 7,oy 9 8 (.off 3 (.t 1)),cz 10 8 1 9,oy 11 8 (.len (.t 10)),oy 12 8 (.cmp .gtr (.sc .int) (.t 11) (.c (.int .i64 0))),cK 13 8 12,on 14 13 (.off 4 (.t 1)),on 15 13 (.load false 1 (.t 14)),oy 16 8 (.pick (.t 13) (.c (.bool true)) (.t 15)),bK 17 8 16]
abbrev yqo:zR:=[o 4 (.fA (.func xN) [] [.t 1]),ab 3 4]
abbrev ZJ:aB:=⟨.seq (.ae Gb) (.seq (.ae yqo) (.seq (.seq (.ae yqn) (.cond (.t 17) F5 .skip)) (.seq (.ae yqk) .ret))),37,[.tmp 2]⟩
@[simp] theorem Wk:aA Tryz.prog u_=some ZJ:=by kernel_rfl
@[simp] theorem awz:au Tryz.prog u_=true:=by kernel_rfl
abbrev Gl:zR:=[ab 36 3,ab 2 36]
abbrev F0:zB:=O::O::O::I::(by(iterate 21 refine O::?_);exact[I,I,I,O,O,O,O,O,O,O,O,O])
abbrev G6:zB:=O::O::O::I::(by(iterate 33 refine O::?_);exact[])
abbrev yqt:zR:=[bx 35 27 1,ab 27 35]
abbrev yqu:zR:=[ab 31 3,ak 32 2 7,ai 33 1 32,o 34 (.append 1 aD 16 (.t 31) (.t 33)),ab 3 34]
abbrev yqw:ah:=.seq (.ae PZ) (.ae yqu)
abbrev BB:ah:=.seq (.ae tY) (.seq (.cond (.t 28) .skip (.exit 2)) (.seq (.block 3 [] yqw) (.ae yqt)))
abbrev Pw:zB:=O::I::O::I::O::O::O::O::O::O::O::O::I::I::I::(by(iterate 22 refine O::?_);exact[])
abbrev PU:zB:=O::I::O::I::(by(iterate 33 refine O::?_);exact[])
abbrev yqD:zR:=[ab 18 3,ak 19 1 5,ai 20 1 19,o 21 (.lit 1 [.str []] [(0,.t 20)]),o 22 (.append 1 aD 16 (.t 18) (.t 21)),ab 3 22]
abbrev yqF:ah:=.seq (.ae PX) (.ae yqD)
abbrev Hg:ah:=.seq (.ae OI) (.seq (.cond (.t 15) .skip (.exit 0)) (.seq (.block 1 [] yqF) (.ae QL)))
abbrev yqJ:zR:=[ak 8 1 1,ai 9 1 8,aU 10 nQ 9,ab 3 10]
abbrev Zg:aB:=⟨.seq (.ae F4) (.seq (.ae yqJ) (.seq (.seq (.ae OH) (.block 0 PU (.loop Pw Hg))) (.seq (.seq (.ae Bg) (.block 2 G6 (.loop F0 BB))) (.seq (.ae Gl) .ret)))),37,[.tmp 2]⟩
abbrev yqL:zI:=[.code (.seq (.ae Gl) .ret)]
abbrev yqM(x3 x25 x26 x27:AV)(h:List Ob)(e:Cx:=cx):ar:=bl sK (.code BB::.inLoop F0 BB::.inBlock 2 G6::yqL) (U::U::U::x3::(by(iterate 21 refine U::?_);exact[x25,x26,x27,U,U,U,U,U,U,U,U,U])) h e
abbrev yqN:zI:=[.code (.seq (.seq (.ae Bg) (.block 2 G6 (.loop F0 BB))) (.seq (.ae Gl) .ret))]
abbrev yqO(x1 x3 x12 x13 x14:AV)(h:List Ob)(e:Cx:=cx):ar:=bl sK (.code Hg::.inLoop Pw Hg::.inBlock 0 PU::yqN) (U::x1::U::x3::U::U::U::U::U::U::U::U::x12::x13::x14::(by(iterate 22 refine U::?_);exact[])) h e
@[simp] theorem WG:aA Tryz.prog sK=some Zg:=by kernel_rfl
@[simp] theorem awy:au Tryz.prog sK=true:=by kernel_rfl
abbrev yqP:zR:=[ab 4 0,o 5 (.cmp .lss (.sc .int) (.t 4) (.c (.int .i64 0))),ab 6 5,on 7 6 (.mv (.t 0)),on 8 6 (.load false 1 (.t 1)),on 9 6 (.cmp .geq (.sc .int) (.t 7) (.t 8)),o 10 (.pick (.t 6) (.c (.bool true)) (.t 9)),ab 3 10]
abbrev wO:zR:=[kp 3]
abbrev Vw:aB:=⟨.seq (.ae wO) (.seq (.ae yqP) .ret),11,[.tmp 3]⟩
@[simp] theorem T9:aA Tryz.prog xK=some Vw:=by kernel_rfl
@[simp] theorem avl:au Tryz.prog xK=true:=by kernel_rfl
abbrev yqR:zR:=[ab 3 0,o 4 (.cmp .lss (.sc .int) (.t 3) (.c (.int .i64 0))),ab 5 4,on 6 5 (.mv (.t 0)),on 7 5 (.cmp .gtr (.sc .int) (.t 6) (.c (.int .i64 2))),o 8 (.pick (.t 5) (.c (.bool true)) (.t 7)),ab 2 8]
abbrev Vx:aB:=⟨.seq (.ae jm) (.seq (.ae yqR) .ret),9,[.tmp 2]⟩
@[simp] theorem T':aA Tryz.prog xL=some Vx:=by kernel_rfl
@[simp] theorem avt:au Tryz.prog xL=true:=by kernel_rfl
abbrev yqT:zR:=[ab 5 0,ab 6 1,cE 7 uF 5 6,o 8 (.cmp .geq (.sc .int) (.t 7) (.c (.int .i64 0))),ab 4 8]
abbrev R1:aB:=⟨.seq (.ae yr) (.seq (.ae yqT) .ret),9,[.tmp 4]⟩
@[simp] theorem RS:aA Tryz.prog r8=some R1:=by kernel_rfl
@[simp] theorem atE:au Tryz.prog r8=true:=by kernel_rfl
abbrev yqV:zR:=[ab 5 0,ab 6 1,cE 7 qp 5 6,o 8 (.cmp .geq (.sc .int) (.t 7) (.c (.int .i64 0))),ab 4 8]
abbrev RL:aB:=⟨.seq (.ae yr) (.seq (.ae yqV) .ret),9,[.tmp 4]⟩
@[simp] theorem RF:aA Tryz.prog o8=some RL:=by kernel_rfl
@[simp] theorem atw:au Tryz.prog o8=true:=by kernel_rfl
abbrev yqX:zR:=[ab 3 0,aU 4 uV 3,o 5 (.not (.t 4)),ab 2 5]
abbrev Vj:aB:=⟨.seq (.ae jm) (.seq (.ae yqX) .ret),6,[.tmp 2]⟩
@[simp] theorem T7:aA Tryz.prog xM=some Vj:=by kernel_rfl
@[simp] theorem avq:au Tryz.prog xM=true:=by kernel_rfl
abbrev Bb:zR:=[ab 26 0,ab 4 26]
abbrev yra:zR:=[ab 17 0,ab 18 0,o 19 (.cap (.t 18)),o 20 (.slice 1 (.t 17) none (some (.t 19))),ab 21 1,o 22 (.pC 1 aD 16 (.str []) (.t 20) (.t 21)),ab 23 0,aP 24 23,o 25 (.slice 1 (.t 22) none (some (.t 24))),ab 0 25]
abbrev Bk:zR:=[ab 15 1,o 16 (.cmp .gtr (.sc .int) (.t 15) (.c (.int .i64 0)))]
abbrev BM:zR:=[ab 8 1,ab 9 0,o 10 (.cap (.t 9)),ab 11 0,aP 12 11,o 13 (.bD .sub (.t 10) (.t 12)),o 14 (.bD .sub (.t 8) (.t 13)),ab 1 14]
abbrev B2:zR:=[o 7 (.kH aD (.c (.str [99,97,110,110,111,116,32,98,101,32,110,101,103,97,116,105,118,101]))),q (.panic (.t 7))]
abbrev BL:zR:=[ab 5 1,o 6 (.cmp .lss (.sc .int) (.t 5) (.c (.int .i64 0)))]
abbrev H4:zR:=[o 4 (.bA 1 aD)]
abbrev R':aB:=⟨.seq (.ae H4) (.seq (.seq (.ae BL) (.cond (.t 6) (.ae B2) .skip)) (.seq (.seq (.ae BM) (.seq (.ae Bk) (.cond (.t 16) (.ae yra) .skip))) (.seq (.ae Bb) .ret))),27,[.tmp 4]⟩
@[simp] theorem Iq:aA Tryz.prog Cn=some R':=by kernel_rfl
@[simp] theorem atK:au Tryz.prog Cn=true:=by kernel_rfl
abbrev yrg:zR:=[o 5 (.fA (.func nS) [] [.t 2,.t 3]),ab 4 5]
abbrev yrh:zR:=[o 2 (.box 5 (.t 0)),o 3 (.box 1 (.t 1)),o 4 (.mv (.c .db))]
abbrev U1:aB:=⟨.seq (.ae yrh) (.seq (.ae yrg) .ret),6,[.tmp 4]⟩
@[simp] theorem TU:aA Tryz.prog CO=some U1:=by kernel_rfl
@[simp] theorem avs:au Tryz.prog CO=true:=by kernel_rfl
abbrev yri:zR:=[ab 85 8,ab 6 85,aO 7 0]
abbrev yrj:zB:=I::O::O::O::O::O::O::O::I::(by(iterate 49 refine O::?_);exact I::I::I::(by(iterate 25 refine O::?_);exact[]))
abbrev yrk:zB:=O::O::O::O::O::O::O::O::I::(by(iterate 77 refine O::?_);exact[])
abbrev yrl:zR:=[bx 84 60 1,ab 60 84]
abbrev yrm:zR:=[ab 73 8,ak 74 0 13,ai 75 1 74,aJ 76 5 13,ab 77 8,ak 78 2 13,ai 79 1 78,cE 80 xZ 77 79,cE 81 CU 76 80,ab 72 81,bf 82 72 0,bf 83 72 1,q (.bE (.sc .str) (.t 73) (.t 75) (.t 82))]
abbrev yrn:zR:=[ab 64 0,o 65 (.cg (.t 64)),ak 66 0 65,ak 67 3 66,ai 68 1 67,ab 69 12,aZ 70 5 68 69,aJ 71 5 70,o 13 (.alloc [.str [],.int .i64 0,.own 1 aD [],.own 1 aD [],.bool false]),aL 5 13 71]
abbrev yro:zR:=[aZ 62 1 58 60,ai 63 1 62,ab 12 63]
abbrev yrp:ah:=.seq (.ae yro) (.seq (.ae yrn) (.aQ [O,O,I,I,O,O,O,O,O,O,O,O,O] [13,13,13,9,8,8,8,9,13,13,13,14,14] yrm))
abbrev yrq:zR:=[cJ 61 60 59]
abbrev yrr:ah:=.seq (.ae yrq) (.seq (.cond (.t 61) .skip (.exit 2)) (.seq (.block 3 [] yrp) (.ae yrl)))
abbrev yrs:zR:=[ab 55 0,o 56 (.cg (.t 55)),ak 57 5 56,ai 58 1 57,aP 59 58,aO 60 0]
abbrev yrt:zB:=I::O::O::O::O::O::O::O::I::(by(iterate 29 refine O::?_);exact I::I::I::(by(iterate 45 refine O::?_);exact[]))
abbrev yru:zB:=I::O::O::O::O::O::O::O::I::(by(iterate 77 refine O::?_);exact[])
abbrev yrv:zR:=[bx 54 40 1,ab 40 54]
abbrev yrw:zR:=[ab 45 8,ab 46 0,o 47 (.cg (.t 46)),ak 48 4 47,ai 49 1 48,ab 50 9,aZ 51 1 49 50,ai 52 1 51,ab 53 10,q (.bE (.sc .str) (.t 45) (.t 52) (.t 53))]
abbrev yrx:zR:=[ab 42 40,aZ 43 1 38 40,ai 44 1 43,ab 9 42,ab 10 44]
abbrev yry:ah:=.seq (.ae yrx) (.ae yrw)
abbrev yrA:ah:=.seq (.ae QY) (.seq (.cond (.t 41) .skip (.exit 0)) (.seq (.block 1 [] yry) (.ae yrv)))
abbrev yrB:zR:=[ab 35 2,ab 36 1,o 37 (.lit 1 [.list true 0 [],.list true 0 []] [(0,.t 35),(1,.t 36)]),aU 38 xo 37,aP 39 38,aO 40 0]
abbrev yrC:zR:=[o 34 (.mkMap),ab 8 34]
abbrev yrD:zR:=[o 6 (.mv (.c .cY)),aO 7 11]
abbrev yrE:ah:=.seq (.ae yrD) .ret
abbrev yrF:zR:=[ab 14 1,aP 15 14,ab 16 0,o 17 (.cg (.t 16)),ak 18 0 17,ak 19 2 18,ai 20 1 19,aP 21 20,o 22 (.cmp .neq (.sc .int) (.t 15) (.t 21)),ab 23 22,on 24 23 (.mv (.t 2)),on 25 23 (.len (.t 24)),on 26 23 (.mv (.t 0)),on 27 23 (.cg (.t 26)),on 28 23 (.off 0 (.t 27)),on 29 23 (.off 0 (.t 28)),on 30 23 (.load false 1 (.t 29)),on 31 23 (.len (.t 30)),on 32 23 (.cmp .neq (.sc .int) (.t 25) (.t 31)),o 33 (.pick (.t 23) (.c (.bool true)) (.t 32))]
abbrev yrG:zR:=[o 6 (.mv (.c .cY)),aO 7 0]
abbrev SA:aB:=⟨.seq (.ae yrG) (.seq (.seq (.ae yrF) (.cond (.t 33) yrE .skip)) (.seq (.ae yrC) (.seq (.seq (.ae yrB) (.block 0 yru (.loop yrt yrA))) (.seq (.seq (.ae yrs) (.block 2 yrk (.loop yrj yrr))) (.seq (.ae yri) .ret))))),86,[.tmp 6,.tmp 7]⟩
@[simp] theorem at7:aA Tryz.prog Cv=some SA:=by kernel_rfl
@[simp] theorem at5:au Tryz.prog Cv=true:=by kernel_rfl
abbrev GY:zR:=[ab 21 5,ab 4 21]
abbrev yrI:zB:=[I,O,O,O,O,I,O,O,I,I,I,O,O,O,O,O,O,O,O,O,O,O]
abbrev Hp:zB:=O::O::O::O::O::I::(by(iterate 16 refine O::?_);exact[])
abbrev P6:zR:=[bx 20 10 1,ab 10 20]
abbrev yrL:zR:=[ab 14 5,ab 15 0,ab 16 7,o 17 (.lookup (.sc .str) (.bool false) (.t 15) (.t 16) false),o 18 (.lit 1 [.bool false] [(0,.t 17)]),o 19 (.append 1 cA 1 (.t 14) (.t 18)),ab 5 19]
abbrev ON:zR:=[aZ 12 1 8 10,ai 13 1 12,ab 7 13]
abbrev yrN:ah:=.seq (.ae ON) (.ae yrL)
abbrev yrP:ah:=.seq (.ae HE) (.seq (.cond (.t 11) .skip (.exit 0)) (.seq (.block 1 [] yrN) (.ae P6)))
abbrev yrQ:zR:=[ab 8 1,aP 9 8,aO 10 0]
abbrev yrR:zR:=[o 5 (.bA 1 cA)]
abbrev Xn:aB:=⟨.seq (.ae HU) (.seq (.ae yrR) (.seq (.seq (.ae yrQ) (.block 0 Hp (.loop yrI yrP))) (.seq (.ae GY) .ret))),22,[.tmp 4]⟩
@[simp] theorem awl:aA Tryz.prog xZ=some Xn:=by kernel_rfl
@[simp] theorem avY:au Tryz.prog xZ=true:=by kernel_rfl
abbrev yrX:zR:=[ab 31 6,ab 32 8,o 33 (.append 1 cA 1 (.t 31) (.t 32)),ab 6 33]
abbrev yrZ:ah:=.seq (.ae By) (.ae yrX)
abbrev ysb:ah:=.seq (.ae tY) (.seq (.cond (.t 28) .skip (.exit 2)) (.seq (.block 3 [] yrZ) (.ae B3)))
abbrev ysd:zR:=[ab 23 3,o 24 (.call (.f Cp) [.c (.list true 0 []),.t 23]),ab 6 24]
abbrev Sd:aB:=⟨.seq (.ae Ga) (.seq (.ae rQ) (.seq (.seq (.ae BF) (.block 0 rJ (.loop rP nA))) (.seq (.ae ysd) (.seq (.seq (.ae rO) (.block 2 nz (.loop nD ysb))) (.seq (.ae p5) .ret))))),36,[.tmp 2]⟩
@[simp] theorem atO:aA Tryz.prog xo=some Sd:=by kernel_rfl
@[simp] theorem atP:au Tryz.prog xo=true:=by kernel_rfl
abbrev ysr:zB:=I::O::I::I::I::O::O::O::O::O::O::I::I::I::(by(iterate 25 refine O::?_);exact[])
abbrev yss:zB:=(by(iterate 39 refine O::?_);exact[])
abbrev yst:zR:=[bx 38 13 1,ab 13 38]
abbrev ysu:zR:=[ab 37 9,aL 1 3 37]
abbrev ysv:zR:=[ab 28 10,o 29 (.cmp .neq (.sc .int) (.t 28) (.c (.int .i64 0))),ab 30 29,on 31 30 (.mv (.t 0)),on 32 30 (.mv (.t 8)),on 33 30 (.mv (.t 9)),on 34 30 (.call (.t 31) [.t 32,.t 33]),on 35 30 (.not (.t 34)),o 36 (.pick (.t 30) (.c (.bool true)) (.t 35))]
abbrev ysw:zR:=[ai 25 1 4,ab 26 10,o 27 (.cg (.t 25)),aL 1 27 26]
abbrev ysx:zR:=[ai 18 1 2,ai 19 1 3,ab 20 7,o 21 (.call (.f xx) [.t 18,.t 19,.t 20]),ab 17 21,bf 22 17 0,bf 23 17 1,bf 24 17 2,ab 8 22,ab 9 23,ab 10 24]
abbrev QP:zR:=[aZ 15 1 11 13,ai 16 1 15,ab 7 16]
abbrev ysz:ah:=.seq (.ae QP) (.seq (.ae ysx) (.seq (.seq (.ae ysw) (.seq (.ae ysv) (.cond (.t 36) .ret .skip))) (.ae ysu)))
abbrev ysB:ah:=.seq (.ae tX) (.seq (.cond (.t 14) .skip (.exit 0)) (.seq (.block 1 [] ysz) (.ae yst)))
abbrev ysC:zR:=[ai 11 1 1,aP 12 11,aO 13 0]
abbrev Sp:aB:=⟨.seq (.ae ysC) (.block 0 yss (.loop ysr ysB)),39,[]⟩
@[simp] theorem atX:aA Tryz.prog Cq=some Sp:=by kernel_rfl
@[simp] theorem atZ:au Tryz.prog Cq=true:=by kernel_rfl
abbrev ysD:zR:=[ab 11 3,ab 12 11,cK 13 12 4,bK 14 12 13,ab 15 14,oy 16 15 (.off 0 (.t 1)),cz 17 15 1 16,oy 18 15 (.lx (.t 17)),oy 19 15 (.cmp .leq (.sc .int) (.t 18) (.c (.int .i64 60))),bK 20 15 19,ab 2 20]
abbrev ysE:zR:=[ak 8 3 1,ai 9 1 8,o 10 (.call (.f pg) [.t 9,.c (.int .i64 140)]),ab 4 10]
abbrev ysF:zR:=[ak 5 2 1,ai 6 1 5,o 7 (.call (.f pg) [.t 6,.c (.int .i64 12)]),ab 3 7]
abbrev U_:aB:=⟨.seq (.ae Gb) (.seq (.ae ysF) (.seq (.ae ysE) (.seq (.ae ysD) .ret))),21,[.tmp 2]⟩
@[simp] theorem T5:aA Tryz.prog xH=some U_:=by kernel_rfl
@[simp] theorem avc:au Tryz.prog xH=true:=by kernel_rfl
abbrev ysN:zR:=[ab 17 0,ab 18 5,aZ 19 1 17 18,ai 20 1 19,o 21 (.lx (.t 20)),o 22 (.cmp .gtr (.sc .int) (.t 21) (.c (.int .i64 60)))]
abbrev ysO:ah:=.seq (.ae ysN) (.cond (.t 22) yu .skip)
abbrev GZ:ah:=.seq (.seq (.ae Q8) (.cond (.t 14) .skip (.exit 0))) (.seq (.block 1 [] ysO) (.ae Bc))
abbrev Yh:aB:=⟨.seq (.ae yr) (.seq (.seq (.ae qc) (.block 0 HJ (.loop Gg GZ))) (.seq (.ae Hs) .ret)),27,[.tmp 4]⟩
abbrev ysT:zI:=[.code (.seq (.ae Hs) .ret)]
abbrev ysU(x0 x1 x5:AV)(h:List Ob)(e:Cx:=cx):ar:=bl pg (.code GZ::.inLoop Gg GZ::.inBlock 0 HJ::ysT) (x0::x1::U::U::U::x5::(by(iterate 21 refine U::?_);exact[])) h e
@[simp] theorem UX:aA Tryz.prog pg=some Yh:=by kernel_rfl
@[simp] theorem awo:au Tryz.prog pg=true:=by kernel_rfl
abbrev qa:zB:=I::O::O::I::I::(by(iterate 69 refine O::?_);exact[])
abbrev BA:zB:=(by(iterate 74 refine O::?_);exact[])
abbrev O5:zB:=I::O::O::I::I::O::I::(by(iterate 42 refine O::?_);exact I::I::I::(by(iterate 22 refine O::?_);exact[]))
abbrev ysZ:zR:=[bx 73 51 1,ab 51 73]
abbrev yta:zR:=[ab 68 4,o 69 (.kH jV (.t 68)),ab 70 8,o 71 (.kH aq (.t 70)),cE 72 uI 69 71]
abbrev ytb:zR:=[ak 61 0 3,ai 62 1 61,ab 63 8,aZ 64 1 62 63,ai 65 1 64,o 66 (.tw (.t 65)),o 67 (.cmp .eql (.sc .int) (.t 66) (.c (.int .i64 0)))]
abbrev ytc:zR:=[ak 55 0 3,ai 56 1 55,ab 57 8,aZ 58 1 56 57,ai 59 1 58,ab 60 6,q (.delete (.sc .int) (.t 59) (.t 60))]
abbrev ytd:zR:=[aZ 53 1 49 51,ai 54 1 53,ab 8 54]
abbrev yte:ah:=.seq (.ae ytd) (.seq (.ae ytc) (.seq (.ae ytb) (.cond (.t 67) (.ae yta) .skip)))
abbrev ytf:zR:=[cJ 52 51 50]
abbrev GM:ah:=.seq (.ae ytf) (.seq (.cond (.t 52) .skip (.exit 4)) (.seq (.block 5 [] yte) (.ae ysZ)))
abbrev yth:zR:=[ak 45 1 3,ai 46 1 45,ab 47 6,aZ 48 1 46 47,ai 49 1 48,aP 50 49,aO 51 0]
abbrev yti:zR:=[ab 41 0,ab 42 6,o 43 (.call (.t 41) [.t 42]),o 44 (.not (.t 43))]
abbrev ytj:zR:=[ab 37 4,o 38 (.kH jV (.t 37)),aU 39 xu 38,o 40 (.qY (.t 39) aq (.int .i64 0) false),ab 6 40]
abbrev ytk:ah:=.seq (.ae ytj) (.seq (.seq (.ae yti) (.cond (.t 44) .ret .skip)) (.seq (.ae yth) (.block 4 qa (.loop O5 GM))))
abbrev ytl:zR:=[ab 32 4,o 33 (.cg (.t 32)),ai 34 1 33,aU 35 sj 34,o 36 (.cmp .gtr (.sc .int) (.t 35) (.c (.int .i64 0)))]
abbrev wP:ah:=.seq (.seq (.ae ytl) (.cond (.t 36) .skip (.exit 2))) (.block 3 [] ytk)
abbrev Pf:zB:=I::O::O::I::I::O::O::O::O::O::O::O::O::O::O::I::I::(by(iterate 57 refine O::?_);exact[])
abbrev ytp:zR:=[bx 31 16 1,ab 16 31]
abbrev ytq:zR:=[ab 26 4,o 27 (.kH jV (.t 26)),ab 28 5,o 29 (.kH aq (.t 28)),cE 30 uI 27 29]
abbrev ytr:zR:=[ak 19 0 3,ai 20 1 19,ab 21 5,aZ 22 1 20 21,ai 23 1 22,o 24 (.tw (.t 23)),o 25 (.cmp .eql (.sc .int) (.t 24) (.c (.int .i64 0)))]
abbrev yts:zR:=[ab 18 16,ab 5 18]
abbrev ytt:ah:=.seq (.ae yts) (.seq (.ae ytr) (.cond (.t 25) (.ae ytq) .skip))
abbrev HI:ah:=.seq (.ae BY) (.seq (.cond (.t 17) .skip (.exit 0)) (.seq (.block 1 [] ytt) (.ae ytp)))
abbrev ytw:zR:=[ak 13 3 1,ai 14 1 13,aP 15 14,aO 16 0]
abbrev ytx:zR:=[o 11 (.lit 1 [] []),o 12 (.box 1 (.t 11)),ab 4 12]
abbrev yty:zR:=[aJ 9 4 1,aU 10 l_ 9,o 3 (.alloc [.own 1 jv [],.own 1 iC []]),aL 2 3 10]
abbrev TN:aB:=⟨.seq (.ae yty) (.seq (.ae ytx) (.seq (.seq (.ae ytw) (.block 0 qa (.loop Pf HI))) (.block 2 BA (.loop qa wP)))),74,[]⟩
abbrev PR:zI:=[.inBlock 3 [],.inLoop qa wP,.inBlock 2 BA]
abbrev ytA(x0 x3 x4 x6 x49 x50 x51:AV)(h:List Ob)(e:Cx:=cx):ar:=bl mS (.code GM::.inLoop O5 GM::.inBlock 4 qa::PR) (x0::U::U::x3::x4::U::x6::(by(iterate 42 refine U::?_);exact x49::x50::x51::(by(iterate 22 refine U::?_);exact[]))) h e
abbrev ytB(x0 x3 x4:AV)(h:List Ob)(e:Cx:=cx):ar:=bl mS PR (x0::U::U::x3::x4::(by(iterate 69 refine U::?_);exact[])) h e
abbrev BU:zI:=[]
abbrev Pu(x0 x3 x4:AV)(h:List Ob)(e:Cx:=cx):ar:=bl mS (.code wP::.inLoop qa wP::.inBlock 2 BA::BU) (x0::U::U::x3::x4::(by(iterate 69 refine U::?_);exact[])) h e
abbrev OA:zI:=[.code (.block 2 BA (.loop qa wP))]
abbrev ytF(x0 x3 x4 x15 x16:AV)(h:List Ob)(e:Cx:=cx):ar:=bl mS (.code HI::.inLoop Pf HI::.inBlock 0 qa::OA) (x0::U::U::x3::x4::U::U::U::U::U::U::U::U::U::U::x15::x16::(by(iterate 57 refine U::?_);exact[])) h e
abbrev ytG(x0 x3 x4:AV)(h:List Ob)(e:Cx:=cx):ar:=bl mS OA (x0::U::U::x3::x4::(by(iterate 69 refine U::?_);exact[])) h e
@[simp] theorem S8:aA Tryz.prog mS=some TN:=by kernel_rfl
@[simp] theorem auL:au Tryz.prog mS=true:=by kernel_rfl
abbrev GX:zR:=[aJ 79 2 4,aL 2 2 79]
abbrev wN:zB:=O::O::I::I::I::(by(iterate 18 refine O::?_);exact I::I::I::(by(iterate 54 refine O::?_);exact[]))
abbrev Gv:zB:=O::O::I::O::I::(by(iterate 75 refine O::?_);exact[])
abbrev QI:zR:=[bx 78 25 1,ab 25 78]
abbrev PY:zB:=O::O::I::I::I::I::(by(iterate 17 refine O::?_);exact I::I::I::O::O::O::O::O::O::O::O::O::O::I::I::I::(by(iterate 41 refine O::?_);exact[]))
abbrev ytN:zR:=[bx 77 38 1,ab 38 77]
abbrev ytO:zR:=[ak 65 1 4,ai 66 1 65,ab 67 9,ak 68 1 4,ai 69 1 68,ab 70 9,aZ 71 1 69 70,ai 72 1 71,ab 73 5,o 74 (.lit 1 [.int .i64 0] [(0,.t 73)]),o 75 (.append 1 aq 8 (.t 72) (.t 74)),aZ 76 1 66 67,aL 1 76 75]
abbrev ytP:zR:=[ak 59 0 4,ai 60 1 59,ab 61 5,aZ 62 1 60 61,ai 63 1 62,ab 64 9,q (.bE (.sc .int) (.t 63) (.t 64) (.c (.bool true)))]
abbrev ytQ:ah:=.seq (.ae ytP) (.aQ [O,I,O,O,I,O,O,I,O,O,O,O,O] [13,13,13,11,11,11,11,11,10,11,13,13,14] ytO)
abbrev ytR:zR:=[ab 48 10,ab 49 48,oy 50 49 (.off 0 (.t 4)),cz 51 49 1 50,cK 52 49 5,oy 53 49 (.iY 1 (.t 51) (.t 52)),cz 54 49 1 53,cK 55 49 9,oy 56 49 (.lookup (.sc .int) (.bool false) (.t 54) (.t 55) false),oy 57 49 (.not (.t 56)),bK 58 49 57]
abbrev ytS:zR:=[ab 43 3,ab 44 8,o 45 (.lookup (.sc .str) (.int .i64 0) (.t 43) (.t 44) true),ab 42 45,bf 46 42 0,bf 47 42 1,ab 9 46,ab 10 47]
abbrev ytT:zR:=[aZ 40 1 36 38,ai 41 1 40,ab 8 41]
abbrev ytU:ah:=.seq (.ae ytT) (.seq (.ae ytS) (.seq (.ae ytR) (.cond (.t 58) ytQ .skip)))
abbrev Gw:ah:=.seq (.ae PQ) (.seq (.cond (.t 39) .skip (.exit 2)) (.seq (.block 3 [] ytU) (.ae ytN)))
abbrev ytX:zR:=[ak 35 2 6,ai 36 1 35,aP 37 36,aO 38 0]
abbrev ytY:zR:=[ak 30 0 4,ai 31 1 30,ab 32 5,o 33 (.mkMap),aZ 34 1 31 32,aL 1 34 33]
abbrev ytZ:zR:=[ab 27 25,aZ 28 5 23 25,aJ 29 5 28,o 6 (.alloc [.str [],.int .i64 0,.own 1 aD [],.own 1 aD [],.bool false]),ab 5 27,aL 5 6 29]
abbrev yua:ah:=.seq (.ae ytZ) (.seq (.ae ytY) (.seq (.ae ytX) (.block 2 wN (.loop PY Gw))))
abbrev BS:ah:=.seq (.ae QZ) (.seq (.cond (.t 26) .skip (.exit 0)) (.seq (.block 1 [] yua) (.ae QI)))
abbrev Bt:zR:=[ak 13 3 1,ai 14 1 13,aP 15 14,o 16 (.mkSlice 1 jv 8 .cY (.t 15) (.t 15)),ak 17 3 1,ai 18 1 17,aP 19 18,o 20 (.mkSlice 1 iC 24 (.list true 0 []) (.t 19) (.t 19)),o 21 (.build [.list true 0 [],.list true 0 []] [(0,1,.t 16),(1,1,.t 20)]),o 4 (.alloc [.own 1 jv [],.own 1 iC []]),aL 2 4 21]
abbrev yuf:zR:=[aJ 11 4 1,aU 12 sn 11,ab 3 12]
abbrev yug:zR:=[o 1 (.box 4 (.t 0)),o 2 (.alloc [.own 1 jv [],.own 1 iC []])]
abbrev Wr:aB:=⟨.seq (.ae yug) (.seq (.ae yuf) (.seq (.ea [[],[0],[1],[2,2],[],[4],[5],[6,6],[3,7],[],[9,8,0,1,2,3,4,5,6,7,8,9]] Bt) (.seq (.seq (.ae Q7) (.block 0 Gv (.loop wN BS))) (.seq (.ae GX) .ret)))),80,[.cell 2 true 2]⟩
abbrev Qh:zI:=[.inBlock 1 [],.code (.ae QI),.inLoop wN BS,.inBlock 0 Gv,.code (.seq (.ae GX) .ret)]
abbrev yui(x2 x3 x4 x5 x23 x24 x25 x36 x37 x38:AV)(h:List Ob)(e:Cx:=cx):ar:=bl l_ (.code Gw::.inLoop PY Gw::.inBlock 2 wN::Qh) (U::U::x2::x3::x4::x5::(by(iterate 17 refine U::?_);exact x23::x24::x25::U::U::U::U::U::U::U::U::U::U::x36::x37::x38::(by(iterate 41 refine U::?_);exact[]))) h e
abbrev yuj(x2 x3 x4 x23 x24 x25:AV)(h:List Ob)(e:Cx:=cx):ar:=bl l_ Qh (U::U::x2::x3::x4::(by(iterate 18 refine U::?_);exact x23::x24::x25::(by(iterate 54 refine U::?_);exact[]))) h e
abbrev yuk:zI:=[.code (.seq (.ae GX) .ret)]
abbrev G8(x2 x3 x4 x23 x24 x25:AV)(h:List Ob)(e:Cx:=cx):ar:=bl l_ (.code BS::.inLoop wN BS::.inBlock 0 Gv::yuk) (U::U::x2::x3::x4::(by(iterate 18 refine U::?_);exact x23::x24::x25::(by(iterate 54 refine U::?_);exact[]))) h e
@[simp] theorem UC:aA Tryz.prog l_=some Wr:=by kernel_rfl
@[simp] theorem avG:au Tryz.prog l_=true:=by kernel_rfl
abbrev yum:zR:=[ab 7 0,ab 8 0,o 9 (.invoke (.t 8) "Len" []),o 10 (.bD .sub (.t 9) (.c (.int .i64 1))),cE 11 uL 7 10]
abbrev yun:zR:=[ab 4 0,ab 5 1,o 6 (.invoke (.t 4) "Push" [.t 5])]
abbrev SI:aB:=⟨.seq (.ae yun) (.ae yum),12,[]⟩
@[simp] theorem Sn:aA Tryz.prog uI=some SI:=by kernel_rfl
@[simp] theorem aub:au Tryz.prog uI=true:=by kernel_rfl
abbrev yuo:zR:=[ab 3 0,aP 4 3,ab 2 4]
abbrev TH:aB:=⟨.seq (.ae wC) (.seq (.ae yuo) .ret),5,[.tmp 2]⟩
@[simp] theorem IF:aA Tryz.prog sj=some TH:=by kernel_rfl
@[simp] theorem auU:au Tryz.prog sj=true:=by kernel_rfl
abbrev yuq:zR:=[ab 13 0,o 14 (.invoke (.t 13) "Pop" []),ab 2 14]
abbrev yur:zR:=[ab 10 0,ab 11 3,o 12 (.call (.f uH) [.t 10,.c (.int .i64 0),.t 11])]
abbrev yus:zR:=[ab 7 0,ab 8 3,o 9 (.invoke (.t 7) "Swap" [.c (.int .i64 0),.t 8])]
abbrev yut:zR:=[ab 4 0,o 5 (.invoke (.t 4) "Len" []),o 6 (.bD .sub (.t 5) (.c (.int .i64 1))),ab 3 6]
abbrev OX:zR:=[o 2 (.mv (.c .eb))]
abbrev SN:aB:=⟨.seq (.ae OX) (.seq (.ae yut) (.seq (.ae yus) (.seq (.ae yur) (.seq (.ae yuq) .ret)))),15,[.tmp 2]⟩
@[simp] theorem Sq:aA Tryz.prog xu=some SN:=by kernel_rfl
@[simp] theorem aud:au Tryz.prog xu=true:=by kernel_rfl
abbrev yuv:zR:=[ab 4 0,o 5 (.lx (.t 4)),ai 6 1 1,o 7 (.cmp .neq (.sc .int) (.t 5) (.t 6)),ab 8 7,on 9 8 (.mv (.t 0)),on 10 8 (.call (.f sm) [.t 9,.c (.str [48,49,45])]),on 11 8 (.cmp .neq (.sc .str) (.t 10) (.c (.str []))),o 12 (.pick (.t 8) (.c (.bool true)) (.t 11)),ab 3 12]
abbrev TO:aB:=⟨.seq (.ae wO) (.seq (.ae yuv) .ret),13,[.tmp 3]⟩
@[simp] theorem Tl:aA Tryz.prog xD=some TO:=by kernel_rfl
@[simp] theorem auM:au Tryz.prog xD=true:=by kernel_rfl
@[simp] theorem au2:au Tryz.prog sm=true:=by kernel_rfl
abbrev yux:zR:=[ab 5 0,ab 6 1,cE 7 qt 5 6,o 8 (.cmp .geq (.sc .int) (.t 7) (.c (.int .i64 0))),ab 4 8]
abbrev RV:aB:=⟨.seq (.ae yr) (.seq (.ae yux) .ret),9,[.tmp 4]⟩
@[simp] theorem RM:aA Tryz.prog xh=some RV:=by kernel_rfl
@[simp] theorem atB:au Tryz.prog xh=true:=by kernel_rfl
abbrev A':zR:=[o 92 (.build [.int .i64 0,.int .i64 0,.int .i64 0] [(0,1,.c (.int .i64 4)),(2,1,.c (.int .i64 2))]),o 93 (.lit 3 [.agg [.int .i64 0,.int .i64 0,.int .i64 0]] [(0,.t 92)]),aJ 94 2 6,o 95 (.lit 2 [.agg [.int .i64 0,.int .i64 0]] [(0,.t 94)]),ab 96 13,cE 97 qD 95 96,ab 98 14,o 99 (.lit 1 [.list true 0 [],.list true 0 [],.list true 0 []] [(0,.t 93),(1,.t 97),(2,.t 98)]),aU 100 rZ 99,ab 2 100]
abbrev BW:zR:=[ai 87 1 1,aU 88 nQ 87,ai 89 1 11,cE 90 o9 88 89,aU 91 gY 90,ab 14 91]
abbrev wE:zR:=[ai 79 1 1,aU 80 nQ 79,ab 81 12,cE 82 o9 80 81,aJ 83 2 6,o 84 (.lit 2 [.agg [.int .i64 0,.int .i64 0]] [(0,.t 83)]),cE 85 pd 82 84,aU 86 gY 85,ab 13 86]
abbrev Q3:zR:=[o 78 (.fA (.func uP) [] [.t 11]),ab 12 78]
abbrev Pg:zR:=[aJ 76 2 6,aU 77 uZ 76,o 11 (.alloc [.db]),aL 1 11 77]
abbrev QF:zR:=[ab 75 8,ab 2 75]
abbrev QH:zB:=O::O::O::O::O::O::O::O::I::(by(iterate 53 refine O::?_);exact I::I::I::(by(iterate 36 refine O::?_);exact[]))
abbrev Pa:zB:=O::O::O::O::O::O::O::O::I::(by(iterate 92 refine O::?_);exact[])
abbrev yuH:zR:=[bx 74 64 1,ab 64 74]
abbrev yuI:zR:=[ab 68 8,ab 69 10,aU 70 sg 69,aU 71 xj 70,o 72 (.call (.f qD) [.t 71,.c (.list true 0 [])]),o 73 (.append 3 aR 24 (.t 68) (.t 72)),ab 8 73]
abbrev yuJ:zR:=[aZ 66 1 62 64,ai 67 1 66,ab 10 67]
abbrev yuK:ah:=.seq (.ae yuJ) (.ae yuI)
abbrev yuL:zR:=[cJ 65 64 63]
abbrev Hh:ah:=.seq (.ae yuL) (.seq (.cond (.t 65) .skip (.exit 3)) (.seq (.block 4 [] yuK) (.ae yuH)))
abbrev yuN:zR:=[ai 62 1 1,aP 63 62,aO 64 0]
abbrev yuO:zR:=[ai 58 1 1,aP 59 58,o 60 (.build [.int .i64 0,.int .i64 0,.int .i64 0] [(0,1,.c (.int .i64 4)),(2,1,.t 59)]),o 61 (.lit 3 [.agg [.int .i64 0,.int .i64 0,.int .i64 0]] [(0,.t 60)]),ab 8 61]
abbrev yuP:ah:=.seq (.ae yuO) (.seq (.seq (.ae yuN) (.block 3 Pa (.loop QH Hh))) (.seq (.ae QF) .ret))
abbrev yuQ:zR:=[ab 56 7,o 57 (.cmp .lss (.sc .int) (.t 56) (.c (.int .i64 2)))]
abbrev yuR:zR:=[ai 52 1 1,aU 53 sx 52,ab 51 53,bf 54 51 0,bf 55 51 1,o 6 (.alloc [.int .i64 0,.int .i64 0]),aL 2 6 54,ab 7 55]
abbrev yuS:zR:=[ai 45 1 4,ai 46 1 1,ai 47 1 4,cE 48 pd 46 47,aU 49 gY 48,cE 50 qD 45 49,ab 2 50]
abbrev yuT:ah:=.seq (.aQ [I,O,O,O,O,O,O] [6,4,4,5,6,8,8] yuS) .ret
abbrev yuU:zR:=[ai 42 1 4,aP 43 42,o 44 (.cmp .gtr (.sc .int) (.t 43) (.c (.int .i64 0)))]
abbrev B6:zR:=[o 5 (.alloc [.int .i64 0,.int .i64 0]),aL 2 5 31]
abbrev yuW:zR:=[ai 38 1 4,aJ 39 2 5,o 40 (.lit 2 [.agg [.int .i64 0,.int .i64 0]] [(0,.t 39)]),o 41 (.append 2 kC 16 (.t 38) (.t 40)),aL 1 4 41]
abbrev yuX:zR:=[ai 32 1 1,aJ 33 2 5,cE 34 sv 32 33,ai 35 1 1,aP 36 35,o 37 (.cmp .eql (.sc .int) (.t 34) (.t 36))]
abbrev yuY:ah:=.seq (.aQ [O,O,O,I,O,O] [3,3,7,7,7,7] yuX) (.cond (.t 37) (.ae yuW) .skip)
abbrev Be:ah:=.block 2 [] yuY
abbrev yva:ah:=.rangeFunc (.t 30) [31] (O::I::I::O::I::(by(iterate 96 refine O::?_);exact[])) (.ae B6) Be
abbrev yvb:zR:=[ai 27 1 1,o 28 (.iY 1 (.t 27) (.c (.int .i64 0))),ai 29 1 28,aU 30 sg 29]
abbrev yvc:zR:=[o 4 (.alloc [.own 2 kC []])]
abbrev yvd:zR:=[o 19 (.build [.int .i64 0,.int .i64 0,.int .i64 0] [(0,1,.c (.int .i64 0))]),o 20 (.lit 3 [.agg [.int .i64 0,.int .i64 0,.int .i64 0]] [(0,.t 19)]),ab 2 20]
abbrev yve:zR:=[o 25 (.build [.int .i64 0,.int .i64 0,.int .i64 0] [(0,1,.c (.int .i64 1))]),o 26 (.lit 3 [.agg [.int .i64 0,.int .i64 0,.int .i64 0]] [(0,.t 25)]),ab 2 26]
abbrev yvf:ah:=.seq (.ae yve) .ret
abbrev yvg:zR:=[ai 22 1 1,ab 23 3,cE 24 o8 22 23,ab 21 24]
abbrev yvh:ah:=.seq (.ae yvd) .ret
abbrev yvi:ah:=.seq (.ae yvg) (.cond (.t 21) yvf .skip)
abbrev yvj:zR:=[ai 16 1 1,aP 17 16,o 18 (.cmp .eql (.sc .int) (.t 17) (.c (.int .i64 0))),ab 15 18]
abbrev yvk:ah:=.seq (.ae yvj) (.cond (.t 15) yvh yvi)
abbrev yvl:zR:=[o 3 (.mv (.f xC))]
abbrev yvm:zR:=[o 1 (.box 1 (.t 0)),o 2 (.bA 3 aR)]
abbrev UK:aB:=⟨.seq (.ae yvm) (.seq (.ae yvl) (.seq (.block 0 [] yvk) (.seq (.ae yvc) (.seq (.seq (.ae yvb) (.block 1 [] yva)) (.seq (.seq (.ae yuU) (.cond (.t 44) yuT .skip)) (.seq (.ae yuR) (.seq (.seq (.ae yuQ) (.cond (.t 57) yuP .skip)) (.seq (.ae Pg) (.seq (.ae Q3) (.seq (.aQ [I,I,O,I,O,O,O,O,O] [7,7,7,7,6,7,8,10,10] wE) (.seq (.aQ [O,O,I,O,O,O] [2,4,4,5,7,7] BW) (.seq (.ae A') .ret)))))))))))),101,[.tmp 2]⟩
abbrev yvn:zI:=[.code (.seq (.ae QF) .ret),.code (.seq (.ae Pg) (.seq (.ae Q3) (.seq (.aQ [I,I,O,I,O,O,O,O,O] [7,7,7,7,6,7,8,10,10] wE) (.seq (.aQ [O,O,I,O,O,O] [2,4,4,5,7,7] BW) (.seq (.ae A') .ret)))))]
abbrev yvo(x8 x62 x63 x64:AV)(h:List Ob)(e:Cx:=cx):ar:=bl gY (.code Hh::.inLoop QH Hh::.inBlock 3 Pa::yvn) (U::U::U::U::U::U::U::U::x8::(by(iterate 53 refine U::?_);exact x62::x63::x64::(by(iterate 36 refine U::?_);exact[]))) h e
@[simp] theorem eR:aA Tryz.prog gY=some UK:=by kernel_rfl
@[simp] theorem au6:au Tryz.prog gY=true:=by kernel_rfl
abbrev yvp:zR:=[ab 5 0,ab 6 1,o 7 (.call (.f r_) [.t 5,.t 6,.c (.int .i64 0)]),ab 4 7]
abbrev S7:aB:=⟨.seq (.ae lS) (.seq (.ae yvp) .ret),8,[.tmp 4]⟩
@[simp] theorem SJ:aA Tryz.prog sb=some S7:=by kernel_rfl
@[simp] theorem aup:au Tryz.prog sb=true:=by kernel_rfl
abbrev yvr:zR:=[ab 5 0,ab 6 1,o 7 (.call (.f r_) [.t 5,.t 6,.c (.int .i64 1)]),o 8 (.bD .xor (.t 7) (.c (.int .i64 1))),ab 4 8]
abbrev SZ:aB:=⟨.seq (.ae lS) (.seq (.ae yvr) .ret),9,[.tmp 4]⟩
@[simp] theorem SE:aA Tryz.prog sd=some SZ:=by kernel_rfl
@[simp] theorem aul:au Tryz.prog sd=true:=by kernel_rfl
abbrev P1:zR:=[ab 49 3,ab 2 49]
abbrev OF:zB:=O::I::O::I::(by(iterate 16 refine O::?_);exact I::I::I::(by(iterate 27 refine O::?_);exact[]))
abbrev QS:zB:=O::O::O::I::(by(iterate 46 refine O::?_);exact[])
abbrev yvw:zR:=[bx 48 22 1,ab 22 48]
abbrev yvx:zR:=[ab 38 3,o 39 (.cg (.t 38)),ak 40 5 39,ai 41 1 40,aJ 42 2 5,aJ 43 5 1,aU 44 kD 43,ab 45 4,o 46 (.bD .add (.t 44) (.t 45)),o 47 (.bD .mul (.c (.int .i64 2)) (.t 46)),q (.bE (.iG [.int,.int]) (.t 41) (.t 42) (.t 47))]
abbrev yvy:zR:=[ab 36 7,o 37 (.not (.t 36))]
abbrev yvz:zR:=[ab 28 3,o 29 (.cg (.t 28)),ak 30 5 29,ai 31 1 30,aJ 32 2 5,o 33 (.lookup (.iG [.int,.int]) (.int .i64 0) (.t 31) (.t 32) true),ab 27 33,bf 34 27 0,bf 35 27 1,ab 6 34,ab 7 35]
abbrev yvA:zR:=[ab 24 22,aZ 25 2 20 22,aJ 26 2 25,o 5 (.alloc [.int .i64 0,.int .i64 0]),ab 4 24,aL 2 5 26]
abbrev yvB:ah:=.seq (.ae yvA) (.seq (.aQ [O,O,O,O,O,O,O,O,O,O,O] [12,12,12,12,12,12,12,12,12,12,12] yvz) (.seq (.ae yvy) (.cond (.t 37) (.aQ [O,O,O,I,I,O,O,O,O,O,O] [11,11,11,11,11,7,11,11,11,11,12] yvx) .skip)))
abbrev yvC:zR:=[cJ 23 22 21]
abbrev HZ:ah:=.seq (.ae yvC) (.seq (.cond (.t 23) .skip (.exit 0)) (.seq (.block 1 [] yvB) (.ae yvw)))
abbrev yvE:zR:=[ak 19 3 1,ai 20 1 19,aP 21 20,aO 22 0]
abbrev yvF:zR:=[ab 12 3,ak 13 3 1,ai 14 1 13,aU 15 xk 14,o 16 (.cg (.t 12)),ak 17 0 16,ak 18 3 17,aL 1 18 15]
abbrev yvG:zR:=[aJ 8 5 1,o 9 (.mkMap),o 10 (.build [.int .i64 0,.list true 0 [],.list true 0 [],.list true 0 [],.list true 0 [],.cY,.list true 0 []] [(0,5,.t 8),(5,1,.t 9)]),o 11 (.box 7 (.t 10)),ab 3 11]
abbrev XN:aB:=⟨.seq (.ae PV) (.seq (.ae yvG) (.seq (.ae yvF) (.seq (.seq (.ae yvE) (.block 0 QS (.loop OF HZ))) (.seq (.ae P1) .ret)))),50,[.tmp 2]⟩
abbrev yvI:zI:=[.code (.seq (.ae P1) .ret)]
abbrev yvJ(x1 x3 x20 x21 x22:AV)(h:List Ob)(e:Cx:=cx):ar:=bl qE (.code HZ::.inLoop OF HZ::.inBlock 0 QS::yvI) (U::x1::U::x3::(by(iterate 16 refine U::?_);exact x20::x21::x22::(by(iterate 27 refine U::?_);exact[]))) h e
@[simp] theorem Jc:aA Tryz.prog qE=some XN:=by kernel_rfl
@[simp] theorem avS:au Tryz.prog qE=true:=by kernel_rfl
abbrev yvK:zR:=[o 5 (.lit 1 [] []),ab 6 0,o 7 (.append 1 aq 8 (.t 5) (.t 6)),ab 2 7]
abbrev F8:zR:=[o 2 (.bA 1 aq)]
abbrev yvM:ah:=.seq (.ae F8) .ret
abbrev Sr:aB:=⟨.seq (.ae F8) (.seq (.seq (.ae Bv) (.cond (.t 4) yvM .skip)) (.seq (.ae yvK) .ret)),8,[.tmp 2]⟩
@[simp] theorem Sk:aA Tryz.prog xq=some Sr:=by kernel_rfl
@[simp] theorem at0:au Tryz.prog xq=true:=by kernel_rfl
abbrev QK:zR:=[ab 24 5,ab 4 24]
abbrev Qx:zB:=[O,O,O,O,O,I,I,O,O,O,O,I,I,I,O,O,O,O,O,O,O,O,O,O,O]
abbrev PS:zB:=O::O::O::O::O::I::(by(iterate 19 refine O::?_);exact[])
abbrev yvS:zR:=[bx 23 13 1,ab 13 23]
abbrev yvT:zR:=[ab 17 5,ab 18 6,ab 19 8,o 20 (.call (.t 18) [.t 19]),o 21 (.lit 1 [.int .i64 0] [(0,.t 20)]),o 22 (.append 1 aq 8 (.t 17) (.t 21)),ab 5 22]
abbrev yvU:zR:=[aZ 15 1 11 13,ai 16 1 15,ab 8 16]
abbrev yvV:ah:=.seq (.ae yvU) (.ae yvT)
abbrev GI:ah:=.seq (.ae tX) (.seq (.cond (.t 14) .skip (.exit 0)) (.seq (.block 1 [] yvV) (.ae yvS)))
abbrev yvY:zR:=[ab 11 1,aP 12 11,aO 13 0]
abbrev yvZ:zR:=[ab 9 0,o 10 (.fA (.func mR) [.t 9] []),ab 6 10]
abbrev ywa:zR:=[o 5 (.bA 1 aq)]
abbrev Ts:aB:=⟨.seq (.ae GG) (.seq (.ae ywa) (.seq (.ae yvZ) (.seq (.seq (.ae yvY) (.block 0 PS (.loop Qx GI))) (.seq (.ae QK) .ret)))),25,[.tmp 4]⟩
abbrev ywc:zI:=[.code (.seq (.ae QK) .ret)]
abbrev OY(x5 x6 x11 x12 x13:AV)(h:List Ob)(e:Cx:=cx):ar:=bl qz (.code GI::.inLoop Qx GI::.inBlock 0 PS::ywc) [U,U,U,U,U,x5,x6,U,U,U,U,x11,x12,x13,U,U,U,U,U,U,U,U,U,U,U] h e
@[simp] theorem ID:aA Tryz.prog qz=some Ts:=by kernel_rfl
@[simp] theorem auB:au Tryz.prog qz=true:=by kernel_rfl
abbrev ywk:zR:=[ab 11 1,ab 12 0,ab 13 5,aZ 14 5 12 13,aJ 15 5 14,o 16 (.call (.t 11) [.t 15])]
abbrev ywm:ah:=.seq (.ae G') (.seq (.ae ywk) (.cond (.t 16) Gc .skip))
abbrev F7:ah:=.seq (.ae BI) (.seq (.cond (.t 9) .skip (.exit 0)) (.seq (.block 1 [] ywm) (.ae Gh)))
abbrev RI:aB:=⟨.seq (.ae lS) (.seq (.seq (.ae wJ) (.block 0 lW (.loop p3 F7))) (.seq (.ae ua) .ret)),19,[.tmp 4]⟩
abbrev yws(x0 x1 x7 x8:AV)(h:List Ob)(e:Cx:=cx):ar:=bl uC (.code F7::.inLoop p3 F7::.inBlock 0 lW::Bh) [x0,x1,U,U,U,U,U,x7,x8,U,U,U,U,U,U,U,U,U,U] h e
@[simp] theorem RE:aA Tryz.prog uC=some RI:=by kernel_rfl
@[simp] theorem atv:au Tryz.prog uC=true:=by kernel_rfl
abbrev ywt:zR:=[ab 4 0,o 5 (.cmp .neq (.sc .str) (.t 4) (.c (.str []))),ab 6 5,cK 7 6 0,oy 8 6 (.lx (.t 7)),oy 9 6 (.cmp .leq (.sc .int) (.t 8) (.c (.int .i64 40))),bK 10 6 9,ab 11 10,cK 12 11 0,cK 13 11 3,oy 14 11 (.call (.f xv) [.t 12,.t 13]),oy 15 11 (.cmp .lss (.sc .int) (.t 14) (.c (.int .i64 0))),bK 16 11 15,ab 2 16]
abbrev ywu:zR:=[o 3 (.mv (.f qw))]
abbrev Tg:aB:=⟨.seq (.ae jm) (.seq (.ae ywu) (.seq (.ae ywt) .ret)),17,[.tmp 2]⟩
@[simp] theorem SQ:aA Tryz.prog xz=some Tg:=by kernel_rfl
@[simp] theorem auw:au Tryz.prog xz=true:=by kernel_rfl
abbrev yww:zR:=[ab 4 0,ak 5 2 1,ai 6 1 5,aP 7 6,cE 8 zi 4 7,o 9 (.not (.t 8)),ab 3 9]
abbrev VI:aB:=⟨.seq (.ae wO) (.seq (.ae yww) .ret),10,[.tmp 3]⟩
@[simp] theorem Uz:aA Tryz.prog xN=some VI:=by kernel_rfl
@[simp] theorem avw:au Tryz.prog xN=true:=by kernel_rfl
abbrev ywy:zR:=[ab 5 0,o 6 (.lx (.t 5)),ab 7 1,o 8 (.cmp .eql (.sc .int) (.t 6) (.t 7)),ab 9 8,cK 10 9 0,oy 11 9 (.call (.f sm) [.t 10,.c (.str [48,49,45])]),oy 12 9 (.cmp .eql (.sc .str) (.t 11) (.c (.str []))),bK 13 9 12,ab 4 13]
abbrev aal:aB:=⟨.seq (.ae yr) (.seq (.ae ywy) .ret),14,[.tmp 4]⟩
@[simp] theorem W4:aA Tryz.prog zi=some aal:=by kernel_rfl
@[simp] theorem aw5:au Tryz.prog zi=true:=by kernel_rfl
abbrev ywA:zR:=[ab 13 6,ab 14 13,cK 15 14 1,oy 16 14 (.gu 2 1 (.t 5) (.c (.int .i64 0))),cz 17 14 1 16,oy 18 14 (.cmp .geq (.sc .int) (.t 15) (.t 17)),bK 19 14 18,ab 20 19,cK 21 20 1,oy 22 20 (.gu 2 1 (.t 5) (.c (.int .i64 1))),cz 23 20 1 22,oy 24 20 (.cmp .leq (.sc .int) (.t 21) (.t 23)),bK 25 20 24,ab 4 25]
abbrev ywB:zR:=[o 8 (.load false 1 (.g 1)),ab 9 0,o 10 (.lookup (.sc .int) (.agg [.int .i64 0,.int .i64 0]) (.t 8) (.t 9) true),ab 7 10,bf 11 7 0,bf 12 7 1,o 5 (.alloc [.int .i64 0,.int .i64 0]),aL 2 5 11,ab 6 12]
abbrev abb:aB:=⟨.seq (.ae yr) (.seq (.ae ywB) (.seq (.ae ywA) .ret)),26,[.tmp 4]⟩
@[simp] theorem KC:aA Tryz.prog sM=some abb:=by kernel_rfl
@[simp] theorem axd:au Tryz.prog sM=true:=by kernel_rfl
abbrev ywJ:zR:=[ab 11 1,ab 12 0,ab 13 5,aZ 14 1 12 13,ai 15 1 14,o 16 (.call (.t 11) [.t 15])]
abbrev ywL:ah:=.seq (.ae G') (.seq (.ae ywJ) (.cond (.t 16) Gc .skip))
abbrev tU:ah:=.seq (.ae BI) (.seq (.cond (.t 9) .skip (.exit 0)) (.seq (.block 1 [] ywL) (.ae Gh)))
abbrev Sa:aB:=⟨.seq (.ae lS) (.seq (.seq (.ae wJ) (.block 0 lW (.loop p3 tU))) (.seq (.ae ua) .ret)),19,[.tmp 4]⟩
abbrev ywR(x0 x1 x7 x8:AV)(h:List Ob)(e:Cx:=cx):ar:=bl uF (.code tU::.inLoop p3 tU::.inBlock 0 lW::Bh) [x0,x1,U,U,U,U,U,x7,x8,U,U,U,U,U,U,U,U,U,U] h e
@[simp] theorem R4:aA Tryz.prog uF=some Sa:=by kernel_rfl
@[simp] theorem atM:au Tryz.prog uF=true:=by kernel_rfl
abbrev RP:aB:=⟨.seq (.ae lS) (.seq (.seq (.ae wJ) (.block 0 lW (.loop p3 tU))) (.seq (.ae ua) .ret)),19,[.tmp 4]⟩
abbrev P2(x0 x1 x7 x8:AV)(h:List Ob)(e:Cx:=cx):ar:=bl qp (.code tU::.inLoop p3 tU::.inBlock 0 lW::Bh) [x0,x1,U,U,U,U,U,x7,x8,U,U,U,U,U,U,U,U,U,U] h e
@[simp] theorem Im:aA Tryz.prog qp=some RP:=by kernel_rfl
@[simp] theorem atz:au Tryz.prog qp=true:=by kernel_rfl
abbrev yxh:zR:=[o 7 (.alloc [.int .i64 0,.int .i64 0]),aL 2 7 28]
abbrev yxi:zR:=[ab 6 27]
abbrev yxj:zR:=[ai 29 1 2,aJ 30 5 1,aU 31 kD 30,ab 32 6,o 33 (.bD .add (.t 31) (.t 32)),aZ 34 1 29 33,ai 35 1 34,ab 36 35,cz 37 36 1 3,oy 38 36 (.gu 2 1 (.t 7) (.c (.int .i64 0))),cz 39 36 1 38,oy 40 36 (.call (.t 37) [.t 39]),oy 41 36 (.not (.t 40)),cK 42 36 41,on 43 42 (.load false 1 (.t 3)),on 44 42 (.gu 2 1 (.t 7) (.c (.int .i64 1))),on 45 42 (.load false 1 (.t 44)),on 46 42 (.call (.t 43) [.t 45]),on 47 42 (.not (.t 46)),oy 48 36 (.pick (.t 42) (.c (.bool true)) (.t 47)),bK 49 36 48]
abbrev yxk:ah:=.seq (.aQ (I::(by(iterate 20 refine O::?_);exact[])) [12,3,12,12,12,12,12,12,12,12,12,18,18,18,18,18,18,22,22,22,22] yxj) (.cond (.t 49) .ret .skip)
abbrev F1:ah:=.seq (.ae yxi) (.ae yxh)
abbrev Gq:ah:=.block 3 [] yxk
abbrev Pk:ah:=.rangeFunc (.t 26) [27,28] (O::I::I::I::(by(iterate 46 refine O::?_);exact[])) F1 Gq
abbrev QE:zR:=[ak 24 3 1,ai 25 1 24,aU 26 Cl 25]
abbrev Oy:zB:=O::I::I::I::O::O::O::O::O::O::O::O::O::I::I::I::(by(iterate 34 refine O::?_);exact[])
abbrev OC:zB:=O::I::I::I::(by(iterate 46 refine O::?_);exact[])
abbrev yxr:zR:=[bx 23 15 1,ab 15 23]
abbrev yxs:zR:=[ai 19 1 3,ab 20 5,o 21 (.call (.t 19) [.t 20]),o 22 (.not (.t 21))]
abbrev yxt:zR:=[aZ 17 1 13 15,ai 18 1 17,ab 5 18]
abbrev yxu:ah:=.seq (.ae yxt) (.seq (.ae yxs) (.cond (.t 22) .ret .skip))
abbrev yxv:zR:=[cJ 16 15 14]
abbrev G2:ah:=.seq (.ae yxv) (.seq (.cond (.t 16) .skip (.exit 0)) (.seq (.block 1 [] yxu) (.ae yxr)))
abbrev yxx:zR:=[ak 8 1 1,ai 9 1 8,ak 10 4 1,ai 11 1 10,o 12 (.lit 1 [.list true 0 [],.list true 0 []] [(0,.t 9),(1,.t 11)]),aU 13 o_ 12,aP 14 13,aO 15 0]
abbrev yxy:zR:=[o 3 (.box 1 (.t 0))]
abbrev Uk:aB:=⟨.seq (.ae yxy) (.seq (.seq (.ae yxx) (.block 0 OC (.loop Oy G2))) (.seq (.ae QE) (.block 2 [] Pk))),50,[]⟩
abbrev Qo:zI:=[.code (.seq (.ae QE) (.block 2 [] Pk))]
abbrev yxA(x1 x2 x3 x13 x14 x15:AV)(h:List Ob)(e:Cx:=cx):ar:=bl nS (.code G2::.inLoop Oy G2::.inBlock 0 OC::Qo) (U::x1::x2::x3::U::U::U::U::U::U::U::U::U::x13::x14::x15::(by(iterate 34 refine U::?_);exact[])) h e
abbrev Ha(x1 x2 x3:AV)(h:List Ob)(e:Cx:=cx):ar:=bl nS Qo (U::x1::x2::x3::(by(iterate 46 refine U::?_);exact[])) h e
@[simp] theorem TA:aA Tryz.prog nS=some Uk:=by kernel_rfl
@[simp] theorem auZ:au Tryz.prog nS=true:=by kernel_rfl
abbrev yxG:zR:=[ab 31 6,ab 32 8,o 33 (.append 1 aq 8 (.t 31) (.t 32)),ab 6 33]
abbrev yxI:ah:=.seq (.ae By) (.ae yxG)
abbrev Bw:ah:=.seq (.ae tY) (.seq (.cond (.t 28) .skip (.exit 2)) (.seq (.block 3 [] yxI) (.ae B3)))
abbrev Pj:zR:=[ab 23 3,o 24 (.call (.f Cu) [.c (.list true 0 []),.t 23]),ab 6 24]
abbrev So:aB:=⟨.seq (.ae F8) (.seq (.ae rQ) (.seq (.seq (.ae BF) (.block 0 rJ (.loop rP nA))) (.seq (.ae Pj) (.seq (.seq (.ae rO) (.block 2 nz (.loop nD Bw))) (.seq (.ae p5) .ret))))),36,[.tmp 2]⟩
abbrev QU(x6 x25 x26 x27:AV)(h:List Ob)(e:Cx:=cx):ar:=bl o_ (.code Bw::.inLoop nD Bw::.inBlock 2 nz::Gd) (U::U::U::U::U::U::x6::(by(iterate 18 refine U::?_);exact[x25,x26,x27,U,U,U,U,U,U,U,U])) h e
abbrev yyc:zI:=[.code (.seq (.ae Pj) (.seq (.seq (.ae rO) (.block 2 nz (.loop nD Bw))) (.seq (.ae p5) .ret)))]
abbrev Qd(x0 x3 x9 x10 x11:AV)(h:List Ob)(e:Cx:=cx):ar:=bl o_ (.code nA::.inLoop rP nA::.inBlock 0 rJ::yyc) (x0::U::U::x3::U::U::U::U::U::x9::x10::x11::(by(iterate 24 refine U::?_);exact[])) h e
@[simp] theorem Is:aA Tryz.prog o_=some So:=by kernel_rfl
@[simp] theorem atU:au Tryz.prog o_=true:=by kernel_rfl
abbrev yye:zR:=[o 3 (.fA (.func uD) [] [.t 1]),ab 2 3]
abbrev PW:zR:=[o 1 (.box 1 (.t 0)),o 2 (.mv (.c .db))]
abbrev R0:aB:=⟨.seq (.ae PW) (.seq (.ae yye) .ret),4,[.tmp 2]⟩
@[simp] theorem RT:aA Tryz.prog Cl=some R0:=by kernel_rfl
@[simp] theorem atG:au Tryz.prog Cl=true:=by kernel_rfl
abbrev yyg:zR:=[ak 29 0 6,ai 30 1 29,ab 31 1,o 32 (.call (.t 30) [.t 31]),ak 33 1 6,ai 34 1 33,o 35 (.cmp .neq (.sc .bool) (.t 32) (.t 34)),ab 4 35,aO 5 0]
abbrev yyh:zR:=[o 27 (.fA (.func CM) [] [.t 2]),ak 28 0 6,aL 1 28 27]
abbrev yyi:zR:=[ak 24 4 2,ai 25 1 24,ak 26 1 6,aL 1 26 25]
abbrev yyj:ah:=.seq (.ae yyi) (.ae yyh)
abbrev yyk:zR:=[ak 21 1 2,ai 22 1 21,o 23 (.cmp .eql (.sc .int) (.t 22) (.c (.int .i64 10)))]
abbrev yyl:zR:=[ak 18 1 2,ai 19 1 18,aU 20 DT 19,o 6 (.alloc [.db,.bool false]),aL 2 6 20]
abbrev yym:zR:=[kp 4,aO 5 1]
abbrev yyn:ah:=.seq (.ae yym) .ret
abbrev yyo:zR:=[aJ 7 5 2,aU 8 u_ 7,o 9 (.not (.t 8)),ab 10 9,on 11 10 (.mv (.t 1)),on 12 10 (.len (.t 11)),on 13 10 (.off 2 (.t 2)),on 14 10 (.load false 1 (.t 13)),on 15 10 (.len (.t 14)),on 16 10 (.cmp .neq (.sc .int) (.t 12) (.t 15)),o 17 (.pick (.t 10) (.c (.bool true)) (.t 16))]
abbrev yyp:zR:=[o 2 (.box 5 (.t 0)),kp 4,aO 5 0]
abbrev Xt:aB:=⟨.seq (.ae yyp) (.seq (.seq (.ae yyo) (.cond (.t 17) yyn .skip)) (.seq (.ae yyl) (.seq (.seq (.ae yyk) (.cond (.t 23) yyj .skip)) (.seq (.aQ [O,O,O,O,O,I,O,O,O] [4,4,4,10,10,10,10,10,10] yyg) .ret)))),36,[.tmp 4,.tmp 5]⟩
@[simp] theorem avQ:aA Tryz.prog CU=some Xt:=by kernel_rfl
@[simp] theorem av2:au Tryz.prog CU=true:=by kernel_rfl
abbrev yyr:zR:=[ab 17 0,ab 18 0,o 19 (.cap (.t 18)),o 20 (.slice 1 (.t 17) none (some (.t 19))),ab 21 1,o 22 (.pC 1 cA 1 (.bool false) (.t 20) (.t 21)),ab 23 0,aP 24 23,o 25 (.slice 1 (.t 22) none (some (.t 24))),ab 0 25]
abbrev Sm:aB:=⟨.seq (.ae HU) (.seq (.seq (.ae BL) (.cond (.t 6) (.ae B2) .skip)) (.seq (.seq (.ae BM) (.seq (.ae Bk) (.cond (.t 16) (.ae yyr) .skip))) (.seq (.ae Bb) .ret))),27,[.tmp 4]⟩
@[simp] theorem atV:aA Tryz.prog Cp=some Sm:=by kernel_rfl
@[simp] theorem atT:au Tryz.prog Cp=true:=by kernel_rfl
abbrev QC:zB:=I::I::(by(iterate 21 refine O::?_);exact[])
abbrev Oz:zB:=(by(iterate 23 refine O::?_);exact[])
abbrev yyz:zR:=[ab 22 4,ab 1 22]
abbrev yyA:zR:=[ab 18 0,ab 19 4,ab 20 1,o 21 (.invoke (.t 18) "Swap" [.t 19,.t 20])]
abbrev yyB:zR:=[ab 8 4,ab 9 1,o 10 (.cmp .eql (.sc .int) (.t 8) (.t 9)),ab 11 10,on 12 11 (.mv (.t 0)),on 13 11 (.mv (.t 1)),on 14 11 (.mv (.t 4)),on 15 11 (.invoke (.t 12) "Less" [.t 13,.t 14]),on 16 11 (.not (.t 15)),o 17 (.pick (.t 11) (.c (.bool true)) (.t 16))]
abbrev yyC:zR:=[ab 5 1,o 6 (.bD .sub (.t 5) (.c (.int .i64 1))),o 7 (.bD .quo (.t 6) (.c (.int .i64 2))),ab 4 7]
abbrev yyD:ah:=.seq (.ae yyC) (.seq (.seq (.ae yyB) (.cond (.t 17) (.exit 0) .skip)) (.seq (.ae yyA) (.ae yyz)))
abbrev Gn:ah:=.block 1 [] yyD
abbrev S4:aB:=⟨.block 0 Oz (.loop QC Gn),23,[]⟩
abbrev yyG(x0 x1:AV)(h:List Ob)(e:Cx:=cx):ar:=bl uL (.code Gn::.inLoop QC Gn::.inBlock 0 Oz::BU) (x0::x1::(by(iterate 21 refine U::?_);exact[])) h e
@[simp] theorem Sz:aA Tryz.prog uL=some S4:=by kernel_rfl
@[simp] theorem aum:au Tryz.prog uL=true:=by kernel_rfl
abbrev QN:zR:=[ab 45 7,ab 46 1,o 47 (.cmp .gtr (.sc .int) (.t 45) (.t 46)),ab 6 47]
abbrev Qi:zB:=I::I::I::O::O::O::O::I::(by(iterate 40 refine O::?_);exact[])
abbrev QX:zB:=O::I::O::O::O::O::O::I::(by(iterate 40 refine O::?_);exact[])
abbrev yyK:zR:=[ab 44 9,ab 7 44]
abbrev yyL:zR:=[ab 40 0,ab 41 7,ab 42 9,o 43 (.invoke (.t 40) "Swap" [.t 41,.t 42])]
abbrev yyM:zR:=[ab 35 0,ab 36 9,ab 37 7,o 38 (.invoke (.t 35) "Less" [.t 36,.t 37]),o 39 (.not (.t 38))]
abbrev yyN:zR:=[ab 34 10,ab 9 34]
abbrev yyO:zR:=[ab 25 10,ab 26 2,cJ 27 25 26,ab 28 27,cK 29 28 0,cK 30 28 10,cK 31 28 8,oy 32 28 (.invoke (.t 29) "Less" [.t 30,.t 31]),bK 33 28 32]
abbrev yyP:zR:=[ab 23 8,bx 24 23 1,ab 10 24]
abbrev yyQ:zR:=[ab 22 8,ab 9 22]
abbrev yyR:zR:=[ab 15 8,ab 16 2,o 17 (.cmp .geq (.sc .int) (.t 15) (.t 16)),ab 18 17,on 19 18 (.mv (.t 8)),on 20 18 (.cmp .lss (.sc .int) (.t 19) (.c (.int .i64 0))),o 21 (.pick (.t 18) (.c (.bool true)) (.t 20))]
abbrev yyS:zR:=[ab 12 7,o 13 (.bD .mul (.c (.int .i64 2)) (.t 12)),bx 14 13 1,ab 8 14]
abbrev yyT:ah:=.seq (.ae yyS) (.seq (.seq (.ae yyR) (.cond (.t 21) (.exit 0) .skip)) (.seq (.ae yyQ) (.seq (.seq (.ae yyP) (.seq (.ae yyO) (.cond (.t 33) (.ae yyN) .skip))) (.seq (.seq (.ae yyM) (.cond (.t 39) (.exit 0) .skip)) (.seq (.ae yyL) (.ae yyK))))))
abbrev Hr:ah:=.block 1 [] yyT
abbrev yyV:zR:=[ab 11 1,ab 7 11]
abbrev SD:aB:=⟨.seq (.ae yG) (.seq (.ae yyV) (.seq (.block 0 QX (.loop Qi Hr)) (.seq (.ae QN) .ret))),48,[.tmp 6]⟩
abbrev yyX:zI:=[.code (.seq (.ae QN) .ret)]
abbrev yyY(x0 x1 x2 x7:AV)(h:List Ob)(e:Cx:=cx):ar:=bl uH (.code Hr::.inLoop Qi Hr::.inBlock 0 QX::yyX) (x0::x1::x2::U::U::U::U::x7::(by(iterate 40 refine U::?_);exact[])) h e
@[simp] theorem Sl:aA Tryz.prog uH=some SD:=by kernel_rfl
@[simp] theorem aua:au Tryz.prog uH=true:=by kernel_rfl
abbrev yyZ:zR:=[ab 3 0,o 4 (.call (.f sm) [.t 3,.c (.str [45])]),o 5 (.cmp .eql (.sc .str) (.t 4) (.c (.str []))),ab 2 5]
abbrev TG:aB:=⟨.seq (.ae jm) (.seq (.ae yyZ) .ret),6,[.tmp 2]⟩
@[simp] theorem Td:aA Tryz.prog xC=some TG:=by kernel_rfl
@[simp] theorem auP:au Tryz.prog xC=true:=by kernel_rfl
abbrev yzb:zR:=[o 3 (.fA (.func qy) [] [.t 1]),ab 2 3]
abbrev TL:aB:=⟨.seq (.ae PW) (.seq (.ae yzb) .ret),4,[.tmp 2]⟩
@[simp] theorem Te:aA Tryz.prog sg=some TL:=by kernel_rfl
@[simp] theorem auT:au Tryz.prog sg=true:=by kernel_rfl
abbrev Qv:zB:=[O,O,O,I,O,I,O,O,I,I,I,O,O,O,O,O,O,O,O,O,O,O]
abbrev yzh:zR:=[ab 18 5,bx 19 18 1,ab 5 19]
abbrev yzi:zR:=[aJ 14 2 3,aU 15 uZ 14,ab 16 7,o 17 (.call (.t 15) [.t 16])]
abbrev yzk:ah:=.seq (.ae ON) (.seq (.ae yzi) (.cond (.t 17) (.ae yzh) .skip))
abbrev Gs:ah:=.seq (.ae HE) (.seq (.cond (.t 11) .skip (.exit 0)) (.seq (.block 1 [] yzk) (.ae P6)))
abbrev yzn:zR:=[ab 8 0,aP 9 8,aO 10 0]
abbrev yzp:zR:=[o 3 (.box 2 (.t 1)),aO 4 0]
abbrev U8:aB:=⟨.seq (.ae yzp) (.seq (.ae qc) (.seq (.seq (.ae yzn) (.block 0 Hp (.loop Qv Gs))) (.seq (.ae GY) .ret))),22,[.tmp 4]⟩
abbrev yzq:zI:=[.code (.seq (.ae GY) .ret)]
abbrev yzr(x3 x5 x8 x9 x10:AV)(h:List Ob)(e:Cx:=cx):ar:=bl sv (.code Gs::.inLoop Qv Gs::.inBlock 0 Hp::yzq) [U,U,U,x3,U,x5,U,U,x8,x9,x10,U,U,U,U,U,U,U,U,U,U,U] h e
@[simp] theorem Ui:aA Tryz.prog sv=some U8:=by kernel_rfl
@[simp] theorem avr:au Tryz.prog sv=true:=by kernel_rfl
abbrev Pv:zR:=[ab 44 6,ab 45 1,o 46 (.append 3 aR 24 (.t 44) (.t 45)),ab 4 46]
abbrev OJ:zB:=O::I::O::O::O::O::I::(by(iterate 25 refine O::?_);exact[I,I,I,O,O,O,O,O,O,O,O,O,O,O,O])
abbrev PE:zB:=O::I::O::O::O::O::I::(by(iterate 40 refine O::?_);exact[])
abbrev yzv:zR:=[bx 43 34 1,ab 34 43]
abbrev yzw:zR:=[ab 38 6,aJ 39 2 8,aU 40 xt 39,o 41 (.lit 3 [.agg [.int .i64 0,.int .i64 0,.int .i64 0]] [(0,.t 40)]),o 42 (.append 3 aR 24 (.t 38) (.t 41)),ab 6 42]
abbrev yzx:zR:=[aZ 36 2 32 34,aJ 37 2 36,o 8 (.alloc [.int .i64 0,.int .i64 0]),aL 2 8 37]
abbrev yzy:ah:=.seq (.ae yzx) (.ae yzw)
abbrev HC:ah:=.seq (.ae O_) (.seq (.cond (.t 35) .skip (.exit 0)) (.seq (.block 1 [] yzy) (.ae yzv)))
abbrev yzB:zR:=[ab 32 0,aP 33 32,aO 34 0]
abbrev yzC:zR:=[ab 27 6,ab 28 5,o 29 (.build [.int .i64 0,.int .i64 0,.int .i64 0] [(0,1,.c (.int .i64 3)),(2,1,.t 28)]),o 30 (.lit 3 [.agg [.int .i64 0,.int .i64 0,.int .i64 0]] [(0,.t 29)]),o 31 (.append 3 aR 24 (.t 27) (.t 30)),ab 6 31]
abbrev yzD:zR:=[ab 25 5,o 26 (.cmp .gtr (.sc .int) (.t 25) (.c (.int .i64 1)))]
abbrev yzE:zR:=[o 6 (.bA 3 aR)]
abbrev yzF:zR:=[ab 19 0,aP 20 19,ab 21 1,aP 22 21,o 23 (.min [.t 22,.c (.int .i64 1)]),o 24 (.bD .add (.t 20) (.t 23)),ab 5 24]
abbrev yzG:zR:=[o 1 (.bA 3 aR)]
abbrev yzH:zR:=[ab 9 1,aP 10 9,o 11 (.cmp .eql (.sc .int) (.t 10) (.c (.int .i64 1))),ab 12 11,cK 13 12 1,oy 14 12 (.iY 3 (.t 13) (.c (.int .i64 0))),oy 15 12 (.off 0 (.t 14)),cz 16 12 1 15,oy 17 12 (.cmp .eql (.sc .int) (.t 16) (.c (.int .i64 1))),bK 18 12 17]
abbrev O6:zR:=[o 4 (.bA 3 aR)]
abbrev XB:aB:=⟨.seq (.ae O6) (.seq (.seq (.ae yzH) (.cond (.t 18) (.ae yzG) .skip)) (.seq (.ae yzF) (.seq (.ae yzE) (.seq (.seq (.ae yzD) (.cond (.t 26) (.ae yzC) .skip)) (.seq (.seq (.ae yzB) (.block 0 PE (.loop OJ HC))) (.seq (.ae Pv) .ret)))))),47,[.tmp 4]⟩
abbrev yzJ:zI:=[.code (.seq (.ae Pv) .ret)]
abbrev yzK(x1 x6 x32 x33 x34:AV)(h:List Ob)(e:Cx:=cx):ar:=bl qD (.code HC::.inLoop OJ HC::.inBlock 0 PE::yzJ) (U::x1::U::U::U::U::x6::(by(iterate 25 refine U::?_);exact[x32,x33,x34,U,U,U,U,U,U,U,U,U,U,U,U])) h e
@[simp] theorem Va:aA Tryz.prog qD=some XB:=by kernel_rfl
@[simp] theorem avX:au Tryz.prog qD=true:=by kernel_rfl
abbrev Ho:zR:=[ab 36 5,ab 4 36]
abbrev GD:zB:=O::I::O::O::O::I::O::O::O::O::O::I::I::I::(by(iterate 23 refine O::?_);exact[])
abbrev HN:zB:=O::O::O::O::O::I::(by(iterate 31 refine O::?_);exact[])
abbrev P5:zR:=[bx 35 13 1,ab 13 35]
abbrev Px:zR:=[ab 30 5,ab 31 8,o 32 (.toStr (.t 31)),o 33 (.lit 1 [.str []] [(0,.t 32)]),o 34 (.append 1 aD 16 (.t 30) (.t 33)),ab 5 34]
abbrev Pl:zB:=O::I::O::O::O::I::O::O::I::O::O::I::I::I::O::O::O::O::O::I::I::I::(by(iterate 15 refine O::?_);exact[])
abbrev Qg:zB:=O::I::O::O::O::I::O::O::I::O::O::I::I::I::(by(iterate 23 refine O::?_);exact[])
abbrev yzS:zR:=[bx 29 21 1,ab 21 29]
abbrev yzT:zR:=[ab 25 8,o 26 (.gu 2 1 (.t 10) (.c (.int .i64 0))),ai 27 1 26,aZ 28 1 25 27,q (.store 1 (.t 28) (.c (.int .u8 45)))]
abbrev yzU:zR:=[aZ 23 2 19 21,aJ 24 2 23,o 10 (.alloc [.int .i64 0,.int .i64 0]),aL 2 10 24]
abbrev yzV:ah:=.seq (.ae yzU) (.ae yzT)
abbrev yzW:zR:=[cJ 22 21 20]
abbrev Hz:ah:=.seq (.ae yzW) (.seq (.cond (.t 22) .skip (.exit 2)) (.seq (.block 3 [] yzV) (.ae yzS)))
abbrev yzY:zR:=[ab 19 1,aP 20 19,aO 21 0]
abbrev yzZ:zR:=[ab 17 7,o 18 (.vI EY (.t 17)),ab 8 18]
abbrev yAb:ah:=.seq (.ae QP) (.seq (.ae yzZ) (.seq (.seq (.ae yzY) (.block 2 Qg (.loop Pl Hz))) (.ae Px)))
abbrev BH:ah:=.seq (.ae tX) (.seq (.cond (.t 14) .skip (.exit 0)) (.seq (.block 1 [] yAb) (.ae P5)))
abbrev yAf:zR:=[o 5 (.bA 1 aD)]
abbrev UB:aB:=⟨.seq (.ae H4) (.seq (.ae yAf) (.seq (.seq (.ae B0) (.block 0 HN (.loop GD BH))) (.seq (.ae Ho) .ret))),37,[.tmp 4]⟩
abbrev Qs:zI:=[.code (.ae Px),.inBlock 1 [],.code (.ae P5),.inLoop GD BH,.inBlock 0 HN,.code (.seq (.ae Ho) .ret)]
abbrev yAi(x1 x5 x8 x11 x12 x13 x19 x20 x21:AV)(h:List Ob)(e:Cx:=cx):ar:=bl pd (.code Hz::.inLoop Pl Hz::.inBlock 2 Qg::Qs) (U::x1::U::U::U::x5::U::U::x8::U::U::x11::x12::x13::U::U::U::U::U::x19::x20::x21::(by(iterate 15 refine U::?_);exact[])) h e
abbrev yAj(x1 x5 x8 x11 x12 x13:AV)(h:List Ob)(e:Cx:=cx):ar:=bl pd Qs (U::x1::U::U::U::x5::U::U::x8::U::U::x11::x12::x13::(by(iterate 23 refine U::?_);exact[])) h e
abbrev yAk:zI:=[.code (.seq (.ae Ho) .ret)]
abbrev yAl(x1 x5 x11 x12 x13:AV)(h:List Ob)(e:Cx:=cx):ar:=bl pd (.code BH::.inLoop GD BH::.inBlock 0 HN::yAk) (U::x1::U::U::U::x5::U::U::U::U::U::x11::x12::x13::(by(iterate 23 refine U::?_);exact[])) h e
@[simp] theorem TD:aA Tryz.prog pd=some UB:=by kernel_rfl
@[simp] theorem au4:au Tryz.prog pd=true:=by kernel_rfl
abbrev GB:zR:=[aJ 36 2 4,ab 37 5,aL 2 2 36,ab 3 37]
abbrev wI:zB:=I::O::I::O::I::I::O::O::O::O::O::O::O::O::O::I::I::(by(iterate 21 refine O::?_);exact[])
abbrev GJ:zB:=O::O::I::O::I::I::(by(iterate 32 refine O::?_);exact[])
abbrev PB:zR:=[bx 35 16 1,ab 16 35]
abbrev Ph:zB:=I::O::I::O::I::I::I::O::O::O::O::O::O::O::O::I::I::O::O::I::(by(iterate 18 refine O::?_);exact[])
abbrev yAs:zR:=[aJ 33 2 9,ab 34 10,aL 2 4 33,ab 5 34]
abbrev yAt:zR:=[ab 30 10,ab 31 5,o 32 (.cmp .gtr (.sc .int) (.t 30) (.t 31))]
abbrev yAu:zR:=[ab 27 0,aJ 28 2 9,cE 29 sv 27 28,ab 10 29]
abbrev yAv:zR:=[ab 23 6,ab 24 8,o 25 (.conv .i64 (.t 24)),o 26 (.build [.int .i64 0,.int .i64 0] [(0,1,.t 23),(1,1,.t 25)]),o 9 (.alloc [.int .i64 0,.int .i64 0]),aL 2 9 26]
abbrev yAw:zR:=[bf 22 20 2,ab 8 22]
abbrev yAx:ah:=.seq (.ae yAw) (.seq (.ae yAv) (.seq (.ae yAu) (.seq (.ae yAt) (.cond (.t 32) (.ae yAs) .skip))))
abbrev yAy:zR:=[o 20 (.next (.t 19)),bf 21 20 0]
abbrev Hw:ah:=.seq (.ae yAy) (.seq (.cond (.t 21) .skip (.exit 2)) (.block 3 [] yAx))
abbrev yAA:zR:=[o 19 (.range (.c (.str [49,48])))]
abbrev yAB:zR:=[ab 18 16,ab 6 18]
abbrev yAC:ah:=.seq (.ae yAB) (.seq (.ae yAA) (.block 2 wI (.loop Ph Hw)))
abbrev Bm:ah:=.seq (.ae BY) (.seq (.cond (.t 17) .skip (.exit 0)) (.seq (.block 1 [] yAC) (.ae PB)))
abbrev yAF:zR:=[ab 12 0,o 13 (.iY 1 (.t 12) (.c (.int .i64 0))),ai 14 1 13,o 15 (.lx (.t 14)),aO 16 0]
abbrev yAG:zR:=[o 11 (.build [.int .i64 0,.int .i64 0] []),o 4 (.alloc [.int .i64 0,.int .i64 0]),aL 2 4 11,aO 5 0]
abbrev yAH:zR:=[o 2 (.alloc [.int .i64 0,.int .i64 0]),aO 3 0]
abbrev Wa:aB:=⟨.seq (.ae yAH) (.seq (.ae yAG) (.seq (.seq (.ae yAF) (.block 0 GJ (.loop wI Bm))) (.seq (.ae GB) .ret))),38,[.cell 2 true 2,.tmp 3]⟩
abbrev yAI:zI:=[.inBlock 1 [],.code (.ae PB),.inLoop wI Bm,.inBlock 0 GJ,.code (.seq (.ae GB) .ret)]
abbrev yAJ(x0 x2 x4 x5 x6 x15 x16 x19:AV)(h:List Ob)(e:Cx:=cx):ar:=bl sx (.code Hw::.inLoop Ph Hw::.inBlock 2 wI::yAI) (x0::U::x2::U::x4::x5::x6::U::U::U::U::U::U::U::U::x15::x16::U::U::x19::(by(iterate 18 refine U::?_);exact[])) h e
abbrev yAK:zI:=[.code (.seq (.ae GB) .ret)]
abbrev yAL(x0 x2 x4 x5 x15 x16:AV)(h:List Ob)(e:Cx:=cx):ar:=bl sx (.code Bm::.inLoop wI Bm::.inBlock 0 GJ::yAK) (x0::U::x2::U::x4::x5::U::U::U::U::U::U::U::U::U::x15::x16::(by(iterate 21 refine U::?_);exact[])) h e
@[simp] theorem UO:aA Tryz.prog sx=some Wa:=by kernel_rfl
@[simp] theorem avK:au Tryz.prog sx=true:=by kernel_rfl
abbrev yAM:zR:=[ab 3 0,o 4 (.call (.f xf) [.c (.list true 0 []),.t 3]),ab 2 4]
abbrev yAN:zR:=[o 2 (.bA 2 kC)]
abbrev RZ:aB:=⟨.seq (.ae yAN) (.seq (.ae yAM) .ret),5,[.tmp 2]⟩
@[simp] theorem RQ:aA Tryz.prog xj=some RZ:=by kernel_rfl
@[simp] theorem atD:au Tryz.prog xj=true:=by kernel_rfl
abbrev yAO:zR:=[o 3 (.fA (.func nU) [] [.t 1]),ab 2 3]
abbrev yAP:zR:=[o 1 (.box 2 (.t 0)),o 2 (.mv (.c .db))]
abbrev XE:aB:=⟨.seq (.ae yAP) (.seq (.ae yAO) .ret),4,[.tmp 2]⟩
@[simp] theorem Ve:aA Tryz.prog uZ=some XE:=by kernel_rfl
@[simp] theorem awt:au Tryz.prog uZ=true:=by kernel_rfl
abbrev yAQ:zR:=[ai 4 1 1,ab 5 0,o 6 (.call (.t 4) [.t 5]),o 7 (.not (.t 6)),ab 3 7]
abbrev TC:aB:=⟨.seq (.ae wO) (.seq (.ae yAQ) .ret),8,[.tmp 3]⟩
@[simp] theorem S9:aA Tryz.prog uP=some TC:=by kernel_rfl
@[simp] theorem auN:au Tryz.prog uP=true:=by kernel_rfl
abbrev Q9:zR:=[ab 39 0,ab 40 5,o 41 (.slice 1 (.t 39) none (some (.t 40))),ab 4 41]
abbrev Ps:zR:=[ab 36 0,ab 37 5,o 38 (.slice 1 (.t 36) (some (.t 37)) none),q (.clear 1 (.str []) (.t 38))]
abbrev P9:zB:=I::I::O::O::O::I::I::(by(iterate 35 refine O::?_);exact[])
abbrev OP:zB:=I::O::O::O::O::I::(by(iterate 36 refine O::?_);exact[])
abbrev yAW:zR:=[ab 20 6,bx 21 20 1,ab 6 21]
abbrev yAX:zR:=[ab 34 5,bx 35 34 1,ab 5 35]
abbrev yAY:zR:=[ab 30 0,ab 31 5,ab 32 7,aZ 33 1 30 31,aL 1 33 32]
abbrev yAZ:ah:=.seq (.ae yAY) (.ae yAX)
abbrev yBa:zR:=[ab 26 1,ab 27 7,o 28 (.call (.t 26) [.t 27]),o 29 (.not (.t 28))]
abbrev yBb:zR:=[ab 22 0,ab 23 6,aZ 24 1 22 23,ai 25 1 24,ab 7 25]
abbrev yBc:ah:=.seq (.ae yBb) (.seq (.ae yBa) (.cond (.t 29) yAZ .skip))
abbrev yBd:zR:=[ab 16 6,ab 17 0,aP 18 17,cJ 19 16 18]
abbrev HV:ah:=.seq (.seq (.ae yBd) (.cond (.t 19) .skip (.exit 0))) (.seq (.block 1 [] yBc) (.ae yAW))
abbrev yBf:zR:=[ab 14 5,bx 15 14 1,ab 6 15]
abbrev yBg:zR:=[ab 13 0,ab 4 13]
abbrev yBh:ah:=.seq (.ae yBg) .ret
abbrev yBi:zR:=[ab 11 5,o 12 (.cmp .eql (.sc .int) (.t 11) (.c (.int .i64 (-1))))]
abbrev yBj:zR:=[ab 8 0,ab 9 1,cE 10 qp 8 9,ab 5 10]
abbrev RN:aB:=⟨.seq (.ae H4) (.seq (.ae yBj) (.seq (.seq (.ae yBi) (.cond (.t 12) yBh .skip)) (.seq (.seq (.ae yBf) (.block 0 OP (.loop P9 HV))) (.seq (.ae Ps) (.seq (.ae Q9) .ret))))),42,[.tmp 4]⟩
abbrev yBl:zI:=[.code (.seq (.ae Ps) (.seq (.ae Q9) .ret))]
abbrev yBm(x0 x1 x5 x6:AV)(h:List Ob)(e:Cx:=cx):ar:=bl o9 (.code HV::.inLoop P9 HV::.inBlock 0 OP::yBl) (x0::x1::U::U::U::x5::x6::(by(iterate 35 refine U::?_);exact[])) h e
@[simp] theorem Il:aA Tryz.prog o9=some RN:=by kernel_rfl
@[simp] theorem aty:au Tryz.prog o9=true:=by kernel_rfl
abbrev yBr:zR:=[ab 31 6,ab 32 8,o 33 (.append 3 aR 24 (.t 31) (.t 32)),ab 6 33]
abbrev yBt:ah:=.seq (.ae By) (.ae yBr)
abbrev BR:ah:=.seq (.ae tY) (.seq (.cond (.t 28) .skip (.exit 2)) (.seq (.block 3 [] yBt) (.ae B3)))
abbrev PL:zR:=[ab 23 3,o 24 (.call (.f Ck) [.c (.list true 0 []),.t 23]),ab 6 24]
abbrev yBK:zR:=[o 2 (.bA 3 aR)]
abbrev RH:aB:=⟨.seq (.ae yBK) (.seq (.ae rQ) (.seq (.seq (.ae BF) (.block 0 rJ (.loop rP nA))) (.seq (.ae PL) (.seq (.seq (.ae rO) (.block 2 nz (.loop nD BR))) (.seq (.ae p5) .ret))))),36,[.tmp 2]⟩
abbrev yBM(x6 x25 x26 x27:AV)(h:List Ob)(e:Cx:=cx):ar:=bl rZ (.code BR::.inLoop nD BR::.inBlock 2 nz::Gd) (U::U::U::U::U::U::x6::(by(iterate 18 refine U::?_);exact[x25,x26,x27,U,U,U,U,U,U,U,U])) h e
abbrev yBN:zI:=[.code (.seq (.ae PL) (.seq (.seq (.ae rO) (.block 2 nz (.loop nD BR))) (.seq (.ae p5) .ret)))]
abbrev yBO(x0 x3 x9 x10 x11:AV)(h:List Ob)(e:Cx:=cx):ar:=bl rZ (.code nA::.inLoop rP nA::.inBlock 0 rJ::yBN) (x0::U::U::x3::U::U::U::U::U::x9::x10::x11::(by(iterate 24 refine U::?_);exact[])) h e
@[simp] theorem RD:aA Tryz.prog rZ=some RH:=by kernel_rfl
@[simp] theorem atu:au Tryz.prog rZ=true:=by kernel_rfl
abbrev Pp:zR:=[ab 31 8,ab 6 31]
abbrev O2:zB:=[I,O,O,O,O,O,O,I,I,O,O,O,O,O,O,O,O,O,I,I,I,O,O,O,O,O,O,O,O,O,O,O]
abbrev QO:zB:=O::O::O::O::O::O::O::O::I::(by(iterate 23 refine O::?_);exact[])
abbrev yBS:zR:=[bx 30 20 1,ab 20 30]
abbrev yBT:zR:=[ab 24 0,ab 25 8,ab 26 7,ab 27 10,o 28 (.call (.t 26) [.t 27]),o 29 (.call (.f qx) [.t 24,.t 25,.t 28]),ab 8 29]
abbrev yBU:zR:=[aZ 22 1 18 20,ai 23 1 22,ab 10 23]
abbrev yBV:ah:=.seq (.ae yBU) (.ae yBT)
abbrev yBW:zR:=[cJ 21 20 19]
abbrev GC:ah:=.seq (.ae yBW) (.seq (.cond (.t 21) .skip (.exit 0)) (.seq (.block 1 [] yBV) (.ae yBS)))
abbrev yBY:zR:=[ab 17 1,o 18 (.slice 1 (.t 17) (some (.c (.int .i64 1))) none),aP 19 18,aO 20 0]
abbrev yBZ:zR:=[ab 12 7,ab 13 1,o 14 (.iY 1 (.t 13) (.c (.int .i64 0))),ai 15 1 14,o 16 (.call (.t 12) [.t 15]),ab 8 16]
abbrev yCa:zR:=[o 11 (.fA (.func uG) [] [.t 5]),ab 7 11]
abbrev yCb:zR:=[o 5 (.box 1 (.t 2)),aO 6 0]
abbrev SU:aB:=⟨.seq (.ae yCb) (.seq (.ae yCa) (.seq (.ae yBZ) (.seq (.seq (.ae yBY) (.block 0 QO (.loop O2 GC))) (.seq (.ae Pp) .ret)))),32,[.tmp 6]⟩
abbrev yCc:zI:=[.code (.seq (.ae Pp) .ret)]
abbrev yCd(x0 x7 x8 x18 x19 x20:AV)(h:List Ob)(e:Cx:=cx):ar:=bl r_ (.code GC::.inLoop O2 GC::.inBlock 0 QO::yCc) [x0,U,U,U,U,U,U,x7,x8,U,U,U,U,U,U,U,U,U,x18,x19,x20,U,U,U,U,U,U,U,U,U,U,U] h e
@[simp] theorem Su:aA Tryz.prog r_=some SU:=by kernel_rfl
@[simp] theorem auf:au Tryz.prog r_=true:=by kernel_rfl
abbrev yCe:zR:=[o 5 (.lit 2 [] []),ab 6 0,o 7 (.append 2 cH 16 (.t 5) (.t 6)),ab 2 7]
abbrev QB:zR:=[o 2 (.bA 2 cH)]
abbrev yCg:ah:=.seq (.ae QB) .ret
abbrev Sc:aB:=⟨.seq (.ae QB) (.seq (.seq (.ae Bv) (.cond (.t 4) yCg .skip)) (.seq (.ae yCe) .ret)),8,[.tmp 2]⟩
@[simp] theorem R8:aA Tryz.prog xk=some Sc:=by kernel_rfl
@[simp] theorem atL:au Tryz.prog xk=true:=by kernel_rfl
abbrev yCj:zR:=[ab 3 0,o 4 (.cmp .leq (.sc .int) (.t 3) (.c (.int .i32 32))),ab 5 4,on 6 5 (.mv (.t 0)),on 7 5 (.cmp .gtr (.sc .int) (.t 6) (.c (.int .i32 126))),o 8 (.pick (.t 5) (.c (.bool true)) (.t 7)),ab 2 8]
abbrev SV:aB:=⟨.seq (.ae jm) (.seq (.ae yCj) .ret),9,[.tmp 2]⟩
@[simp] theorem Sw:aA Tryz.prog qw=some SV:=by kernel_rfl
@[simp] theorem aue:au Tryz.prog qw=true:=by kernel_rfl
abbrev yCl:zR:=[ab 5 0,ab 6 1,o 7 (.call (.f uM) [.t 5,.t 6,.c (.bool true)]),ab 4 7]
abbrev SX:aB:=⟨.seq (.ae lS) (.seq (.ae yCl) .ret),8,[.tmp 4]⟩
@[simp] theorem SH:aA Tryz.prog xv=some SX:=by kernel_rfl
@[simp] theorem aur:au Tryz.prog xv=true:=by kernel_rfl
abbrev yCo:zR:=[ab 17 0,ab 18 0,o 19 (.cap (.t 18)),o 20 (.slice 1 (.t 17) none (some (.t 19))),ab 21 1,o 22 (.pC 1 aq 8 (.int .i64 0) (.t 20) (.t 21)),ab 23 0,aP 24 23,o 25 (.slice 1 (.t 22) none (some (.t 24))),ab 0 25]
abbrev SF:aB:=⟨.seq (.ae GG) (.seq (.seq (.ae BL) (.cond (.t 6) (.ae B2) .skip)) (.seq (.seq (.ae BM) (.seq (.ae Bk) (.cond (.t 16) (.ae yCo) .skip))) (.seq (.ae Bb) .ret))),27,[.tmp 4]⟩
@[simp] theorem Iv:aA Tryz.prog Cu=some SF:=by kernel_rfl
@[simp] theorem at6:au Tryz.prog Cu=true:=by kernel_rfl
abbrev Qz:zB:=I::I::O::I::(by(iterate 15 refine O::?_);exact[])
abbrev yCw:zR:=[ab 9 3,o 10 (.bD .sub (.t 9) (.c (.int .i64 1))),ab 3 10]
abbrev yCx:zR:=[ab 11 0,ab 12 3,ai 13 1 1,ab 14 3,aZ 15 2 13 14,aJ 16 2 15,o 17 (.call (.t 11) [.t 12,.t 16]),o 18 (.not (.t 17))]
abbrev yCy:ah:=.seq (.ae yCx) (.cond (.t 18) .ret .skip)
abbrev yCz:zR:=[ab 7 3,o 8 (.cmp .geq (.sc .int) (.t 7) (.c (.int .i64 0)))]
abbrev HR:ah:=.seq (.seq (.ae yCz) (.cond (.t 8) .skip (.exit 0))) (.seq (.block 1 [] yCy) (.ae yCw))
abbrev yCB:zR:=[ai 4 1 1,aP 5 4,o 6 (.bD .sub (.t 5) (.c (.int .i64 1))),ab 3 6]
abbrev RR:aB:=⟨.seq (.ae yCB) (.block 0 lW (.loop Qz HR)),19,[]⟩
abbrev yCD(x0 x1 x3:AV)(h:List Ob)(e:Cx:=cx):ar:=bl uD (.code HR::.inLoop Qz HR::.inBlock 0 lW::BU) (x0::x1::U::x3::(by(iterate 15 refine U::?_);exact[])) h e
@[simp] theorem RO:aA Tryz.prog uD=some RR:=by kernel_rfl
@[simp] theorem atA:au Tryz.prog uD=true:=by kernel_rfl
abbrev yCE:zR:=[aJ 35 2 3,aL 2 2 35]
abbrev yCF:zR:=[ak 34 0 3,q (.store 1 (.t 34) (.f C3))]
abbrev yCG:zR:=[ak 33 0 3,q (.store 1 (.t 33) (.f De))]
abbrev yCH:zR:=[ak 32 0 3,q (.store 1 (.t 32) (.f Df))]
abbrev yCI:zR:=[ak 31 0 3,q (.store 1 (.t 31) (.f CW))]
abbrev yCJ:zR:=[o 30 (.cmp .eql (.sc .int) (.t 13) (.c (.int .i64 9))),ab 28 30]
abbrev yCK:zR:=[o 29 (.cmp .eql (.sc .int) (.t 13) (.c (.int .i64 8))),ab 28 29]
abbrev yCL:zR:=[o 27 (.cmp .eql (.sc .int) (.t 13) (.c (.int .i64 7))),ab 25 27]
abbrev yCM:zR:=[o 26 (.cmp .eql (.sc .int) (.t 13) (.c (.int .i64 6))),ab 25 26]
abbrev yCN:zR:=[o 24 (.cmp .eql (.sc .int) (.t 13) (.c (.int .i64 5))),ab 22 24]
abbrev yCO:zR:=[o 23 (.cmp .eql (.sc .int) (.t 13) (.c (.int .i64 4))),ab 22 23]
abbrev yCP:zR:=[o 21 (.cmp .eql (.sc .int) (.t 13) (.c (.int .i64 3))),ab 20 21]
abbrev yCQ:zR:=[o 19 (.cmp .eql (.sc .int) (.t 13) (.c (.int .i64 2))),ab 18 19]
abbrev yCR:zR:=[o 17 (.cmp .eql (.sc .int) (.t 13) (.c (.int .i64 1))),ab 16 17]
abbrev yCS:zR:=[o 15 (.cmp .eql (.sc .int) (.t 13) (.c (.int .i64 0))),ab 14 15]
abbrev yCT:ah:=.seq (.seq (.seq (.ae yCS) (.cond (.t 14) (.exit 2) .skip)) (.seq (.seq (.ae yCR) (.cond (.t 16) (.exit 3) .skip)) (.seq (.seq (.ae yCQ) (.cond (.t 18) (.exit 4) .skip)) (.seq (.seq (.ae yCP) (.cond (.t 20) (.exit 5) .skip)) (.seq (.seq (.seq (.ae yCO) (.cond (.t 22) .skip (.ae yCN))) (.cond (.t 22) (.exit 6) .skip)) (.seq (.seq (.seq (.ae yCM) (.cond (.t 25) .skip (.ae yCL))) (.cond (.t 25) (.exit 7) .skip)) (.seq (.seq (.ae yCK) (.cond (.t 28) .skip (.ae yCJ))) (.cond (.t 28) (.exit 8) .skip)))))))) (.exit 1)
abbrev yCU:ah:=.block 2 [] yCT
abbrev yCV:ah:=.seq (.block 3 [] yCU) (.seq (.ae yCI) (.exit 1))
abbrev yCW:ah:=.block 4 [] yCV
abbrev yCX:ah:=.block 5 [] yCW
abbrev yCY:ah:=.seq (.block 6 [] yCX) (.seq (.ae yCH) (.exit 1))
abbrev yCZ:ah:=.seq (.block 7 [] yCY) (.seq (.ae yCG) (.exit 1))
abbrev yDa:ah:=.seq (.block 8 [] yCZ) (.seq (.ae yCF) (.exit 1))
abbrev yDb:zR:=[ab 13 0]
abbrev yDc:zR:=[ak 12 1 3,q (.store 1 (.t 12) (.c (.bool true)))]
abbrev yDd:zR:=[o 11 (.cmp .eql (.sc .int) (.t 5) (.c (.int .i64 9))),ab 6 11]
abbrev yDe:zR:=[o 10 (.cmp .eql (.sc .int) (.t 5) (.c (.int .i64 7))),ab 6 10]
abbrev yDf:ah:=.seq (.ae yDe) (.cond (.t 6) .skip (.ae yDd))
abbrev yDg:zR:=[o 9 (.cmp .eql (.sc .int) (.t 5) (.c (.int .i64 5))),ab 6 9]
abbrev yDh:ah:=.seq (.ae yDg) (.cond (.t 6) .skip yDf)
abbrev yDi:zR:=[o 8 (.cmp .eql (.sc .int) (.t 5) (.c (.int .i64 3))),ab 6 8]
abbrev yDj:ah:=.seq (.ae yDi) (.cond (.t 6) .skip yDh)
abbrev yDk:zR:=[o 7 (.cmp .eql (.sc .int) (.t 5) (.c (.int .i64 1))),ab 6 7]
abbrev yDl:ah:=.seq (.seq (.ae yDk) (.cond (.t 6) .skip yDj)) (.cond (.t 6) (.ae yDc) .skip)
abbrev yDm:zR:=[ab 5 0]
abbrev yDn:zR:=[o 4 (.build [.db,.bool false] []),o 3 (.alloc [.db,.bool false]),aL 2 3 4]
abbrev yDo:zR:=[o 2 (.alloc [.db,.bool false])]
abbrev Z3:aB:=⟨.seq (.ae yDo) (.seq (.ae yDn) (.seq (.seq (.ae yDm) (.block 0 [] yDl)) (.seq (.seq (.ae yDb) (.block 1 [] yDa)) (.seq (.ae yCE) .ret)))),36,[.cell 2 true 2]⟩
@[simp] theorem aw4:aA Tryz.prog DT=some Z3:=by kernel_rfl
@[simp] theorem aw1:au Tryz.prog DT=true:=by kernel_rfl
abbrev yDp:zR:=[ak 4 3 1,ai 5 1 4,o 6 (.fA (.func CF) [] [.t 2]),cE 7 o8 5 6,ab 3 7]
abbrev yDq:zR:=[o 2 (.box 1 (.t 0)),kp 3]
abbrev U6:aB:=⟨.seq (.ae yDq) (.seq (.ae yDp) .ret),8,[.tmp 3]⟩
@[simp] theorem ave:aA Tryz.prog CM=some U6:=by kernel_rfl
@[simp] theorem avk:au Tryz.prog CM=true:=by kernel_rfl
abbrev yDr:zR:=[ab 4 0,ai 5 1 1,cE 6 CX 4 5,ab 3 6]
abbrev Uf:aB:=⟨.seq (.ae wO) (.seq (.ae yDr) .ret),7,[.tmp 3]⟩
@[simp] theorem au1:aA Tryz.prog CF=some Uf:=by kernel_rfl
@[simp] theorem auX:au Tryz.prog CF=true:=by kernel_rfl
abbrev yDu:zB:=I::O::O::O::O::O::O::I::I::I::(by(iterate 17 refine O::?_);exact[])
abbrev yDv:zB:=(by(iterate 27 refine O::?_);exact[])
abbrev yDw:zR:=[bx 26 9 1,ab 9 26]
abbrev yDz:zR:=[ab 14 0,ab 15 5,o 16 (.ru (.t 14) (.t 15)),o 17 (.cmp .neq (.sc .int) (.t 16) (.c (.int .u8 45))),ab 18 17,cK 19 18 0,cK 20 18 5,oy 21 18 (.ru (.t 19) (.t 20)),oy 22 18 (.cmp .eql (.sc .int) (.t 21) (.c (.int .u8 49))),cK 23 18 6,oy 24 18 (.cmp .neq (.sc .bool) (.t 22) (.t 23)),bK 25 18 24]
abbrev yDA:zR:=[ab 11 9,aZ 12 1 7 9,ai 13 1 12,ab 5 11,ab 6 13]
abbrev yDB:ah:=.seq (.ae yDA) (.seq (.ae yDz) (.cond (.t 25) yu .skip))
abbrev yDD:ah:=.seq (.ae wQ) (.seq (.cond (.t 10) .skip (.exit 0)) (.seq (.block 1 [] yDB) (.ae yDw)))
abbrev yDE:zR:=[ab 7 1,aP 8 7,aO 9 0]
abbrev W0:aB:=⟨.seq (.ae yr) (.seq (.seq (.ae yDE) (.block 0 yDv (.loop yDu yDD))) (.seq (.ae rK) .ret)),27,[.tmp 4]⟩
@[simp] theorem av6:aA Tryz.prog CX=some W0:=by kernel_rfl
@[simp] theorem avU:au Tryz.prog CX=true:=by kernel_rfl
abbrev OL:zB:=I::I::O::O::O::I::I::(by(iterate 18 refine O::?_);exact[])
abbrev QT:zB:=(by(iterate 25 refine O::?_);exact[])
abbrev yDI:zR:=[bx 24 6 1,ab 6 24]
abbrev yDJ:zR:=[ai 9 1 1,ab 10 3,o 11 (.ru (.t 9) (.t 10)),o 12 (.cmp .neq (.sc .int) (.t 11) (.c (.int .u8 45))),ab 13 12,cK 14 13 0,cK 15 13 3,cz 16 13 1 1,cK 17 13 3,oy 18 13 (.ru (.t 16) (.t 17)),oy 19 13 (.conv .i64 (.t 18)),oy 20 13 (.build [.int .i64 0,.int .i64 0] [(0,1,.t 15),(1,1,.t 19)]),oy 21 13 (.call (.t 14) [.t 20]),oy 22 13 (.not (.t 21)),bK 23 13 22]
abbrev yDK:zR:=[ab 8 6,ab 3 8]
abbrev yDL:ah:=.seq (.ae yDK) (.seq (.ae yDJ) (.cond (.t 23) .ret .skip))
abbrev yDM:zR:=[cJ 7 6 5]
abbrev Hd:ah:=.seq (.ae yDM) (.seq (.cond (.t 7) .skip (.exit 0)) (.seq (.block 1 [] yDL) (.ae yDI)))
abbrev yDO:zR:=[ai 4 1 1,o 5 (.lx (.t 4)),aO 6 0]
abbrev S_:aB:=⟨.seq (.ae yDO) (.block 0 QT (.loop OL Hd)),25,[]⟩
abbrev GF(x0 x1 x5 x6:AV)(h:List Ob)(e:Cx:=cx):ar:=bl qy (.code Hd::.inLoop OL Hd::.inBlock 0 QT::BU) (x0::x1::U::U::U::x5::x6::(by(iterate 18 refine U::?_);exact[])) h e
@[simp] theorem CB:aA Tryz.prog qy=some S_:=by kernel_rfl
@[simp] theorem auA:au Tryz.prog qy=true:=by kernel_rfl
abbrev yDR:zR:=[aJ 15 3 3,aL 3 2 15]
abbrev yDS:zR:=[ak 11 1 3,ai 12 1 11,bx 13 12 1,ak 14 1 3,aL 1 14 13]
abbrev yDT:zR:=[o 8 (.gu 2 1 (.t 1) (.c (.int .i64 1))),ai 9 1 8,o 10 (.cmp .eql (.sc .int) (.t 9) (.c (.int .i64 48)))]
abbrev yDU:zR:=[o 4 (.gu 2 1 (.t 1) (.c (.int .i64 0))),ai 5 1 4,o 6 (.bD .mul (.c (.int .i64 2)) (.t 5)),o 7 (.build [.int .i64 0,.int .i64 0,.int .i64 0] [(0,1,.c (.int .i64 2)),(1,1,.t 6)]),o 3 (.alloc [.int .i64 0,.int .i64 0,.int .i64 0]),aL 3 3 7]
abbrev yDV:zR:=[o 1 (.box 2 (.t 0)),o 2 (.alloc [.int .i64 0,.int .i64 0,.int .i64 0])]
abbrev SS:aB:=⟨.seq (.ae yDV) (.seq (.ae yDU) (.seq (.seq (.ae yDT) (.cond (.t 10) (.ae yDS) .skip)) (.seq (.ae yDR) .ret))),16,[.cell 2 true 3]⟩
@[simp] theorem Sy:aA Tryz.prog xt=some SS:=by kernel_rfl
@[simp] theorem auk:au Tryz.prog xt=true:=by kernel_rfl
abbrev yDW:zR:=[ai 12 1 2,ab 4 12]
abbrev QM:zR:=[o 5 (.alloc [.int .i64 0,.int .i64 0]),aL 2 5 7]
abbrev yDY:zR:=[ai 8 1 2,aJ 9 2 5,o 10 (.lit 2 [.agg [.int .i64 0,.int .i64 0]] [(0,.t 9)]),o 11 (.append 2 kC 16 (.t 8) (.t 10)),aL 1 2 11]
abbrev Py:ah:=.block 1 [] (.ae yDY)
abbrev yEa:ah:=.rangeFunc (.t 6) [7] [O,O,I,O,I,O,O,O,O,O,O,O,O] (.ae QM) Py
abbrev yEb:zR:=[ab 6 1]
abbrev yEc:zR:=[o 2 (.box 1 (.t 0)),o 4 (.bA 2 kC)]
abbrev Rz:aB:=⟨.seq (.ae yEc) (.seq (.seq (.ae yEb) (.block 0 [] yEa)) (.seq (.ae yDW) .ret)),13,[.tmp 4]⟩
@[simp] theorem Ry:aA Tryz.prog xf=some Rz:=by kernel_rfl
@[simp] theorem ats:au Tryz.prog xf=true:=by kernel_rfl
abbrev Qm:zR:=[q (.store 1 (.t 3) (.c (.bool false)))]
abbrev OR:zR:=[o 4 (.alloc [.int .i64 0,.int .i64 0]),aL 2 4 7]
abbrev yEf:zR:=[q (.store 1 (.t 3) (.c (.bool true)))]
abbrev yEg:ah:=.seq (.ae yEf) .ret
abbrev yEh:zR:=[aJ 8 2 4,aJ 9 2 1,o 10 (.cmp .eql (.iG [.int,.int]) (.t 8) (.t 9))]
abbrev yEi:ah:=.seq (.ae yEh) (.cond (.t 10) yEg .skip)
abbrev PF:ah:=.block 1 [] yEi
abbrev yEk:ah:=.rangeFunc (.t 6) [7] [O,I,O,I,O,O,O,O,O,O,O] (.ae OR) PF
abbrev yEl:zR:=[ab 5 0,aU 6 sg 5]
abbrev yEm:zR:=[o 3 (.alloc [.bool false])]
abbrev U4:aB:=⟨.seq (.ae yEm) (.seq (.seq (.ae yEl) (.block 0 [] yEk)) (.seq (.ae Qm) .ret)),11,[.cell 3 false 1]⟩
@[simp] theorem T8:aA Tryz.prog nU=some U4:=by kernel_rfl
@[simp] theorem avf:au Tryz.prog nU=true:=by kernel_rfl
abbrev yEo:zR:=[ab 17 0,ab 18 0,o 19 (.cap (.t 18)),o 20 (.slice 3 (.t 17) none (some (.t 19))),ab 21 1,o 22 (.pC 3 aR 24 (.agg [.int .i64 0,.int .i64 0,.int .i64 0]) (.t 20) (.t 21)),ab 23 0,aP 24 23,o 25 (.slice 3 (.t 22) none (some (.t 24))),ab 0 25]
abbrev RJ:aB:=⟨.seq (.ae O6) (.seq (.seq (.ae BL) (.cond (.t 6) (.ae B2) .skip)) (.seq (.seq (.ae BM) (.seq (.ae Bk) (.cond (.t 16) (.ae yEo) .skip))) (.seq (.ae Bb) .ret))),27,[.tmp 4]⟩
@[simp] theorem RG:aA Tryz.prog Ck=some RJ:=by kernel_rfl
@[simp] theorem atx:au Tryz.prog Ck=true:=by kernel_rfl
abbrev yEu:zR:=[ab 4 0,ai 5 1 1,o 6 (.bD .xor (.t 4) (.t 5)),ab 3 6]
abbrev Sv:aB:=⟨.seq (.ae rQ) (.seq (.ae yEu) .ret),7,[.tmp 3]⟩
@[simp] theorem Sj:aA Tryz.prog uG=some Sv:=by kernel_rfl
@[simp] theorem at1:au Tryz.prog uG=true:=by kernel_rfl
abbrev yEw:zR:=[ab 29 8,ab 6 29]
abbrev yEx:zR:=[ab 25 0,aJ 26 5 7,o 27 (.cg (.t 25)),ak 28 0 27,aL 5 28 26]
abbrev yEy:zR:=[o 23 (.build [] []),o 24 (.kH CT (.t 23)),q (.panic (.t 24))]
abbrev yEz:zR:=[ab 21 9,o 22 (.cmp .neq (.sc .int) (.t 21) (.c (.int .i64 0)))]
abbrev yEA:zR:=[ab 11 0,o 12 (.cg (.t 11)),ak 13 0 12,aJ 14 5 13,ab 15 1,ab 16 2,o 17 (.call (.f zh) [.t 14,.t 15,.t 16]),ab 10 17,bf 18 10 0,bf 19 10 1,bf 20 10 2,o 7 (.alloc [.int .i64 0,.own 1 aq [],.own 1 aq [],.own 2 cH [],.own 1 aq []]),aL 5 7 18,ab 8 19,ab 9 20]
abbrev SY:aB:=⟨.seq (.ae Bq) (.seq (.ae yEA) (.seq (.seq (.ae yEz) (.cond (.t 22) (.ae yEy) .skip)) (.seq (.ae yEx) (.seq (.ae yEw) .ret)))),30,[.tmp 6]⟩
@[simp] theorem SG:aA Tryz.prog qx=some SY:=by kernel_rfl
@[simp] theorem auu:au Tryz.prog qx=true:=by kernel_rfl
abbrev PI:zR:=[o 6 (.mv (.c (.int .i64 (-1))))]
abbrev P':zB:=[O,I,I,O,O,O,O,O,O,O,I,O,O,O,O,O,O,O,O,O,O]
abbrev O1:zB:=(by(iterate 21 refine O::?_);exact[])
abbrev yEF:zR:=[ab 20 7,ab 6 20]
abbrev yEG:ah:=.seq (.ae yEF) .ret
abbrev yEH:zR:=[ab 15 1,ab 16 8,o 17 (.call (.t 15) [.t 16]),ab 18 2,o 19 (.cmp .eql (.sc .bool) (.t 17) (.t 18))]
abbrev yEI:zR:=[bf 13 11 1,bf 14 11 2,ab 7 13,ab 8 14]
abbrev yEJ:ah:=.seq (.ae yEI) (.seq (.ae yEH) (.cond (.t 19) yEG .skip))
abbrev yEK:zR:=[o 11 (.next (.t 10)),bf 12 11 0]
abbrev GL:ah:=.seq (.ae yEK) (.seq (.cond (.t 12) .skip (.exit 0)) (.block 1 [] yEJ))
abbrev yEM:zR:=[ab 9 0,o 10 (.range (.t 9))]
abbrev S6:aB:=⟨.seq (.ae Bq) (.seq (.seq (.ae yEM) (.block 0 O1 (.loop P' GL))) (.seq (.ae PI) .ret)),21,[.tmp 6]⟩
abbrev yEO:zI:=[.code (.seq (.ae PI) .ret)]
abbrev yEP(x1 x2 x10:AV)(h:List Ob)(e:Cx:=cx):ar:=bl uM (.code GL::.inLoop P' GL::.inBlock 0 O1::yEO) [U,x1,x2,U,U,U,U,U,U,U,x10,U,U,U,U,U,U,U,U,U,U] h e
@[simp] theorem SB:aA Tryz.prog uM=some S6:=by kernel_rfl
@[simp] theorem auo:au Tryz.prog uM=true:=by kernel_rfl
abbrev Ya:aB:=⟨.seq (.ae jm) (.seq (.ae jm) .ret),3,[.tmp 2]⟩
@[simp] theorem avV:aA Tryz.prog CW=some Ya:=by kernel_rfl
@[simp] theorem av7:au Tryz.prog CW=true:=by kernel_rfl
abbrev yES:zR:=[ab 3 0,aU 4 uU 3,ab 5 0,aP 6 5,o 7 (.cmp .eql (.sc .int) (.t 4) (.t 6)),ab 2 7]
abbrev XR:aB:=⟨.seq (.ae jm) (.seq (.ae yES) .ret),8,[.tmp 2]⟩
@[simp] theorem av3:aA Tryz.prog Df=some XR:=by kernel_rfl
@[simp] theorem avZ:au Tryz.prog Df=true:=by kernel_rfl
abbrev yEU:zR:=[ab 16 3,ab 2 16]
abbrev yEV:zB:=[O,O,O,I,O,O,I,I,I,O,O,O,O,O,O,O,O]
abbrev yEW:zB:=O::O::O::I::(by(iterate 13 refine O::?_);exact[])
abbrev yEX:zR:=[bx 15 8 1,ab 8 15]
abbrev yEY:zR:=[ab 13 3,bx 14 13 1,ab 3 14]
abbrev yEZ:zR:=[ab 12 5]
abbrev yFa:zR:=[aZ 10 1 6 8,ai 11 1 10,ab 5 11]
abbrev yFb:ah:=.seq (.ae yFa) (.seq (.ae yEZ) (.cond (.t 12) (.ae yEY) .skip))
abbrev yFd:ah:=.seq (.ae BI) (.seq (.cond (.t 9) .skip (.exit 0)) (.seq (.block 1 [] yFb) (.ae yEX)))
abbrev V8:aB:=⟨.seq (.ae wC) (.seq (.ae rQ) (.seq (.seq (.ae wJ) (.block 0 yEW (.loop yEV yFd))) (.seq (.ae yEU) .ret))),17,[.tmp 2]⟩
@[simp] theorem avH:aA Tryz.prog uU=some V8:=by kernel_rfl
@[simp] theorem avu:au Tryz.prog uU=true:=by kernel_rfl
abbrev yFh:zR:=[ab 3 0,aU 4 uU 3,o 5 (.cmp .gtr (.sc .int) (.t 4) (.c (.int .i64 0))),ab 2 5]
abbrev Xw:aB:=⟨.seq (.ae jm) (.seq (.ae yFh) .ret),6,[.tmp 2]⟩
@[simp] theorem awv:aA Tryz.prog De=some Xw:=by kernel_rfl
@[simp] theorem awb:au Tryz.prog De=true:=by kernel_rfl
abbrev yFj:zR:=[ab 3 0,aU 4 uU 3,o 5 (.bD .rem (.t 4) (.c (.int .i64 2))),o 6 (.cmp .eql (.sc .int) (.t 5) (.c (.int .i64 1))),ab 2 6]
abbrev Xa:aB:=⟨.seq (.ae jm) (.seq (.ae yFj) .ret),7,[.tmp 2]⟩
@[simp] theorem awg:aA Tryz.prog C3=some Xa:=by kernel_rfl
@[simp] theorem avT:au Tryz.prog C3=true:=by kernel_rfl
abbrev yFl:zR:=[ab 58 11,o 59 (.cg (.t 58)),ak 60 0 59,aJ 61 5 60,ab 62 12,aL 5 6 61,ab 7 62,aO 8 0]
abbrev yFm:zR:=[o 57 (.build [.int .i64 0,.list true 0 [],.list true 0 [],.list true 0 [],.list true 0 []] []),aL 5 6 57,aO 7 0,aO 8 8]
abbrev yFn:ah:=.seq (.ae yFm) .ret
abbrev yFo:zR:=[ab 51 11,o 52 (.cg (.t 51)),ak 53 0 52,aJ 54 5 53,aU 55 nW 54,o 56 (.cmp .eql (.sc .int) (.t 55) (.c (.int .i64 8)))]
abbrev yFp:zR:=[ab 47 11,ab 48 1,ab 49 2,o 50 (.call (.f pa) [.t 47,.t 48,.t 49]),ab 12 50]
abbrev yFq:zR:=[aJ 45 5 3,aU 46 qE 45,ab 11 46]
abbrev yFr:zR:=[o 25 (.build [.int .i64 0,.list true 0 [],.list true 0 [],.list true 0 [],.list true 0 []] []),ab 26 9,aL 5 6 25,aO 7 0,ab 8 26]
abbrev yFs:zR:=[o 44 (.build [.int .i64 0,.list true 0 [],.list true 0 [],.list true 0 [],.list true 0 []] []),aL 5 6 44,aO 7 0,aO 8 1]
abbrev yFt:ah:=.seq (.ae yFs) .ret
abbrev yFu:zR:=[ab 28 1,o 29 (.cmp .lss (.sc .int) (.t 28) (.c (.int .i64 0))),ab 30 29,on 31 30 (.mv (.t 2)),on 32 30 (.cmp .lss (.sc .int) (.t 31) (.c (.int .i64 0))),o 33 (.pick (.t 30) (.c (.bool true)) (.t 32)),ab 34 33,on 35 34 (.mv (.t 1)),on 36 34 (.mv (.t 10)),on 37 34 (.cmp .geq (.sc .int) (.t 35) (.t 36)),o 38 (.pick (.t 34) (.c (.bool true)) (.t 37)),ab 39 38,on 40 39 (.mv (.t 2)),on 41 39 (.mv (.t 10)),on 42 39 (.cmp .geq (.sc .int) (.t 40) (.t 41)),o 43 (.pick (.t 39) (.c (.bool true)) (.t 42)),ab 27 43]
abbrev yFv:ah:=.seq (.ae yFr) .ret
abbrev yFw:ah:=.seq (.ae yFu) (.cond (.t 27) yFt .skip)
abbrev yFx:zR:=[ab 23 9,o 24 (.cmp .neq (.sc .int) (.t 23) (.c (.int .i64 0))),ab 22 24]
abbrev yFy:ah:=.seq (.ae yFx) (.cond (.t 22) yFv yFw)
abbrev yFz:zR:=[aJ 15 5 3,aU 16 kD 15,ak 17 3 3,ai 18 1 17,aP 19 18,o 20 (.bD .add (.t 16) (.t 19)),o 21 (.bD .mul (.c (.int .i64 2)) (.t 20)),ab 10 21]
abbrev yFA:zR:=[aJ 13 5 3,aU 14 nW 13,ab 9 14]
abbrev yFB:zR:=[o 3 (.box 5 (.t 0)),o 6 (.alloc [.int .i64 0,.own 1 aq [],.own 1 aq [],.own 2 cH [],.own 1 aq []]),aO 7 0,aO 8 0]
abbrev abu:aB:=⟨.seq (.ae yFB) (.seq (.ae yFA) (.seq (.aQ [O,O,O,I,O,O,O,O] [2,9,9,9,9,9,9,9] yFz) (.seq (.block 0 [] yFy) (.seq (.ae yFq) (.seq (.ae yFp) (.seq (.seq (.ae yFo) (.cond (.t 56) yFn .skip)) (.seq (.ae yFl) .ret))))))),63,[.cell 6 true 5,.tmp 7,.tmp 8]⟩
@[simp] theorem WY:aA Tryz.prog zh=some abu:=by kernel_rfl
@[simp] theorem axo:au Tryz.prog zh=true:=by kernel_rfl
abbrev yFC:zR:=[ab 7 0,ab 8 1,aZ 9 1 7 8,ai 10 1 9,ab 11 0,ab 12 2,aZ 13 1 11 12,ai 14 1 13,cJ 15 10 14,ab 6 15]
abbrev Tn:aB:=⟨.seq (.ae yG) (.seq (.aQ [O,O,O,O,O,O,O,O,O,O] [11,11,11,11,11,11,11,11,11,11] yFC) .ret),16,[.tmp 6]⟩
@[simp] theorem Iz:aA Tryz.prog uN=some Tn:=by kernel_rfl
@[simp] theorem auG:au Tryz.prog uN=true:=by kernel_rfl
abbrev yFE:zR:=[ab 25 3,o 26 (.kH aq (.t 25)),ab 2 26]
abbrev yFF:zR:=[ab 14 0,ab 15 0,o 16 (.cg (.t 15)),ai 17 1 16,ab 18 0,o 19 (.cg (.t 18)),ai 20 1 19,aP 21 20,o 22 (.bD .sub (.t 21) (.c (.int .i64 1))),o 23 (.slice 1 (.t 17) none (some (.t 22))),o 24 (.cg (.t 14)),aL 1 24 23]
abbrev yFG:zR:=[ab 4 0,o 5 (.cg (.t 4)),ai 6 1 5,ab 7 0,o 8 (.cg (.t 7)),ai 9 1 8,aP 10 9,o 11 (.bD .sub (.t 10) (.c (.int .i64 1))),aZ 12 1 6 11,ai 13 1 12,ab 3 13]
abbrev TF:aB:=⟨.seq (.ae OX) (.seq (.aQ [O,O,O,O,O,O,O,O,O,O,O] [12,12,12,12,12,12,12,12,12,12,12] yFG) (.seq (.aQ [O,O,O,O,O,O,O,O,O,O,O,O] [12,12,12,12,12,12,12,12,12,12,12,13] yFF) (.seq (.ae yFE) .ret))),27,[.tmp 2]⟩
@[simp] theorem Tf:aA Tryz.prog xE=some TF:=by kernel_rfl
@[simp] theorem auO:au Tryz.prog xE=true:=by kernel_rfl
abbrev yFI:zR:=[ab 4 0,ab 5 0,o 6 (.cg (.t 5)),ai 7 1 6,ab 8 1,o 9 (.qY (.t 8) aq (.int .i64 0) false),o 10 (.lit 1 [.int .i64 0] [(0,.t 9)]),o 11 (.append 1 aq 8 (.t 7) (.t 10)),o 12 (.cg (.t 4)),aL 1 12 11]
abbrev Tz:aB:=⟨.aQ [O,O,O,I,O,O,O,O,O,O] [10,8,8,8,7,7,8,10,10,11] yFI,13,[]⟩
@[simp] theorem Iy:aA Tryz.prog xB=some Tz:=by kernel_rfl
@[simp] theorem auJ:au Tryz.prog xB=true:=by kernel_rfl
abbrev yFJ:zR:=[ab 6 0,ab 7 1,ab 8 0,ab 9 2,ab 10 0,ab 11 2,aZ 12 1 10 11,ai 13 1 12,ab 14 0,ab 15 1,aZ 16 1 14 15,ai 17 1 16,aZ 18 1 6 7,aL 1 18 13,aZ 19 1 8 9,aL 1 19 17]
abbrev Tr:aB:=⟨.aQ ((by(iterate 16 refine O::?_);exact[])) [14,14,16,16,14,14,14,14,14,14,14,14,14,16,16,17] yFJ,20,[]⟩
@[simp] theorem IA:aA Tryz.prog uO=some Tr:=by kernel_rfl
@[simp] theorem auF:au Tryz.prog uO=true:=by kernel_rfl
abbrev SL:aB:=⟨.seq (.ae lS) (.seq (.ae lS) .ret),5,[.tmp 4]⟩
@[simp] theorem Sx:aA Tryz.prog uJ=some SL:=by kernel_rfl
@[simp] theorem aug:au Tryz.prog uJ=true:=by kernel_rfl
abbrev P4:zR:=[ab 38 5,ab 4 38]
abbrev OE:zB:=I::O::O::O::O::I::O::O::O::O::O::O::O::O::I::I::I::(by(iterate 22 refine O::?_);exact[])
abbrev O9:zB:=O::O::O::O::O::I::(by(iterate 33 refine O::?_);exact[])
abbrev yFP:zR:=[bx 37 16 1,ab 16 37]
abbrev yFQ:zR:=[ab 30 0,ab 31 8,o 32 (.bD .xor (.t 31) (.c (.int .i64 1))),ab 33 9,o 34 (.bD .xor (.t 33) (.c (.int .i64 1))),o 35 (.call (.f qx) [.t 30,.t 32,.t 34]),o 36 (.bD .xor (.t 35) (.c (.int .i64 1))),ab 5 36]
abbrev yFR:zR:=[ab 25 0,ab 26 5,o 27 (.bD .xor (.t 26) (.c (.int .i64 1))),ab 28 7,o 29 (.call (.f qx) [.t 25,.t 27,.t 28]),ab 9 29]
abbrev yFS:zR:=[ab 20 0,ab 21 5,ab 22 7,o 23 (.bD .xor (.t 22) (.c (.int .i64 1))),o 24 (.call (.f qx) [.t 20,.t 21,.t 23]),ab 8 24]
abbrev yFT:zR:=[aZ 18 1 14 16,ai 19 1 18,ab 7 19]
abbrev yFU:ah:=.seq (.ae yFT) (.seq (.ae yFS) (.seq (.ae yFR) (.ae yFQ)))
abbrev GQ:ah:=.seq (.ae BY) (.seq (.cond (.t 17) .skip (.exit 0)) (.seq (.block 1 [] yFU) (.ae yFP)))
abbrev yFX:zR:=[ab 13 1,o 14 (.slice 1 (.t 13) (some (.c (.int .i64 1))) none),aP 15 14,aO 16 0]
abbrev yFY:zR:=[ab 10 1,o 11 (.iY 1 (.t 10) (.c (.int .i64 0))),ai 12 1 11,ab 5 12]
abbrev S5:aB:=⟨.seq (.ae lS) (.seq (.ae yFY) (.seq (.seq (.ae yFX) (.block 0 O9 (.loop OE GQ))) (.seq (.ae P4) .ret))),39,[.tmp 4]⟩
abbrev yGa:zI:=[.code (.seq (.ae P4) .ret)]
abbrev yGb(x0 x5 x14 x15 x16:AV)(h:List Ob)(e:Cx:=cx):ar:=bl sf (.code GQ::.inLoop OE GQ::.inBlock 0 O9::yGa) (x0::U::U::U::U::x5::U::U::U::U::U::U::U::U::x14::x15::x16::(by(iterate 22 refine U::?_);exact[])) h e
@[simp] theorem SC:aA Tryz.prog sf=some S5:=by kernel_rfl
@[simp] theorem aus:au Tryz.prog sf=true:=by kernel_rfl
end Go.Proofs.YtihmomicdpkabaaGreatDoor
