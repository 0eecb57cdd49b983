/- The functions, as the abstract machine has them. Printed by a program. -/
import Derived.Test.YtihmomicdpkabaaGreatDoorAMd
import Derived.Test.YtihmomicdpkabaaGreatDoorChecked
import Derived.KernelRfl
set_option linter.unusedSimpArgs false
set_option linter.unusedVariables false
namespace Go.Proofs.YtihmomicdpkabaaGreatDoor
open Go.AM Go.Proofs
abbrev zR:=List AG
abbrev zB:=List Bool
abbrev zI:=List It
abbrev ab(d i:Nat):AG:=o d (.mv (.t i))
abbrev aj(d k i:Nat):AG:=o d (.load false k (.t i))
abbrev aL(d k i:Nat):AG:=o d (.load true k (.t i))
abbrev al(d k i:Nat):AG:=o d (.off k (.t i))
abbrev a_(d k i j:Nat):AG:=o d (.jA k (.t i) (.t j))
abbrev bB(d i:Nat)(n:Int):AG:=o d (.bK .add (.t i) (.c (.int .i64 n)))
abbrev cN(d i j:Nat):AG:=o d (.cmp .lss (.sc .int) (.t i) (.t j))
abbrev bO(d i j:Nat):AG:=o d (.pick (.t i) (.t j) (.c (.bool false)))
abbrev aN(d:Nat)(n:Int):AG:=o d (.mv (.c (.int .i64 n)))
abbrev aQ(d i:Nat):AG:=o d (.len (.t i))
abbrev aO(k a x:Nat):AG:=q (.store k (.t a) (.t x))
abbrev ba(d i k:Nat):AG:=o d (.extract (.t i) k)
abbrev cT(d j k i:Nat):AG:=oy d j (.load false k (.t i))
abbrev cD(d j i:Nat):AG:=oy d j (.mv (.t i))
abbrev aW(d:Nat)(f:FuncId)(i:Nat):AG:=o d (.call (.f f) [.t i])
abbrev cM(d:Nat)(f:FuncId)(i j:Nat):AG:=o d (.call (.f f) [.t i,.t j])
abbrev lY(d:Nat):AG:=o d (.mv (.c (.bool false)))
abbrev J5:FuncId:=5
abbrev zS:FuncId:=6
abbrev wm:FuncId:=7
abbrev tF:FuncId:=8
abbrev kD:FuncId:=10
abbrev v7:FuncId:=11
abbrev wj:FuncId:=12
abbrev tr:FuncId:=13
abbrev Ej:FuncId:=15
abbrev wD:FuncId:=16
abbrev qb:FuncId:=17
abbrev wC:FuncId:=18
abbrev wg:FuncId:=19
abbrev tJ:FuncId:=20
abbrev wE:FuncId:=21
abbrev tq:FuncId:=22
abbrev wc:FuncId:=23
abbrev Ad:FuncId:=24
abbrev s8:FuncId:=25
abbrev qd:FuncId:=26
abbrev zU:FuncId:=27
abbrev oE:FuncId:=28
abbrev oI:FuncId:=29
abbrev m5:FuncId:=30
abbrev vP:FuncId:=31
abbrev oL:FuncId:=32
abbrev nO:FuncId:=33
abbrev oM:FuncId:=34
abbrev tG:FuncId:=35
abbrev tp:FuncId:=36
abbrev m3:FuncId:=37
abbrev rL:FuncId:=38
abbrev lu:FuncId:=39
abbrev tw:FuncId:=41
abbrev rn:FuncId:=42
abbrev wb:FuncId:=43
abbrev wa:FuncId:=44
abbrev tH:FuncId:=45
abbrev v_:FuncId:=46
abbrev DL:FuncId:=47
abbrev zE:FuncId:=48
abbrev rl:FuncId:=49
abbrev vL:FuncId:=50
abbrev rk:FuncId:=51
abbrev rK:FuncId:=52
abbrev z7:FuncId:=53
abbrev tn:FuncId:=54
abbrev DV:FuncId:=55
abbrev vX:FuncId:=56
abbrev s9:FuncId:=57
abbrev tB:FuncId:=58
abbrev p6:FuncId:=59
abbrev nM:FuncId:=60
abbrev zM:FuncId:=61
abbrev z8:FuncId:=62
abbrev vY:FuncId:=63
abbrev nQ:FuncId:=64
abbrev zz:FuncId:=65
abbrev tN:FuncId:=66
abbrev we:FuncId:=67
abbrev rF:FuncId:=68
abbrev wG:FuncId:=69
abbrev tM:FuncId:=70
abbrev zZ:FuncId:=71
abbrev z6:FuncId:=72
abbrev s6:FuncId:=73
abbrev p3:FuncId:=74
abbrev z1:FuncId:=75
abbrev DH:FuncId:=76
abbrev DY:FuncId:=77
abbrev oG:FuncId:=79
abbrev tE:FuncId:=80
abbrev oF:FuncId:=81
abbrev zG:FuncId:=82
abbrev zY:FuncId:=83
abbrev qa:FuncId:=84
abbrev nN:FuncId:=85
abbrev m4:FuncId:=86
abbrev vN:FuncId:=87
abbrev te:FuncId:=88
abbrev zJ:FuncId:=89
abbrev zQ:FuncId:=90
abbrev tm:FuncId:=91
abbrev zA:FuncId:=92
abbrev iC:FuncId:=93
abbrev ta:FuncId:=94
abbrev tc:FuncId:=95
abbrev rC:FuncId:=96
abbrev zF:FuncId:=97
abbrev rr:FuncId:=98
abbrev vI:FuncId:=99
abbrev zL:FuncId:=100
abbrev Ab:FuncId:=101
abbrev AI:FuncId:=102
abbrev tX:FuncId:=103
abbrev vK:FuncId:=104
abbrev rj:FuncId:=105
abbrev oH:FuncId:=106
abbrev p5:FuncId:=107
abbrev DF:FuncId:=108
abbrev Af:FuncId:=109
abbrev DI:FuncId:=110
abbrev vR:FuncId:=111
abbrev vO:FuncId:=112
abbrev zO:FuncId:=120
abbrev th:FuncId:=121
abbrev tu:FuncId:=122
abbrev rz:FuncId:=123
abbrev p7:FuncId:=124
abbrev tv:FuncId:=125
abbrev zC:FuncId:=126
abbrev wu:FuncId:=127
abbrev vW:FuncId:=128
abbrev p4:FuncId:=129
abbrev sZ:FuncId:=130
abbrev s_:FuncId:=131
abbrev zD:FuncId:=132
abbrev rm:FuncId:=133
abbrev zK:FuncId:=134
abbrev DK:FuncId:=135
abbrev vJ:FuncId:=136
abbrev AF:FuncId:=137
abbrev zX:FuncId:=138
abbrev zT:FuncId:=139
abbrev wk:FuncId:=140
abbrev rq:FuncId:=145
abbrev zH:FuncId:=146
abbrev zy:FuncId:=147
abbrev oJ:FuncId:=148
abbrev DE:FuncId:=149
abbrev vM:FuncId:=150
abbrev rp:FuncId:=151
abbrev vS:FuncId:=152
abbrev wv:FuncId:=153
abbrev wh:FuncId:=154
abbrev ry:FuncId:=155
abbrev wo:FuncId:=156
abbrev wq:FuncId:=157
abbrev Az:FuncId:=161
abbrev vV:FuncId:=185
abbrev zP:FuncId:=186
abbrev zN:FuncId:=187
abbrev vU:FuncId:=188
abbrev vQ:FuncId:=191
abbrev td:FuncId:=192
abbrev aq:TypeId:=3
abbrev aV:TypeId:=4
abbrev Gf:TypeId:=5
abbrev aE:TypeId:=9
abbrev W9:TypeId:=32
abbrev iZ:TypeId:=33
abbrev WD:TypeId:=46
abbrev kK:TypeId:=50
abbrev cP:TypeId:=63
abbrev D1:TypeId:=70
abbrev D_:TypeId:=126
abbrev kE:TypeId:=153
@[simp] theorem axL:mw Tryz.prog kE "Push" =some (zN,none):=by kernel_rfl
@[simp] theorem axR:mw Tryz.prog kE "Len" =some (te,some (false,1)):=by kernel_rfl
@[simp] theorem axK:mw Tryz.prog kE "Swap" =some (vU,some (false,1)):=by kernel_rfl
@[simp] theorem axP:mw Tryz.prog kE "Pop" =some (zP,none):=by kernel_rfl
@[simp] theorem axM:mw Tryz.prog kE "Less" =some (vV,some (false,1)):=by kernel_rfl
abbrev DU:TypeId:=154
@[simp] theorem axC:mw Tryz.prog DU "Len" =some (te,none):=by kernel_rfl
@[simp] theorem axx:mw Tryz.prog DU "Swap" =some (vU,none):=by kernel_rfl
@[simp] theorem axu:mw Tryz.prog DU "Less" =some (vV,none):=by kernel_rfl
abbrev jW:TypeId:=155
abbrev aU:TypeId:=163
abbrev lr:TypeId:=196
abbrev ya:zR:=[ab 63 7,ab 64 63,cD 65 64 14,cD 66 64 17,oy 67 64 (.cmp .eql (.sc .int) (.t 65) (.t 66)),bO 68 64 67,ab 69 68,cD 70 69 12,cD 71 69 15,oy 72 69 (.call (.f qb) [.t 70,.t 71]),bO 73 69 72,ab 74 73,cD 75 74 13,cD 76 74 16,oy 77 74 (.call (.f qb) [.t 75,.t 76]),bO 78 74 77,ab 6 78]
abbrev yd:zR:=[al 55 0 9,aL 56 5 55,ab 57 1,ab 58 2,o 59 (.call (.f wD) [.t 56,.t 57,.t 58]),ab 54 59,ba 60 54 0,ba 61 54 1,ba 62 54 2,ab 15 60,ab 16 61,ab 17 62]
abbrev ye:zR:=[aL 47 4 3,ab 48 1,ab 49 2,o 50 (.call (.f Ej) [.t 47,.t 48,.t 49]),ab 46 50,ba 51 46 0,ba 52 46 1,ba 53 46 2,ab 12 51,ab 13 52,ab 14 53]
abbrev yf:zR:=[ab 45 7,ab 6 45]
abbrev yg:ah:=.seq (.ae yf) .ret
abbrev yh:zR:=[ab 29 8,o 30 (.not (.t 29)),ab 31 30,on 32 31 (.mv (.t 10)),on 33 31 (.cmp .neq (.sc .int) (.t 32) (.c (.int .i64 0))),o 34 (.pick (.t 31) (.c (.bool true)) (.t 33)),ab 35 34,on 36 35 (.mv (.t 1)),on 37 35 (.len (.t 36)),on 38 35 (.cmp .gtr (.sc .int) (.t 37) (.c (.int .i64 60))),o 39 (.pick (.t 35) (.c (.bool true)) (.t 38)),ab 40 39,on 41 40 (.mv (.t 2)),on 42 40 (.len (.t 41)),on 43 40 (.cmp .gtr (.sc .int) (.t 42) (.c (.int .i64 60))),o 44 (.pick (.t 40) (.c (.bool true)) (.t 43))]
abbrev yi:zR:=[aL 24 4 3,aW 25 kD 24,ab 23 25,ba 26 23 0,ba 27 23 1,ba 28 23 2,o 9 (.alloc [.int .i64 0,.own 1 aq [],.own 1 aq [],.own 2 cP [],.own 1 aq [],.own 1 aE [],.own 1 aE [],.own 1 aE []]),aO 8 9 26,ab 10 27,ab 11 28]
abbrev yj:zR:=[aL 21 4 3,aW 22 tF 21,ab 8 22]
abbrev yk:zR:=[lY 6]
abbrev ym:ah:=.seq (.ae yk) .ret
abbrev yo:zR:=[ab 19 7,o 20 (.not (.t 19))]
abbrev yp:zR:=[o 18 (.call (.f wm) []),ab 7 18]
abbrev yq:zR:=[o 3 (.box 4 (.t 0)),lY 6]
abbrev V9:aA:=⟨.seq (.ae yq) (.seq (.ae yp) (.seq (.seq (.ae yo) (.cond (.t 20) ym .skip)) (.seq (.ae yj) (.seq (.ae yi) (.seq (.seq (.ae yh) (.cond (.t 44) yg .skip)) (.seq (.ae ye) (.seq (.ae yd) (.seq (.ae ya) .ret)))))))),79,[.tmp 6]⟩
@[simp] theorem axQ:az Tryz.prog J5=some V9:=by kernel_rfl
@[simp] theorem axT:ar Tryz.prog J5=true:=by kernel_rfl
abbrev yr:zR:=[ab 111 7,ab 112 111,cD 113 112 17,cD 114 112 15,oy 115 112 (.call (.f qb) [.t 113,.t 114]),bO 116 112 115,ab 6 116]
abbrev yu:zB:=O::O::I::O::O::O::O::I::O::I::O::O::O::O::I::I::O::I::I::(by(iterate 98 refine O::?_);exact[])
abbrev yv:zB:=O::O::O::O::O::O::O::I::O::O::O::O::O::O::O::I::O::I::(by(iterate 99 refine O::?_);exact[])
abbrev yw:zR:=[ab 79 18,bB 80 79 1,ab 18 80]
abbrev yx:zR:=[ab 110 20,ab 17 110]
abbrev yA:zR:=[ab 93 21,o 94 (.cmp .neq (.sc .int) (.t 93) (.c (.int .i64 0))),ab 95 94,on 96 95 (.mv (.t 18)),on 97 95 (.mv (.t 14)),on 98 95 (.len (.t 97)),on 99 95 (.cmp .geq (.sc .int) (.t 96) (.t 98)),o 100 (.pick (.t 95) (.c (.bool true)) (.t 99)),ab 101 100,on 102 101 (.mv (.t 19)),on 103 101 (.mv (.t 14)),on 104 101 (.mv (.t 18)),on 105 101 (.jA 1 (.t 103) (.t 104)),on 106 101 (.load false 1 (.t 105)),on 107 101 (.call (.f qb) [.t 102,.t 106]),on 108 101 (.not (.t 107)),o 109 (.pick (.t 101) (.c (.bool true)) (.t 108))]
abbrev yB:zR:=[al 82 0 9,aL 83 5 82,ab 84 17,ab 85 2,ab 86 18,a_ 87 1 85 86,aj 88 1 87,o 89 (.call (.f wD) [.t 83,.t 84,.t 88]),ab 81 89,ba 90 81 0,ba 91 81 1,ba 92 81 2,ab 19 90,ab 20 91,ab 21 92]
abbrev yC:ah:=.seq (.aS ((by(iterate 15 refine O::?_);exact[])) [8,8,8,8,8,8,8,16,16,16,16,16,16,16,16] yB) (.seq (.seq (.ae yA) (.cond (.t 109) ym .skip)) (.ae yx))
abbrev yD:zR:=[ab 75 18,ab 76 2,aQ 77 76,cN 78 75 77]
abbrev yE:ah:=.seq (.seq (.ae yD) (.cond (.t 78) .skip (.exit 0))) (.seq (.block 1 [] yC) (.ae yw))
abbrev yF:zR:=[aN 18 0]
abbrev yG:zR:=[ab 74 12,ab 17 74]
abbrev yH:zR:=[ab 69 7,ab 70 69,cD 71 70 13,oy 72 70 (.cmp .eql (.sc .int) (.t 71) (.c (.int .i64 0))),bO 73 70 72,ab 6 73]
abbrev yI:ah:=.seq (.ae yH) .ret
abbrev yJ:zR:=[ab 63 13,o 64 (.cmp .neq (.sc .int) (.t 63) (.c (.int .i64 0))),ab 65 64,on 66 65 (.mv (.t 16)),on 67 65 (.cmp .neq (.sc .int) (.t 66) (.c (.int .i64 0))),o 68 (.pick (.t 65) (.c (.bool true)) (.t 67))]
abbrev yK:zR:=[aL 56 4 3,ab 57 12,ab 58 2,o 59 (.call (.f tJ) [.t 56,.t 57,.t 58]),ab 55 59,ba 60 55 0,ba 61 55 1,ba 62 55 2,ab 14 60,ab 15 61,ab 16 62]
abbrev yL:zR:=[aL 50 4 3,ab 51 1,cM 52 wg 50 51,ab 49 52,ba 53 49 0,ba 54 49 1,ab 12 53,ab 13 54]
abbrev yM:zR:=[ab 48 7,ab 6 48]
abbrev yN:ah:=.seq (.ae yM) .ret
abbrev yO:zR:=[ab 37 8,o 38 (.not (.t 37)),ab 39 38,on 40 39 (.mv (.t 10)),on 41 39 (.cmp .neq (.sc .int) (.t 40) (.c (.int .i64 0))),o 42 (.pick (.t 39) (.c (.bool true)) (.t 41)),ab 43 42,on 44 43 (.mv (.t 1)),on 45 43 (.len (.t 44)),on 46 43 (.cmp .gtr (.sc .int) (.t 45) (.c (.int .i64 60))),o 47 (.pick (.t 43) (.c (.bool true)) (.t 46))]
abbrev yP:zR:=[aL 32 4 3,aW 33 kD 32,ab 31 33,ba 34 31 0,ba 35 31 1,ba 36 31 2,o 9 (.alloc [.int .i64 0,.own 1 aq [],.own 1 aq [],.own 2 cP [],.own 1 aq [],.own 1 aE [],.own 1 aE [],.own 1 aE []]),aO 8 9 34,ab 10 35,ab 11 36]
abbrev yQ:zR:=[aL 25 4 3,aW 26 tF 25,ab 27 26,cD 28 27 2,oy 29 27 (.call (.f wC) [.t 28,.c (.int .i64 12)]),bO 30 27 29,ab 8 30]
abbrev yT:zR:=[ab 23 7,o 24 (.not (.t 23))]
abbrev yU:zR:=[o 22 (.call (.f wm) []),ab 7 22]
abbrev Wq:aA:=⟨.seq (.ae yq) (.seq (.ae yU) (.seq (.seq (.ae yT) (.cond (.t 24) ym .skip)) (.seq (.ae yQ) (.seq (.ae yP) (.seq (.seq (.ae yO) (.cond (.t 47) yN .skip)) (.seq (.ae yL) (.seq (.ae yK) (.seq (.seq (.ae yJ) (.cond (.t 68) yI .skip)) (.seq (.ae yG) (.seq (.seq (.ae yF) (.block 0 yv (.loop yu yE))) (.seq (.ae yr) .ret))))))))))),117,[.tmp 6]⟩
abbrev yX:zI:=[.code (.seq (.ae yr) .ret)]
abbrev yY(x2 x7 x9 x14 x15 x17 x18:AV)(h:List Ob)(e:Cx:=cx):an:=aY zS (.code yE::.inLoop yu yE::.inBlock 0 yv::yX) (U::U::x2::U::U::U::U::x7::U::x9::U::U::U::U::x14::x15::U::x17::x18::(by(iterate 98 refine U::?_);exact[])) h e
@[simp] theorem V4:az Tryz.prog zS=some Wq:=by kernel_rfl
@[simp] theorem ax4:ar Tryz.prog zS=true:=by kernel_rfl
abbrev yZ:zR:=[ab 41 3,o 42 (.cmp .eql (.sc .int) (.t 41) (.c (.int .i64 0))),ab 43 42,cD 44 43 4,oy 45 43 (.cmp .eql (.sc .str) (.t 44) (.c (.str []))),bO 46 43 45,ab 47 46,oy 48 47 (.off 0 (.t 2)),oy 49 47 (.load true 5 (.t 48)),oy 50 47 (.load true 5 (.t 5)),oy 51 47 (.call (.f wE) [.t 49,.t 50]),bO 52 47 51,ab 53 52,oy 54 53 (.off 6 (.t 2)),cT 55 53 1 54,oy 56 53 (.lit 1 [.str []] [(0,.c (.str [113]))]),oy 57 53 (.call (.f wj) [.t 55,.t 56]),bO 58 53 57,ab 59 58,cD 60 59 7,oy 61 59 (.cmp .eql (.sc .int) (.t 60) (.c (.int .i64 6))),bO 62 59 61,ab 63 62,cD 64 63 8,oy 65 63 (.cmp .eql (.sc .str) (.t 64) (.c (.str [121]))),bO 66 63 65,ab 67 66,oy 68 67 (.load true 8 (.t 2)),oy 69 67 (.call (.f tr) [.t 68]),oy 70 67 (.cmp .eql (.sc .int) (.t 69) (.c (.int .i64 0))),bO 71 67 70,ab 72 71,oy 73 72 (.load true 8 (.t 9)),oy 74 72 (.call (.f tr) [.t 73]),oy 75 72 (.cmp .eql (.sc .int) (.t 74) (.c (.int .i64 5))),bO 76 72 75,ab 77 76,oy 78 77 (.load true 8 (.t 2)),oy 79 77 (.call (.f tq) [.t 78,.c (.str [113])]),oy 80 77 (.cmp .eql (.sc .int) (.t 79) (.c (.int .i64 3))),bO 81 77 80,ab 82 81,oy 83 82 (.load true 8 (.t 2)),oy 84 82 (.call (.f tq) [.t 83,.c (.str [122])]),oy 85 82 (.cmp .eql (.sc .int) (.t 84) (.c (.int .i64 (-1)))),bO 86 82 85,ab 87 86,oy 88 87 (.load true 8 (.t 2)),oy 89 87 (.load true 8 (.t 2)),oy 90 87 (.call (.f wc) [.t 88,.t 89]),bO 91 87 90,ab 92 91,oy 93 92 (.load true 8 (.t 2)),oy 94 92 (.load true 8 (.t 9)),oy 95 92 (.call (.f wc) [.t 93,.t 94]),oy 96 92 (.not (.t 95)),bO 97 92 96,ab 0 97]
abbrev yba:zR:=[o 39 (.lit 1 [.str []] [(0,.c (.str [97]))]),al 40 7 9,aO 1 40 39]
abbrev ybb:zR:=[aL 38 8 2,o 9 (.alloc [.int .i64 0,.own 1 aq [],.own 1 aq [],.own 2 cP [],.own 1 aq [],.own 1 aE [],.own 1 aE [],.own 1 aE []]),aO 8 9 38]
abbrev ybc:zR:=[aL 33 4 1,aW 34 kD 33,ab 32 34,ba 35 32 0,ba 36 32 1,ba 37 32 2,o 6 (.alloc [.int .i64 0,.own 1 aq [],.own 1 aq [],.own 2 cP [],.own 1 aq [],.own 1 aE [],.own 1 aE [],.own 1 aE []]),aO 8 6 35,ab 7 36,ab 8 37]
abbrev ybd:zR:=[o 30 (.lit 1 [.str []] [(0,.c (.str [121]))]),al 31 1 1,aO 1 31 30]
abbrev ybe:zR:=[o 24 (.lit 1 [.int .i64 0] [(0,.c (.int .i64 9))]),o 25 (.lit 1 [.int .i64 0] [(0,.c (.int .i64 1))]),o 26 (.build [.int .i64 0,.int .i64 0] [(0,1,.c (.int .i64 5)),(1,1,.c (.int .i64 3))]),o 27 (.lit 2 [.agg [.int .i64 0,.int .i64 0]] [(0,.t 26)]),o 28 (.lit 1 [.int .i64 0] [(0,.c (.int .i64 9))]),o 29 (.build [.int .i64 0,.list true 0 [],.list true 0 [],.list true 0 [],.list true 0 []] [(0,1,.c (.int .i64 2)),(1,1,.t 24),(2,1,.t 25),(3,1,.t 27),(4,1,.t 28)]),o 5 (.alloc [.int .i64 0,.own 1 aq [],.own 1 aq [],.own 2 cP [],.own 1 aq []]),aO 5 5 29]
abbrev ybf:zR:=[aL 19 4 1,aW 20 kD 19,ab 18 20,ba 21 18 0,ba 22 18 1,ba 23 18 2,o 2 (.alloc [.int .i64 0,.own 1 aq [],.own 1 aq [],.own 2 cP [],.own 1 aq [],.own 1 aE [],.own 1 aE [],.own 1 aE []]),aO 8 2 21,ab 3 22,ab 4 23]
abbrev ybg:zR:=[o 10 (.lit 1 [.str [],.str []] [(0,.c (.str [97])),(1,.c (.str [98]))]),o 11 (.lit 1 [.str []] [(0,.c (.str [122]))]),o 12 (.build [.str [],.str [],.int .i64 0] [(0,1,.c (.str [113])),(1,1,.c (.str [122])),(2,1,.c (.int .i64 1))]),o 13 (.lit 3 [.agg [.str [],.str [],.int .i64 0]] [(0,.t 12)]),o 14 (.lit 1 [.str [],.str []] [(0,.c (.str [97])),(1,.c (.str [98]))]),o 15 (.build [.str [],.int .i64 0,.list true 0 [],.list true 0 [],.bool false] [(0,1,.c (.str [122])),(1,1,.c (.int .i64 6)),(2,1,.t 14)]),o 16 (.lit 5 [.agg [.str [],.int .i64 0,.list true 0 [],.list true 0 [],.bool false]] [(0,.t 15)]),o 17 (.build [.list true 0 [],.list true 0 [],.list true 0 [],.list true 0 []] [(0,1,.t 10),(1,1,.t 11),(2,1,.t 13),(3,1,.t 16)]),o 1 (.alloc [.own 1 aE [],.own 1 aE [],.own 3 WD [],.own 5 W9 []]),aO 4 1 17]
abbrev ybh:zR:=[lY 0]
abbrev abe:aA:=⟨.seq (.ae ybh) (.seq (.ae ybg) (.seq (.ae ybf) (.seq (.ae ybe) (.seq (.ae ybd) (.seq (.ae ybc) (.seq (.ae ybb) (.seq (.ae yba) (.seq (.ae yZ) .ret)))))))),98,[.tmp 0]⟩
@[simp] theorem XJ:az Tryz.prog wm=some abe:=by kernel_rfl
@[simp] theorem ayQ:ar Tryz.prog wm=true:=by kernel_rfl
abbrev Ru:zR:=[ab 24 3,ab 25 24,cD 26 25 4,oy 27 25 (.cmp .leq (.sc .int) (.t 26) (.c (.int .i64 40))),bO 28 25 27,ab 29 28,oy 30 29 (.off 3 (.t 1)),cT 31 29 1 30,oy 32 29 (.len (.t 31)),oy 33 29 (.cmp .leq (.sc .int) (.t 32) (.c (.int .i64 16))),bO 34 29 33,ab 2 34]
abbrev QX:zB:=O::I::O::I::I::I::(by(iterate 29 refine O::?_);exact[])
abbrev Q2:zB:=O::I::O::I::I::(by(iterate 30 refine O::?_);exact[])
abbrev ybl:zR:=[ab 13 5,bB 14 13 1,ab 5 14]
abbrev ybm:zR:=[ab 15 4,al 16 3 1,aj 17 1 16,ab 18 5,a_ 19 5 17 18,al 20 3 19,aj 21 1 20,aQ 22 21,o 23 (.bK .add (.t 15) (.t 22)),ab 4 23]
abbrev ybn:zR:=[ab 8 5,al 9 3 1,aj 10 1 9,aQ 11 10,cN 12 8 11]
abbrev IX:ah:=.seq (.seq (.ae ybn) (.cond (.t 12) .skip (.exit 0))) (.seq (.block 1 [] (.ae ybm)) (.ae ybl))
abbrev qR:zR:=[aN 5 0]
abbrev mN:zR:=[aN 4 0]
abbrev ybr:zR:=[aL 6 4 1,aW 7 Ad 6,ab 3 7]
abbrev y3:zR:=[o 1 (.box 4 (.t 0)),lY 2]
abbrev ZH:aA:=⟨.seq (.ae y3) (.seq (.ae ybr) (.seq (.ae mN) (.seq (.seq (.ae qR) (.block 0 Q2 (.loop QX IX))) (.seq (.ae Ru) .ret)))),35,[.tmp 2]⟩
abbrev ybt:zI:=[.code (.seq (.ae Ru) .ret)]
abbrev ybu(x1 x3 x4 x5:AV)(h:List Ob)(e:Cx:=cx):an:=aY tF (.code IX::.inLoop QX IX::.inBlock 0 Q2::ybt) (U::x1::U::x3::x4::x5::(by(iterate 29 refine U::?_);exact[])) h e
@[simp] theorem X5:az Tryz.prog tF=some ZH:=by kernel_rfl
@[simp] theorem ay5:ar Tryz.prog tF=true:=by kernel_rfl
abbrev C1:zR:=[aL 148 8 2,aO 8 2 148,q (.store 1 (.t 3) (.c (.int .i64 0))),q (.store 1 (.t 4) (.c (.str [])))]
abbrev Dl:zR:=[ab 140 7,o 141 (.cv (.t 140)),al 142 0 141,aL 143 5 142,aW 144 oL 143,ab 139 144,ba 145 139 0,ba 146 139 1,al 147 0 2,aO 5 147 145]
abbrev Ck:zR:=[ab 124 7,ab 125 7,ab 126 11,ab 127 12,o 128 (.call (.t 126) [.t 127]),ab 129 11,al 130 1 1,aj 131 1 130,o 132 (.call (.t 129) [.t 131]),o 133 (.cv (.t 124)),al 134 0 133,al 135 1 134,aO 1 135 128,o 136 (.cv (.t 125)),al 137 0 136,al 138 4 137,aO 1 138 132]
abbrev Dh:zB:=O::I::I::I::I::O::O::I::I::O::O::I::I::(by(iterate 89 refine O::?_);exact I::I::I::(by(iterate 44 refine O::?_);exact[]))
abbrev CQ:zB:=O::I::I::I::I::O::O::I::O::O::O::I::I::(by(iterate 136 refine O::?_);exact[])
abbrev ybA:zR:=[bB 123 104 1,ab 104 123]
abbrev ybB:zR:=[aj 113 1 8,al 114 0 19,aj 115 1 114,ab 116 7,aL 117 5 19,ab 118 11,al 119 2 19,aj 120 1 119,o 121 (.call (.t 118) [.t 120]),o 122 (.call (.f vP) [.t 116,.t 117,.t 121]),q (.bI (.sc .str) (.t 113) (.t 115) (.t 122))]
abbrev ybC:zR:=[al 108 3 1,aj 109 1 108,ab 110 18,a_ 111 5 109 110,aL 112 5 111,o 19 (.alloc [.str [],.int .i64 0,.own 1 aE [],.own 1 aE [],.bool false]),aO 5 19 112]
abbrev ybD:zR:=[a_ 106 1 102 104,aj 107 1 106,ab 18 107]
abbrev ybE:ah:=.seq (.ae ybD) (.seq (.ae ybC) (.aS [I,O,I,O,I,O,O,O,O,O,O] [11,11,11,10,10,9,9,9,10,11,12] ybB))
abbrev ybF:zR:=[cN 105 104 103]
abbrev y_:ah:=.seq (.ae ybF) (.seq (.cond (.t 105) .skip (.exit 4)) (.seq (.block 5 [] ybE) (.ae ybA)))
abbrev Hp:zR:=[ab 102 15,aQ 103 102,aN 104 0]
abbrev HP:zR:=[aL 98 4 1,aW 99 m5 98,ab 97 99,ba 100 97 0,ba 101 97 1,ab 15 100,ab 16 101]
abbrev HF:zB:=O::I::I::I::I::O::O::I::I::O::O::I::I::(by(iterate 52 refine O::?_);exact I::I::I::(by(iterate 81 refine O::?_);exact[]))
abbrev H6:zB:=O::I::I::I::I::O::O::I::I::O::O::I::I::(by(iterate 136 refine O::?_);exact[])
abbrev ybL:zR:=[bB 96 67 1,ab 67 96]
abbrev ybM:zR:=[ab 91 12,al 92 1 14,aj 93 1 92,o 94 (.lit 1 [.str []] [(0,.t 93)]),o 95 (.append 1 aE 16 (.t 91) (.t 94)),ab 12 95]
abbrev ybN:zR:=[ab 78 7,ab 79 7,o 80 (.cv (.t 79)),al 81 0 80,al 82 2 81,aj 83 1 82,al 84 2 14,aj 85 1 84,o 86 (.lit 1 [.int .i64 0] [(0,.t 85)]),o 87 (.append 1 aq 8 (.t 83) (.t 86)),o 88 (.cv (.t 78)),al 89 0 88,al 90 2 89,aO 1 90 87]
abbrev ybO:zR:=[al 71 6 2,aj 72 1 71,al 73 0 14,aj 74 1 73,o 75 (.lit 1 [.str []] [(0,.t 74)]),o 76 (.append 1 aE 16 (.t 72) (.t 75)),al 77 6 2,aO 1 77 76]
abbrev ybP:zR:=[a_ 69 3 65 67,aL 70 3 69,o 14 (.alloc [.str [],.str [],.int .i64 0]),aO 3 14 70]
abbrev ybQ:ah:=.seq (.ae ybP) (.seq (.ae ybO) (.seq (.aS [O,O,O,O,O,I,O,O,O,O,O,O,O,O] [14,10,10,10,10,10,9,9,10,14,14,14,14,15] ybN) (.ae ybM)))
abbrev ybR:zR:=[cN 68 67 66]
abbrev Df:ah:=.seq (.ae ybR) (.seq (.cond (.t 68) .skip (.exit 2)) (.seq (.block 3 [] ybQ) (.ae ybL)))
abbrev Sr:zR:=[al 64 2 1,aj 65 1 64,aQ 66 65,aN 67 0]
abbrev S9:zR:=[o 12 (.bC 1 aE)]
abbrev SC:zR:=[o 63 (.fO (.func oI) [] [.t 8]),ab 11 63]
abbrev TA:zB:=O::I::I::I::I::O::O::I::I::(by(iterate 41 refine O::?_);exact I::I::I::(by(iterate 96 refine O::?_);exact[]))
abbrev RA:zB:=O::I::I::I::I::O::O::I::I::(by(iterate 140 refine O::?_);exact[])
abbrev ybY:zR:=[bB 62 52 1,ab 52 62]
abbrev ybZ:zR:=[aj 57 1 8,ab 58 10,ab 59 9,bB 60 59 1,o 61 (.bK .mul (.c (.int .i64 2)) (.t 60)),q (.bI (.sc .str) (.t 57) (.t 58) (.t 61))]
abbrev yca:zR:=[ab 54 52,a_ 55 1 50 52,aj 56 1 55,ab 9 54,ab 10 56]
abbrev ycb:ah:=.seq (.ae yca) (.ae ybZ)
abbrev ycc:zR:=[cN 53 52 51]
abbrev HR:ah:=.seq (.ae ycc) (.seq (.cond (.t 53) .skip (.exit 0)) (.seq (.block 1 [] ycb) (.ae ybY)))
abbrev yce:zR:=[aL 49 4 1,aW 50 qd 49,aQ 51 50,aN 52 0]
abbrev ycf:zR:=[o 48 (.mkMap),o 8 (.alloc [.c_]),aO 1 8 48]
abbrev ycg:zR:=[al 41 0 1,aj 42 1 41,aW 43 oE 42,al 44 1 1,aj 45 1 44,aW 46 oE 45,o 47 (.build [.int .i64 0,.list true 0 [],.list true 0 [],.list true 0 [],.list true 0 [],.list true 0 [],.list true 0 [],.list true 0 []] [(5,1,.t 43),(7,1,.t 46)]),aO 8 2 47]
abbrev ych:zR:=[al 31 0 1,aj 32 1 31,aQ 33 32,al 34 2 1,aj 35 1 34,aQ 36 35,o 37 (.mkSlice 1 aq 8 (.int .i64 0) (.t 36) (.t 36)),o 38 (.build [.int .i64 0,.list true 0 [],.list true 0 [],.list true 0 [],.list true 0 []] [(0,1,.t 33),(1,1,.t 37)]),o 39 (.build [.int .i64 0,.list true 0 [],.list true 0 [],.list true 0 [],.list true 0 []] [(0,5,.t 38)]),o 40 (.box 5 (.t 39)),ab 7 40]
abbrev yci:zR:=[o 30 (.fO (.func zU) [] [.t 2,.t 3,.t 4]),q (.defer (.t 30) [])]
abbrev ycj:zR:=[o 27 (.build [.int .i64 0,.list true 0 [],.list true 0 [],.list true 0 [],.list true 0 [],.list true 0 [],.list true 0 [],.list true 0 []] []),ab 28 5,ab 29 6,aO 8 2 27,aO 1 3 28,aO 1 4 29]
abbrev yck:ah:=.seq (.ae ycj) .ret
abbrev ycl:zR:=[ab 25 5,o 26 (.cmp .neq (.sc .int) (.t 25) (.c (.int .i64 0)))]
abbrev ycm:zR:=[aL 21 4 1,aW 22 v7 21,ab 20 22,ba 23 20 0,ba 24 20 1,ab 5 23,ab 6 24]
abbrev ycn:zR:=[o 1 (.box 4 (.t 0)),o 2 (.alloc [.int .i64 0,.own 1 aq [],.own 1 aq [],.own 2 cP [],.own 1 aq [],.own 1 aE [],.own 1 aE [],.own 1 aE []]),o 3 (.alloc [.int .i64 0]),o 4 (.alloc [.str []])]
abbrev Xx:aA:=⟨.seq (.ae ycn) (.seq (.seq (.ae ycm) (.seq (.ae ycl) (.cond (.t 26) yck .skip))) (.seq (.ae yci) (.seq (.aS [O,I,O,O,O,O,O,O,O,O,O] [10,10,10,7,7,7,10,10,10,12,12] ych) (.seq (.aS [O,O,O,O,I,O,O,O] [3,3,6,6,6,8,8,9] ycg) (.seq (.ae ycf) (.seq (.seq (.ae yce) (.block 0 RA (.loop TA HR))) (.seq (.ae SC) (.seq (.ae S9) (.seq (.seq (.ae Sr) (.block 2 H6 (.loop HF Df))) (.seq (.ae HP) (.seq (.seq (.ae Hp) (.block 4 CQ (.loop Dh y_))) (.seq (.aS [O,O,O,O,O,O,O,I,O,O,O,O,O,O,O,O,O] [13,17,5,5,9,9,9,9,13,13,13,13,17,17,17,17,18] Ck) (.seq (.ae Dl) (.seq (.ae C1) .ret)))))))))))))),149,[.cell 2 true 8,.cell 3 false 1,.cell 4 false 1]⟩
abbrev QD:zI:=[.code (.seq (.aS [O,O,O,O,O,O,O,I,O,O,O,O,O,O,O,O,O] [13,17,5,5,9,9,9,9,13,13,13,13,17,17,17,17,18] Ck) (.seq (.ae Dl) (.seq (.ae C1) .ret)))]
abbrev ycp(x1 x2 x3 x4 x7 x8 x11 x12 x102 x103 x104:AV)(h:List Ob)(e:Cx:=cx):an:=aY kD (.code y_::.inLoop Dh y_::.inBlock 4 CQ::QD) (U::x1::x2::x3::x4::U::U::x7::x8::U::U::x11::x12::(by(iterate 89 refine U::?_);exact x102::x103::x104::(by(iterate 44 refine U::?_);exact[]))) h e
abbrev ycq(x1 x2 x3 x4 x7 x11 x12:AV)(h:List Ob)(e:Cx:=cx):an:=aY kD QD (U::x1::x2::x3::x4::U::U::x7::U::U::U::x11::x12::(by(iterate 136 refine U::?_);exact[])) h e
abbrev Qz:zI:=[.code (.seq (.ae HP) (.seq (.seq (.ae Hp) (.block 4 CQ (.loop Dh y_))) (.seq (.aS [O,O,O,O,O,O,O,I,O,O,O,O,O,O,O,O,O] [13,17,5,5,9,9,9,9,13,13,13,13,17,17,17,17,18] Ck) (.seq (.ae Dl) (.seq (.ae C1) .ret)))))]
abbrev ycs(x1 x2 x3 x4 x7 x8 x11 x12 x65 x66 x67:AV)(h:List Ob)(e:Cx:=cx):an:=aY kD (.code Df::.inLoop HF Df::.inBlock 2 H6::Qz) (U::x1::x2::x3::x4::U::U::x7::x8::U::U::x11::x12::(by(iterate 52 refine U::?_);exact x65::x66::x67::(by(iterate 81 refine U::?_);exact[]))) h e
abbrev yct(x1 x2 x3 x4 x7 x8 x11 x12:AV)(h:List Ob)(e:Cx:=cx):an:=aY kD Qz (U::x1::x2::x3::x4::U::U::x7::x8::U::U::x11::x12::(by(iterate 136 refine U::?_);exact[])) h e
abbrev SB:zI:=[.code (.seq (.ae SC) (.seq (.ae S9) (.seq (.seq (.ae Sr) (.block 2 H6 (.loop HF Df))) (.seq (.ae HP) (.seq (.seq (.ae Hp) (.block 4 CQ (.loop Dh y_))) (.seq (.aS [O,O,O,O,O,O,O,I,O,O,O,O,O,O,O,O,O] [13,17,5,5,9,9,9,9,13,13,13,13,17,17,17,17,18] Ck) (.seq (.ae Dl) (.seq (.ae C1) .ret))))))))]
abbrev ycv(x1 x2 x3 x4 x7 x8 x50 x51 x52:AV)(h:List Ob)(e:Cx:=cx):an:=aY kD (.code HR::.inLoop TA HR::.inBlock 0 RA::SB) (U::x1::x2::x3::x4::U::U::x7::x8::(by(iterate 41 refine U::?_);exact x50::x51::x52::(by(iterate 96 refine U::?_);exact[]))) h e
abbrev ycw(x1 x2 x3 x4 x7 x8:AV)(h:List Ob)(e:Cx:=cx):an:=aY kD SB (U::x1::x2::x3::x4::U::U::x7::x8::(by(iterate 140 refine U::?_);exact[])) h e
@[simp] theorem WK:az Tryz.prog kD=some Xx:=by kernel_rfl
@[simp] theorem ayp:ar Tryz.prog kD=true:=by kernel_rfl
abbrev ycx:zR:=[aN 2 0,o 3 (.mv (.c (.str [])))]
abbrev ycy:zR:=[ab 25 7,o 26 (.jA 1 (.t 25) (.c (.int .i64 0))),aj 27 1 26,aN 2 7,ab 3 27]
abbrev ycz:ah:=.seq (.aS [O,O,O,O,O] [6,6,6,6,6] ycy) .ret
abbrev ycA:zR:=[ab 22 7,aQ 23 22,o 24 (.cmp .gtr (.sc .int) (.t 23) (.c (.int .i64 0)))]
abbrev ycB:zR:=[aL 18 4 1,aW 19 m5 18,ab 17 19,ba 20 17 0,ba 21 17 1,ab 6 20,ab 7 21]
abbrev ycC:zR:=[ab 15 4,ab 16 5,ab 2 15,ab 3 16]
abbrev ycD:ah:=.seq (.ae ycC) .ret
abbrev ycE:zR:=[ab 13 4,o 14 (.cmp .neq (.sc .int) (.t 13) (.c (.int .i64 0)))]
abbrev ycF:zR:=[aL 9 4 1,aW 10 nO 9,ab 8 10,ba 11 8 0,ba 12 8 1,ab 4 11,ab 5 12]
abbrev ycG:zR:=[o 1 (.box 4 (.t 0)),aN 2 0,o 3 (.mv (.c (.str [])))]
abbrev XQ:aA:=⟨.seq (.ae ycG) (.seq (.seq (.ae ycF) (.seq (.ae ycE) (.cond (.t 14) ycD .skip))) (.seq (.seq (.ae ycB) (.seq (.ae ycA) (.cond (.t 24) ycz .skip))) (.seq (.ae ycx) .ret))),28,[.tmp 2,.tmp 3]⟩
@[simp] theorem Wr:az Tryz.prog v7=some XQ:=by kernel_rfl
@[simp] theorem ayt:ar Tryz.prog v7=true:=by kernel_rfl
abbrev sM:zR:=[o 4 (.mv (.c (.bool true)))]
abbrev CW:zB:=I::I::O::O::O::I::(by(iterate 20 refine O::?_);exact[])
abbrev ou:zB:=(by(iterate 26 refine O::?_);exact[])
abbrev C_:zR:=[ab 15 5,bB 16 15 1,ab 5 16]
abbrev jQ:zR:=[lY 4]
abbrev lX:ah:=.seq (.ae jQ) .ret
abbrev ycN:zR:=[ab 17 0,ab 18 5,a_ 19 1 17 18,aj 20 1 19,ab 21 1,ab 22 5,a_ 23 1 21 22,aj 24 1 23,o 25 (.cmp .neq (.sc .str) (.t 20) (.t 24))]
abbrev ycO:ah:=.seq (.aS [O,O,O,O,O,O,O,O,O] [10,10,10,10,10,10,10,10,10] ycN) (.cond (.t 25) lX .skip)
abbrev SF:zR:=[ab 11 5,ab 12 0,aQ 13 12,cN 14 11 13]
abbrev Hk:ah:=.seq (.seq (.ae SF) (.cond (.t 14) .skip (.exit 0))) (.seq (.block 1 [] ycO) (.ae C_))
abbrev yR:zR:=[ab 6 0,aQ 7 6,ab 8 1,aQ 9 8,o 10 (.cmp .neq (.sc .int) (.t 7) (.t 9))]
abbrev aaP:aA:=⟨.seq (.ae jQ) (.seq (.seq (.ae yR) (.cond (.t 10) lX .skip)) (.seq (.seq (.ae qR) (.block 0 ou (.loop CW Hk))) (.seq (.ae sM) .ret))),26,[.tmp 4]⟩
abbrev vk:zI:=[.code (.seq (.ae sM) .ret)]
abbrev ycX(x0 x1 x5:AV)(h:List Ob)(e:Cx:=cx):an:=aY wj (.code Hk::.inLoop CW Hk::.inBlock 0 ou::vk) (x0::x1::U::U::U::x5::(by(iterate 20 refine U::?_);exact[])) h e
@[simp] theorem XZ:az Tryz.prog wj=some aaP:=by kernel_rfl
@[simp] theorem ayR:ar Tryz.prog wj=true:=by kernel_rfl
abbrev ze:zR:=[aN 2 0]
abbrev QT:zB:=O::I::(by(iterate 58 refine O::?_);exact I::I::I::(by(iterate 21 refine O::?_);exact[]))
abbrev Q6:zB:=(by(iterate 84 refine O::?_);exact[])
abbrev ydb:zR:=[bB 83 62 1,ab 62 83]
abbrev ydc:zR:=[aN 2 5]
abbrev SG:ah:=.seq (.ae ydc) .ret
abbrev yde:zR:=[ab 70 6,o 71 (.cmp .geq (.sc .int) (.t 70) (.c (.int .i64 0))),ab 72 71,oy 73 72 (.off 0 (.t 1)),oy 74 72 (.off 4 (.t 73)),cT 75 72 1 74,cD 76 72 4,oy 77 72 (.jA 1 (.t 75) (.t 76)),cT 78 72 1 77,cD 79 72 6,oy 80 72 (.bK .mul (.c (.int .i64 2)) (.t 79)),oy 81 72 (.cmp .neq (.sc .int) (.t 78) (.t 80)),bO 82 72 81]
abbrev ydf:zR:=[aL 67 8 1,ab 68 5,cM 69 tq 67 68,ab 6 69]
abbrev ydg:zR:=[ab 64 62,a_ 65 1 60 62,aj 66 1 65,ab 4 64,ab 5 66]
abbrev ydh:ah:=.seq (.ae ydg) (.seq (.ae ydf) (.seq (.ae yde) (.cond (.t 82) SG .skip)))
abbrev Sy:zR:=[cN 63 62 61]
abbrev Je:ah:=.seq (.ae Sy) (.seq (.cond (.t 63) .skip (.exit 1)) (.seq (.block 2 [] ydh) (.ae ydb)))
abbrev ydk:zR:=[al 59 7 1,aj 60 1 59,aQ 61 60,aN 62 0]
abbrev ydl:zR:=[ab 13 3,ab 2 13]
abbrev ydm:zR:=[aN 2 1]
abbrev ydn:zR:=[aN 2 4]
abbrev ydq:zR:=[al 56 7 1,aj 57 1 56,aW 58 tp 57,ab 48 58]
abbrev ydr:zR:=[al 49 5 1,aj 50 1 49,al 51 6 1,aj 52 1 51,o 53 (.lit 1 [.list true 0 [],.list true 0 []] [(0,.t 50),(1,.t 52)]),aW 54 m3 53,aW 55 tp 54,ab 48 55]
abbrev yds:ah:=.seq (.ae ydn) .ret
abbrev ydt:ah:=.seq (.seq (.ae ydr) (.cond (.t 48) .skip (.ae ydq))) (.cond (.t 48) SG .skip)
abbrev ydu:zR:=[al 45 7 1,aj 46 1 45,aW 47 tG 46,ab 38 47]
abbrev ydv:zR:=[al 42 6 1,aj 43 1 42,aW 44 tG 43,ab 38 44]
abbrev ydw:ah:=.seq (.ae ydv) (.cond (.t 38) .skip (.ae ydu))
abbrev ydx:zR:=[al 39 5 1,aj 40 1 39,aW 41 tG 40,ab 38 41]
abbrev Hu:ah:=.seq (.ae ydm) .ret
abbrev ydz:ah:=.seq (.seq (.ae ydx) (.cond (.t 38) .skip ydw)) (.cond (.t 38) yds ydt)
abbrev ydA:zR:=[al 30 7 1,aj 31 1 30,aQ 32 31,al 33 0 1,al 34 4 33,aj 35 1 34,aQ 36 35,o 37 (.cmp .neq (.sc .int) (.t 32) (.t 36)),ab 14 37]
abbrev ydB:zR:=[al 22 6 1,aj 23 1 22,aQ 24 23,al 25 0 1,al 26 1 25,aj 27 1 26,aQ 28 27,o 29 (.cmp .neq (.sc .int) (.t 24) (.t 28)),ab 14 29]
abbrev ydC:ah:=.seq (.ae ydB) (.cond (.t 14) .skip (.ae ydA))
abbrev ydD:zR:=[al 15 5 1,aj 16 1 15,aQ 17 16,al 18 0 1,al 19 0 18,aj 20 1 19,o 21 (.cmp .neq (.sc .int) (.t 17) (.t 20)),ab 14 21]
abbrev ydE:ah:=.seq (.ae ydl) .ret
abbrev ydF:ah:=.seq (.seq (.ae ydD) (.cond (.t 14) .skip ydC)) (.cond (.t 14) Hu ydz)
abbrev ydG:zR:=[ab 11 3,o 12 (.cmp .neq (.sc .int) (.t 11) (.c (.int .i64 0))),ab 10 12]
abbrev ydH:ah:=.seq (.ae ydG) (.cond (.t 10) ydE ydF)
abbrev ydI:zR:=[al 7 0 1,aL 8 5 7,aW 9 oM 8,ab 3 9]
abbrev ydJ:zR:=[o 1 (.box 8 (.t 0)),aN 2 0]
abbrev X9:aA:=⟨.seq (.ae ydJ) (.seq (.ae ydI) (.seq (.block 0 [] ydH) (.seq (.seq (.ae ydk) (.block 1 Q6 (.loop QT Je))) (.seq (.ae ze) .ret)))),84,[.tmp 2]⟩
abbrev Sj:zI:=[.code (.seq (.ae ze) .ret)]
abbrev ydL(x1 x60 x61 x62:AV)(h:List Ob)(e:Cx:=cx):an:=aY tr (.code Je::.inLoop QT Je::.inBlock 1 Q6::Sj) (U::x1::(by(iterate 58 refine U::?_);exact x60::x61::x62::(by(iterate 21 refine U::?_);exact[]))) h e
@[simp] theorem Wm:az Tryz.prog tr=some X9:=by kernel_rfl
@[simp] theorem ayq:ar Tryz.prog tr=true:=by kernel_rfl
abbrev ydM:zR:=[ab 19 9,ab 20 1,ab 21 2,o 22 (.call (.f rn) [.t 19,.t 20,.t 21]),ba 23 22 0,ba 24 22 1,ba 25 22 2,ab 6 23,ab 7 24,ab 8 25]
abbrev ydN:zR:=[ab 18 10,o 6 (.bC 1 aV),o 7 (.bC 1 aV),ab 8 18]
abbrev ydO:ah:=.seq (.ae ydN) .ret
abbrev ydP:zR:=[ab 16 10,o 17 (.cmp .neq (.sc .int) (.t 16) (.c (.int .i64 0)))]
abbrev ydQ:zR:=[aL 12 4 3,aW 13 tw 12,ab 11 13,ba 14 11 0,ba 15 11 1,ab 9 14,ab 10 15]
abbrev ydR:zR:=[o 3 (.box 4 (.t 0)),o 6 (.bC 1 aV),o 7 (.bC 1 aV),aN 8 0]
abbrev aan:aA:=⟨.seq (.ae ydR) (.seq (.ae ydQ) (.seq (.seq (.ae ydP) (.cond (.t 17) ydO .skip)) (.seq (.ae ydM) .ret))),26,[.tmp 6,.tmp 7,.tmp 8]⟩
@[simp] theorem azh:az Tryz.prog Ej=some aan:=by kernel_rfl
@[simp] theorem azf:ar Tryz.prog Ej=true:=by kernel_rfl
abbrev ydS:zR:=[ab 23 11,al 24 4 3,aj 25 1 24,o 26 (.call (.t 23) [.t 25]),ab 27 11,al 28 1 3,aj 29 1 28,o 30 (.call (.t 27) [.t 29]),ab 6 26,ab 7 30,aN 8 0]
abbrev ydT:zR:=[o 22 (.fO (.func wa) [] [.t 9]),ab 11 22]
abbrev ydU:zR:=[ab 21 10,o 6 (.bC 1 aV),o 7 (.bC 1 aV),ab 8 21]
abbrev ydV:ah:=.seq (.ae ydU) .ret
abbrev ydW:zR:=[ab 19 10,o 20 (.cmp .neq (.sc .int) (.t 19) (.c (.int .i64 0)))]
abbrev ydX:zR:=[aL 13 5 3,ab 14 1,ab 15 2,o 16 (.call (.f wb) [.t 13,.t 14,.t 15]),ab 12 16,ba 17 12 0,ba 18 12 1,o 9 (.alloc [.own 1 aV []]),aO 1 9 17,ab 10 18]
abbrev ydY:zR:=[o 3 (.box 5 (.t 0)),o 6 (.bC 1 aV),o 7 (.bC 1 aV),aN 8 0]
abbrev acG:aA:=⟨.seq (.ae ydY) (.seq (.ae ydX) (.seq (.seq (.ae ydW) (.cond (.t 20) ydV .skip)) (.seq (.ae ydT) (.seq (.aS [O,O,O,O,O,O,I,O,O,O,O] [4,4,4,8,8,8,8,12,12,12,12] ydS) .ret)))),31,[.tmp 6,.tmp 7,.tmp 8]⟩
@[simp] theorem Yv:az Tryz.prog wD=some acG:=by kernel_rfl
@[simp] theorem azB:ar Tryz.prog wD=true:=by kernel_rfl
abbrev yef:zR:=[ab 17 0,ab 18 5,a_ 19 1 17 18,aj 20 1 19,ab 21 1,ab 22 5,a_ 23 1 21 22,aj 24 1 23,o 25 (.cmp .neq (.sc .bool) (.t 20) (.t 24))]
abbrev yeg:ah:=.seq (.aS [O,O,O,O,O,O,O,O,O] [10,10,10,10,10,10,10,10,10] yef) (.cond (.t 25) lX .skip)
abbrev I6:ah:=.seq (.seq (.ae SF) (.cond (.t 14) .skip (.exit 0))) (.seq (.block 1 [] yeg) (.ae C_))
abbrev aaj:aA:=⟨.seq (.ae jQ) (.seq (.seq (.ae yR) (.cond (.t 10) lX .skip)) (.seq (.seq (.ae qR) (.block 0 ou (.loop CW I6))) (.seq (.ae sM) .ret))),26,[.tmp 4]⟩
abbrev yep(x0 x1 x5:AV)(h:List Ob)(e:Cx:=cx):an:=aY qb (.code I6::.inLoop CW I6::.inBlock 0 ou::vk) (x0::x1::U::U::U::x5::(by(iterate 20 refine U::?_);exact[])) h e
@[simp] theorem Yg:az Tryz.prog qb=some aaj:=by kernel_rfl
@[simp] theorem ayU:ar Tryz.prog qb=true:=by kernel_rfl
abbrev Ie:zR:=[ab 23 0,aQ 24 23,ab 25 1,o 26 (.cmp .leq (.sc .int) (.t 24) (.t 25)),ab 4 26]
abbrev CC:zB:=I::I::O::O::O::I::(by(iterate 21 refine O::?_);exact[])
abbrev Dr:zB:=I::I::(by(iterate 25 refine O::?_);exact[])
abbrev yey:zR:=[ab 17 0,ab 18 5,a_ 19 1 17 18,aj 20 1 19,aQ 21 20,o 22 (.cmp .gtr (.sc .int) (.t 21) (.c (.int .i64 60)))]
abbrev yez:ah:=.seq (.ae yey) (.cond (.t 22) lX .skip)
abbrev SP:zR:=[ab 6 5,ab 7 0,aQ 8 7,cN 9 6 8,ab 10 9,cD 11 10 5,cD 12 10 1,oy 13 10 (.cmp .leq (.sc .int) (.t 11) (.t 12)),bO 14 10 13]
abbrev Ha:ah:=.seq (.seq (.ae SP) (.cond (.t 14) .skip (.exit 0))) (.seq (.block 1 [] yez) (.ae C_))
abbrev acZ:aA:=⟨.seq (.ae jQ) (.seq (.seq (.ae qR) (.block 0 Dr (.loop CC Ha))) (.seq (.ae Ie) .ret)),27,[.tmp 4]⟩
abbrev Re:zI:=[.code (.seq (.ae Ie) .ret)]
abbrev yeF(x0 x1 x5:AV)(h:List Ob)(e:Cx:=cx):an:=aY wC (.code Ha::.inLoop CC Ha::.inBlock 0 Dr::Re) (x0::x1::U::U::U::x5::(by(iterate 21 refine U::?_);exact[])) h e
@[simp] theorem Y1:az Tryz.prog wC=some acZ:=by kernel_rfl
@[simp] theorem azr:ar Tryz.prog wC=true:=by kernel_rfl
abbrev Tn:zR:=[ab 41 6,ab 4 41,aN 5 0]
abbrev Rg:zB:=O::I::O::O::O::O::I::O::O::O::O::O::O::O::I::I::I::(by(iterate 25 refine O::?_);exact[])
abbrev SO:zB:=O::O::O::O::O::O::I::(by(iterate 35 refine O::?_);exact[])
abbrev yeJ:zR:=[bB 40 16 1,ab 16 40]
abbrev yeK:zR:=[ab 36 6,ab 37 9,o 38 (.lit 1 [.bool false] [(0,.t 37)]),o 39 (.append 1 aV 1 (.t 36) (.t 38)),ab 6 39]
abbrev yeL:zR:=[ab 31 1,o 32 (.jA 1 (.t 31) (.c (.int .i64 0))),aj 33 1 32,ab 34 1,o 35 (.slice 1 (.t 34) (some (.c (.int .i64 1))) none),ab 9 33,ab 1 35]
abbrev yeM:zR:=[al 23 2 8,aj 24 1 23,o 25 (.cmp .eql (.sc .int) (.t 24) (.c (.int .i64 2))),ab 26 25,cD 27 26 1,oy 28 26 (.len (.t 27)),oy 29 26 (.cmp .gtr (.sc .int) (.t 28) (.c (.int .i64 0))),bO 30 26 29]
abbrev yeN:zR:=[al 20 2 8,aj 21 1 20,o 22 (.cmp .eql (.sc .int) (.t 21) (.c (.int .i64 1))),ab 9 22]
abbrev yeO:zR:=[a_ 18 3 14 16,aL 19 3 18,o 8 (.alloc [.str [],.str [],.int .i64 0]),aO 3 8 19]
abbrev yeP:ah:=.seq (.ae yeO) (.seq (.ae yeN) (.seq (.seq (.ae yeM) (.cond (.t 30) (.aS [O,O,O,O,O,O,O] [8,8,8,8,8,8,8] yeL) .skip)) (.ae yeK)))
abbrev zi:zR:=[cN 17 16 15]
abbrev Ik:ah:=.seq (.ae zi) (.seq (.cond (.t 17) .skip (.exit 0)) (.seq (.block 1 [] yeP) (.ae yeJ)))
abbrev yeS:zR:=[al 13 2 2,aj 14 1 13,aQ 15 14,aN 16 0]
abbrev yeT:zR:=[o 6 (.bC 1 aV)]
abbrev yeU:zR:=[o 4 (.bC 1 aV),aN 5 1]
abbrev yeV:ah:=.seq (.ae yeU) .ret
abbrev yeW:zR:=[aL 10 4 2,aW 11 v_ 10,o 12 (.not (.t 11))]
abbrev yeX:zR:=[o 2 (.box 4 (.t 0)),o 4 (.bC 1 aV),aN 5 0]
abbrev Yz:aA:=⟨.seq (.ae yeX) (.seq (.seq (.ae yeW) (.cond (.t 12) yeV .skip)) (.seq (.ae yeT) (.seq (.seq (.ae yeS) (.block 0 SO (.loop Rg Ik))) (.seq (.ae Tn) .ret)))),42,[.tmp 4,.tmp 5]⟩
abbrev yeY:zI:=[.code (.seq (.ae Tn) .ret)]
abbrev yeZ(x1 x6 x14 x15 x16:AV)(h:List Ob)(e:Cx:=cx):an:=aY wg (.code Ik::.inLoop Rg Ik::.inBlock 0 SO::yeY) (U::x1::U::U::U::U::x6::U::U::U::U::U::U::U::x14::x15::x16::(by(iterate 25 refine U::?_);exact[])) h e
@[simp] theorem W3:az Tryz.prog wg=some Yz:=by kernel_rfl
@[simp] theorem ayx:ar Tryz.prog wg=true:=by kernel_rfl
abbrev yfa:zR:=[aj 48 1 11,aj 49 1 4,aW 50 zE 49,ab 6 48,ab 7 50,aN 8 0]
abbrev yfb:zR:=[aj 47 1 10,o 6 (.bC 1 kK),o 7 (.bC 1 aV),ab 8 47]
abbrev yfc:ah:=.seq (.aS [I,O,O,O] [5,3,5,5] yfb) .ret
abbrev yfd:zR:=[aj 45 1 10,o 46 (.cmp .neq (.sc .int) (.t 45) (.c (.int .i64 0)))]
abbrev yfe:zR:=[ab 13 39]
abbrev yff:zR:=[ab 12 38]
abbrev yfg:zR:=[aj 40 1 11,ab 41 12,o 42 (.lit 1 [.list true 0 []] [(0,.t 41)]),o 43 (.append 1 kK 24 (.t 40) (.t 42)),ab 44 13,aO 1 11 43,aO 1 4 44]
abbrev R1:ah:=.seq (.ae yff) (.ae yfe)
abbrev TB:ah:=.block 2 [] (.ae yfg)
abbrev yfj:ah:=.rangeFunc (.t 37) [38,39] (O::O::O::O::I::O::I::I::I::O::O::I::(by(iterate 39 refine O::?_);exact[])) R1 TB
abbrev yfk:zR:=[ab 34 9,aj 35 1 4,ab 36 2,o 37 (.call (.f DL) [.t 34,.t 35,.t 36,.t 10])]
abbrev f_:zR:=[o 11 (.alloc [.own 1 kK []])]
abbrev yfm:zR:=[aj 22 1 10,o 6 (.bC 1 kK),o 7 (.bC 1 aV),ab 8 22]
abbrev yfn:zR:=[o 6 (.bC 1 kK),o 7 (.bC 1 aV),aN 8 8]
abbrev yfo:zR:=[o 6 (.bC 1 kK),o 7 (.bC 1 aV),aN 8 11]
abbrev yfp:ah:=.seq (.ae yfo) .ret
abbrev yfq:zR:=[aj 28 1 4,aQ 29 28,al 30 2 3,aj 31 1 30,aQ 32 31,o 33 (.cmp .neq (.sc .int) (.t 29) (.t 32)),ab 27 33]
abbrev yfr:ah:=.seq (.ae yfn) .ret
abbrev yfs:ah:=.seq (.ae yfq) (.cond (.t 27) yfp .skip)
abbrev yft:zR:=[ab 24 2,aQ 25 24,o 26 (.cmp .gtr (.sc .int) (.t 25) (.c (.int .i64 40))),ab 23 26]
abbrev yfu:ah:=.seq (.aS [I,O,O,O] [5,3,5,5] yfm) .ret
abbrev yfv:ah:=.seq (.ae yft) (.cond (.t 23) yfr yfs)
abbrev yfw:zR:=[aj 20 1 10,o 21 (.cmp .neq (.sc .int) (.t 20) (.c (.int .i64 0))),ab 19 21]
abbrev yfx:ah:=.seq (.ae yfw) (.cond (.t 19) yfu yfv)
abbrev yfy:zR:=[aL 15 4 3,aW 16 tw 15,ab 14 16,ba 17 14 0,ba 18 14 1,o 10 (.alloc [.int .i64 0]),ab 9 17,aO 1 10 18]
abbrev yfz:zR:=[o 3 (.box 4 (.t 0)),o 4 (.box 1 (.t 1)),o 6 (.bC 1 kK),o 7 (.bC 1 aV),aN 8 0]
abbrev aco:aA:=⟨.seq (.ae yfz) (.seq (.ae yfy) (.seq (.block 0 [] yfx) (.seq (.ae f_) (.seq (.seq (.ae yfk) (.block 1 [] yfj)) (.seq (.seq (.ae yfd) (.cond (.t 46) yfc .skip)) (.seq (.aS [I,O,O,O,O,O] [7,3,7,7,7,7] yfa) .ret)))))),51,[.tmp 6,.tmp 7,.tmp 8]⟩
@[simp] theorem An:az Tryz.prog tJ=some aco:=by kernel_rfl
@[simp] theorem azs:ar Tryz.prog tJ=true:=by kernel_rfl
abbrev yfA:zR:=[al 5 0 2,aj 6 1 5,al 7 0 3,aj 8 1 7,o 9 (.cmp .eql (.sc .int) (.t 6) (.t 8)),ab 10 9,oy 11 10 (.off 1 (.t 2)),cT 12 10 1 11,oy 13 10 (.off 1 (.t 3)),cT 14 10 1 13,oy 15 10 (.call (.f rl) [.t 12,.t 14]),bO 16 10 15,ab 17 16,oy 18 17 (.off 2 (.t 2)),cT 19 17 1 18,oy 20 17 (.off 2 (.t 3)),cT 21 17 1 20,oy 22 17 (.call (.f rl) [.t 19,.t 21]),bO 23 17 22,ab 24 23,oy 25 24 (.off 3 (.t 2)),cT 26 24 1 25,oy 27 24 (.off 3 (.t 3)),cT 28 24 1 27,oy 29 24 (.call (.f vL) [.t 26,.t 28]),bO 30 24 29,ab 31 30,oy 32 31 (.off 4 (.t 2)),cT 33 31 1 32,oy 34 31 (.off 4 (.t 3)),cT 35 31 1 34,oy 36 31 (.call (.f rl) [.t 33,.t 35]),bO 37 31 36,ab 4 37]
abbrev yfB:zR:=[o 2 (.box 5 (.t 0)),o 3 (.box 5 (.t 1)),lY 4]
abbrev acY:aA:=⟨.seq (.ae yfB) (.seq (.ae yfA) .ret),38,[.tmp 4]⟩
@[simp] theorem YR:az Tryz.prog wE=some acY:=by kernel_rfl
@[simp] theorem azx:ar Tryz.prog wE=true:=by kernel_rfl
abbrev yfC:zR:=[ab 16 5,bB 17 16 1,ab 4 17]
abbrev u_:zR:=[o 4 (.mv (.c (.int .i64 (-1))))]
abbrev yfE:ah:=.seq (.ae u_) .ret
abbrev yfF:zR:=[ab 14 5,o 15 (.cmp .lss (.sc .int) (.t 14) (.c (.int .i64 0)))]
abbrev yfG:zR:=[al 6 5 2,aj 7 1 6,al 8 6 2,aj 9 1 8,o 10 (.lit 1 [.list true 0 [],.list true 0 []] [(0,.t 7),(1,.t 9)]),aW 11 m3 10,ab 12 1,cM 13 s8 11 12,ab 5 13]
abbrev yfH:zR:=[o 2 (.box 8 (.t 0)),aN 4 0]
abbrev XU:aA:=⟨.seq (.ae yfH) (.seq (.ae yfG) (.seq (.seq (.ae yfF) (.cond (.t 15) yfE .skip)) (.seq (.ae yfC) .ret))),18,[.tmp 4]⟩
@[simp] theorem Wu:az Tryz.prog tq=some XU:=by kernel_rfl
@[simp] theorem ayj:ar Tryz.prog tq=true:=by kernel_rfl
abbrev yfI:zR:=[al 5 0 2,aL 6 5 5,al 7 0 3,aL 8 5 7,cM 9 wE 6 8,ab 10 9,oy 11 10 (.off 5 (.t 2)),cT 12 10 1 11,oy 13 10 (.off 5 (.t 3)),cT 14 10 1 13,oy 15 10 (.call (.f rk) [.t 12,.t 14]),bO 16 10 15,ab 17 16,oy 18 17 (.off 6 (.t 2)),cT 19 17 1 18,oy 20 17 (.off 6 (.t 3)),cT 21 17 1 20,oy 22 17 (.call (.f rk) [.t 19,.t 21]),bO 23 17 22,ab 24 23,oy 25 24 (.off 7 (.t 2)),cT 26 24 1 25,oy 27 24 (.off 7 (.t 3)),cT 28 24 1 27,oy 29 24 (.call (.f rk) [.t 26,.t 28]),bO 30 24 29,ab 4 30]
abbrev yfJ:zR:=[o 2 (.box 8 (.t 0)),o 3 (.box 8 (.t 1)),lY 4]
abbrev YA:aA:=⟨.seq (.ae yfJ) (.seq (.ae yfI) .ret),31,[.tmp 4]⟩
@[simp] theorem Xa:az Tryz.prog wc=some YA:=by kernel_rfl
@[simp] theorem ayK:ar Tryz.prog wc=true:=by kernel_rfl
abbrev yfK:zR:=[ab 6 3,ab 7 6,oy 8 7 (.off 3 (.t 1)),cT 9 7 1 8,oy 10 7 (.len (.t 9)),oy 11 7 (.cmp .leq (.sc .int) (.t 10) (.c (.int .i64 24))),bO 12 7 11,ab 13 12,oy 14 13 (.off 0 (.t 1)),cT 15 13 1 14,oy 16 13 (.len (.t 15)),oy 17 13 (.cmp .leq (.sc .int) (.t 16) (.c (.int .i64 24))),bO 18 13 17,ab 19 18,oy 20 19 (.off 2 (.t 1)),cT 21 19 1 20,oy 22 19 (.len (.t 21)),oy 23 19 (.cmp .leq (.sc .int) (.t 22) (.c (.int .i64 24))),bO 24 19 23,ab 2 24]
abbrev yfL:zR:=[aL 4 4 1,aW 5 rK 4,ab 3 5]
abbrev Yt:aA:=⟨.seq (.ae y3) (.seq (.ae yfL) (.seq (.ae yfK) .ret)),25,[.tmp 2]⟩
@[simp] theorem Xd:az Tryz.prog Ad=some Yt:=by kernel_rfl
@[simp] theorem ayA:ar Tryz.prog Ad=true:=by kernel_rfl
abbrev qQ:zB:=[I,I,O,O,O,O,O,I,I,O,O,O,O,O,O,O,O,O,O]
abbrev mT:zB:=(by(iterate 19 refine O::?_);exact[])
abbrev IA:zR:=[bB 18 8 1,ab 8 18]
abbrev yfR:zR:=[ab 17 5,ab 4 17]
abbrev HW:ah:=.seq (.ae yfR) .ret
abbrev yfT:zR:=[ab 11 1,ab 12 0,ab 13 5,a_ 14 1 12 13,aj 15 1 14,o 16 (.cmp .eql (.sc .str) (.t 11) (.t 15))]
abbrev I9:zR:=[ab 10 8,ab 5 10]
abbrev yfV:ah:=.seq (.ae I9) (.seq (.ae yfT) (.cond (.t 16) HW .skip))
abbrev C8:zR:=[cN 9 8 7]
abbrev HC:ah:=.seq (.ae C8) (.seq (.cond (.t 9) .skip (.exit 0)) (.seq (.block 1 [] yfV) (.ae IA)))
abbrev y0:zR:=[ab 6 0,aQ 7 6,aN 8 0]
abbrev UE:aA:=⟨.seq (.ae mN) (.seq (.seq (.ae y0) (.block 0 mT (.loop qQ HC))) (.seq (.ae u_) .ret)),19,[.tmp 4]⟩
abbrev Dc:zI:=[.code (.seq (.ae u_) .ret)]
abbrev ygb(x0 x1 x7 x8:AV)(h:List Ob)(e:Cx:=cx):an:=aY s8 (.code HC::.inLoop qQ HC::.inBlock 0 mT::Dc) [x0,x1,U,U,U,U,U,x7,x8,U,U,U,U,U,U,U,U,U,U] h e
@[simp] theorem Uq:az Tryz.prog s8=some UE:=by kernel_rfl
@[simp] theorem aw2:ar Tryz.prog s8=true:=by kernel_rfl
abbrev Ip:zR:=[ab 37 3,ab 2 37]
abbrev HT:zB:=O::O::O::I::(by(iterate 21 refine O::?_);exact[I,I,I,O,O,O,O,O,O,O,O,O,O])
abbrev Is:zB:=O::O::O::I::(by(iterate 34 refine O::?_);exact[])
abbrev ygf:zR:=[bB 36 27 1,ab 27 36]
abbrev ygg:zR:=[ab 31 3,al 32 0 7,aj 33 1 32,o 34 (.lit 1 [.str []] [(0,.t 33)]),o 35 (.append 1 aE 16 (.t 31) (.t 34)),ab 3 35]
abbrev TO:zR:=[a_ 29 5 25 27,aL 30 5 29,o 7 (.alloc [.str [],.int .i64 0,.own 1 aE [],.own 1 aE [],.bool false]),aO 5 7 30]
abbrev ygi:ah:=.seq (.ae TO) (.ae ygg)
abbrev u0:zR:=[cN 28 27 26]
abbrev Cw:ah:=.seq (.ae u0) (.seq (.cond (.t 28) .skip (.exit 2)) (.seq (.block 3 [] ygi) (.ae ygf)))
abbrev CI:zR:=[al 24 3 1,aj 25 1 24,aQ 26 25,aN 27 0]
abbrev S_:zB:=O::I::O::I::O::O::O::O::O::O::O::O::I::I::I::(by(iterate 23 refine O::?_);exact[])
abbrev S6:zB:=O::I::O::I::(by(iterate 34 refine O::?_);exact[])
abbrev RT:zR:=[bB 23 14 1,ab 14 23]
abbrev ygp:zR:=[ab 18 3,al 19 0 5,aj 20 1 19,o 21 (.lit 1 [.str []] [(0,.t 20)]),o 22 (.append 1 aE 16 (.t 18) (.t 21)),ab 3 22]
abbrev QZ:zR:=[a_ 16 3 12 14,aL 17 3 16,o 5 (.alloc [.str [],.str [],.int .i64 0]),aO 3 5 17]
abbrev ygr:ah:=.seq (.ae QZ) (.ae ygp)
abbrev R7:zR:=[cN 15 14 13]
abbrev HH:ah:=.seq (.ae R7) (.seq (.cond (.t 15) .skip (.exit 0)) (.seq (.block 1 [] ygr) (.ae RT)))
abbrev Tq:zR:=[al 11 2 1,aj 12 1 11,aQ 13 12,aN 14 0]
abbrev ygv:zR:=[al 8 0 1,aj 9 1 8,aW 10 oE 9,ab 3 10]
abbrev Ih:zR:=[o 1 (.box 4 (.t 0)),o 2 (.bC 1 aE)]
abbrev ab2:aA:=⟨.seq (.ae Ih) (.seq (.ae ygv) (.seq (.seq (.ae Tq) (.block 0 S6 (.loop S_ HH))) (.seq (.seq (.ae CI) (.block 2 Is (.loop HT Cw))) (.seq (.ae Ip) .ret)))),38,[.tmp 2]⟩
abbrev ygx:zI:=[.code (.seq (.ae Ip) .ret)]
abbrev ygy(x3 x25 x26 x27:AV)(h:List Ob)(e:Cx:=cx):an:=aY qd (.code Cw::.inLoop HT Cw::.inBlock 2 Is::ygx) (U::U::U::x3::(by(iterate 21 refine U::?_);exact[x25,x26,x27,U,U,U,U,U,U,U,U,U,U])) h e
abbrev ygz:zI:=[.code (.seq (.seq (.ae CI) (.block 2 Is (.loop HT Cw))) (.seq (.ae Ip) .ret))]
abbrev ygA(x1 x3 x12 x13 x14:AV)(h:List Ob)(e:Cx:=cx):an:=aY qd (.code HH::.inLoop S_ HH::.inBlock 0 S6::ygz) (U::x1::U::x3::U::U::U::U::U::U::U::U::x12::x13::x14::(by(iterate 23 refine U::?_);exact[])) h e
@[simp] theorem Y2:az Tryz.prog qd=some ab2:=by kernel_rfl
@[simp] theorem azA:ar Tryz.prog qd=true:=by kernel_rfl
abbrev ygB:zR:=[o 11 (.build [.int .i64 0,.list true 0 [],.list true 0 [],.list true 0 [],.list true 0 [],.list true 0 [],.list true 0 [],.list true 0 []] []),aO 8 0 11,q (.store 1 (.t 1) (.c (.int .i64 8))),q (.store 1 (.t 2) (.c (.str [])))]
abbrev ygC:zR:=[ab 10 4]
abbrev ygD:zR:=[o 6 (.recover),o 7 (.rW (.t 6) D1 (.agg []) true),ab 5 7,ba 8 5 0,ba 9 5 1,o 3 (.alloc []),aO 0 3 8,ab 4 9]
abbrev WJ:aA:=⟨.seq (.ae ygD) (.seq (.ae ygC) (.cond (.t 10) (.ae ygB) .skip)),12,[]⟩
@[simp] theorem ax0:az Tryz.prog zU=some WJ:=by kernel_rfl
@[simp] theorem ax2:ar Tryz.prog zU=true:=by kernel_rfl
abbrev ygE:zR:=[o 5 (.lit 1 [] []),ab 6 0,o 7 (.append 1 aE 16 (.t 5) (.t 6)),ab 2 7]
abbrev IZ:zR:=[o 2 (.bC 1 aE)]
abbrev ygG:ah:=.seq (.ae IZ) .ret
abbrev Co:zR:=[ab 3 0,o 4 (.jI false (.t 3))]
abbrev Uz:aA:=⟨.seq (.ae IZ) (.seq (.seq (.ae Co) (.cond (.t 4) ygG .skip)) (.seq (.ae ygE) .ret)),8,[.tmp 2]⟩
@[simp] theorem Ut:az Tryz.prog oE=some Uz:=by kernel_rfl
@[simp] theorem aw3:ar Tryz.prog oE=true:=by kernel_rfl
abbrev Ig:zR:=[ab 20 4,ab 3 20]
abbrev CJ:zB:=[O,I,O,O,I,O,O,I,I,I,O,O,O,O,O,O,O,O,O,O,O]
abbrev CL:zB:=O::O::O::O::I::(by(iterate 16 refine O::?_);exact[])
abbrev Qr:zR:=[bB 19 9 1,ab 9 19]
abbrev ygN:zR:=[ab 13 4,aj 14 1 1,ab 15 6,o 16 (.lookup (.sc .str) (.int .i64 0) (.t 14) (.t 15) false),o 17 (.lit 1 [.int .i64 0] [(0,.t 16)]),o 18 (.append 1 aq 8 (.t 13) (.t 17)),ab 4 18]
abbrev R9:zR:=[a_ 11 1 7 9,aj 12 1 11,ab 6 12]
abbrev ygP:ah:=.seq (.ae R9) (.ae ygN)
abbrev x_:zR:=[cN 10 9 8]
abbrev Iu:ah:=.seq (.ae x_) (.seq (.cond (.t 10) .skip (.exit 0)) (.seq (.block 1 [] ygP) (.ae Qr)))
abbrev Cl:zR:=[ab 7 0,aQ 8 7,aN 9 0]
abbrev IN:zR:=[o 4 (.bC 1 aq)]
abbrev ygU:zR:=[o 3 (.bC 1 aq)]
abbrev WI:aA:=⟨.seq (.ae ygU) (.seq (.ae IN) (.seq (.seq (.ae Cl) (.block 0 CL (.loop CJ Iu))) (.seq (.ae Ig) .ret))),21,[.tmp 3]⟩
abbrev Qy:zI:=[.code (.seq (.ae Ig) .ret)]
abbrev ygW(x1 x4 x7 x8 x9:AV)(h:List Ob)(e:Cx:=cx):an:=aY oI (.code Iu::.inLoop CJ Iu::.inBlock 0 CL::Qy) [U,x1,U,U,x4,U,U,x7,x8,x9,U,U,U,U,U,U,U,U,U,U,U] h e
@[simp] theorem VV:az Tryz.prog oI=some WI:=by kernel_rfl
@[simp] theorem ax1:ar Tryz.prog oI=true:=by kernel_rfl
abbrev R3:zR:=[aj 52 1 4,ab 53 7,ab 2 52,ab 3 53]
abbrev Tu:zB:=O::O::O::O::I::I::O::I::(by(iterate 24 refine O::?_);exact I::I::I::(by(iterate 19 refine O::?_);exact[]))
abbrev QN:zB:=O::O::O::O::I::O::O::I::(by(iterate 46 refine O::?_);exact[])
abbrev yha:zR:=[bB 51 34 1,ab 34 51]
abbrev yhb:zR:=[ab 46 7,al 47 0 9,aj 48 1 47,o 49 (.lit 1 [.str []] [(0,.t 48)]),o 50 (.append 1 aE 16 (.t 46) (.t 49)),ab 7 50]
abbrev yhc:zR:=[ab 45 11]
abbrev yhd:zR:=[aj 39 1 5,al 40 0 9,aj 41 1 40,o 42 (.lookup (.sc .str) (.int .i64 0) (.t 39) (.t 41) true),ab 38 42,ba 43 38 0,ba 44 38 1,ab 10 43,ab 11 44]
abbrev yhe:zR:=[a_ 36 5 32 34,aL 37 5 36,o 9 (.alloc [.str [],.int .i64 0,.own 1 aE [],.own 1 aE [],.bool false]),aO 5 9 37]
abbrev yhf:ah:=.seq (.ae yhe) (.seq (.ae yhd) (.seq (.ae yhc) (.cond (.t 45) (.ae yhb) .skip)))
abbrev Su:zR:=[cN 35 34 33]
abbrev HI:ah:=.seq (.ae Su) (.seq (.cond (.t 35) .skip (.exit 2)) (.seq (.block 3 [] yhf) (.ae yha)))
abbrev yhi:zR:=[al 31 3 1,aj 32 1 31,aQ 33 32,aN 34 0]
abbrev Qu:zR:=[o 7 (.bC 1 aE)]
abbrev IY:zR:=[ab 6 19]
abbrev yhl:zR:=[aj 24 1 5,al 25 3 1,aj 26 1 25,ab 27 6,a_ 28 5 26 27,al 29 0 28,aj 30 1 29,q (.delete (.sc .str) (.t 24) (.t 30))]
abbrev yhm:zR:=[aj 20 1 4,ab 21 6,o 22 (.lit 1 [.int .i64 0] [(0,.t 21)]),o 23 (.append 1 aq 8 (.t 20) (.t 22)),aO 1 4 23]
abbrev yhn:ah:=.seq (.ae yhm) (.aS [O,O,O,O,O,O,O,O] [8,8,8,8,8,8,8,9] yhl)
abbrev IF:ah:=.block 1 [] yhn
abbrev yhp:ah:=.rangeFunc (.t 18) [19] (O::I::I::I::I::I::(by(iterate 48 refine O::?_);exact[])) (.ae IY) IF
abbrev yhq:zR:=[aL 17 4 1,aW 18 DV 17]
abbrev yhr:zR:=[aL 15 4 1,aW 16 tn 15,o 5 (.alloc [.c_]),aO 1 5 16]
abbrev yhs:zR:=[o 4 (.alloc [.own 1 aq []])]
abbrev yht:zR:=[o 2 (.bC 1 aq),o 3 (.bC 1 aE)]
abbrev yhu:ah:=.seq (.ae yht) .ret
abbrev yhv:zR:=[aL 12 4 1,aW 13 z7 12,o 14 (.not (.t 13))]
abbrev yhw:zR:=[o 1 (.box 4 (.t 0)),o 2 (.bC 1 aq),o 3 (.bC 1 aE)]
abbrev Y6:aA:=⟨.seq (.ae yhw) (.seq (.seq (.ae yhv) (.cond (.t 14) yhu .skip)) (.seq (.ae yhs) (.seq (.ae yhr) (.seq (.seq (.ae yhq) (.block 0 [] yhp)) (.seq (.ae Qu) (.seq (.seq (.ae yhi) (.block 2 QN (.loop Tu HI))) (.seq (.ae R3) .ret))))))),54,[.tmp 2,.tmp 3]⟩
abbrev yhx:zI:=[.code (.seq (.ae R3) .ret)]
abbrev yhy(x4 x5 x7 x32 x33 x34:AV)(h:List Ob)(e:Cx:=cx):an:=aY m5 (.code HI::.inLoop Tu HI::.inBlock 2 QN::yhx) (U::U::U::U::x4::x5::U::x7::(by(iterate 24 refine U::?_);exact x32::x33::x34::(by(iterate 19 refine U::?_);exact[]))) h e
@[simp] theorem Ke:az Tryz.prog m5=some Y6:=by kernel_rfl
@[simp] theorem ayN:ar Tryz.prog m5=true:=by kernel_rfl
abbrev yhz:zR:=[ab 49 11,ab 6 49]
abbrev yhA:zR:=[ab 47 11,o 48 (.bK .xor (.t 47) (.c (.int .i64 1))),ab 11 48]
abbrev yhB:zR:=[al 45 4 4,aj 46 1 45]
abbrev yhC:zR:=[ab 39 0,ab 40 9,ab 41 2,o 42 (.call (.f s9) [.t 39,.t 40,.t 41]),ab 38 42,ba 43 38 0,ba 44 38 1,ab 11 43,ab 12 44]
abbrev yhD:zR:=[al 30 3 4,aj 31 1 30,al 32 2 4,aj 33 1 32,aQ 34 33,cM 35 vX 31 34,ab 29 35,ba 36 29 0,ba 37 29 1,ab 9 36,ab 10 37]
abbrev yhE:zR:=[al 21 0 7,aj 22 1 21,ab 23 0,ab 24 2,o 25 (.call (.t 22) [.t 23,.t 24]),al 26 1 7,aj 27 1 26,o 28 (.bK .xor (.t 25) (.t 27)),ab 6 28]
abbrev yhF:ah:=.seq (.aS [O,O,O,O,O,O,I,O,O] [5,5,5,5,10,10,10,10,10] yhE) .ret
abbrev yhG:zR:=[ab 20 8]
abbrev yhH:zR:=[o 14 (.load false 1 (.g 0)),al 15 1 4,aj 16 1 15,o 17 (.lookup (.sc .int) (.agg [.c9,.int .i64 0]) (.t 14) (.t 16) true),ab 13 17,ba 18 13 0,ba 19 13 1,o 7 (.alloc [.c9,.int .i64 0]),aO 2 7 18,ab 8 19]
abbrev yhI:zR:=[o 4 (.box 5 (.t 1)),aN 6 0]
abbrev Vn:aA:=⟨.seq (.ae yhI) (.seq (.seq (.ae yhH) (.seq (.ae yhG) (.cond (.t 20) yhF .skip))) (.seq (.ae yhD) (.seq (.ae yhC) (.seq (.seq (.ae yhB) (.cond (.t 46) (.ae yhA) .skip)) (.seq (.ae yhz) .ret))))),50,[.tmp 6]⟩
@[simp] theorem JW:az Tryz.prog vP=some Vn:=by kernel_rfl
@[simp] theorem axn:ar Tryz.prog vP=true:=by kernel_rfl
abbrev C7:zR:=[ab 92 10,aL 93 5 8,cM 94 zM 92 93,aO 5 2 94,aN 3 0]
abbrev CT:zB:=O::O::I::O::O::O::O::O::I::I::I::(by(iterate 46 refine O::?_);exact I::I::I::(by(iterate 35 refine O::?_);exact[]))
abbrev Dm:zB:=O::O::I::O::O::O::O::O::I::O::I::(by(iterate 84 refine O::?_);exact[])
abbrev yhM:zR:=[bB 91 59 1,ab 59 91]
abbrev yhN:zR:=[ab 81 10,ab 82 10,o 83 (.cv (.t 82)),al 84 6 83,aj 85 1 84,ab 86 13,o 87 (.lit 1 [.int .i64 0] [(0,.t 86)]),o 88 (.append 1 aq 8 (.t 85) (.t 87)),o 89 (.cv (.t 81)),al 90 6 89,aO 1 90 88]
abbrev yhO:zR:=[ab 71 10,ab 72 10,o 73 (.gM 2 1 (.t 12) (.c (.int .i64 0))),aj 74 1 73,cM 75 nM 72 74,ab 76 10,o 77 (.gM 2 1 (.t 12) (.c (.int .i64 1))),aj 78 1 77,cM 79 nM 76 78,o 80 (.call (.f p6) [.t 71,.t 75,.t 79]),ab 13 80]
abbrev yhP:zR:=[ab 64 9,aL 65 5 8,aW 66 lu 65,ab 67 11,o 68 (.bK .add (.t 66) (.t 67)),a_ 69 1 64 68,aj 70 1 69]
abbrev yhQ:zR:=[aN 13 0]
abbrev yhR:zR:=[ab 61 59,a_ 62 2 57 59,aL 63 2 62,o 12 (.alloc [.int .i64 0,.int .i64 0]),ab 11 61,aO 2 12 63]
abbrev yhS:ah:=.seq (.ae yhR) (.seq (.ae yhQ) (.seq (.seq (.ae yhP) (.cond (.t 70) (.aS [O,O,O,O,O,O,O,I,O,O,O] [10,5,5,5,9,9,9,9,10,12,12] yhO) .skip)) (.ae yhN)))
abbrev yhT:zR:=[cN 60 59 58]
abbrev zd:ah:=.seq (.ae yhT) (.seq (.cond (.t 60) .skip (.exit 2)) (.seq (.block 3 [] yhS) (.ae yhM)))
abbrev IH:zR:=[al 56 3 8,aj 57 1 56,aQ 58 57,aN 59 0]
abbrev HB:zR:=[aL 54 5 8,aW 55 tB 54,ab 10 55]
abbrev RV:zR:=[aL 52 5 8,aW 53 rL 52,ab 9 53]
abbrev SM:zR:=[ab 49 5,aL 50 5 1,cM 51 zM 49 50,o 8 (.alloc [.int .i64 0,.own 1 aq [],.own 1 aq [],.own 2 cP [],.own 1 aq []]),aO 5 8 51]
abbrev Sk:zB:=O::I::I::O::O::I::(by(iterate 17 refine O::?_);exact I::I::I::(by(iterate 69 refine O::?_);exact[]))
abbrev SX:zB:=O::I::I::O::O::I::(by(iterate 89 refine O::?_);exact[])
abbrev yib:zR:=[bB 48 25 1,ab 25 48]
abbrev yic:zR:=[ab 29 5,ab 30 5,o 31 (.cv (.t 30)),al 32 6 31,aj 33 1 32,ab 34 5,ab 35 5,o 36 (.gM 2 1 (.t 7) (.c (.int .i64 0))),aj 37 1 36,cM 38 nM 35 37,ab 39 5,o 40 (.gM 2 1 (.t 7) (.c (.int .i64 1))),aj 41 1 40,cM 42 nM 39 41,o 43 (.call (.f p6) [.t 34,.t 38,.t 42]),o 44 (.lit 1 [.int .i64 0] [(0,.t 43)]),o 45 (.append 1 aq 8 (.t 33) (.t 44)),o 46 (.cv (.t 29)),al 47 6 46,aO 1 47 45]
abbrev yid:zR:=[a_ 27 2 23 25,aL 28 2 27,o 7 (.alloc [.int .i64 0,.int .i64 0]),aO 2 7 28]
abbrev yie:ah:=.seq (.ae yid) (.aS [O,O,O,O,I,O,O,O,O,O,O,O,I,O,O,O,O,O,O,O] [20,17,17,17,17,15,10,10,10,14,14,14,14,15,16,17,20,20,20,21] yic)
abbrev S8:zR:=[cN 26 25 24]
abbrev Iq:ah:=.seq (.ae S8) (.seq (.cond (.t 26) .skip (.exit 0)) (.seq (.block 1 [] yie) (.ae yib)))
abbrev Rr:zR:=[al 22 3 1,aj 23 1 22,aQ 24 23,aN 25 0]
abbrev yii:zR:=[aL 20 5 1,aW 21 tB 20,ab 5 21]
abbrev yij:zR:=[o 18 (.build [.int .i64 0,.list true 0 [],.list true 0 [],.list true 0 [],.list true 0 []] []),ab 19 4,aO 5 2 18,ab 3 19]
abbrev yik:ah:=.seq (.ae yij) .ret
abbrev yil:zR:=[ab 16 4,o 17 (.cmp .neq (.sc .int) (.t 16) (.c (.int .i64 0)))]
abbrev yim:zR:=[aL 14 5 1,aW 15 oM 14,ab 4 15]
abbrev yin:zR:=[o 1 (.box 5 (.t 0)),o 2 (.alloc [.int .i64 0,.own 1 aq [],.own 1 aq [],.own 2 cP [],.own 1 aq []]),aN 3 0]
abbrev Y5:aA:=⟨.seq (.ae yin) (.seq (.seq (.ae yim) (.seq (.ae yil) (.cond (.t 17) yik .skip))) (.seq (.ae yii) (.seq (.seq (.ae Rr) (.block 0 SX (.loop Sk Iq))) (.seq (.ae SM) (.seq (.ae RV) (.seq (.ae HB) (.seq (.seq (.ae IH) (.block 2 Dm (.loop CT zd))) (.seq (.ae C7) .ret)))))))),95,[.cell 2 true 5,.tmp 3]⟩
abbrev Q_:zI:=[.code (.seq (.ae C7) .ret)]
abbrev yip(x2 x8 x9 x10 x57 x58 x59:AV)(h:List Ob)(e:Cx:=cx):an:=aY oL (.code zd::.inLoop CT zd::.inBlock 2 Dm::Q_) (U::U::x2::U::U::U::U::U::x8::x9::x10::(by(iterate 46 refine U::?_);exact x57::x58::x59::(by(iterate 35 refine U::?_);exact[]))) h e
abbrev Tv(x2 x8 x10:AV)(h:List Ob)(e:Cx:=cx):an:=aY oL Q_ (U::U::x2::U::U::U::U::U::x8::U::x10::(by(iterate 84 refine U::?_);exact[])) h e
abbrev Ry:zI:=[.code (.seq (.ae SM) (.seq (.ae RV) (.seq (.ae HB) (.seq (.seq (.ae IH) (.block 2 Dm (.loop CT zd))) (.seq (.ae C7) .ret)))))]
abbrev yis(x1 x2 x5 x23 x24 x25:AV)(h:List Ob)(e:Cx:=cx):an:=aY oL (.code Iq::.inLoop Sk Iq::.inBlock 0 SX::Ry) (U::x1::x2::U::U::x5::(by(iterate 17 refine U::?_);exact x23::x24::x25::(by(iterate 69 refine U::?_);exact[]))) h e
abbrev IV(x1 x2 x5:AV)(h:List Ob)(e:Cx:=cx):an:=aY oL Ry (U::x1::x2::U::U::x5::(by(iterate 89 refine U::?_);exact[])) h e
@[simp] theorem W5:az Tryz.prog oL=some Y5:=by kernel_rfl
@[simp] theorem ayB:ar Tryz.prog oL=true:=by kernel_rfl
abbrev zf:zR:=[q (.store 1 (.t 2) (.c (.int .i64 0))),q (.store 1 (.t 3) (.c (.str [])))]
abbrev zb:zB:=O::O::I::I::O::O::O::I::(by(iterate 84 refine O::?_);exact[I,I,I,O,O,O,O,O,O,O,O,O])
abbrev zg:zB:=O::O::I::I::(by(iterate 100 refine O::?_);exact[])
abbrev yix:zR:=[bB 103 94 1,ab 94 103]
abbrev yiy:zR:=[ab 98 7,ab 99 13,o 100 (.lookup (.sc .str) (.bool false) (.t 98) (.t 99) false),ab 101 13,o 102 (.call (.f nQ) [.t 100,.c (.int .i64 6),.t 101])]
abbrev yiz:zR:=[a_ 96 1 92 94,aj 97 1 96,ab 13 97]
abbrev yiA:ah:=.seq (.ae yiz) (.ae yiy)
abbrev yiB:zR:=[cN 95 94 93]
abbrev vc:ah:=.seq (.ae yiB) (.seq (.cond (.t 95) .skip (.exit 6)) (.seq (.block 7 [] yiA) (.ae yix)))
abbrev C5:zR:=[aL 91 4 1,aW 92 tM 91,aQ 93 92,aN 94 0]
abbrev Dj:zB:=O::I::I::I::O::O::O::I::(by(iterate 71 refine O::?_);exact I::I::I::(by(iterate 22 refine O::?_);exact[]))
abbrev sL:zB:=O::I::I::I::O::O::O::I::(by(iterate 96 refine O::?_);exact[])
abbrev yiG:zR:=[bB 90 81 1,ab 81 90]
abbrev Hj:zR:=[aL 85 5 11,aW 86 wG 85,al 87 0 11,aj 88 1 87,o 89 (.call (.f nQ) [.t 86,.c (.int .i64 1),.t 88])]
abbrev yiI:zR:=[a_ 83 5 79 81,aL 84 5 83,o 11 (.alloc [.str [],.int .i64 0,.own 1 aE [],.own 1 aE [],.bool false]),aO 5 11 84]
abbrev yiJ:ah:=.seq (.ae yiI) (.aS [O,O,O,I,O] [2,5,5,5,6] Hj)
abbrev yiK:zR:=[cN 82 81 80]
abbrev y6:ah:=.seq (.ae yiK) (.seq (.cond (.t 82) .skip (.exit 4)) (.seq (.block 5 [] yiJ) (.ae yiG)))
abbrev IU:zR:=[al 78 3 1,aj 79 1 78,aQ 80 79,aN 81 0]
abbrev Iw:zB:=O::I::I::I::O::O::O::I::(by(iterate 52 refine O::?_);exact I::I::I::(by(iterate 41 refine O::?_);exact[]))
abbrev yiP:zR:=[bB 77 62 1,ab 62 77]
abbrev yiQ:zR:=[al 66 2 9,aj 67 1 66,o 68 (.cmp .geq (.sc .int) (.t 67) (.c (.int .i64 0))),ab 69 68,oy 70 69 (.off 2 (.t 9)),cT 71 69 1 70,oy 72 69 (.cmp .leq (.sc .int) (.t 71) (.c (.int .i64 2))),bO 73 69 72,al 74 0 9,aj 75 1 74,o 76 (.call (.f nQ) [.t 73,.c (.int .i64 1),.t 75])]
abbrev yiR:zR:=[a_ 64 3 60 62,aL 65 3 64,o 9 (.alloc [.str [],.str [],.int .i64 0]),aO 3 9 65]
abbrev yiS:ah:=.seq (.ae yiR) (.ae yiQ)
abbrev C6:ah:=.seq (.ae Sy) (.seq (.cond (.t 63) .skip (.exit 2)) (.seq (.block 3 [] yiS) (.ae yiP)))
abbrev R_:zR:=[al 59 2 1,aj 60 1 59,aQ 61 60,aN 62 0]
abbrev RY:zR:=[al 56 1 1,aj 57 1 56,aW 58 rF 57]
abbrev Tg:zR:=[aL 53 4 1,aW 54 qd 53,aW 55 rF 54,ab 7 55]
abbrev Qv:zB:=O::I::I::I::(by(iterate 38 refine O::?_);exact I::I::I::(by(iterate 59 refine O::?_);exact[]))
abbrev Qx:zB:=O::I::I::I::(by(iterate 100 refine O::?_);exact[])
abbrev yja:zR:=[bB 52 44 1,ab 44 52]
abbrev yjb:zR:=[ab 48 6,aW 49 we 48,ab 50 6,o 51 (.call (.f nQ) [.t 49,.c (.int .i64 4),.t 50])]
abbrev yjc:zR:=[a_ 46 1 42 44,aj 47 1 46,ab 6 47]
abbrev yjd:ah:=.seq (.ae yjc) (.ae yjb)
abbrev yje:zR:=[cN 45 44 43]
abbrev HN:ah:=.seq (.ae yje) (.seq (.cond (.t 45) .skip (.exit 0)) (.seq (.block 1 [] yjd) (.ae yja)))
abbrev yjg:zR:=[aL 41 4 1,aW 42 tN 41,aQ 43 42,aN 44 0]
abbrev yjh:zR:=[al 15 0 1,aj 16 1 15,aQ 17 16,al 18 2 1,aj 19 1 18,aQ 20 19,o 21 (.bK .add (.t 17) (.t 20)),al 22 3 1,aj 23 1 22,aQ 24 23,o 25 (.bK .add (.t 21) (.t 24)),o 26 (.cmp .leq (.sc .int) (.t 25) (.c (.int .i64 200))),ab 27 26,oy 28 27 (.off 1 (.t 1)),cT 29 27 1 28,oy 30 27 (.len (.t 29)),oy 31 27 (.cmp .leq (.sc .int) (.t 30) (.c (.int .i64 200))),bO 32 27 31,ab 33 32,oy 34 33 (.off 3 (.t 1)),cT 35 33 1 34,cD 36 33 4,oy 37 33 (.call (.f zz) [.t 35,.t 36]),oy 38 33 (.not (.t 37)),bO 39 33 38,o 40 (.call (.f nQ) [.t 39,.c (.int .i64 8),.c (.str [])])]
abbrev yji:zR:=[o 4 (.mv (.f vY))]
abbrev yjj:zR:=[o 14 (.fO (.func z8) [] [.t 2,.t 3]),q (.defer (.t 14) [])]
abbrev yjk:zR:=[o 1 (.box 4 (.t 0)),o 2 (.alloc [.int .i64 0]),o 3 (.alloc [.str []])]
abbrev aas:aA:=⟨.seq (.ae yjk) (.seq (.ae yjj) (.seq (.ae yji) (.seq (.ae yjh) (.seq (.seq (.ae yjg) (.block 0 Qx (.loop Qv HN))) (.seq (.ae Tg) (.seq (.ae RY) (.seq (.seq (.ae R_) (.block 2 sL (.loop Iw C6))) (.seq (.seq (.ae IU) (.block 4 sL (.loop Dj y6))) (.seq (.seq (.ae C5) (.block 6 zg (.loop zb vc))) (.seq (.ae zf) .ret)))))))))),104,[.cell 2 false 1,.cell 3 false 1]⟩
abbrev yjl:zI:=[.code (.seq (.ae zf) .ret)]
abbrev yjm(x2 x3 x7 x92 x93 x94:AV)(h:List Ob)(e:Cx:=cx):an:=aY nO (.code vc::.inLoop zb vc::.inBlock 6 zg::yjl) (U::U::x2::x3::U::U::U::x7::(by(iterate 84 refine U::?_);exact[x92,x93,x94,U,U,U,U,U,U,U,U,U])) h e
abbrev yjn:zI:=[.code (.seq (.seq (.ae C5) (.block 6 zg (.loop zb vc))) (.seq (.ae zf) .ret))]
abbrev yjo(x1 x2 x3 x7 x79 x80 x81:AV)(h:List Ob)(e:Cx:=cx):an:=aY nO (.code y6::.inLoop Dj y6::.inBlock 4 sL::yjn) (U::x1::x2::x3::U::U::U::x7::(by(iterate 71 refine U::?_);exact x79::x80::x81::(by(iterate 22 refine U::?_);exact[]))) h e
abbrev yjp:zI:=[.code (.seq (.seq (.ae IU) (.block 4 sL (.loop Dj y6))) (.seq (.seq (.ae C5) (.block 6 zg (.loop zb vc))) (.seq (.ae zf) .ret)))]
abbrev yjq(x1 x2 x3 x7 x60 x61 x62:AV)(h:List Ob)(e:Cx:=cx):an:=aY nO (.code C6::.inLoop Iw C6::.inBlock 2 sL::yjp) (U::x1::x2::x3::U::U::U::x7::(by(iterate 52 refine U::?_);exact x60::x61::x62::(by(iterate 41 refine U::?_);exact[]))) h e
abbrev yjr:zI:=[.code (.seq (.ae Tg) (.seq (.ae RY) (.seq (.seq (.ae R_) (.block 2 sL (.loop Iw C6))) (.seq (.seq (.ae IU) (.block 4 sL (.loop Dj y6))) (.seq (.seq (.ae C5) (.block 6 zg (.loop zb vc))) (.seq (.ae zf) .ret))))))]
abbrev yjs(x1 x2 x3 x42 x43 x44:AV)(h:List Ob)(e:Cx:=cx):an:=aY nO (.code HN::.inLoop Qv HN::.inBlock 0 Qx::yjr) (U::x1::x2::x3::(by(iterate 38 refine U::?_);exact x42::x43::x44::(by(iterate 59 refine U::?_);exact[]))) h e
@[simp] theorem Kt:az Tryz.prog nO=some aas:=by kernel_rfl
@[simp] theorem azl:ar Tryz.prog nO=true:=by kernel_rfl
abbrev Sx:zB:=O::I::(by(iterate 68 refine O::?_);exact I::I::I::(by(iterate 30 refine O::?_);exact[]))
abbrev Sd:zB:=(by(iterate 103 refine O::?_);exact[])
abbrev yjw:zR:=[bB 102 72 1,ab 72 102]
abbrev yjz:zR:=[o 82 (.gM 2 1 (.t 7) (.c (.int .i64 0))),aj 83 1 82,o 84 (.cmp .lss (.sc .int) (.t 83) (.c (.int .i64 0))),ab 85 84,on 86 85 (.gM 2 1 (.t 7) (.c (.int .i64 1))),on 87 85 (.load false 1 (.t 86)),on 88 85 (.cmp .lss (.sc .int) (.t 87) (.c (.int .i64 0))),o 89 (.pick (.t 85) (.c (.bool true)) (.t 88)),ab 90 89,on 91 90 (.gM 2 1 (.t 7) (.c (.int .i64 0))),on 92 90 (.load false 1 (.t 91)),on 93 90 (.mv (.t 8)),on 94 90 (.cmp .geq (.sc .int) (.t 92) (.t 93)),o 95 (.pick (.t 90) (.c (.bool true)) (.t 94)),ab 96 95,on 97 96 (.gM 2 1 (.t 7) (.c (.int .i64 1))),on 98 96 (.load false 1 (.t 97)),on 99 96 (.mv (.t 8)),on 100 96 (.cmp .geq (.sc .int) (.t 98) (.t 99)),o 101 (.pick (.t 96) (.c (.bool true)) (.t 100))]
abbrev yjA:zR:=[aL 77 5 1,aW 78 lu 77,ab 79 6,o 80 (.bK .add (.t 78) (.t 79)),o 81 (.bK .mul (.c (.int .i64 2)) (.t 80)),ab 8 81]
abbrev yjB:zR:=[ab 74 72,a_ 75 2 70 72,aL 76 2 75,o 7 (.alloc [.int .i64 0,.int .i64 0]),ab 6 74,aO 2 7 76]
abbrev yjC:ah:=.seq (.ae yjB) (.seq (.ae yjA) (.seq (.ae yjz) (.cond (.t 101) Hu .skip)))
abbrev yjD:zR:=[cN 73 72 71]
abbrev IP:ah:=.seq (.ae yjD) (.seq (.cond (.t 73) .skip (.exit 0)) (.seq (.block 1 [] yjC) (.ae yjw)))
abbrev yjF:zR:=[al 69 3 1,aj 70 1 69,aQ 71 70,aN 72 0]
abbrev yjI:zR:=[al 44 2 1,aj 45 1 44,aQ 46 45,al 47 1 1,aj 48 1 47,aQ 49 48,o 50 (.cmp .neq (.sc .int) (.t 46) (.t 49)),ab 51 50,on 52 51 (.off 2 (.t 1)),on 53 51 (.load false 1 (.t 52)),on 54 51 (.mv (.t 5)),on 55 51 (.call (.f s6) [.t 53,.t 54]),o 56 (.pick (.t 51) (.c (.bool true)) (.t 55)),ab 57 56,on 58 57 (.off 1 (.t 1)),on 59 57 (.load false 1 (.t 58)),on 60 57 (.mv (.t 4)),on 61 57 (.call (.f s6) [.t 59,.t 60]),o 62 (.pick (.t 57) (.c (.bool true)) (.t 61)),ab 63 62,on 64 63 (.off 4 (.t 1)),on 65 63 (.load false 1 (.t 64)),on 66 63 (.mv (.t 4)),on 67 63 (.call (.f s6) [.t 65,.t 66]),o 68 (.pick (.t 63) (.c (.bool true)) (.t 67))]
abbrev yjJ:zR:=[o 5 (.mv (.f z6))]
abbrev yjK:zR:=[o 43 (.fO (.func zZ) [] [.t 3]),ab 4 43]
abbrev yjL:zR:=[aL 36 5 1,aW 37 lu 36,al 38 3 1,aj 39 1 38,aQ 40 39,o 41 (.bK .add (.t 37) (.t 40)),o 42 (.bK .mul (.c (.int .i64 2)) (.t 41)),o 3 (.alloc [.int .i64 0]),aO 1 3 42]
abbrev yjM:zR:=[aN 2 8]
abbrev yjN:ah:=.seq (.ae yjM) .ret
abbrev yjO:zR:=[al 9 0 1,aj 10 1 9,o 11 (.cmp .lss (.sc .int) (.t 10) (.c (.int .i64 0))),ab 12 11,on 13 12 (.off 0 (.t 1)),on 14 12 (.load false 1 (.t 13)),on 15 12 (.cmp .gtr (.sc .int) (.t 14) (.c (.int .i64 4000))),o 16 (.pick (.t 12) (.c (.bool true)) (.t 15)),ab 17 16,on 18 17 (.off 0 (.t 1)),on 19 17 (.load false 1 (.t 18)),on 20 17 (.off 1 (.t 1)),on 21 17 (.load false 1 (.t 20)),on 22 17 (.len (.t 21)),on 23 17 (.bK .add (.t 19) (.t 22)),on 24 17 (.off 3 (.t 1)),on 25 17 (.load false 1 (.t 24)),on 26 17 (.len (.t 25)),on 27 17 (.bK .add (.t 23) (.t 26)),on 28 17 (.cmp .gtr (.sc .int) (.t 27) (.c (.int .i64 4000))),o 29 (.pick (.t 17) (.c (.bool true)) (.t 28)),ab 30 29,on 31 30 (.off 4 (.t 1)),on 32 30 (.load false 1 (.t 31)),on 33 30 (.len (.t 32)),on 34 30 (.cmp .gtr (.sc .int) (.t 33) (.c (.int .i64 4000))),o 35 (.pick (.t 30) (.c (.bool true)) (.t 34))]
abbrev Th:zR:=[o 1 (.box 5 (.t 0)),aN 2 0]
abbrev ZU:aA:=⟨.seq (.ae Th) (.seq (.seq (.ae yjO) (.cond (.t 35) yjN .skip)) (.seq (.aS [I,I,O,I,O,O,O,O,O] [9,9,9,9,9,9,9,9,10] yjL) (.seq (.ae yjK) (.seq (.ae yjJ) (.seq (.seq (.ae yjI) (.cond (.t 68) Hu .skip)) (.seq (.seq (.ae yjF) (.block 0 Sd (.loop Sx IP))) (.seq (.ae ze) .ret))))))),103,[.tmp 2]⟩
abbrev yjR(x1 x70 x71 x72:AV)(h:List Ob)(e:Cx:=cx):an:=aY oM (.code IP::.inLoop Sx IP::.inBlock 0 Sd::Sj) (U::x1::(by(iterate 68 refine U::?_);exact x70::x71::x72::(by(iterate 30 refine U::?_);exact[]))) h e
@[simp] theorem XS:az Tryz.prog oM=some ZU:=by kernel_rfl
@[simp] theorem ay4:ar Tryz.prog oM=true:=by kernel_rfl
abbrev yjS:zR:=[ab 3 0,o 4 (.call (.f p3) [.t 3,.f z1]),ab 2 4]
abbrev jR:zR:=[lY 2]
abbrev Z0:aA:=⟨.seq (.ae jR) (.seq (.ae yjS) .ret),5,[.tmp 2]⟩
@[simp] theorem XW:az Tryz.prog tG=some Z0:=by kernel_rfl
@[simp] theorem ayS:ar Tryz.prog tG=true:=by kernel_rfl
abbrev Se:zB:=[O,O,O,I,O,O,O,I,I,I,O,O,O,O,O,O,O,O,O]
abbrev yjX:zR:=[bB 18 9 1,ab 9 18]
abbrev yjY:zR:=[ab 16 3,ab 17 5,q (.bI (.sc .str) (.t 16) (.t 17) (.c (.bool true)))]
abbrev yjZ:zR:=[o 2 (.mv (.c (.bool true)))]
abbrev yka:ah:=.seq (.ae yjZ) .ret
abbrev ykb:zR:=[ab 13 3,ab 14 5,o 15 (.lookup (.sc .str) (.bool false) (.t 13) (.t 14) false)]
abbrev SW:zR:=[a_ 11 1 7 9,aj 12 1 11,ab 5 12]
abbrev ykd:ah:=.seq (.ae SW) (.seq (.seq (.ae ykb) (.cond (.t 15) yka .skip)) (.ae yjY))
abbrev Jf:ah:=.seq (.ae x_) (.seq (.cond (.t 10) .skip (.exit 0)) (.seq (.block 1 [] ykd) (.ae yjX)))
abbrev I0:zR:=[o 6 (.mkMap),ab 3 6]
abbrev X':aA:=⟨.seq (.ae jR) (.seq (.ae I0) (.seq (.seq (.ae Cl) (.block 0 mT (.loop Se Jf))) (.seq (.ae jR) .ret))),19,[.tmp 2]⟩
abbrev ykj:zI:=[.code (.seq (.ae jR) .ret)]
abbrev ykk(x3 x7 x8 x9:AV)(h:List Ob)(e:Cx:=cx):an:=aY tp (.code Jf::.inLoop Se Jf::.inBlock 0 mT::ykj) [U,U,U,x3,U,U,U,x7,x8,x9,U,U,U,U,U,U,U,U,U] h e
@[simp] theorem Wo:az Tryz.prog tp=some X':=by kernel_rfl
@[simp] theorem aym:ar Tryz.prog tp=true:=by kernel_rfl
abbrev pM:zR:=[ab 35 6,ab 2 35]
abbrev mJ:zB:=O::O::O::O::O::O::I::(by(iterate 18 refine O::?_);exact[I,I,I,O,O,O,O,O,O,O,O])
abbrev mS:zB:=O::O::O::O::O::O::I::(by(iterate 29 refine O::?_);exact[])
abbrev CB:zR:=[bB 34 27 1,ab 27 34]
abbrev ykp:zR:=[ab 31 6,ab 32 8,o 33 (.append 1 aE 16 (.t 31) (.t 32)),ab 6 33]
abbrev Cv:zR:=[a_ 29 1 25 27,aj 30 1 29,ab 8 30]
abbrev ykr:ah:=.seq (.ae Cv) (.ae ykp)
abbrev Dk:ah:=.seq (.ae u0) (.seq (.cond (.t 28) .skip (.exit 2)) (.seq (.block 3 [] ykr) (.ae CB)))
abbrev qP:zR:=[ab 25 0,aQ 26 25,aN 27 0]
abbrev Tf:zR:=[ab 23 3,o 24 (.call (.f DH) [.c (.list true 0 []),.t 23]),ab 6 24]
abbrev qW:zB:=I::O::O::I::O::O::O::O::O::I::I::I::(by(iterate 24 refine O::?_);exact[])
abbrev qX:zB:=I::O::O::I::(by(iterate 32 refine O::?_);exact[])
abbrev yky:zR:=[bB 22 11 1,ab 11 22]
abbrev ykz:zR:=[o 21 (.lz aE (.c (.str [108,101,110,32,111,117,116,32,111,102,32,114,97,110,103,101]))),q (.panic (.t 21))]
abbrev ykA:zR:=[ab 19 3,o 20 (.cmp .lss (.sc .int) (.t 19) (.c (.int .i64 0)))]
abbrev ykB:zR:=[ab 15 3,ab 16 5,aQ 17 16,o 18 (.bK .add (.t 15) (.t 17)),ab 3 18]
abbrev ykC:zR:=[a_ 13 1 9 11,aj 14 1 13,ab 5 14]
abbrev ykD:ah:=.seq (.ae ykC) (.seq (.ae ykB) (.seq (.ae ykA) (.cond (.t 20) (.ae ykz) .skip)))
abbrev ykE:zR:=[cN 12 11 10]
abbrev mU:ah:=.seq (.ae ykE) (.seq (.cond (.t 12) .skip (.exit 0)) (.seq (.block 1 [] ykD) (.ae yky)))
abbrev Cy:zR:=[ab 9 0,aQ 10 9,aN 11 0]
abbrev sJ:zR:=[aN 3 0]
abbrev Uv:aA:=⟨.seq (.ae IZ) (.seq (.ae sJ) (.seq (.seq (.ae Cy) (.block 0 qX (.loop qW mU))) (.seq (.ae Tf) (.seq (.seq (.ae qP) (.block 2 mS (.loop mJ Dk))) (.seq (.ae pM) .ret))))),36,[.tmp 2]⟩
abbrev C0:zI:=[.code (.seq (.ae pM) .ret)]
abbrev QL(x6 x25 x26 x27:AV)(h:List Ob)(e:Cx:=cx):an:=aY m3 (.code Dk::.inLoop mJ Dk::.inBlock 2 mS::C0) (U::U::U::U::U::U::x6::(by(iterate 18 refine U::?_);exact[x25,x26,x27,U,U,U,U,U,U,U,U])) h e
abbrev ykL:zI:=[.code (.seq (.ae Tf) (.seq (.seq (.ae qP) (.block 2 mS (.loop mJ Dk))) (.seq (.ae pM) .ret)))]
abbrev TM(x0 x3 x9 x10 x11:AV)(h:List Ob)(e:Cx:=cx):an:=aY m3 (.code mU::.inLoop qW mU::.inBlock 0 qX::ykL) (x0::U::U::x3::U::U::U::U::U::x9::x10::x11::(by(iterate 24 refine U::?_);exact[])) h e
@[simp] theorem JK:az Tryz.prog m3=some Uv:=by kernel_rfl
@[simp] theorem awY:ar Tryz.prog m3=true:=by kernel_rfl
abbrev Ii:zR:=[aj 20 1 3,ab 2 20]
abbrev Q1:zR:=[ab 4 15]
abbrev ykP:zR:=[aj 16 1 3,ab 17 4,o 18 (.bK .shr (.t 17) (.c (.int .u64 1))),a_ 19 1 16 18,q (.store 1 (.t 19) (.c (.bool true)))]
abbrev R0:ah:=.block 1 [] (.ae ykP)
abbrev Q7:ah:=.rangeFunc (.t 14) [15] (O::O::I::I::(by(iterate 17 refine O::?_);exact[])) (.ae Q1) R0
abbrev Rf:zR:=[aL 12 5 1,aj 13 1 3,cM 14 DY 12 13]
abbrev ykT:zR:=[aL 5 5 1,aW 6 lu 5,al 7 3 1,aj 8 1 7,aQ 9 8,o 10 (.bK .add (.t 6) (.t 9)),o 11 (.mkSlice 1 aV 1 (.bool false) (.t 10) (.t 10)),o 3 (.alloc [.own 1 aV []]),aO 1 3 11]
abbrev ykU:zR:=[o 1 (.box 5 (.t 0)),o 2 (.bC 1 aV)]
abbrev adf:aA:=⟨.seq (.ae ykU) (.seq (.fv [[],[0],[],[2],[3],[1,4],[5,5],[],[7,6,1,0,1,2,3,4,5,6,7]] ykT) (.seq (.seq (.ae Rf) (.block 0 [] Q7)) (.seq (.ae Ii) .ret))),21,[.tmp 2]⟩
@[simp] theorem aaB:az Tryz.prog rL=some adf:=by kernel_rfl
@[simp] theorem az3:ar Tryz.prog rL=true:=by kernel_rfl
abbrev ykV:zR:=[al 3 0 1,aj 4 1 3,o 5 (.bK .add (.c (.int .i64 1)) (.t 4)),al 6 1 1,aj 7 1 6,aQ 8 7,o 9 (.bK .add (.t 5) (.t 8)),ab 2 9]
abbrev aaE:aA:=⟨.seq (.ae Th) (.seq (.ae ykV) .ret),10,[.tmp 2]⟩
@[simp] theorem Kn:az Tryz.prog lu=some aaE:=by kernel_rfl
@[simp] theorem ay0:ar Tryz.prog lu=true:=by kernel_rfl
abbrev ykX:zR:=[aL 14 4 1,aL 15 4 1,aW 16 qd 15,ab 17 4,o 18 (.build [.list true 0 [],.list true 0 [],.list true 0 [],.list true 0 [],.list true 0 [],.list true 0 []] [(0,4,.t 14),(4,1,.t 16),(5,1,.t 17)]),o 19 (.box 6 (.t 18)),ab 2 19,aN 3 0]
abbrev ykY:zR:=[aL 10 4 1,aW 11 m5 10,ab 9 11,ba 12 9 0,ba 13 9 1,ab 4 12,ab 5 13]
abbrev ykZ:zR:=[o 2 (.mv (.c .iM)),aN 3 1]
abbrev yla:ah:=.seq (.ae ykZ) .ret
abbrev ylb:zR:=[aL 6 4 1,aW 7 v_ 6,o 8 (.not (.t 7))]
abbrev ylc:zR:=[o 1 (.box 4 (.t 0)),o 2 (.mv (.c .iM)),aN 3 0]
abbrev Zs:aA:=⟨.seq (.ae ylc) (.seq (.seq (.ae ylb) (.cond (.t 8) yla .skip)) (.seq (.ae ykY) (.seq (.aS [I,O,O,O,O,O,O,O] [6,3,6,6,6,9,9,9] ykX) .ret))),20,[.tmp 2,.tmp 3]⟩
@[simp] theorem Kb:az Tryz.prog tw=some Zs:=by kernel_rfl
@[simp] theorem ayI:ar Tryz.prog tw=true:=by kernel_rfl
abbrev QI:zR:=[ab 42 9,ab 43 0,o 44 (.cv (.t 43)),al 45 0 44,al 46 1 45,aj 47 1 46,cM 48 tE 42 47,ab 49 11,ab 6 48,ab 7 49,aN 8 0]
abbrev QB:zB:=I::O::O::O::O::O::O::O::O::I::O::I::(by(iterate 16 refine O::?_);exact I::I::I::(by(iterate 19 refine O::?_);exact[]))
abbrev RH:zB:=I::O::O::O::O::O::O::O::O::I::O::I::(by(iterate 38 refine O::?_);exact[])
abbrev ylh:zR:=[bB 41 30 1,ab 30 41]
abbrev yli:zR:=[ab 34 11,ab 35 9,al 36 1 13,aj 37 1 36,o 38 (.lookup (.sc .str) (.bool false) (.t 35) (.t 37) false),o 39 (.lit 1 [.bool false] [(0,.t 38)]),o 40 (.append 1 aV 1 (.t 34) (.t 39)),ab 11 40]
abbrev ylj:zR:=[a_ 32 3 28 30,aL 33 3 32,o 13 (.alloc [.str [],.str [],.int .i64 0]),aO 3 13 33]
abbrev ylk:ah:=.seq (.ae ylj) (.ae yli)
abbrev yll:zR:=[cN 31 30 29]
abbrev Hl:ah:=.seq (.ae yll) (.seq (.cond (.t 31) .skip (.exit 0)) (.seq (.block 1 [] ylk) (.ae ylh)))
abbrev yln:zR:=[ab 24 0,o 25 (.cv (.t 24)),al 26 0 25,al 27 2 26,aj 28 1 27,aQ 29 28,aN 30 0]
abbrev ylo:zR:=[o 11 (.bC 1 aV)]
abbrev ylp:zR:=[ab 23 10,o 6 (.bC 1 aV),o 7 (.bC 1 aV),ab 8 23]
abbrev ylq:ah:=.seq (.ae ylp) .ret
abbrev ylr:zR:=[ab 21 10,o 22 (.cmp .neq (.sc .int) (.t 21) (.c (.int .i64 0)))]
abbrev yls:zR:=[ab 15 0,ab 16 1,ab 17 2,o 18 (.call (.f oG) [.t 15,.t 16,.t 17]),ab 14 18,ba 19 14 0,ba 20 14 1,ab 9 19,ab 10 20]
abbrev ylt:zR:=[o 6 (.bC 1 aV),o 7 (.bC 1 aV),aN 8 0]
abbrev Vw:aA:=⟨.seq (.ae ylt) (.seq (.ae yls) (.seq (.seq (.ae ylr) (.cond (.t 22) ylq .skip)) (.seq (.ae ylo) (.seq (.seq (.ae yln) (.block 0 RH (.loop QB Hl))) (.seq (.ae QI) .ret))))),50,[.tmp 6,.tmp 7,.tmp 8]⟩
abbrev SN:zI:=[.code (.seq (.ae QI) .ret)]
abbrev ylv(x0 x9 x11 x28 x29 x30:AV)(h:List Ob)(e:Cx:=cx):an:=aY rn (.code Hl::.inLoop QB Hl::.inBlock 0 RH::SN) (x0::U::U::U::U::U::U::U::U::x9::U::x11::(by(iterate 16 refine U::?_);exact x28::x29::x30::(by(iterate 19 refine U::?_);exact[]))) h e
abbrev ylw(x0 x9 x11:AV)(h:List Ob)(e:Cx:=cx):an:=aY rn SN (x0::U::U::U::U::U::U::U::U::x9::U::x11::(by(iterate 38 refine U::?_);exact[])) h e
@[simp] theorem JX:az Tryz.prog rn=some Vw:=by kernel_rfl
@[simp] theorem axv:ar Tryz.prog rn=true:=by kernel_rfl
abbrev Ro:zR:=[ab 56 9,ab 6 56,aN 7 0]
abbrev RS:zB:=O::O::O::O::O::O::O::O::O::I::(by(iterate 26 refine O::?_);exact I::I::I::(by(iterate 18 refine O::?_);exact[]))
abbrev Sv:zB:=O::O::O::O::O::O::O::O::O::I::(by(iterate 47 refine O::?_);exact[])
abbrev ylA:zR:=[bB 55 38 1,ab 38 55]
abbrev ylB:zR:=[ab 42 9,ab 43 9,o 44 (.gM 2 1 (.t 11) (.c (.int .i64 0))),aj 45 1 44,cM 46 tH 43 45,ab 47 46,cD 48 47 9,oy 49 47 (.gM 2 1 (.t 11) (.c (.int .i64 1))),cT 50 47 1 49,oy 51 47 (.call (.f tH) [.t 48,.t 50]),bO 52 47 51,o 53 (.lit 1 [.bool false] [(0,.t 52)]),o 54 (.append 1 aV 1 (.t 42) (.t 53)),ab 9 54]
abbrev ylC:zR:=[a_ 40 2 36 38,aL 41 2 40,o 11 (.alloc [.int .i64 0,.int .i64 0]),aO 2 11 41]
abbrev ylD:ah:=.seq (.ae ylC) (.ae ylB)
abbrev Sw:zR:=[cN 39 38 37]
abbrev Hy:ah:=.seq (.ae Sw) (.seq (.cond (.t 39) .skip (.exit 0)) (.seq (.block 1 [] ylD) (.ae ylA)))
abbrev ylG:zR:=[al 35 3 3,aj 36 1 35,aQ 37 36,aN 38 0]
abbrev ylH:zR:=[o 30 (.lit 1 [.bool false] [(0,.c (.bool false))]),ab 31 2,ab 32 1,o 33 (.lit 1 [.list true 0 [],.list true 0 [],.list true 0 []] [(0,.t 30),(1,.t 31),(2,.t 32)]),aW 34 oF 33,ab 9 34]
abbrev ylI:zR:=[o 6 (.bC 1 aV),aN 7 11]
abbrev ylJ:ah:=.seq (.ae ylI) .ret
abbrev ylK:zR:=[ab 17 1,aQ 18 17,al 19 1 3,aj 20 1 19,aQ 21 20,o 22 (.cmp .neq (.sc .int) (.t 18) (.t 21)),ab 23 22,on 24 23 (.mv (.t 2)),on 25 23 (.len (.t 24)),on 26 23 (.off 0 (.t 3)),on 27 23 (.load false 1 (.t 26)),on 28 23 (.cmp .neq (.sc .int) (.t 25) (.t 27)),o 29 (.pick (.t 23) (.c (.bool true)) (.t 28))]
abbrev ylL:zR:=[ab 16 8,o 6 (.bC 1 aV),ab 7 16]
abbrev ylM:ah:=.seq (.ae ylL) .ret
abbrev ylN:zR:=[ab 14 8,o 15 (.cmp .neq (.sc .int) (.t 14) (.c (.int .i64 0)))]
abbrev ylO:zR:=[aL 12 5 3,aW 13 oM 12,ab 8 13]
abbrev ylP:zR:=[o 3 (.box 5 (.t 0)),o 6 (.bC 1 aV),aN 7 0]
abbrev YX:aA:=⟨.seq (.ae ylP) (.seq (.seq (.ae ylO) (.seq (.ae ylN) (.cond (.t 15) ylM .skip))) (.seq (.seq (.ae ylK) (.cond (.t 29) ylJ .skip)) (.seq (.ae ylH) (.seq (.seq (.ae ylG) (.block 0 Sv (.loop RS Hy))) (.seq (.ae Ro) .ret))))),57,[.tmp 6,.tmp 7]⟩
abbrev ylQ:zI:=[.code (.seq (.ae Ro) .ret)]
abbrev ylR(x9 x36 x37 x38:AV)(h:List Ob)(e:Cx:=cx):an:=aY wb (.code Hy::.inLoop RS Hy::.inBlock 0 Sv::ylQ) (U::U::U::U::U::U::U::U::U::x9::(by(iterate 26 refine U::?_);exact x36::x37::x38::(by(iterate 18 refine U::?_);exact[]))) h e
@[simp] theorem Xo:az Tryz.prog wb=some YX:=by kernel_rfl
@[simp] theorem ayL:ar Tryz.prog wb=true:=by kernel_rfl
abbrev ylW:zR:=[ab 13 4,aj 14 1 1,ab 15 6,cM 16 tH 14 15,o 17 (.lit 1 [.bool false] [(0,.t 16)]),o 18 (.append 1 aV 1 (.t 13) (.t 17)),ab 4 18]
abbrev ylY:ah:=.seq (.ae R9) (.ae ylW)
abbrev Ix:ah:=.seq (.ae x_) (.seq (.cond (.t 10) .skip (.exit 0)) (.seq (.block 1 [] ylY) (.ae Qr)))
abbrev HQ:zR:=[o 4 (.bC 1 aV)]
abbrev ymd:zR:=[o 3 (.bC 1 aV)]
abbrev Y7:aA:=⟨.seq (.ae ymd) (.seq (.ae HQ) (.seq (.seq (.ae Cl) (.block 0 CL (.loop CJ Ix))) (.seq (.ae Ig) .ret))),21,[.tmp 3]⟩
abbrev ymf(x1 x4 x7 x8 x9:AV)(h:List Ob)(e:Cx:=cx):an:=aY wa (.code Ix::.inLoop CJ Ix::.inBlock 0 CL::Qy) [U,x1,U,U,x4,U,U,x7,x8,x9,U,U,U,U,U,U,U,U,U,U,U] h e
@[simp] theorem W6:az Tryz.prog wa=some Y7:=by kernel_rfl
@[simp] theorem ayJ:ar Tryz.prog wa=true:=by kernel_rfl
abbrev ymg:zR:=[ab 5 0,ab 6 1,o 7 (.bK .shr (.t 6) (.c (.int .u64 1))),a_ 8 1 5 7,aj 9 1 8,ab 10 1,o 11 (.bK .and (.t 10) (.c (.int .i64 1))),o 12 (.cmp .eql (.sc .int) (.t 11) (.c (.int .i64 1))),o 13 (.cmp .neq (.sc .bool) (.t 9) (.t 12)),ab 4 13]
abbrev aaG:aA:=⟨.seq (.ae jQ) (.seq (.ae ymg) .ret),14,[.tmp 4]⟩
@[simp] theorem XD:az Tryz.prog tH=some aaG:=by kernel_rfl
@[simp] theorem ayY:ar Tryz.prog tH=true:=by kernel_rfl
abbrev Tb:zR:=[ab 10 3,o 11 (.cmp .eql (.sc .int) (.t 10) (.c (.int .i64 0))),ab 2 11]
abbrev ymj:zR:=[aL 6 4 1,aW 7 v7 6,ab 5 7,ba 8 5 0,ba 9 5 1,ab 3 8,ab 4 9]
abbrev Y_:aA:=⟨.seq (.ae y3) (.seq (.ae ymj) (.seq (.ae Tb) .ret)),12,[.tmp 2]⟩
@[simp] theorem Xn:az Tryz.prog v_=some Y_:=by kernel_rfl
@[simp] theorem ayD:ar Tryz.prog v_=true:=by kernel_rfl
abbrev yml:zR:=[o 9 (.fO (.func zG) [] [.t 6,.t 4,.t 5,.t 7]),ab 8 9]
abbrev ymm:zR:=[o 4 (.box 1 (.t 0)),o 5 (.box 1 (.t 1)),o 6 (.box 1 (.t 2)),o 7 (.box 1 (.t 3)),o 8 (.mv (.c .c9))]
abbrev Vl:aA:=⟨.seq (.ae ymm) (.seq (.ae yml) .ret),10,[.tmp 8]⟩
@[simp] theorem U2:az Tryz.prog DL=some Vl:=by kernel_rfl
@[simp] theorem axm:ar Tryz.prog DL=true:=by kernel_rfl
abbrev ymn:zR:=[o 5 (.lit 1 [] []),ab 6 0,o 7 (.append 1 aV 1 (.t 5) (.t 6)),ab 2 7]
abbrev G':zR:=[o 2 (.bC 1 aV)]
abbrev ymp:ah:=.seq (.ae G') .ret
abbrev UP:aA:=⟨.seq (.ae G') (.seq (.seq (.ae Co) (.cond (.t 4) ymp .skip)) (.seq (.ae ymn) .ret)),8,[.tmp 2]⟩
@[simp] theorem UH:az Tryz.prog zE=some UP:=by kernel_rfl
@[simp] theorem aw9:ar Tryz.prog zE=true:=by kernel_rfl
abbrev vh:zB:=[I,I,O,O,O,O,O,O,O,O,O,O,I,I,O,O,O,O,O,O,O,O,O,O,O,O]
abbrev Hm:zR:=[bB 25 13 1,ab 13 25]
abbrev ymy:zR:=[ab 16 0,ab 17 5,a_ 18 1 16 17,aj 19 1 18,ab 20 1,ab 21 5,a_ 22 1 20 21,aj 23 1 22,o 24 (.cmp .neq (.sc .int) (.t 19) (.t 23))]
abbrev Hh:zR:=[ab 15 13,ab 5 15]
abbrev ymA:ah:=.seq (.ae Hh) (.seq (.aS [O,O,O,O,O,O,O,O,O] [10,10,10,10,10,10,10,10,10] ymy) (.cond (.t 24) lX .skip))
abbrev u6:zR:=[cN 14 13 12]
abbrev HZ:ah:=.seq (.ae u6) (.seq (.cond (.t 14) .skip (.exit 0)) (.seq (.block 1 [] ymA) (.ae Hm)))
abbrev CZ:zR:=[ab 11 0,aQ 12 11,aN 13 0]
abbrev UZ:aA:=⟨.seq (.ae jQ) (.seq (.seq (.ae yR) (.cond (.t 10) lX .skip)) (.seq (.seq (.ae CZ) (.block 0 ou (.loop vh HZ))) (.seq (.ae sM) .ret))),26,[.tmp 4]⟩
abbrev ymJ(x0 x1 x12 x13:AV)(h:List Ob)(e:Cx:=cx):an:=aY rl (.code HZ::.inLoop vh HZ::.inBlock 0 ou::vk) [x0,x1,U,U,U,U,U,U,U,U,U,U,x12,x13,U,U,U,U,U,U,U,U,U,U,U,U] h e
@[simp] theorem US:az Tryz.prog rl=some UZ:=by kernel_rfl
@[simp] theorem axd:ar Tryz.prog rl=true:=by kernel_rfl
abbrev ymQ:zR:=[ab 16 0,ab 17 5,a_ 18 2 16 17,aL 19 2 18,ab 20 1,ab 21 5,a_ 22 2 20 21,aL 23 2 22,o 24 (.cmp .neq (.ja [.int,.int]) (.t 19) (.t 23))]
abbrev ymS:ah:=.seq (.ae Hh) (.seq (.aS [O,O,O,O,O,O,O,O,O] [10,10,10,10,10,10,10,10,10] ymQ) (.cond (.t 24) lX .skip))
abbrev Il:ah:=.seq (.ae u6) (.seq (.cond (.t 14) .skip (.exit 0)) (.seq (.block 1 [] ymS) (.ae Hm)))
abbrev UJ:aA:=⟨.seq (.ae jQ) (.seq (.seq (.ae yR) (.cond (.t 10) lX .skip)) (.seq (.seq (.ae CZ) (.block 0 ou (.loop vh Il))) (.seq (.ae sM) .ret))),26,[.tmp 4]⟩
abbrev ynb(x0 x1 x12 x13:AV)(h:List Ob)(e:Cx:=cx):an:=aY vL (.code Il::.inLoop vh Il::.inBlock 0 ou::vk) [x0,x1,U,U,U,U,U,U,U,U,U,U,x12,x13,U,U,U,U,U,U,U,U,U,U,U,U] h e
@[simp] theorem UA:az Tryz.prog vL=some UJ:=by kernel_rfl
@[simp] theorem aw6:ar Tryz.prog vL=true:=by kernel_rfl
abbrev yni:zR:=[ab 16 0,ab 17 5,a_ 18 1 16 17,aj 19 1 18,ab 20 1,ab 21 5,a_ 22 1 20 21,aj 23 1 22,o 24 (.cmp .neq (.sc .str) (.t 19) (.t 23))]
abbrev ynk:ah:=.seq (.ae Hh) (.seq (.aS [O,O,O,O,O,O,O,O,O] [10,10,10,10,10,10,10,10,10] yni) (.cond (.t 24) lX .skip))
abbrev IG:ah:=.seq (.ae u6) (.seq (.cond (.t 14) .skip (.exit 0)) (.seq (.block 1 [] ynk) (.ae Hm)))
abbrev UC:aA:=⟨.seq (.ae jQ) (.seq (.seq (.ae yR) (.cond (.t 10) lX .skip)) (.seq (.seq (.ae CZ) (.block 0 ou (.loop vh IG))) (.seq (.ae sM) .ret))),26,[.tmp 4]⟩
abbrev ynt(x0 x1 x12 x13:AV)(h:List Ob)(e:Cx:=cx):an:=aY rk (.code IG::.inLoop vh IG::.inBlock 0 ou::vk) [x0,x1,U,U,U,U,U,U,U,U,U,U,x12,x13,U,U,U,U,U,U,U,U,U,U,U,U] h e
@[simp] theorem Ur:az Tryz.prog rk=some UC:=by kernel_rfl
@[simp] theorem aw1:ar Tryz.prog rk=true:=by kernel_rfl
abbrev Iz:zR:=[ab 62 6,ab 63 62,cD 64 63 7,bO 65 63 64,ab 66 65,oy 67 66 (.off 3 (.t 1)),cT 68 66 1 67,oy 69 66 (.len (.t 68)),oy 70 66 (.cmp .leq (.sc .int) (.t 69) (.c (.int .i64 210))),bO 71 66 70,ab 72 71,oy 73 72 (.off 2 (.t 1)),cT 74 72 1 73,oy 75 72 (.len (.t 74)),oy 76 72 (.cmp .leq (.sc .int) (.t 75) (.c (.int .i64 210))),bO 77 72 76,ab 2 77]
abbrev Jl:zR:=[al 59 1 1,aj 60 1 59,o 61 (.call (.f qa) [.t 60,.c (.int .i64 210)]),ab 7 61]
abbrev Hv:zR:=[al 56 0 1,aj 57 1 56,o 58 (.call (.f qa) [.t 57,.c (.int .i64 210)]),ab 6 58]
abbrev Hr:zB:=O::I::O::O::O::I::(by(iterate 72 refine O::?_);exact[])
abbrev y7:zB:=O::I::(by(iterate 76 refine O::?_);exact[])
abbrev ynz:zR:=[ab 36 5,bB 37 36 1,ab 5 37]
abbrev H_:ah:=.seq (.ae jR) .ret
abbrev ynC:zR:=[al 38 2 1,aj 39 1 38,ab 40 5,a_ 41 3 39 40,al 42 0 41,aj 43 1 42,o 44 (.mj (.t 43)),o 45 (.cmp .gtr (.sc .int) (.t 44) (.c (.int .i64 60))),ab 46 45,on 47 46 (.off 2 (.t 1)),on 48 46 (.load false 1 (.t 47)),on 49 46 (.mv (.t 5)),on 50 46 (.jA 3 (.t 48) (.t 49)),on 51 46 (.off 1 (.t 50)),on 52 46 (.load false 1 (.t 51)),on 53 46 (.mj (.t 52)),on 54 46 (.cmp .gtr (.sc .int) (.t 53) (.c (.int .i64 60))),o 55 (.pick (.t 46) (.c (.bool true)) (.t 54))]
abbrev ynD:ah:=.seq (.ae ynC) (.cond (.t 55) H_ .skip)
abbrev ynE:zR:=[ab 27 5,al 28 2 1,aj 29 1 28,aQ 30 29,cN 31 27 30,ab 32 31,cD 33 32 5,oy 34 32 (.cmp .leq (.sc .int) (.t 33) (.c (.int .i64 210))),bO 35 32 34]
abbrev CF:ah:=.seq (.seq (.ae ynE) (.cond (.t 35) .skip (.exit 2))) (.seq (.block 3 [] ynD) (.ae ynz))
abbrev QH:zB:=O::I::O::I::(by(iterate 74 refine O::?_);exact[])
abbrev ynJ:zR:=[ab 17 3,bB 18 17 1,ab 3 18]
abbrev ynM:zR:=[ab 25 4,o 26 (.not (.t 25))]
abbrev ynN:zR:=[al 19 3 1,aj 20 1 19,ab 21 3,a_ 22 5 20 21,aL 23 5 22,aW 24 zY 23,ab 4 24]
abbrev ynO:ah:=.seq (.ae ynN) (.seq (.ae ynM) (.cond (.t 26) H_ .skip))
abbrev ynP:zR:=[ab 8 3,al 9 3 1,aj 10 1 9,aQ 11 10,cN 12 8 11,ab 13 12,cD 14 13 3,oy 15 13 (.cmp .leq (.sc .int) (.t 14) (.c (.int .i64 210))),bO 16 13 15]
abbrev Hs:ah:=.seq (.seq (.ae ynP) (.cond (.t 16) .skip (.exit 0))) (.seq (.block 1 [] ynO) (.ae ynJ))
abbrev adM:aA:=⟨.seq (.ae y3) (.seq (.seq (.ae sJ) (.block 0 y7 (.loop QH Hs))) (.seq (.seq (.ae qR) (.block 2 y7 (.loop Hr CF))) (.seq (.ae Hv) (.seq (.ae Jl) (.seq (.ae Iz) .ret))))),78,[.tmp 2]⟩
abbrev RE:zI:=[.code (.seq (.ae Hv) (.seq (.ae Jl) (.seq (.ae Iz) .ret)))]
abbrev ynU(x1 x5:AV)(h:List Ob)(e:Cx:=cx):an:=aY rK (.code CF::.inLoop Hr CF::.inBlock 2 y7::RE) (U::x1::U::U::U::x5::(by(iterate 72 refine U::?_);exact[])) h e
abbrev ynV(x1:AV)(h:List Ob)(e:Cx:=cx):an:=aY rK RE (U::x1::(by(iterate 76 refine U::?_);exact[])) h e
abbrev ynW:zI:=[.code (.seq (.seq (.ae qR) (.block 2 y7 (.loop Hr CF))) (.seq (.ae Hv) (.seq (.ae Jl) (.seq (.ae Iz) .ret))))]
abbrev ynX(x1 x3:AV)(h:List Ob)(e:Cx:=cx):an:=aY rK (.code Hs::.inLoop QH Hs::.inBlock 0 y7::ynW) (U::x1::U::x3::(by(iterate 74 refine U::?_);exact[])) h e
@[simp] theorem ZW:az Tryz.prog rK=some adM:=by kernel_rfl
@[simp] theorem az6:ar Tryz.prog rK=true:=by kernel_rfl
abbrev ynZ:zR:=[aL 6 4 1,aW 7 nO 6,ab 5 7,ba 8 5 0,ba 9 5 1,ab 3 8,ab 4 9]
abbrev XH:aA:=⟨.seq (.ae y3) (.seq (.ae ynZ) (.seq (.ae Tb) .ret)),12,[.tmp 2]⟩
@[simp] theorem Wv:az Tryz.prog z7=some XH:=by kernel_rfl
@[simp] theorem ayu:ar Tryz.prog z7=true:=by kernel_rfl
abbrev Rk:zR:=[ab 20 3,ab 2 20]
abbrev Rw:zB:=[O,O,O,I,O,O,O,O,I,I,I,O,O,O,O,O,O,O,O,O,O]
abbrev RG:zB:=O::O::O::I::(by(iterate 17 refine O::?_);exact[])
abbrev yoe:zR:=[bB 19 10 1,ab 10 19]
abbrev yof:zR:=[ab 15 3,al 16 0 5,aj 17 1 16,ab 18 4,q (.bI (.sc .str) (.t 15) (.t 17) (.t 18))]
abbrev yog:zR:=[ab 12 10,a_ 13 5 8 10,aL 14 5 13,o 5 (.alloc [.str [],.int .i64 0,.own 1 aE [],.own 1 aE [],.bool false]),ab 4 12,aO 5 5 14]
abbrev yoh:ah:=.seq (.ae yog) (.ae yof)
abbrev Ir:zR:=[cN 11 10 9]
abbrev Hf:ah:=.seq (.ae Ir) (.seq (.cond (.t 11) .skip (.exit 0)) (.seq (.block 1 [] yoh) (.ae yoe)))
abbrev yok:zR:=[al 7 3 1,aj 8 1 7,aQ 9 8,aN 10 0]
abbrev yom:zR:=[o 1 (.box 4 (.t 0)),o 2 (.mv (.c .c_))]
abbrev W2:aA:=⟨.seq (.ae yom) (.seq (.ae I0) (.seq (.seq (.ae yok) (.block 0 RG (.loop Rw Hf))) (.seq (.ae Rk) .ret))),21,[.tmp 2]⟩
abbrev yon:zI:=[.code (.seq (.ae Rk) .ret)]
abbrev yoo(x3 x8 x9 x10:AV)(h:List Ob)(e:Cx:=cx):an:=aY tn (.code Hf::.inLoop Rw Hf::.inBlock 0 RG::yon) [U,U,U,x3,U,U,U,U,x8,x9,x10,U,U,U,U,U,U,U,U,U,U] h e
@[simp] theorem Wd:az Tryz.prog tn=some W2:=by kernel_rfl
@[simp] theorem ax8:ar Tryz.prog tn=true:=by kernel_rfl
abbrev yop:zR:=[o 3 (.fO (.func nN) [] [.t 1]),ab 2 3]
abbrev yoq:zR:=[o 1 (.box 4 (.t 0)),o 2 (.mv (.c .c9))]
abbrev W_:aA:=⟨.seq (.ae yoq) (.seq (.ae yop) .ret),4,[.tmp 2]⟩
@[simp] theorem Wh:az Tryz.prog DV=some W_:=by kernel_rfl
@[simp] theorem ax9:ar Tryz.prog DV=true:=by kernel_rfl
abbrev Tr:zR:=[ab 42 7,aW 43 iC 42,ab 4 43,aN 5 0]
abbrev Q5:zB:=O::O::O::O::O::O::O::I::(by(iterate 19 refine O::?_);exact I::I::I::(by(iterate 14 refine O::?_);exact[]))
abbrev QC:zB:=O::O::O::O::O::O::O::I::(by(iterate 36 refine O::?_);exact[])
abbrev you:zR:=[bB 41 29 1,ab 29 41]
abbrev yov:zR:=[ab 37 7,ab 38 9,o 39 (.lit 1 [.str []] [(0,.t 38)]),o 40 (.append 1 aE 16 (.t 37) (.t 39)),ab 7 40]
abbrev yow:zR:=[ab 33 7,ab 34 9,cM 35 zA 33 34,o 36 (.not (.t 35))]
abbrev yox:zR:=[a_ 31 1 27 29,aj 32 1 31,ab 9 32]
abbrev yoy:ah:=.seq (.ae yox) (.seq (.ae yow) (.cond (.t 36) (.ae yov) .skip))
abbrev yoz:zR:=[cN 30 29 28]
abbrev I5:ah:=.seq (.ae yoz) (.seq (.cond (.t 30) .skip (.exit 0)) (.seq (.block 1 [] yoy) (.ae you)))
abbrev yoB:zR:=[ab 27 0,aQ 28 27,aN 29 0]
abbrev yoD:zR:=[o 4 (.bC 3 aU),aN 5 1]
abbrev yoE:ah:=.seq (.ae yoD) .ret
abbrev yoF:zR:=[aj 11 1 3,o 12 (.cmp .lss (.sc .int) (.t 11) (.c (.int .i64 0))),ab 13 12,on 14 13 (.load false 1 (.t 3)),on 15 13 (.cmp .gtr (.sc .int) (.t 14) (.c (.int .i64 8))),o 16 (.pick (.t 13) (.c (.bool true)) (.t 15)),ab 17 16,on 18 17 (.mv (.t 0)),on 19 17 (.len (.t 18)),on 20 17 (.cmp .gtr (.sc .int) (.t 19) (.c (.int .i64 128))),o 21 (.pick (.t 17) (.c (.bool true)) (.t 20)),ab 22 21,on 23 22 (.mv (.t 0)),on 24 22 (.mv (.t 6)),on 25 22 (.call (.f p3) [.t 23,.t 24]),o 26 (.pick (.t 22) (.c (.bool true)) (.t 25))]
abbrev yoG:zR:=[o 10 (.fO (.func zQ) [] [.t 3]),ab 6 10]
abbrev yoH:zR:=[o 3 (.box 1 (.t 1)),o 4 (.bC 3 aU),aN 5 0]
abbrev Xe:aA:=⟨.seq (.ae yoH) (.seq (.ae yoG) (.seq (.seq (.ae yoF) (.cond (.t 26) yoE .skip)) (.seq (.ae Qu) (.seq (.seq (.ae yoB) (.block 0 QC (.loop Q5 I5))) (.seq (.ae Tr) .ret))))),44,[.tmp 4,.tmp 5]⟩
abbrev yoI:zI:=[.code (.seq (.ae Tr) .ret)]
abbrev yoJ(x7 x27 x28 x29:AV)(h:List Ob)(e:Cx:=cx):an:=aY vX (.code I5::.inLoop Q5 I5::.inBlock 0 QC::yoI) (U::U::U::U::U::U::U::x7::(by(iterate 19 refine U::?_);exact x27::x28::x29::(by(iterate 14 refine U::?_);exact[]))) h e
@[simp] theorem Wi:az Tryz.prog vX=some Xe:=by kernel_rfl
@[simp] theorem ayb:ar Tryz.prog vX=true:=by kernel_rfl
abbrev Rt:zR:=[ab 61 0,ab 62 10,cM 63 tc 61 62,ab 64 9,ab 6 63,ab 7 64]
abbrev yoL:zR:=[ab 57 0,ab 58 10,cM 59 ta 57 58,ab 60 9,ab 6 59,ab 7 60]
abbrev Tz:ah:=.seq (.ae yoL) .ret
abbrev QF:zR:=[al 54 0 8,aj 55 1 54,o 56 (.cmp .eql (.sc .int) (.t 55) (.c (.int .i64 3)))]
abbrev SA:zB:=I::O::I::O::O::O::O::O::I::I::I::(by(iterate 28 refine O::?_);exact I::I::(by(iterate 24 refine O::?_);exact[]))
abbrev Te:zB:=I::O::O::O::O::O::O::O::I::I::I::(by(iterate 54 refine O::?_);exact[])
abbrev yoQ:zR:=[bB 53 40 1,ab 40 53]
abbrev yoR:zR:=[ab 49 10,ab 50 11,o 51 (.lit 1 [.int .i64 0] [(0,.t 50)]),o 52 (.append 1 aq 8 (.t 49) (.t 51)),ab 10 52]
abbrev yoS:zR:=[ab 43 0,ab 44 9,ab 45 2,o 46 (.call (.f s9) [.t 43,.t 44,.t 45]),ab 42 46,ba 47 42 0,ba 48 42 1,ab 11 47,ab 9 48]
abbrev yoT:zR:=[aN 11 0]
abbrev yoU:ah:=.seq (.ae yoT) (.seq (.ae yoS) (.ae yoR))
abbrev Rc:zR:=[cN 41 40 39]
abbrev H5:ah:=.seq (.ae Rc) (.seq (.cond (.t 41) .skip (.exit 1)) (.seq (.block 2 [] yoU) (.ae yoQ)))
abbrev yoX:zR:=[al 38 2 8,aj 39 1 38,aN 40 0]
abbrev yoY:zR:=[o 10 (.bC 1 aq)]
abbrev yoZ:zR:=[al 22 0 8,aj 23 1 22,ab 24 9,ab 6 23,ab 7 24]
abbrev ypa:zR:=[ab 27 2,al 28 1 8,aj 29 1 28,o 30 (.bK .shr (.t 29) (.c (.int .u64 1))),a_ 31 1 27 30,aj 32 1 31,al 33 1 8,aj 34 1 33,o 35 (.bK .and (.t 34) (.c (.int .i64 1))),o 36 (.bK .xor (.t 32) (.t 35)),ab 37 9,ab 6 36,ab 7 37]
abbrev ypb:ah:=.seq (.aS [O,O,O,O,O,O,O,O,O,O,O,O,O] [14,14,14,14,14,14,14,14,14,14,14,14,14] ypa) .ret
abbrev ypc:zR:=[o 26 (.cmp .eql (.sc .int) (.t 18) (.c (.int .i64 2))),ab 25 26]
abbrev ypd:ah:=.seq (.ae yoZ) .ret
abbrev ype:ah:=.seq (.ae ypc) (.cond (.t 25) ypb .skip)
abbrev ypf:zR:=[o 21 (.cmp .eql (.sc .int) (.t 18) (.c (.int .i64 1))),ab 19 21]
abbrev ypg:zR:=[o 20 (.cmp .eql (.sc .int) (.t 18) (.c (.int .i64 0))),ab 19 20]
abbrev yph:ah:=.seq (.seq (.ae ypg) (.cond (.t 19) .skip (.ae ypf))) (.cond (.t 19) ypd ype)
abbrev ypi:zR:=[al 17 0 8,aj 18 1 17]
abbrev ypj:zR:=[ab 12 1,o 13 (.jA 3 (.t 12) (.c (.int .i64 0))),aL 14 3 13,ab 15 1,o 16 (.slice 3 (.t 15) (some (.c (.int .i64 1))) none),o 8 (.alloc [.int .i64 0,.int .i64 0,.int .i64 0]),aO 3 8 14,ab 9 16]
abbrev ypk:zR:=[aN 6 0,o 7 (.bC 3 aU)]
abbrev Vj:aA:=⟨.seq (.ae ypk) (.seq (.aS [O,O,I,O,I,O,O,O] [7,7,7,9,9,7,9,9] ypj) (.seq (.seq (.ae ypi) (.block 0 [] yph)) (.seq (.ae yoY) (.seq (.seq (.ae yoX) (.block 1 Te (.loop SA H5))) (.seq (.seq (.ae QF) (.cond (.t 56) Tz .skip)) (.seq (.ae Rt) .ret)))))),65,[.tmp 6,.tmp 7]⟩
abbrev ypl:zI:=[.code (.seq (.seq (.ae QF) (.cond (.t 56) Tz .skip)) (.seq (.ae Rt) .ret))]
abbrev ypm(x0 x2 x8 x9 x10 x39 x40:AV)(h:List Ob)(e:Cx:=cx):an:=aY s9 (.code H5::.inLoop SA H5::.inBlock 1 Te::ypl) (x0::U::x2::U::U::U::U::U::x8::x9::x10::(by(iterate 28 refine U::?_);exact x39::x40::(by(iterate 24 refine U::?_);exact[]))) h e
@[simp] theorem DM:az Tryz.prog s9=some Vj:=by kernel_rfl
@[simp] theorem axq:ar Tryz.prog s9=true:=by kernel_rfl
abbrev RB:zR:=[ab 31 3,ab 2 31]
abbrev S7:zB:=O::O::O::I::O::O::O::O::O::O::O::O::O::O::O::I::I::(by(iterate 15 refine O::?_);exact[])
abbrev QY:zB:=O::O::O::I::(by(iterate 28 refine O::?_);exact[])
abbrev ypq:zR:=[bB 30 16 1,ab 16 30]
abbrev ypr:zR:=[ab 19 3,ab 20 3,o 21 (.cv (.t 20)),al 22 6 21,aj 23 1 22,ab 24 4,o 25 (.bK .mul (.c (.int .i64 2)) (.t 24)),o 26 (.lit 1 [.int .i64 0] [(0,.t 25)]),o 27 (.append 1 aq 8 (.t 23) (.t 26)),o 28 (.cv (.t 19)),al 29 6 28,aO 1 29 27]
abbrev yps:zR:=[ab 18 16,ab 4 18]
abbrev ypt:ah:=.seq (.ae yps) (.ae ypr)
abbrev I4:ah:=.seq (.ae zi) (.seq (.cond (.t 17) .skip (.exit 0)) (.seq (.block 1 [] ypt) (.ae ypq)))
abbrev ypw:zR:=[aL 14 5 1,aW 15 lu 14,aN 16 0]
abbrev ypx:zR:=[al 5 0 1,aj 6 1 5,al 7 1 1,aj 8 1 7,al 9 2 1,aj 10 1 9,aW 11 zF 10,o 12 (.build [.int .i64 0,.list true 0 [],.list true 0 [],.list true 0 [],.list true 0 []] [(0,1,.t 6),(1,1,.t 8),(2,1,.t 11)]),aW 13 rC 12,ab 3 13]
abbrev SU:zR:=[o 1 (.box 5 (.t 0)),o 2 (.mv (.c .iM))]
abbrev ZQ:aA:=⟨.seq (.ae SU) (.seq (.aS [O,I,O,I,O,O,O,O,O,O] [9,9,9,9,7,7,9,9,11,11] ypx) (.seq (.seq (.ae ypw) (.block 0 QY (.loop S7 I4))) (.seq (.ae RB) .ret))),32,[.tmp 2]⟩
abbrev SL:zI:=[.code (.seq (.ae RB) .ret)]
abbrev ypA(x3 x15 x16:AV)(h:List Ob)(e:Cx:=cx):an:=aY tB (.code I4::.inLoop S7 I4::.inBlock 0 QY::SL) (U::U::U::x3::U::U::U::U::U::U::U::U::U::U::U::x15::x16::(by(iterate 15 refine U::?_);exact[])) h e
abbrev ypB(x3:AV)(h:List Ob)(e:Cx:=cx):an:=aY tB SL (U::U::U::x3::(by(iterate 28 refine U::?_);exact[])) h e
@[simp] theorem Kx:az Tryz.prog tB=some ZQ:=by kernel_rfl
@[simp] theorem azd:ar Tryz.prog tB=true:=by kernel_rfl
abbrev ypC:zR:=[ab 76 10,ab 6 76]
abbrev ypD:zR:=[ab 70 0,o 71 (.cv (.t 70)),al 72 5 71,aj 73 1 72,aL 74 2 7,ab 75 10,q (.bI (.ja [.int,.int]) (.t 73) (.t 74) (.t 75))]
abbrev ypE:zR:=[ab 58 0,ab 59 0,o 60 (.cv (.t 59)),al 61 0 60,al 62 3 61,aj 63 1 62,aL 64 2 7,o 65 (.lit 2 [.agg [.int .i64 0,.int .i64 0]] [(0,.t 64)]),o 66 (.append 2 cP 16 (.t 63) (.t 65)),o 67 (.cv (.t 58)),al 68 0 67,al 69 3 68,aO 1 69 66]
abbrev ypF:zR:=[ab 45 0,o 46 (.cv (.t 45)),al 47 0 46,aL 48 5 47,aW 49 lu 48,ab 50 0,o 51 (.cv (.t 50)),al 52 0 51,al 53 3 52,aj 54 1 53,aQ 55 54,o 56 (.bK .add (.t 49) (.t 55)),o 57 (.bK .mul (.c (.int .i64 2)) (.t 56)),ab 10 57]
abbrev ypG:zR:=[ab 44 8,ab 6 44]
abbrev ypH:ah:=.seq (.ae ypG) .ret
abbrev ypI:zR:=[ab 43 9]
abbrev ypJ:zR:=[ab 35 0,o 36 (.cv (.t 35)),al 37 5 36,aj 38 1 37,aL 39 2 7,o 40 (.lookup (.ja [.int,.int]) (.int .i64 0) (.t 38) (.t 39) true),ab 34 40,ba 41 34 0,ba 42 34 1,ab 8 41,ab 9 42]
abbrev ypK:zR:=[ab 31 1,ab 32 2,o 33 (.build [.int .i64 0,.int .i64 0] [(0,1,.t 31),(1,1,.t 32)]),o 7 (.alloc [.int .i64 0,.int .i64 0]),aO 2 7 33]
abbrev Da:zR:=[aN 6 0]
abbrev ypM:zR:=[ab 30 1,ab 6 30]
abbrev ypN:ah:=.seq (.ae ypM) .ret
abbrev ypO:zR:=[ab 27 1,ab 28 2,o 29 (.cmp .eql (.sc .int) (.t 27) (.t 28)),ab 24 29]
abbrev ypP:zR:=[ab 25 2,o 26 (.cmp .eql (.sc .int) (.t 25) (.c (.int .i64 1))),ab 24 26]
abbrev ypQ:ah:=.seq (.ae Da) .ret
abbrev ypR:ah:=.seq (.seq (.ae ypP) (.cond (.t 24) .skip (.ae ypO))) (.cond (.t 24) ypN .skip)
abbrev ypS:zR:=[ab 20 1,o 21 (.bK .xor (.t 20) (.c (.int .i64 1))),ab 22 2,o 23 (.cmp .eql (.sc .int) (.t 21) (.t 22)),ab 17 23]
abbrev ypT:zR:=[ab 18 2,o 19 (.cmp .eql (.sc .int) (.t 18) (.c (.int .i64 0))),ab 17 19]
abbrev ypU:ah:=.seq (.seq (.ae ypT) (.cond (.t 17) .skip (.ae ypS))) (.cond (.t 17) ypQ ypR)
abbrev ypV:zR:=[ab 11 1,ab 12 2,o 13 (.max [.t 11,.t 12]),ab 14 1,ab 15 2,o 16 (.min [.t 14,.t 15]),ab 1 13,ab 2 16]
abbrev VS:aA:=⟨.seq (.ae Da) (.seq (.ae ypV) (.seq (.block 0 [] ypU) (.seq (.ae ypK) (.seq (.seq (.aS [O,O,O,O,O,O,O,O,O,O,O] [12,12,12,12,12,12,12,12,12,12,12] ypJ) (.seq (.ae ypI) (.cond (.t 43) ypH .skip))) (.seq (.aS [O,O,O,O,O,O,O,O,O,I,O,O,O,O] [5,5,5,5,15,15,15,15,15,15,15,15,15,15] ypF) (.seq (.aS [O,O,O,O,O,I,O,O,O,O,O,O,O] [13,9,9,9,9,9,8,9,13,13,13,13,14] ypE) (.seq (.aS [O,O,O,O,O,O,O] [7,7,7,7,7,7,8] ypD) (.seq (.ae ypC) .ret)))))))),77,[.tmp 6]⟩
@[simp] theorem DQ:az Tryz.prog p6=some VS:=by kernel_rfl
@[simp] theorem axJ:ar Tryz.prog p6=true:=by kernel_rfl
abbrev ypX:zR:=[ab 5 0,o 6 (.cv (.t 5)),al 7 6 6,aj 8 1 7,ab 9 1,o 10 (.bK .shr (.t 9) (.c (.int .u64 1))),a_ 11 1 8 10,aj 12 1 11,ab 13 1,o 14 (.bK .and (.t 13) (.c (.int .i64 1))),o 15 (.bK .xor (.t 12) (.t 14)),ab 4 15]
abbrev VN:aA:=⟨.seq (.ae mN) (.seq (.ae ypX) .ret),16,[.tmp 4]⟩
@[simp] theorem Vm:az Tryz.prog nM=some VN:=by kernel_rfl
@[simp] theorem axD:ar Tryz.prog nM=true:=by kernel_rfl
abbrev ypZ:zR:=[ab 21 0,o 22 (.cv (.t 21)),al 23 0 22,aL 24 5 23,aO 5 4 24]
abbrev yqa:zR:=[ab 5 0,ab 6 0,ab 7 0,al 8 1 3,aj 9 1 8,cM 10 rr 7 9,ab 11 0,al 12 4 3,aj 13 1 12,cM 14 rr 11 13,o 15 (.cv (.t 5)),al 16 0 15,al 17 1 16,aO 1 17 10,o 18 (.cv (.t 6)),al 19 0 18,al 20 4 19,aO 1 20 14]
abbrev yqb:zR:=[o 3 (.box 5 (.t 1)),o 4 (.alloc [.int .i64 0,.own 1 aq [],.own 1 aq [],.own 2 cP [],.own 1 aq []])]
abbrev V6:aA:=⟨.seq (.ae yqb) (.seq (.aS [O,O,O,O,O,O,O,O,I,O,O,O,O,O,O,O,O,O] [14,18,6,6,6,10,10,10,10,14,14,14,14,18,18,18,18,19] yqa) (.seq (.ae ypZ) .ret)),25,[.cell 4 true 5]⟩
@[simp] theorem J0:az Tryz.prog zM=some V6:=by kernel_rfl
@[simp] theorem axI:ar Tryz.prog zM=true:=by kernel_rfl
abbrev yqc:zR:=[al 10 0 2,aj 11 1 10,al 12 1 2,aj 13 1 12,aO 1 0 11,aO 1 1 13]
abbrev yqd:zR:=[ab 9 3]
abbrev yqe:zR:=[o 5 (.recover),o 6 (.rW (.t 5) D_ (.agg [.int .i64 0,.str []]) true),ab 4 6,ba 7 4 0,ba 8 4 1,o 2 (.alloc [.int .i64 0,.str []]),aO 2 2 7,ab 3 8]
abbrev XT:aA:=⟨.seq (.ae yqe) (.seq (.ae yqd) (.cond (.t 9) (.aS [O,O,O,I,O,O] [5,5,6,6,6,7] yqc) .skip)),14,[]⟩
@[simp] theorem ayr:az Tryz.prog z8=some XT:=by kernel_rfl
@[simp] theorem ayw:ar Tryz.prog z8=true:=by kernel_rfl
abbrev yqf:zR:=[al 3 2 1,aj 4 1 3,aQ 5 4,o 6 (.cmp .gtr (.sc .int) (.t 5) (.c (.int .i64 8))),ab 7 6,on 8 7 (.off 3 (.t 1)),on 9 7 (.load false 1 (.t 8)),on 10 7 (.len (.t 9)),on 11 7 (.cmp .gtr (.sc .int) (.t 10) (.c (.int .i64 128))),o 12 (.pick (.t 7) (.c (.bool true)) (.t 11)),ab 2 12]
abbrev Hg:zR:=[o 1 (.box 5 (.t 0)),lY 2]
abbrev Yi:aA:=⟨.seq (.ae Hg) (.seq (.ae yqf) .ret),13,[.tmp 2]⟩
@[simp] theorem Wt:az Tryz.prog vY=some Yi:=by kernel_rfl
@[simp] theorem aye:ar Tryz.prog vY=true:=by kernel_rfl
abbrev yqh:zR:=[ab 8 1,ab 9 2,o 10 (.build [.int .i64 0,.str []] [(0,1,.t 8),(1,1,.t 9)]),o 11 (.lz D_ (.t 10)),q (.panic (.t 11))]
abbrev yqi:zR:=[ab 6 0,o 7 (.not (.t 6))]
abbrev abU:aA:=⟨.seq (.ae yqi) (.cond (.t 7) (.ae yqh) .skip),12,[]⟩
@[simp] theorem KV:az Tryz.prog nQ=some abU:=by kernel_rfl
@[simp] theorem azo:ar Tryz.prog nQ=true:=by kernel_rfl
abbrev yqj:zR:=[ab 5 0,ab 6 1,cM 7 vI 5 6,o 8 (.cmp .geq (.sc .int) (.t 7) (.c (.int .i64 0))),ab 4 8]
abbrev T9:aA:=⟨.seq (.ae jQ) (.seq (.ae yqj) .ret),9,[.tmp 4]⟩
@[simp] theorem T6:az Tryz.prog zz=some T9:=by kernel_rfl
@[simp] theorem awO:ar Tryz.prog zz=true:=by kernel_rfl
abbrev Ho:zR:=[ab 45 3,ab 2 45]
abbrev HG:zB:=O::O::O::I::(by(iterate 26 refine O::?_);exact I::I::I::(by(iterate 13 refine O::?_);exact[]))
abbrev Hn:zB:=O::O::O::I::(by(iterate 42 refine O::?_);exact[])
abbrev yqo:zR:=[bB 44 32 1,ab 32 44]
abbrev yqp:zR:=[ab 36 3,al 37 0 7,aj 38 1 37,o 39 (.lit 1 [.str []] [(0,.t 38)]),o 40 (.append 1 aE 16 (.t 36) (.t 39)),al 41 2 7,aj 42 1 41,o 43 (.append 1 aE 16 (.t 40) (.t 42)),ab 3 43]
abbrev yqq:zR:=[a_ 34 5 30 32,aL 35 5 34,o 7 (.alloc [.str [],.int .i64 0,.own 1 aE [],.own 1 aE [],.bool false]),aO 5 7 35]
abbrev yqr:ah:=.seq (.ae yqq) (.aS [O,O,O,O,O,O,I,O,O] [5,4,4,5,8,8,8,10,10] yqp)
abbrev yqs:zR:=[cN 33 32 31]
abbrev Cr:ah:=.seq (.ae yqs) (.seq (.cond (.t 33) .skip (.exit 2)) (.seq (.block 3 [] yqr) (.ae yqo)))
abbrev Sn:zR:=[al 29 3 1,aj 30 1 29,aQ 31 30,aN 32 0]
abbrev RP:zB:=O::I::O::I::O::O::O::O::O::O::O::O::O::O::O::I::I::I::(by(iterate 28 refine O::?_);exact[])
abbrev QP:zB:=O::I::O::I::(by(iterate 42 refine O::?_);exact[])
abbrev yqx:zR:=[bB 28 17 1,ab 17 28]
abbrev yqy:zR:=[ab 21 3,al 22 0 5,aj 23 1 22,al 24 1 5,aj 25 1 24,o 26 (.lit 1 [.str [],.str []] [(0,.t 23),(1,.t 25)]),o 27 (.append 1 aE 16 (.t 21) (.t 26)),ab 3 27]
abbrev yqz:zR:=[a_ 19 3 15 17,aL 20 3 19,o 5 (.alloc [.str [],.str [],.int .i64 0]),aO 3 5 20]
abbrev yqA:ah:=.seq (.ae yqz) (.ae yqy)
abbrev yqB:zR:=[cN 18 17 16]
abbrev H4:ah:=.seq (.ae yqB) (.seq (.cond (.t 18) .skip (.exit 0)) (.seq (.block 1 [] yqA) (.ae yqx)))
abbrev yqD:zR:=[al 14 2 1,aj 15 1 14,aQ 16 15,aN 17 0]
abbrev yqE:zR:=[al 8 0 1,aj 9 1 8,al 10 1 1,aj 11 1 10,o 12 (.lit 1 [.list true 0 [],.list true 0 []] [(0,.t 9),(1,.t 11)]),aW 13 m3 12,ab 3 13]
abbrev abP:aA:=⟨.seq (.ae Ih) (.seq (.ae yqE) (.seq (.seq (.ae yqD) (.block 0 QP (.loop RP H4))) (.seq (.seq (.ae Sn) (.block 2 Hn (.loop HG Cr))) (.seq (.ae Ho) .ret)))),46,[.tmp 2]⟩
abbrev yqG:zI:=[.code (.seq (.ae Ho) .ret)]
abbrev yqH(x3 x30 x31 x32:AV)(h:List Ob)(e:Cx:=cx):an:=aY tN (.code Cr::.inLoop HG Cr::.inBlock 2 Hn::yqG) (U::U::U::x3::(by(iterate 26 refine U::?_);exact x30::x31::x32::(by(iterate 13 refine U::?_);exact[]))) h e
abbrev yqI:zI:=[.code (.seq (.seq (.ae Sn) (.block 2 Hn (.loop HG Cr))) (.seq (.ae Ho) .ret))]
abbrev yqJ(x1 x3 x15 x16 x17:AV)(h:List Ob)(e:Cx:=cx):an:=aY tN (.code H4::.inLoop RP H4::.inBlock 0 QP::yqI) (U::x1::U::x3::U::U::U::U::U::U::U::U::U::U::U::x15::x16::x17::(by(iterate 28 refine U::?_);exact[])) h e
@[simp] theorem Y':az Tryz.prog tN=some abP:=by kernel_rfl
@[simp] theorem azw:ar Tryz.prog tN=true:=by kernel_rfl
abbrev yqK:zR:=[ab 3 0,aW 4 zL 3,ab 2 4]
abbrev Zj:aA:=⟨.seq (.ae jR) (.seq (.ae yqK) .ret),5,[.tmp 2]⟩
@[simp] theorem Xu:az Tryz.prog we=some Zj:=by kernel_rfl
@[simp] theorem ayy:ar Tryz.prog we=true:=by kernel_rfl
abbrev Sp:zR:=[ab 22 3,ab 2 22]
abbrev Tk:zB:=O::O::O::I::O::O::O::I::I::I::(by(iterate 13 refine O::?_);exact[])
abbrev Qq:zB:=O::O::O::I::(by(iterate 19 refine O::?_);exact[])
abbrev yqP:zR:=[bB 21 9 1,ab 9 21]
abbrev yqQ:zR:=[ab 19 3,ab 20 5,q (.bI (.sc .str) (.t 19) (.t 20) (.c (.bool true)))]
abbrev yqR:zR:=[ab 13 3,ab 14 5,o 15 (.lookup (.sc .str) (.bool false) (.t 13) (.t 14) false),o 16 (.not (.t 15)),ab 17 5,o 18 (.call (.f nQ) [.t 16,.c (.int .i64 5),.t 17])]
abbrev yqT:ah:=.seq (.ae SW) (.seq (.ae yqR) (.ae yqQ))
abbrev Jg:ah:=.seq (.ae x_) (.seq (.cond (.t 10) .skip (.exit 0)) (.seq (.block 1 [] yqT) (.ae yqP)))
abbrev yqY:zR:=[o 2 (.mv (.c .c_))]
abbrev acT:aA:=⟨.seq (.ae yqY) (.seq (.ae I0) (.seq (.seq (.ae Cl) (.block 0 Qq (.loop Tk Jg))) (.seq (.ae Sp) .ret))),23,[.tmp 2]⟩
abbrev yqZ:zI:=[.code (.seq (.ae Sp) .ret)]
abbrev Rs(x3 x7 x8 x9:AV)(h:List Ob)(e:Cx:=cx):an:=aY rF (.code Jg::.inLoop Tk Jg::.inBlock 0 Qq::yqZ) (U::U::U::x3::U::U::U::x7::x8::x9::(by(iterate 13 refine U::?_);exact[])) h e
@[simp] theorem K4:az Tryz.prog rF=some acT:=by kernel_rfl
@[simp] theorem azC:ar Tryz.prog rF=true:=by kernel_rfl
abbrev yrb:zR:=[al 18 1 1,aj 19 1 18,al 20 2 1,aj 21 1 20,aQ 22 21,cM 23 tX 19 22,ab 24 23,oy 25 24 (.off 3 (.t 1)),cT 26 24 1 25,oy 27 24 (.len (.t 26)),oy 28 24 (.cmp .leq (.sc .int) (.t 27) (.c (.int .i64 128))),bO 29 24 28,ab 30 29,oy 31 30 (.off 3 (.t 1)),cT 32 30 1 31,cD 33 30 3,oy 34 30 (.call (.f p3) [.t 32,.t 33]),oy 35 30 (.not (.t 34)),bO 36 30 35,ab 2 36]
abbrev yre:zR:=[al 5 1 1,aj 6 1 5,o 7 (.cmp .neq (.sc .int) (.t 6) (.c (.int .i64 10))),ab 8 7,oy 9 8 (.off 3 (.t 1)),cT 10 8 1 9,oy 11 8 (.len (.t 10)),oy 12 8 (.cmp .gtr (.sc .int) (.t 11) (.c (.int .i64 0))),cD 13 8 12,on 14 13 (.off 4 (.t 1)),on 15 13 (.load false 1 (.t 14)),oy 16 8 (.pick (.t 13) (.c (.bool true)) (.t 15)),bO 17 8 16]
abbrev yrf:zR:=[o 4 (.fO (.func Ab) [] [.t 1]),ab 3 4]
abbrev acj:aA:=⟨.seq (.ae Hg) (.seq (.ae yrf) (.seq (.seq (.ae yre) (.cond (.t 17) H_ .skip)) (.seq (.ae yrb) .ret))),37,[.tmp 2]⟩
@[simp] theorem Zr:az Tryz.prog wG=some acj:=by kernel_rfl
@[simp] theorem azD:ar Tryz.prog wG=true:=by kernel_rfl
abbrev I':zR:=[ab 36 3,ab 2 36]
abbrev IK:zB:=O::O::O::I::(by(iterate 21 refine O::?_);exact[I,I,I,O,O,O,O,O,O,O,O,O])
abbrev I7:zB:=O::O::O::I::(by(iterate 33 refine O::?_);exact[])
abbrev yrk:zR:=[bB 35 27 1,ab 27 35]
abbrev yrl:zR:=[ab 31 3,al 32 2 7,aj 33 1 32,o 34 (.append 1 aE 16 (.t 31) (.t 33)),ab 3 34]
abbrev yrn:ah:=.seq (.ae TO) (.ae yrl)
abbrev Cz:ah:=.seq (.ae u0) (.seq (.cond (.t 28) .skip (.exit 2)) (.seq (.block 3 [] yrn) (.ae yrk)))
abbrev Rz:zB:=O::I::O::I::O::O::O::O::O::O::O::O::I::I::I::(by(iterate 22 refine O::?_);exact[])
abbrev RI:zB:=O::I::O::I::(by(iterate 33 refine O::?_);exact[])
abbrev yru:zR:=[ab 18 3,al 19 1 5,aj 20 1 19,o 21 (.lit 1 [.str []] [(0,.t 20)]),o 22 (.append 1 aE 16 (.t 18) (.t 21)),ab 3 22]
abbrev yrw:ah:=.seq (.ae QZ) (.ae yru)
abbrev HM:ah:=.seq (.ae R7) (.seq (.cond (.t 15) .skip (.exit 0)) (.seq (.block 1 [] yrw) (.ae RT)))
abbrev yrA:zR:=[al 8 1 1,aj 9 1 8,aW 10 oE 9,ab 3 10]
abbrev acx:aA:=⟨.seq (.ae Ih) (.seq (.ae yrA) (.seq (.seq (.ae Tq) (.block 0 RI (.loop Rz HM))) (.seq (.seq (.ae CI) (.block 2 I7 (.loop IK Cz))) (.seq (.ae I') .ret)))),37,[.tmp 2]⟩
abbrev yrC:zI:=[.code (.seq (.ae I') .ret)]
abbrev yrD(x3 x25 x26 x27:AV)(h:List Ob)(e:Cx:=cx):an:=aY tM (.code Cz::.inLoop IK Cz::.inBlock 2 I7::yrC) (U::U::U::x3::(by(iterate 21 refine U::?_);exact[x25,x26,x27,U,U,U,U,U,U,U,U,U])) h e
abbrev yrE:zI:=[.code (.seq (.seq (.ae CI) (.block 2 I7 (.loop IK Cz))) (.seq (.ae I') .ret))]
abbrev yrF(x1 x3 x12 x13 x14:AV)(h:List Ob)(e:Cx:=cx):an:=aY tM (.code HM::.inLoop Rz HM::.inBlock 0 RI::yrE) (U::x1::U::x3::U::U::U::U::U::U::U::U::x12::x13::x14::(by(iterate 22 refine U::?_);exact[])) h e
@[simp] theorem YJ:az Tryz.prog tM=some acx:=by kernel_rfl
@[simp] theorem azy:ar Tryz.prog tM=true:=by kernel_rfl
abbrev yrG:zR:=[ab 4 0,o 5 (.cmp .lss (.sc .int) (.t 4) (.c (.int .i64 0))),ab 6 5,on 7 6 (.mv (.t 0)),on 8 6 (.load false 1 (.t 1)),on 9 6 (.cmp .geq (.sc .int) (.t 7) (.t 8)),o 10 (.pick (.t 6) (.c (.bool true)) (.t 9)),ab 3 10]
abbrev yS:zR:=[lY 3]
abbrev Yj:aA:=⟨.seq (.ae yS) (.seq (.ae yrG) .ret),11,[.tmp 3]⟩
@[simp] theorem WS:az Tryz.prog zZ=some Yj:=by kernel_rfl
@[simp] theorem ayg:ar Tryz.prog zZ=true:=by kernel_rfl
abbrev yrI:zR:=[ab 3 0,o 4 (.cmp .lss (.sc .int) (.t 3) (.c (.int .i64 0))),ab 5 4,on 6 5 (.mv (.t 0)),on 7 5 (.cmp .gtr (.sc .int) (.t 6) (.c (.int .i64 2))),o 8 (.pick (.t 5) (.c (.bool true)) (.t 7)),ab 2 8]
abbrev Yn:aA:=⟨.seq (.ae jR) (.seq (.ae yrI) .ret),9,[.tmp 2]⟩
@[simp] theorem WM:az Tryz.prog z6=some Yn:=by kernel_rfl
@[simp] theorem ayk:ar Tryz.prog z6=true:=by kernel_rfl
abbrev yrK:zR:=[ab 5 0,ab 6 1,cM 7 vK 5 6,o 8 (.cmp .geq (.sc .int) (.t 7) (.c (.int .i64 0))),ab 4 8]
abbrev Ux:aA:=⟨.seq (.ae jQ) (.seq (.ae yrK) .ret),9,[.tmp 4]⟩
@[simp] theorem Uo:az Tryz.prog s6=some Ux:=by kernel_rfl
@[simp] theorem aw0:ar Tryz.prog s6=true:=by kernel_rfl
abbrev yrM:zR:=[ab 5 0,ab 6 1,cM 7 rj 5 6,o 8 (.cmp .geq (.sc .int) (.t 7) (.c (.int .i64 0))),ab 4 8]
abbrev Ue:aA:=⟨.seq (.ae jQ) (.seq (.ae yrM) .ret),9,[.tmp 4]⟩
@[simp] theorem T':az Tryz.prog p3=some Ue:=by kernel_rfl
@[simp] theorem awS:ar Tryz.prog p3=true:=by kernel_rfl
abbrev yrO:zR:=[ab 3 0,aW 4 we 3,o 5 (.not (.t 4)),ab 2 5]
abbrev XP:aA:=⟨.seq (.ae jR) (.seq (.ae yrO) .ret),6,[.tmp 2]⟩
@[simp] theorem Ww:az Tryz.prog z1=some XP:=by kernel_rfl
@[simp] theorem ayd:ar Tryz.prog z1=true:=by kernel_rfl
abbrev Cj:zR:=[ab 26 0,ab 4 26]
abbrev yrR:zR:=[ab 17 0,ab 18 0,o 19 (.cap (.t 18)),o 20 (.slice 1 (.t 17) none (some (.t 19))),ab 21 1,o 22 (.qh 1 aE 16 (.str []) (.t 20) (.t 21)),ab 23 0,aQ 24 23,o 25 (.slice 1 (.t 22) none (some (.t 24))),ab 0 25]
abbrev CS:zR:=[ab 15 1,o 16 (.cmp .gtr (.sc .int) (.t 15) (.c (.int .i64 0)))]
abbrev CU:zR:=[ab 8 1,ab 9 0,o 10 (.cap (.t 9)),ab 11 0,aQ 12 11,o 13 (.bK .sub (.t 10) (.t 12)),o 14 (.bK .sub (.t 8) (.t 13)),ab 1 14]
abbrev De:zR:=[o 7 (.lz aE (.c (.str [99,97,110,110,111,116,32,98,101,32,110,101,103,97,116,105,118,101]))),q (.panic (.t 7))]
abbrev CO:zR:=[ab 5 1,o 6 (.cmp .lss (.sc .int) (.t 5) (.c (.int .i64 0)))]
abbrev I8:zR:=[o 4 (.bC 1 aE)]
abbrev UF:aA:=⟨.seq (.ae I8) (.seq (.seq (.ae CO) (.cond (.t 6) (.ae De) .skip)) (.seq (.seq (.ae CU) (.seq (.ae CS) (.cond (.t 16) (.ae yrR) .skip))) (.seq (.ae Cj) .ret))),27,[.tmp 4]⟩
@[simp] theorem JL:az Tryz.prog DH=some UF:=by kernel_rfl
@[simp] theorem aw4:ar Tryz.prog DH=true:=by kernel_rfl
abbrev yrX:zR:=[o 5 (.fO (.func oH) [] [.t 2,.t 3]),ab 4 5]
abbrev yrY:zR:=[o 2 (.box 5 (.t 0)),o 3 (.box 1 (.t 1)),o 4 (.mv (.c .c9))]
abbrev Ye:aA:=⟨.seq (.ae yrY) (.seq (.ae yrX) .ret),6,[.tmp 4]⟩
@[simp] theorem WO:az Tryz.prog DY=some Ye:=by kernel_rfl
@[simp] theorem ayn:ar Tryz.prog DY=true:=by kernel_rfl
abbrev Im:zR:=[ab 85 8,ab 6 85,aN 7 0]
abbrev IL:zB:=I::O::O::O::O::O::O::O::I::(by(iterate 49 refine O::?_);exact I::I::I::(by(iterate 25 refine O::?_);exact[]))
abbrev Hb:zB:=O::O::O::O::O::O::O::O::I::(by(iterate 77 refine O::?_);exact[])
abbrev ysc:zR:=[bB 84 60 1,ab 60 84]
abbrev ysd:zR:=[ab 73 8,al 74 0 13,aj 75 1 74,aL 76 5 13,ab 77 8,al 78 2 13,aj 79 1 78,cM 80 tE 77 79,cM 81 Af 76 80,ab 72 81,ba 82 72 0,ba 83 72 1,q (.bI (.sc .str) (.t 73) (.t 75) (.t 82))]
abbrev yse:zR:=[ab 64 0,o 65 (.cv (.t 64)),al 66 0 65,al 67 3 66,aj 68 1 67,ab 69 12,a_ 70 5 68 69,aL 71 5 70,o 13 (.alloc [.str [],.int .i64 0,.own 1 aE [],.own 1 aE [],.bool false]),aO 5 13 71]
abbrev ysf:zR:=[a_ 62 1 58 60,aj 63 1 62,ab 12 63]
abbrev ysg:ah:=.seq (.ae ysf) (.seq (.ae yse) (.aS [O,O,I,I,O,O,O,O,O,O,O,O,O] [13,13,13,9,8,8,8,9,13,13,13,14,14] ysd))
abbrev ysh:zR:=[cN 61 60 59]
abbrev Di:ah:=.seq (.ae ysh) (.seq (.cond (.t 61) .skip (.exit 2)) (.seq (.block 3 [] ysg) (.ae ysc)))
abbrev Q0:zR:=[ab 55 0,o 56 (.cv (.t 55)),al 57 5 56,aj 58 1 57,aQ 59 58,aN 60 0]
abbrev R2:zB:=I::O::O::O::O::O::O::O::I::(by(iterate 29 refine O::?_);exact I::I::I::(by(iterate 45 refine O::?_);exact[]))
abbrev QV:zB:=I::O::O::O::O::O::O::O::I::(by(iterate 77 refine O::?_);exact[])
abbrev ysm:zR:=[bB 54 40 1,ab 40 54]
abbrev ysn:zR:=[ab 45 8,ab 46 0,o 47 (.cv (.t 46)),al 48 4 47,aj 49 1 48,ab 50 9,a_ 51 1 49 50,aj 52 1 51,ab 53 10,q (.bI (.sc .str) (.t 45) (.t 52) (.t 53))]
abbrev yso:zR:=[ab 42 40,a_ 43 1 38 40,aj 44 1 43,ab 9 42,ab 10 44]
abbrev ysp:ah:=.seq (.ae yso) (.ae ysn)
abbrev IM:ah:=.seq (.ae Rc) (.seq (.cond (.t 41) .skip (.exit 0)) (.seq (.block 1 [] ysp) (.ae ysm)))
abbrev yss:zR:=[ab 35 2,ab 36 1,o 37 (.lit 1 [.list true 0 [],.list true 0 []] [(0,.t 35),(1,.t 36)]),aW 38 oF 37,aQ 39 38,aN 40 0]
abbrev yst:zR:=[o 34 (.mkMap),ab 8 34]
abbrev ysu:zR:=[o 6 (.mv (.c .c_)),aN 7 11]
abbrev ysv:ah:=.seq (.ae ysu) .ret
abbrev ysw:zR:=[ab 14 1,aQ 15 14,ab 16 0,o 17 (.cv (.t 16)),al 18 0 17,al 19 2 18,aj 20 1 19,aQ 21 20,o 22 (.cmp .neq (.sc .int) (.t 15) (.t 21)),ab 23 22,on 24 23 (.mv (.t 2)),on 25 23 (.len (.t 24)),on 26 23 (.mv (.t 0)),on 27 23 (.cv (.t 26)),on 28 23 (.off 0 (.t 27)),on 29 23 (.off 0 (.t 28)),on 30 23 (.load false 1 (.t 29)),on 31 23 (.len (.t 30)),on 32 23 (.cmp .neq (.sc .int) (.t 25) (.t 31)),o 33 (.pick (.t 23) (.c (.bool true)) (.t 32))]
abbrev ysx:zR:=[o 6 (.mv (.c .c_)),aN 7 0]
abbrev Vg:aA:=⟨.seq (.ae ysx) (.seq (.seq (.ae ysw) (.cond (.t 33) ysv .skip)) (.seq (.ae yst) (.seq (.seq (.ae yss) (.block 0 QV (.loop R2 IM))) (.seq (.seq (.ae Q0) (.block 2 Hb (.loop IL Di))) (.seq (.ae Im) .ret))))),86,[.tmp 6,.tmp 7]⟩
abbrev RR:zI:=[.code (.seq (.ae Im) .ret)]
abbrev ysz(x0 x8 x58 x59 x60:AV)(h:List Ob)(e:Cx:=cx):an:=aY oG (.code Di::.inLoop IL Di::.inBlock 2 Hb::RR) (x0::U::U::U::U::U::U::U::x8::(by(iterate 49 refine U::?_);exact x58::x59::x60::(by(iterate 25 refine U::?_);exact[]))) h e
abbrev ysA(x8:AV)(h:List Ob)(e:Cx:=cx):an:=aY oG RR (U::U::U::U::U::U::U::U::x8::(by(iterate 77 refine U::?_);exact[])) h e
abbrev Tw:zI:=[.code (.seq (.seq (.ae Q0) (.block 2 Hb (.loop IL Di))) (.seq (.ae Im) .ret))]
abbrev ysC(x0 x8 x38 x39 x40:AV)(h:List Ob)(e:Cx:=cx):an:=aY oG (.code IM::.inLoop R2 IM::.inBlock 0 QV::Tw) (x0::U::U::U::U::U::U::U::x8::(by(iterate 29 refine U::?_);exact x38::x39::x40::(by(iterate 45 refine U::?_);exact[]))) h e
abbrev ysD(x0 x8:AV)(h:List Ob)(e:Cx:=cx):an:=aY oG Tw (x0::U::U::U::U::U::U::U::x8::(by(iterate 77 refine U::?_);exact[])) h e
@[simp] theorem JV:az Tryz.prog oG=some Vg:=by kernel_rfl
@[simp] theorem axh:ar Tryz.prog oG=true:=by kernel_rfl
abbrev IQ:zR:=[ab 21 5,ab 4 21]
abbrev RC:zB:=[I,O,O,O,O,I,O,O,I,I,I,O,O,O,O,O,O,O,O,O,O,O]
abbrev CX:zB:=O::O::O::O::O::I::(by(iterate 16 refine O::?_);exact[])
abbrev Tc:zR:=[bB 20 10 1,ab 10 20]
abbrev ysI:zR:=[ab 14 5,ab 15 0,ab 16 7,o 17 (.lookup (.sc .str) (.bool false) (.t 15) (.t 16) false),o 18 (.lit 1 [.bool false] [(0,.t 17)]),o 19 (.append 1 aV 1 (.t 14) (.t 18)),ab 5 19]
abbrev SZ:zR:=[a_ 12 1 8 10,aj 13 1 12,ab 7 13]
abbrev ysK:ah:=.seq (.ae SZ) (.ae ysI)
abbrev HX:ah:=.seq (.ae Ir) (.seq (.cond (.t 11) .skip (.exit 0)) (.seq (.block 1 [] ysK) (.ae Tc)))
abbrev ysN:zR:=[ab 8 1,aQ 9 8,aN 10 0]
abbrev ysO:zR:=[o 5 (.bC 1 aV)]
abbrev aa3:aA:=⟨.seq (.ae HQ) (.seq (.ae ysO) (.seq (.seq (.ae ysN) (.block 0 CX (.loop RC HX))) (.seq (.ae IQ) .ret))),22,[.tmp 4]⟩
abbrev Ti:zI:=[.code (.seq (.ae IQ) .ret)]
abbrev ysR(x0 x5 x8 x9 x10:AV)(h:List Ob)(e:Cx:=cx):an:=aY tE (.code HX::.inLoop RC HX::.inBlock 0 CX::Ti) [x0,U,U,U,U,x5,U,U,x8,x9,x10,U,U,U,U,U,U,U,U,U,U,U] h e
@[simp] theorem XF:az Tryz.prog tE=some aa3:=by kernel_rfl
@[simp] theorem aza:ar Tryz.prog tE=true:=by kernel_rfl
abbrev ysW:zR:=[ab 31 6,ab 32 8,o 33 (.append 1 aV 1 (.t 31) (.t 32)),ab 6 33]
abbrev ysY:ah:=.seq (.ae Cv) (.ae ysW)
abbrev CN:ah:=.seq (.ae u0) (.seq (.cond (.t 28) .skip (.exit 2)) (.seq (.block 3 [] ysY) (.ae CB)))
abbrev Tx:zR:=[ab 23 3,o 24 (.call (.f DI) [.c (.list true 0 []),.t 23]),ab 6 24]
abbrev UL:aA:=⟨.seq (.ae G') (.seq (.ae sJ) (.seq (.seq (.ae Cy) (.block 0 qX (.loop qW mU))) (.seq (.ae Tx) (.seq (.seq (.ae qP) (.block 2 mS (.loop mJ CN))) (.seq (.ae pM) .ret))))),36,[.tmp 2]⟩
abbrev Tp(x6 x25 x26 x27:AV)(h:List Ob)(e:Cx:=cx):an:=aY oF (.code CN::.inLoop mJ CN::.inBlock 2 mS::C0) (U::U::U::U::U::U::x6::(by(iterate 18 refine U::?_);exact[x25,x26,x27,U,U,U,U,U,U,U,U])) h e
abbrev yts:zI:=[.code (.seq (.ae Tx) (.seq (.seq (.ae qP) (.block 2 mS (.loop mJ CN))) (.seq (.ae pM) .ret)))]
abbrev Rp(x0 x3 x9 x10 x11:AV)(h:List Ob)(e:Cx:=cx):an:=aY oF (.code mU::.inLoop qW mU::.inBlock 0 qX::yts) (x0::U::U::x3::U::U::U::U::U::x9::x10::x11::(by(iterate 24 refine U::?_);exact[])) h e
@[simp] theorem JN:az Tryz.prog oF=some UL:=by kernel_rfl
@[simp] theorem aw8:ar Tryz.prog oF=true:=by kernel_rfl
abbrev Q3:zB:=I::O::I::I::I::O::O::O::O::O::O::I::I::I::(by(iterate 25 refine O::?_);exact[])
abbrev QW:zB:=(by(iterate 39 refine O::?_);exact[])
abbrev ytw:zR:=[bB 38 13 1,ab 13 38]
abbrev ytx:zR:=[ab 37 9,aO 1 3 37]
abbrev yty:zR:=[ab 28 10,o 29 (.cmp .neq (.sc .int) (.t 28) (.c (.int .i64 0))),ab 30 29,on 31 30 (.mv (.t 0)),on 32 30 (.mv (.t 8)),on 33 30 (.mv (.t 9)),on 34 30 (.call (.t 31) [.t 32,.t 33]),on 35 30 (.not (.t 34)),o 36 (.pick (.t 30) (.c (.bool true)) (.t 35))]
abbrev ytz:zR:=[aj 25 1 4,ab 26 10,o 27 (.cv (.t 25)),aO 1 27 26]
abbrev ytA:zR:=[aj 18 1 2,aj 19 1 3,ab 20 7,o 21 (.call (.f rn) [.t 18,.t 19,.t 20]),ab 17 21,ba 22 17 0,ba 23 17 1,ba 24 17 2,ab 8 22,ab 9 23,ab 10 24]
abbrev QO:zR:=[a_ 15 1 11 13,aj 16 1 15,ab 7 16]
abbrev ytC:ah:=.seq (.ae QO) (.seq (.ae ytA) (.seq (.seq (.ae ytz) (.seq (.ae yty) (.cond (.t 36) .ret .skip))) (.ae ytx)))
abbrev Hz:ah:=.seq (.ae u6) (.seq (.cond (.t 14) .skip (.exit 0)) (.seq (.block 1 [] ytC) (.ae ytw)))
abbrev ytF:zR:=[aj 11 1 1,aQ 12 11,aN 13 0]
abbrev U0:aA:=⟨.seq (.ae ytF) (.block 0 QW (.loop Q3 Hz)),39,[]⟩
abbrev y4:zI:=[]
abbrev ytH(x0 x2 x3 x4 x11 x12 x13:AV)(h:List Ob)(e:Cx:=cx):an:=aY zG (.code Hz::.inLoop Q3 Hz::.inBlock 0 QW::y4) (x0::U::x2::x3::x4::U::U::U::U::U::U::x11::x12::x13::(by(iterate 25 refine U::?_);exact[])) h e
@[simp] theorem UR:az Tryz.prog zG=some U0:=by kernel_rfl
@[simp] theorem axe:ar Tryz.prog zG=true:=by kernel_rfl
abbrev ytI:zR:=[ab 11 3,ab 12 11,cD 13 12 4,bO 14 12 13,ab 15 14,oy 16 15 (.off 0 (.t 1)),cT 17 15 1 16,oy 18 15 (.mj (.t 17)),oy 19 15 (.cmp .leq (.sc .int) (.t 18) (.c (.int .i64 60))),bO 20 15 19,ab 2 20]
abbrev ytJ:zR:=[al 8 3 1,aj 9 1 8,o 10 (.call (.f qa) [.t 9,.c (.int .i64 140)]),ab 4 10]
abbrev ytK:zR:=[al 5 2 1,aj 6 1 5,o 7 (.call (.f qa) [.t 6,.c (.int .i64 12)]),ab 3 7]
abbrev Yk:aA:=⟨.seq (.ae Hg) (.seq (.ae ytK) (.seq (.ae ytJ) (.seq (.ae ytI) .ret))),21,[.tmp 2]⟩
@[simp] theorem WT:az Tryz.prog zY=some Yk:=by kernel_rfl
@[simp] theorem ayf:ar Tryz.prog zY=true:=by kernel_rfl
abbrev ytS:zR:=[ab 17 0,ab 18 5,a_ 19 1 17 18,aj 20 1 19,o 21 (.mj (.t 20)),o 22 (.cmp .gtr (.sc .int) (.t 21) (.c (.int .i64 60)))]
abbrev ytT:ah:=.seq (.ae ytS) (.cond (.t 22) lX .skip)
abbrev Ht:ah:=.seq (.seq (.ae SP) (.cond (.t 14) .skip (.exit 0))) (.seq (.block 1 [] ytT) (.ae C_))
abbrev aaR:aA:=⟨.seq (.ae jQ) (.seq (.seq (.ae qR) (.block 0 Dr (.loop CC Ht))) (.seq (.ae Ie) .ret)),27,[.tmp 4]⟩
abbrev ytZ(x0 x1 x5:AV)(h:List Ob)(e:Cx:=cx):an:=aY qa (.code Ht::.inLoop CC Ht::.inBlock 0 Dr::Re) (x0::x1::U::U::U::x5::(by(iterate 21 refine U::?_);exact[])) h e
@[simp] theorem Yh:az Tryz.prog qa=some aaR:=by kernel_rfl
@[simp] theorem azm:ar Tryz.prog qa=true:=by kernel_rfl
abbrev qL:zB:=I::O::O::I::I::(by(iterate 69 refine O::?_);exact[])
abbrev CG:zB:=(by(iterate 74 refine O::?_);exact[])
abbrev Sb:zB:=I::O::O::I::I::O::I::(by(iterate 42 refine O::?_);exact I::I::I::(by(iterate 22 refine O::?_);exact[]))
abbrev yue:zR:=[bB 73 51 1,ab 51 73]
abbrev yuf:zR:=[ab 68 4,o 69 (.lz kE (.t 68)),ab 70 8,o 71 (.lz aq (.t 70)),cM 72 vN 69 71]
abbrev yug:zR:=[al 61 0 3,aj 62 1 61,ab 63 8,a_ 64 1 62 63,aj 65 1 64,o 66 (.uI (.t 65)),o 67 (.cmp .eql (.sc .int) (.t 66) (.c (.int .i64 0)))]
abbrev yuh:zR:=[al 55 0 3,aj 56 1 55,ab 57 8,a_ 58 1 56 57,aj 59 1 58,ab 60 6,q (.delete (.sc .int) (.t 59) (.t 60))]
abbrev yui:zR:=[a_ 53 1 49 51,aj 54 1 53,ab 8 54]
abbrev yuj:ah:=.seq (.ae yui) (.seq (.ae yuh) (.seq (.ae yug) (.cond (.t 67) (.ae yuf) .skip)))
abbrev yuk:zR:=[cN 52 51 50]
abbrev Hc:ah:=.seq (.ae yuk) (.seq (.cond (.t 52) .skip (.exit 4)) (.seq (.block 5 [] yuj) (.ae yue)))
abbrev yum:zR:=[al 45 1 3,aj 46 1 45,ab 47 6,a_ 48 1 46 47,aj 49 1 48,aQ 50 49,aN 51 0]
abbrev yun:zR:=[ab 41 0,ab 42 6,o 43 (.call (.t 41) [.t 42]),o 44 (.not (.t 43))]
abbrev yuo:zR:=[ab 37 4,o 38 (.lz kE (.t 37)),aW 39 zJ 38,o 40 (.rW (.t 39) aq (.int .i64 0) false),ab 6 40]
abbrev yup:ah:=.seq (.ae yuo) (.seq (.seq (.ae yun) (.cond (.t 44) .ret .skip)) (.seq (.ae yum) (.block 4 qL (.loop Sb Hc))))
abbrev yuq:zR:=[ab 32 4,o 33 (.cv (.t 32)),aj 34 1 33,aW 35 te 34,o 36 (.cmp .gtr (.sc .int) (.t 35) (.c (.int .i64 0)))]
abbrev zh:ah:=.seq (.seq (.ae yuq) (.cond (.t 36) .skip (.exit 2))) (.block 3 [] yup)
abbrev Sq:zB:=I::O::O::I::I::O::O::O::O::O::O::O::O::O::O::I::I::(by(iterate 57 refine O::?_);exact[])
abbrev yuu:zR:=[bB 31 16 1,ab 16 31]
abbrev yuv:zR:=[ab 26 4,o 27 (.lz kE (.t 26)),ab 28 5,o 29 (.lz aq (.t 28)),cM 30 vN 27 29]
abbrev yuw:zR:=[al 19 0 3,aj 20 1 19,ab 21 5,a_ 22 1 20 21,aj 23 1 22,o 24 (.uI (.t 23)),o 25 (.cmp .eql (.sc .int) (.t 24) (.c (.int .i64 0)))]
abbrev yux:zR:=[ab 18 16,ab 5 18]
abbrev yuy:ah:=.seq (.ae yux) (.seq (.ae yuw) (.cond (.t 25) (.ae yuv) .skip))
abbrev I1:ah:=.seq (.ae zi) (.seq (.cond (.t 17) .skip (.exit 0)) (.seq (.block 1 [] yuy) (.ae yuu)))
abbrev yuB:zR:=[al 13 3 1,aj 14 1 13,aQ 15 14,aN 16 0]
abbrev yuC:zR:=[o 11 (.lit 1 [] []),o 12 (.box 1 (.t 11)),ab 4 12]
abbrev yuD:zR:=[aL 9 4 1,aW 10 m4 9,o 3 (.alloc [.own 1 jW [],.own 1 iZ []]),aO 2 3 10]
abbrev Wk:aA:=⟨.seq (.ae yuD) (.seq (.ae yuC) (.seq (.seq (.ae yuB) (.block 0 qL (.loop Sq I1))) (.block 2 CG (.loop qL zh)))),74,[]⟩
abbrev QQ:zI:=[.inBlock 3 [],.inLoop qL zh,.inBlock 2 CG]
abbrev yuF(x0 x3 x4 x6 x49 x50 x51:AV)(h:List Ob)(e:Cx:=cx):an:=aY nN (.code Hc::.inLoop Sb Hc::.inBlock 4 qL::QQ) (x0::U::U::x3::x4::U::x6::(by(iterate 42 refine U::?_);exact x49::x50::x51::(by(iterate 22 refine U::?_);exact[]))) h e
abbrev yuG(x0 x3 x4:AV)(h:List Ob)(e:Cx:=cx):an:=aY nN QQ (x0::U::U::x3::x4::(by(iterate 69 refine U::?_);exact[])) h e
abbrev Tm(x0 x3 x4:AV)(h:List Ob)(e:Cx:=cx):an:=aY nN (.code zh::.inLoop qL zh::.inBlock 2 CG::y4) (x0::U::U::x3::x4::(by(iterate 69 refine U::?_);exact[])) h e
abbrev R6:zI:=[.code (.block 2 CG (.loop qL zh))]
abbrev yuK(x0 x3 x4 x15 x16:AV)(h:List Ob)(e:Cx:=cx):an:=aY nN (.code I1::.inLoop Sq I1::.inBlock 0 qL::R6) (x0::U::U::x3::x4::U::U::U::U::U::U::U::U::U::U::x15::x16::(by(iterate 57 refine U::?_);exact[])) h e
abbrev yuL(x0 x3 x4:AV)(h:List Ob)(e:Cx:=cx):an:=aY nN R6 (x0::U::U::x3::x4::(by(iterate 69 refine U::?_);exact[])) h e
@[simp] theorem VG:az Tryz.prog nN=some Wk:=by kernel_rfl
@[simp] theorem axU:ar Tryz.prog nN=true:=by kernel_rfl
abbrev Hx:zR:=[aL 79 2 4,aO 2 2 79]
abbrev yy:zB:=O::O::I::I::I::(by(iterate 18 refine O::?_);exact I::I::I::(by(iterate 54 refine O::?_);exact[]))
abbrev G_:zB:=O::O::I::O::I::(by(iterate 75 refine O::?_);exact[])
abbrev TP:zR:=[bB 78 25 1,ab 25 78]
abbrev Tl:zB:=O::O::I::I::I::I::(by(iterate 17 refine O::?_);exact I::I::I::O::O::O::O::O::O::O::O::O::O::I::I::I::(by(iterate 41 refine O::?_);exact[]))
abbrev yuS:zR:=[bB 77 38 1,ab 38 77]
abbrev yuT:zR:=[al 65 1 4,aj 66 1 65,ab 67 9,al 68 1 4,aj 69 1 68,ab 70 9,a_ 71 1 69 70,aj 72 1 71,ab 73 5,o 74 (.lit 1 [.int .i64 0] [(0,.t 73)]),o 75 (.append 1 aq 8 (.t 72) (.t 74)),a_ 76 1 66 67,aO 1 76 75]
abbrev yuU:zR:=[al 59 0 4,aj 60 1 59,ab 61 5,a_ 62 1 60 61,aj 63 1 62,ab 64 9,q (.bI (.sc .int) (.t 63) (.t 64) (.c (.bool true)))]
abbrev yuV:ah:=.seq (.ae yuU) (.aS [O,I,O,O,I,O,O,I,O,O,O,O,O] [13,13,13,11,11,11,11,11,10,11,13,13,14] yuT)
abbrev yuW:zR:=[ab 48 10,ab 49 48,oy 50 49 (.off 0 (.t 4)),cT 51 49 1 50,cD 52 49 5,oy 53 49 (.jA 1 (.t 51) (.t 52)),cT 54 49 1 53,cD 55 49 9,oy 56 49 (.lookup (.sc .int) (.bool false) (.t 54) (.t 55) false),oy 57 49 (.not (.t 56)),bO 58 49 57]
abbrev yuX:zR:=[ab 43 3,ab 44 8,o 45 (.lookup (.sc .str) (.int .i64 0) (.t 43) (.t 44) true),ab 42 45,ba 46 42 0,ba 47 42 1,ab 9 46,ab 10 47]
abbrev yuY:zR:=[a_ 40 1 36 38,aj 41 1 40,ab 8 41]
abbrev yuZ:ah:=.seq (.ae yuY) (.seq (.ae yuX) (.seq (.ae yuW) (.cond (.t 58) yuV .skip)))
abbrev HY:ah:=.seq (.ae Sw) (.seq (.cond (.t 39) .skip (.exit 2)) (.seq (.block 3 [] yuZ) (.ae yuS)))
abbrev yvc:zR:=[al 35 2 6,aj 36 1 35,aQ 37 36,aN 38 0]
abbrev yvd:zR:=[al 30 0 4,aj 31 1 30,ab 32 5,o 33 (.mkMap),a_ 34 1 31 32,aO 1 34 33]
abbrev yve:zR:=[ab 27 25,a_ 28 5 23 25,aL 29 5 28,o 6 (.alloc [.str [],.int .i64 0,.own 1 aE [],.own 1 aE [],.bool false]),ab 5 27,aO 5 6 29]
abbrev yvf:ah:=.seq (.ae yve) (.seq (.ae yvd) (.seq (.ae yvc) (.block 2 yy (.loop Tl HY))))
abbrev Cm:ah:=.seq (.ae S8) (.seq (.cond (.t 26) .skip (.exit 0)) (.seq (.block 1 [] yvf) (.ae TP)))
abbrev CM:zR:=[al 13 3 1,aj 14 1 13,aQ 15 14,o 16 (.mkSlice 1 jW 8 .c_ (.t 15) (.t 15)),al 17 3 1,aj 18 1 17,aQ 19 18,o 20 (.mkSlice 1 iZ 24 (.list true 0 []) (.t 19) (.t 19)),o 21 (.build [.list true 0 [],.list true 0 []] [(0,1,.t 16),(1,1,.t 20)]),o 4 (.alloc [.own 1 jW [],.own 1 iZ []]),aO 2 4 21]
abbrev yvk:zR:=[aL 11 4 1,aW 12 tn 11,ab 3 12]
abbrev yvl:zR:=[o 1 (.box 4 (.t 0)),o 2 (.alloc [.own 1 jW [],.own 1 iZ []])]
abbrev YY:aA:=⟨.seq (.ae yvl) (.seq (.ae yvk) (.seq (.fv [[],[0],[1],[2,2],[],[4],[5],[6,6],[3,7],[],[9,8,0,1,2,3,4,5,6,7,8,9]] CM) (.seq (.seq (.ae Rr) (.block 0 G_ (.loop yy Cm))) (.seq (.ae Hx) .ret)))),80,[.cell 2 true 2]⟩
abbrev TE:zI:=[.inBlock 1 [],.code (.ae TP),.inLoop yy Cm,.inBlock 0 G_,.code (.seq (.ae Hx) .ret)]
abbrev yvn(x2 x3 x4 x5 x23 x24 x25 x36 x37 x38:AV)(h:List Ob)(e:Cx:=cx):an:=aY m4 (.code HY::.inLoop Tl HY::.inBlock 2 yy::TE) (U::U::x2::x3::x4::x5::(by(iterate 17 refine U::?_);exact x23::x24::x25::U::U::U::U::U::U::U::U::U::U::x36::x37::x38::(by(iterate 41 refine U::?_);exact[]))) h e
abbrev yvo(x2 x3 x4 x23 x24 x25:AV)(h:List Ob)(e:Cx:=cx):an:=aY m4 TE (U::U::x2::x3::x4::(by(iterate 18 refine U::?_);exact x23::x24::x25::(by(iterate 54 refine U::?_);exact[]))) h e
abbrev yvp:zI:=[.code (.seq (.ae Hx) .ret)]
abbrev HA(x2 x3 x4 x23 x24 x25:AV)(h:List Ob)(e:Cx:=cx):an:=aY m4 (.code Cm::.inLoop yy Cm::.inBlock 0 G_::yvp) (U::U::x2::x3::x4::(by(iterate 18 refine U::?_);exact x23::x24::x25::(by(iterate 54 refine U::?_);exact[]))) h e
@[simp] theorem W7:az Tryz.prog m4=some YY:=by kernel_rfl
@[simp] theorem ayG:ar Tryz.prog m4=true:=by kernel_rfl
abbrev yvr:zR:=[ab 7 0,ab 8 0,o 9 (.invoke (.t 8) "Len" []),o 10 (.bK .sub (.t 9) (.c (.int .i64 1))),cM 11 vR 7 10]
abbrev yvs:zR:=[ab 4 0,ab 5 1,o 6 (.invoke (.t 4) "Push" [.t 5])]
abbrev U_:aA:=⟨.seq (.ae yvs) (.ae yvr),12,[]⟩
@[simp] theorem UT:az Tryz.prog vN=some U_:=by kernel_rfl
@[simp] theorem axg:ar Tryz.prog vN=true:=by kernel_rfl
abbrev yvt:zR:=[ab 3 0,aQ 4 3,ab 2 4]
abbrev V8:aA:=⟨.seq (.ae ze) (.seq (.ae yvt) .ret),5,[.tmp 2]⟩
@[simp] theorem J4:az Tryz.prog te=some V8:=by kernel_rfl
@[simp] theorem axV:ar Tryz.prog te=true:=by kernel_rfl
abbrev yvv:zR:=[ab 13 0,o 14 (.invoke (.t 13) "Pop" []),ab 2 14]
abbrev yvw:zR:=[ab 10 0,ab 11 3,o 12 (.call (.f vO) [.t 10,.c (.int .i64 0),.t 11])]
abbrev yvx:zR:=[ab 7 0,ab 8 3,o 9 (.invoke (.t 7) "Swap" [.c (.int .i64 0),.t 8])]
abbrev yvy:zR:=[ab 4 0,o 5 (.invoke (.t 4) "Len" []),o 6 (.bK .sub (.t 5) (.c (.int .i64 1))),ab 3 6]
abbrev S3:zR:=[o 2 (.mv (.c .er))]
abbrev Vp:aA:=⟨.seq (.ae S3) (.seq (.ae yvy) (.seq (.ae yvx) (.seq (.ae yvw) (.seq (.ae yvv) .ret)))),15,[.tmp 2]⟩
@[simp] theorem U6:az Tryz.prog zJ=some Vp:=by kernel_rfl
@[simp] theorem axk:ar Tryz.prog zJ=true:=by kernel_rfl
abbrev yvA:zR:=[ab 4 0,o 5 (.mj (.t 4)),aj 6 1 1,o 7 (.cmp .neq (.sc .int) (.t 5) (.t 6)),ab 8 7,on 9 8 (.mv (.t 0)),on 10 8 (.call (.f tm) [.t 9,.c (.str [48,49,45])]),on 11 8 (.cmp .neq (.sc .str) (.t 10) (.c (.str []))),o 12 (.pick (.t 8) (.c (.bool true)) (.t 11)),ab 3 12]
abbrev V_:aA:=⟨.seq (.ae yS) (.seq (.ae yvA) .ret),13,[.tmp 3]⟩
@[simp] theorem VJ:az Tryz.prog zQ=some V_:=by kernel_rfl
@[simp] theorem axZ:ar Tryz.prog zQ=true:=by kernel_rfl
@[simp] theorem ax6:ar Tryz.prog tm=true:=by kernel_rfl
abbrev yvC:zR:=[ab 5 0,ab 6 1,cM 7 s8 5 6,o 8 (.cmp .geq (.sc .int) (.t 7) (.c (.int .i64 0))),ab 4 8]
abbrev Um:aA:=⟨.seq (.ae jQ) (.seq (.ae yvC) .ret),9,[.tmp 4]⟩
@[simp] theorem Ug:az Tryz.prog zA=some Um:=by kernel_rfl
@[simp] theorem awV:ar Tryz.prog zA=true:=by kernel_rfl
abbrev C3:zR:=[o 92 (.build [.int .i64 0,.int .i64 0,.int .i64 0] [(0,1,.c (.int .i64 4)),(2,1,.c (.int .i64 2))]),o 93 (.lit 3 [.agg [.int .i64 0,.int .i64 0,.int .i64 0]] [(0,.t 92)]),aL 94 2 6,o 95 (.lit 2 [.agg [.int .i64 0,.int .i64 0]] [(0,.t 94)]),ab 96 13,cM 97 rz 95 96,ab 98 14,o 99 (.lit 1 [.list true 0 [],.list true 0 [],.list true 0 []] [(0,.t 93),(1,.t 97),(2,.t 98)]),aW 100 sZ 99,ab 2 100]
abbrev Cu:zR:=[aj 87 1 1,aW 88 oE 87,aj 89 1 11,cM 90 p4 88 89,aW 91 iC 90,ab 14 91]
abbrev y8:zR:=[aj 79 1 1,aW 80 oE 79,ab 81 12,cM 82 p4 80 81,aL 83 2 6,o 84 (.lit 2 [.agg [.int .i64 0,.int .i64 0]] [(0,.t 83)]),cM 85 p7 82 84,aW 86 iC 85,ab 13 86]
abbrev Q':zR:=[o 78 (.fO (.func vW) [] [.t 11]),ab 12 78]
abbrev TD:zR:=[aL 76 2 6,aW 77 wu 76,o 11 (.alloc [.c9]),aO 1 11 77]
abbrev QG:zR:=[ab 75 8,ab 2 75]
abbrev QA:zB:=O::O::O::O::O::O::O::O::I::(by(iterate 53 refine O::?_);exact I::I::I::(by(iterate 36 refine O::?_);exact[]))
abbrev TH:zB:=O::O::O::O::O::O::O::O::I::(by(iterate 92 refine O::?_);exact[])
abbrev yvM:zR:=[bB 74 64 1,ab 64 74]
abbrev yvN:zR:=[ab 68 8,ab 69 10,aW 70 th 69,aW 71 zC 70,o 72 (.call (.f rz) [.t 71,.c (.list true 0 [])]),o 73 (.append 3 aU 24 (.t 68) (.t 72)),ab 8 73]
abbrev yvO:zR:=[a_ 66 1 62 64,aj 67 1 66,ab 10 67]
abbrev yvP:ah:=.seq (.ae yvO) (.ae yvN)
abbrev yvQ:zR:=[cN 65 64 63]
abbrev I3:ah:=.seq (.ae yvQ) (.seq (.cond (.t 65) .skip (.exit 3)) (.seq (.block 4 [] yvP) (.ae yvM)))
abbrev yvS:zR:=[aj 62 1 1,aQ 63 62,aN 64 0]
abbrev yvT:zR:=[aj 58 1 1,aQ 59 58,o 60 (.build [.int .i64 0,.int .i64 0,.int .i64 0] [(0,1,.c (.int .i64 4)),(2,1,.t 59)]),o 61 (.lit 3 [.agg [.int .i64 0,.int .i64 0,.int .i64 0]] [(0,.t 60)]),ab 8 61]
abbrev yvU:ah:=.seq (.ae yvT) (.seq (.seq (.ae yvS) (.block 3 TH (.loop QA I3))) (.seq (.ae QG) .ret))
abbrev yvV:zR:=[ab 56 7,o 57 (.cmp .lss (.sc .int) (.t 56) (.c (.int .i64 2)))]
abbrev yvW:zR:=[aj 52 1 1,aW 53 tv 52,ab 51 53,ba 54 51 0,ba 55 51 1,o 6 (.alloc [.int .i64 0,.int .i64 0]),aO 2 6 54,ab 7 55]
abbrev yvX:zR:=[aj 45 1 4,aj 46 1 1,aj 47 1 4,cM 48 p7 46 47,aW 49 iC 48,cM 50 rz 45 49,ab 2 50]
abbrev yvY:ah:=.seq (.aS [I,O,O,O,O,O,O] [6,4,4,5,6,8,8] yvX) .ret
abbrev yvZ:zR:=[aj 42 1 4,aQ 43 42,o 44 (.cmp .gtr (.sc .int) (.t 43) (.c (.int .i64 0)))]
abbrev Dg:zR:=[o 5 (.alloc [.int .i64 0,.int .i64 0]),aO 2 5 31]
abbrev ywb:zR:=[aj 38 1 4,aL 39 2 5,o 40 (.lit 2 [.agg [.int .i64 0,.int .i64 0]] [(0,.t 39)]),o 41 (.append 2 lr 16 (.t 38) (.t 40)),aO 1 4 41]
abbrev ywc:zR:=[aj 32 1 1,aL 33 2 5,cM 34 tu 32 33,aj 35 1 1,aQ 36 35,o 37 (.cmp .eql (.sc .int) (.t 34) (.t 36))]
abbrev ywd:ah:=.seq (.aS [O,O,O,I,O,O] [3,3,7,7,7,7] ywc) (.cond (.t 37) (.ae ywb) .skip)
abbrev CP:ah:=.block 2 [] ywd
abbrev ywf:ah:=.rangeFunc (.t 30) [31] (O::I::I::O::I::(by(iterate 96 refine O::?_);exact[])) (.ae Dg) CP
abbrev ywg:zR:=[aj 27 1 1,o 28 (.jA 1 (.t 27) (.c (.int .i64 0))),aj 29 1 28,aW 30 th 29]
abbrev ywh:zR:=[o 4 (.alloc [.own 2 lr []])]
abbrev ywi:zR:=[o 19 (.build [.int .i64 0,.int .i64 0,.int .i64 0] [(0,1,.c (.int .i64 0))]),o 20 (.lit 3 [.agg [.int .i64 0,.int .i64 0,.int .i64 0]] [(0,.t 19)]),ab 2 20]
abbrev ywj:zR:=[o 25 (.build [.int .i64 0,.int .i64 0,.int .i64 0] [(0,1,.c (.int .i64 1))]),o 26 (.lit 3 [.agg [.int .i64 0,.int .i64 0,.int .i64 0]] [(0,.t 25)]),ab 2 26]
abbrev ywk:ah:=.seq (.ae ywj) .ret
abbrev ywl:zR:=[aj 22 1 1,ab 23 3,cM 24 p3 22 23,ab 21 24]
abbrev ywm:ah:=.seq (.ae ywi) .ret
abbrev ywn:ah:=.seq (.ae ywl) (.cond (.t 21) ywk .skip)
abbrev ywo:zR:=[aj 16 1 1,aQ 17 16,o 18 (.cmp .eql (.sc .int) (.t 17) (.c (.int .i64 0))),ab 15 18]
abbrev ywp:ah:=.seq (.ae ywo) (.cond (.t 15) ywm ywn)
abbrev ywq:zR:=[o 3 (.mv (.f zO))]
abbrev ywr:zR:=[o 1 (.box 1 (.t 0)),o 2 (.bC 3 aU)]
abbrev Xs:aA:=⟨.seq (.ae ywr) (.seq (.ae ywq) (.seq (.block 0 [] ywp) (.seq (.ae ywh) (.seq (.seq (.ae ywg) (.block 1 [] ywf)) (.seq (.seq (.ae yvZ) (.cond (.t 44) yvY .skip)) (.seq (.ae yvW) (.seq (.seq (.ae yvV) (.cond (.t 57) yvU .skip)) (.seq (.ae TD) (.seq (.ae Q') (.seq (.aS [I,I,O,I,O,O,O,O,O] [7,7,7,7,6,7,8,10,10] y8) (.seq (.aS [O,O,I,O,O,O] [2,4,4,5,7,7] Cu) (.seq (.ae C3) .ret)))))))))))),101,[.tmp 2]⟩
abbrev yws:zI:=[.code (.seq (.ae QG) .ret),.code (.seq (.ae TD) (.seq (.ae Q') (.seq (.aS [I,I,O,I,O,O,O,O,O] [7,7,7,7,6,7,8,10,10] y8) (.seq (.aS [O,O,I,O,O,O] [2,4,4,5,7,7] Cu) (.seq (.ae C3) .ret)))))]
abbrev ywt(x8 x62 x63 x64:AV)(h:List Ob)(e:Cx:=cx):an:=aY iC (.code I3::.inLoop QA I3::.inBlock 3 TH::yws) (U::U::U::U::U::U::U::U::x8::(by(iterate 53 refine U::?_);exact x62::x63::x64::(by(iterate 36 refine U::?_);exact[]))) h e
@[simp] theorem fe:az Tryz.prog iC=some Xs:=by kernel_rfl
@[simp] theorem ax7:ar Tryz.prog iC=true:=by kernel_rfl
abbrev ywu:zR:=[ab 5 0,ab 6 1,o 7 (.call (.f s_) [.t 5,.t 6,.c (.int .i64 0)]),ab 4 7]
abbrev Vr:aA:=⟨.seq (.ae mN) (.seq (.ae ywu) .ret),8,[.tmp 4]⟩
@[simp] theorem Vd:az Tryz.prog ta=some Vr:=by kernel_rfl
@[simp] theorem axB:ar Tryz.prog ta=true:=by kernel_rfl
abbrev yww:zR:=[ab 5 0,ab 6 1,o 7 (.call (.f s_) [.t 5,.t 6,.c (.int .i64 1)]),o 8 (.bK .xor (.t 7) (.c (.int .i64 1))),ab 4 8]
abbrev Vt:aA:=⟨.seq (.ae mN) (.seq (.ae yww) .ret),9,[.tmp 4]⟩
@[simp] theorem Vf:az Tryz.prog tc=some Vt:=by kernel_rfl
@[simp] theorem axt:ar Tryz.prog tc=true:=by kernel_rfl
abbrev Sa:zR:=[ab 49 3,ab 2 49]
abbrev SY:zB:=O::I::O::I::(by(iterate 16 refine O::?_);exact I::I::I::(by(iterate 27 refine O::?_);exact[]))
abbrev RO:zB:=O::O::O::I::(by(iterate 46 refine O::?_);exact[])
abbrev ywB:zR:=[bB 48 22 1,ab 22 48]
abbrev ywC:zR:=[ab 38 3,o 39 (.cv (.t 38)),al 40 5 39,aj 41 1 40,aL 42 2 5,aL 43 5 1,aW 44 lu 43,ab 45 4,o 46 (.bK .add (.t 44) (.t 45)),o 47 (.bK .mul (.c (.int .i64 2)) (.t 46)),q (.bI (.ja [.int,.int]) (.t 41) (.t 42) (.t 47))]
abbrev ywD:zR:=[ab 36 7,o 37 (.not (.t 36))]
abbrev ywE:zR:=[ab 28 3,o 29 (.cv (.t 28)),al 30 5 29,aj 31 1 30,aL 32 2 5,o 33 (.lookup (.ja [.int,.int]) (.int .i64 0) (.t 31) (.t 32) true),ab 27 33,ba 34 27 0,ba 35 27 1,ab 6 34,ab 7 35]
abbrev ywF:zR:=[ab 24 22,a_ 25 2 20 22,aL 26 2 25,o 5 (.alloc [.int .i64 0,.int .i64 0]),ab 4 24,aO 2 5 26]
abbrev ywG:ah:=.seq (.ae ywF) (.seq (.aS [O,O,O,O,O,O,O,O,O,O,O] [12,12,12,12,12,12,12,12,12,12,12] ywE) (.seq (.ae ywD) (.cond (.t 37) (.aS [O,O,O,I,I,O,O,O,O,O,O] [11,11,11,11,11,7,11,11,11,11,12] ywC) .skip)))
abbrev ywH:zR:=[cN 23 22 21]
abbrev HK:ah:=.seq (.ae ywH) (.seq (.cond (.t 23) .skip (.exit 0)) (.seq (.block 1 [] ywG) (.ae ywB)))
abbrev ywJ:zR:=[al 19 3 1,aj 20 1 19,aQ 21 20,aN 22 0]
abbrev ywK:zR:=[ab 12 3,al 13 3 1,aj 14 1 13,aW 15 zD 14,o 16 (.cv (.t 12)),al 17 0 16,al 18 3 17,aO 1 18 15]
abbrev ywL:zR:=[aL 8 5 1,o 9 (.mkMap),o 10 (.build [.int .i64 0,.list true 0 [],.list true 0 [],.list true 0 [],.list true 0 [],.c_,.list true 0 []] [(0,5,.t 8),(5,1,.t 9)]),o 11 (.box 7 (.t 10)),ab 3 11]
abbrev aax:aA:=⟨.seq (.ae SU) (.seq (.ae ywL) (.seq (.ae ywK) (.seq (.seq (.ae ywJ) (.block 0 RO (.loop SY HK))) (.seq (.ae Sa) .ret)))),50,[.tmp 2]⟩
abbrev ywN:zI:=[.code (.seq (.ae Sa) .ret)]
abbrev ywO(x1 x3 x20 x21 x22:AV)(h:List Ob)(e:Cx:=cx):an:=aY rC (.code HK::.inLoop SY HK::.inBlock 0 RO::ywN) (U::x1::U::x3::(by(iterate 16 refine U::?_);exact x20::x21::x22::(by(iterate 27 refine U::?_);exact[]))) h e
@[simp] theorem Ky:az Tryz.prog rC=some aax:=by kernel_rfl
@[simp] theorem ayW:ar Tryz.prog rC=true:=by kernel_rfl
abbrev ywP:zR:=[o 5 (.lit 1 [] []),ab 6 0,o 7 (.append 1 aq 8 (.t 5) (.t 6)),ab 2 7]
abbrev Ja:zR:=[o 2 (.bC 1 aq)]
abbrev ywR:ah:=.seq (.ae Ja) .ret
abbrev U7:aA:=⟨.seq (.ae Ja) (.seq (.seq (.ae Co) (.cond (.t 4) ywR .skip)) (.seq (.ae ywP) .ret)),8,[.tmp 2]⟩
@[simp] theorem UQ:az Tryz.prog zF=some U7:=by kernel_rfl
@[simp] theorem axc:ar Tryz.prog zF=true:=by kernel_rfl
abbrev TL:zR:=[ab 24 5,ab 4 24]
abbrev RX:zB:=[O,O,O,O,O,I,I,O,O,O,O,I,I,I,O,O,O,O,O,O,O,O,O,O,O]
abbrev Qt:zB:=O::O::O::O::O::I::(by(iterate 19 refine O::?_);exact[])
abbrev ywX:zR:=[bB 23 13 1,ab 13 23]
abbrev ywY:zR:=[ab 17 5,ab 18 6,ab 19 8,o 20 (.call (.t 18) [.t 19]),o 21 (.lit 1 [.int .i64 0] [(0,.t 20)]),o 22 (.append 1 aq 8 (.t 17) (.t 21)),ab 5 22]
abbrev ywZ:zR:=[a_ 15 1 11 13,aj 16 1 15,ab 8 16]
abbrev yxa:ah:=.seq (.ae ywZ) (.ae ywY)
abbrev Jc:ah:=.seq (.ae u6) (.seq (.cond (.t 14) .skip (.exit 0)) (.seq (.block 1 [] yxa) (.ae ywX)))
abbrev yxd:zR:=[ab 11 1,aQ 12 11,aN 13 0]
abbrev yxe:zR:=[ab 9 0,o 10 (.fO (.func nM) [.t 9] []),ab 6 10]
abbrev yxf:zR:=[o 5 (.bC 1 aq)]
abbrev V2:aA:=⟨.seq (.ae IN) (.seq (.ae yxf) (.seq (.ae yxe) (.seq (.seq (.ae yxd) (.block 0 Qt (.loop RX Jc))) (.seq (.ae TL) .ret)))),25,[.tmp 4]⟩
abbrev yxh:zI:=[.code (.seq (.ae TL) .ret)]
abbrev TG(x5 x6 x11 x12 x13:AV)(h:List Ob)(e:Cx:=cx):an:=aY rr (.code Jc::.inLoop RX Jc::.inBlock 0 Qt::yxh) [U,U,U,U,U,x5,x6,U,U,U,U,x11,x12,x13,U,U,U,U,U,U,U,U,U,U,U] h e
@[simp] theorem J1:az Tryz.prog rr=some V2:=by kernel_rfl
@[simp] theorem axN:ar Tryz.prog rr=true:=by kernel_rfl
abbrev yxp:zR:=[ab 11 1,ab 12 0,ab 13 5,a_ 14 5 12 13,aL 15 5 14,o 16 (.call (.t 11) [.t 15])]
abbrev yxr:ah:=.seq (.ae I9) (.seq (.ae yxp) (.cond (.t 16) HW .skip))
abbrev I2:ah:=.seq (.ae C8) (.seq (.cond (.t 9) .skip (.exit 0)) (.seq (.block 1 [] yxr) (.ae IA)))
abbrev Uc:aA:=⟨.seq (.ae mN) (.seq (.seq (.ae y0) (.block 0 mT (.loop qQ I2))) (.seq (.ae u_) .ret)),19,[.tmp 4]⟩
abbrev yxx(x0 x1 x7 x8:AV)(h:List Ob)(e:Cx:=cx):an:=aY vI (.code I2::.inLoop qQ I2::.inBlock 0 mT::Dc) [x0,x1,U,U,U,U,U,x7,x8,U,U,U,U,U,U,U,U,U,U] h e
@[simp] theorem T_:az Tryz.prog vI=some Uc:=by kernel_rfl
@[simp] theorem awQ:ar Tryz.prog vI=true:=by kernel_rfl
abbrev yxy:zR:=[ab 4 0,o 5 (.cmp .neq (.sc .str) (.t 4) (.c (.str []))),ab 6 5,cD 7 6 0,oy 8 6 (.mj (.t 7)),oy 9 6 (.cmp .leq (.sc .int) (.t 8) (.c (.int .i64 40))),bO 10 6 9,ab 11 10,cD 12 11 0,cD 13 11 3,oy 14 11 (.call (.f zK) [.t 12,.t 13]),oy 15 11 (.cmp .lss (.sc .int) (.t 14) (.c (.int .i64 0))),bO 16 11 15,ab 2 16]
abbrev yxz:zR:=[o 3 (.mv (.f rm))]
abbrev VI:aA:=⟨.seq (.ae jR) (.seq (.ae yxz) (.seq (.ae yxy) .ret)),17,[.tmp 2]⟩
@[simp] theorem Vh:az Tryz.prog zL=some VI:=by kernel_rfl
@[simp] theorem axF:ar Tryz.prog zL=true:=by kernel_rfl
abbrev yxB:zR:=[ab 4 0,al 5 2 1,aj 6 1 5,aQ 7 6,cM 8 AI 4 7,o 9 (.not (.t 8)),ab 3 9]
abbrev YM:aA:=⟨.seq (.ae yS) (.seq (.ae yxB) .ret),10,[.tmp 3]⟩
@[simp] theorem WW:az Tryz.prog Ab=some YM:=by kernel_rfl
@[simp] theorem ayO:ar Tryz.prog Ab=true:=by kernel_rfl
abbrev yxD:zR:=[ab 5 0,o 6 (.mj (.t 5)),ab 7 1,o 8 (.cmp .eql (.sc .int) (.t 6) (.t 7)),ab 9 8,cD 10 9 0,oy 11 9 (.call (.f tm) [.t 10,.c (.str [48,49,45])]),oy 12 9 (.cmp .eql (.sc .str) (.t 11) (.c (.str []))),bO 13 9 12,ab 4 13]
abbrev aeO:aA:=⟨.seq (.ae jQ) (.seq (.ae yxD) .ret),14,[.tmp 4]⟩
@[simp] theorem aaJ:az Tryz.prog AI=some aeO:=by kernel_rfl
@[simp] theorem azG:ar Tryz.prog AI=true:=by kernel_rfl
abbrev yxF:zR:=[ab 13 6,ab 14 13,cD 15 14 1,oy 16 14 (.gM 2 1 (.t 5) (.c (.int .i64 0))),cT 17 14 1 16,oy 18 14 (.cmp .geq (.sc .int) (.t 15) (.t 17)),bO 19 14 18,ab 20 19,cD 21 20 1,oy 22 20 (.gM 2 1 (.t 5) (.c (.int .i64 1))),cT 23 20 1 22,oy 24 20 (.cmp .leq (.sc .int) (.t 21) (.t 23)),bO 25 20 24,ab 4 25]
abbrev yxG:zR:=[o 8 (.load false 1 (.g 1)),ab 9 0,o 10 (.lookup (.sc .int) (.agg [.int .i64 0,.int .i64 0]) (.t 8) (.t 9) true),ab 7 10,ba 11 7 0,ba 12 7 1,o 5 (.alloc [.int .i64 0,.int .i64 0]),aO 2 5 11,ab 6 12]
abbrev aei:aA:=⟨.seq (.ae jQ) (.seq (.ae yxG) (.seq (.ae yxF) .ret)),26,[.tmp 4]⟩
@[simp] theorem LV:az Tryz.prog tX=some aei:=by kernel_rfl
@[simp] theorem azI:ar Tryz.prog tX=true:=by kernel_rfl
abbrev yxO:zR:=[ab 11 1,ab 12 0,ab 13 5,a_ 14 1 12 13,aj 15 1 14,o 16 (.call (.t 11) [.t 15])]
abbrev yxQ:ah:=.seq (.ae I9) (.seq (.ae yxO) (.cond (.t 16) HW .skip))
abbrev vd:ah:=.seq (.ae C8) (.seq (.cond (.t 9) .skip (.exit 0)) (.seq (.block 1 [] yxQ) (.ae IA)))
abbrev UG:aA:=⟨.seq (.ae mN) (.seq (.seq (.ae y0) (.block 0 mT (.loop qQ vd))) (.seq (.ae u_) .ret)),19,[.tmp 4]⟩
abbrev yxW(x0 x1 x7 x8:AV)(h:List Ob)(e:Cx:=cx):an:=aY vK (.code vd::.inLoop qQ vd::.inBlock 0 mT::Dc) [x0,x1,U,U,U,U,U,x7,x8,U,U,U,U,U,U,U,U,U,U] h e
@[simp] theorem UB:az Tryz.prog vK=some UG:=by kernel_rfl
@[simp] theorem aw5:ar Tryz.prog vK=true:=by kernel_rfl
abbrev Uj:aA:=⟨.seq (.ae mN) (.seq (.seq (.ae y0) (.block 0 mT (.loop qQ vd))) (.seq (.ae u_) .ret)),19,[.tmp 4]⟩
abbrev RM(x0 x1 x7 x8:AV)(h:List Ob)(e:Cx:=cx):an:=aY rj (.code vd::.inLoop qQ vd::.inBlock 0 mT::Dc) [x0,x1,U,U,U,U,U,x7,x8,U,U,U,U,U,U,U,U,U,U] h e
@[simp] theorem JI:az Tryz.prog rj=some Uj:=by kernel_rfl
@[simp] theorem awU:ar Tryz.prog rj=true:=by kernel_rfl
abbrev yym:zR:=[o 7 (.alloc [.int .i64 0,.int .i64 0]),aO 2 7 28]
abbrev yyn:zR:=[ab 6 27]
abbrev yyo:zR:=[aj 29 1 2,aL 30 5 1,aW 31 lu 30,ab 32 6,o 33 (.bK .add (.t 31) (.t 32)),a_ 34 1 29 33,aj 35 1 34,ab 36 35,cT 37 36 1 3,oy 38 36 (.gM 2 1 (.t 7) (.c (.int .i64 0))),cT 39 36 1 38,oy 40 36 (.call (.t 37) [.t 39]),oy 41 36 (.not (.t 40)),cD 42 36 41,on 43 42 (.load false 1 (.t 3)),on 44 42 (.gM 2 1 (.t 7) (.c (.int .i64 1))),on 45 42 (.load false 1 (.t 44)),on 46 42 (.call (.t 43) [.t 45]),on 47 42 (.not (.t 46)),oy 48 36 (.pick (.t 42) (.c (.bool true)) (.t 47)),bO 49 36 48]
abbrev yyp:ah:=.seq (.aS (I::(by(iterate 20 refine O::?_);exact[])) [12,3,12,12,12,12,12,12,12,12,12,18,18,18,18,18,18,22,22,22,22] yyo) (.cond (.t 49) .ret .skip)
abbrev IS:ah:=.seq (.ae yyn) (.ae yym)
abbrev Jj:ah:=.block 3 [] yyp
abbrev R':ah:=.rangeFunc (.t 26) [27,28] (O::I::I::I::(by(iterate 46 refine O::?_);exact[])) IS Jj
abbrev Rv:zR:=[al 24 3 1,aj 25 1 24,aW 26 DF 25]
abbrev Qs:zB:=O::I::I::I::O::O::O::O::O::O::O::O::O::I::I::I::(by(iterate 34 refine O::?_);exact[])
abbrev Td:zB:=O::I::I::I::(by(iterate 46 refine O::?_);exact[])
abbrev yyw:zR:=[bB 23 15 1,ab 15 23]
abbrev yyx:zR:=[aj 19 1 3,ab 20 5,o 21 (.call (.t 19) [.t 20]),o 22 (.not (.t 21))]
abbrev yyy:zR:=[a_ 17 1 13 15,aj 18 1 17,ab 5 18]
abbrev yyz:ah:=.seq (.ae yyy) (.seq (.ae yyx) (.cond (.t 22) .ret .skip))
abbrev yyA:zR:=[cN 16 15 14]
abbrev Iv:ah:=.seq (.ae yyA) (.seq (.cond (.t 16) .skip (.exit 0)) (.seq (.block 1 [] yyz) (.ae yyw)))
abbrev yyC:zR:=[al 8 1 1,aj 9 1 8,al 10 4 1,aj 11 1 10,o 12 (.lit 1 [.list true 0 [],.list true 0 []] [(0,.t 9),(1,.t 11)]),aW 13 p5 12,aQ 14 13,aN 15 0]
abbrev yyD:zR:=[o 3 (.box 1 (.t 0))]
abbrev WU:aA:=⟨.seq (.ae yyD) (.seq (.seq (.ae yyC) (.block 0 Td (.loop Qs Iv))) (.seq (.ae Rv) (.block 2 [] R'))),50,[]⟩
abbrev TJ:zI:=[.code (.seq (.ae Rv) (.block 2 [] R'))]
abbrev yyF(x1 x2 x3 x13 x14 x15:AV)(h:List Ob)(e:Cx:=cx):an:=aY oH (.code Iv::.inLoop Qs Iv::.inBlock 0 Td::TJ) (U::x1::x2::x3::U::U::U::U::U::U::U::U::U::x13::x14::x15::(by(iterate 34 refine U::?_);exact[])) h e
abbrev Hq(x1 x2 x3:AV)(h:List Ob)(e:Cx:=cx):an:=aY oH TJ (U::x1::x2::x3::(by(iterate 46 refine U::?_);exact[])) h e
@[simp] theorem V3:az Tryz.prog oH=some WU:=by kernel_rfl
@[simp] theorem ax5:ar Tryz.prog oH=true:=by kernel_rfl
abbrev yyL:zR:=[ab 31 6,ab 32 8,o 33 (.append 1 aq 8 (.t 31) (.t 32)),ab 6 33]
abbrev yyN:ah:=.seq (.ae Cv) (.ae yyL)
abbrev Cn:ah:=.seq (.ae u0) (.seq (.cond (.t 28) .skip (.exit 2)) (.seq (.block 3 [] yyN) (.ae CB)))
abbrev Rj:zR:=[ab 23 3,o 24 (.call (.f DK) [.c (.list true 0 []),.t 23]),ab 6 24]
abbrev UX:aA:=⟨.seq (.ae Ja) (.seq (.ae sJ) (.seq (.seq (.ae Cy) (.block 0 qX (.loop qW mU))) (.seq (.ae Rj) (.seq (.seq (.ae qP) (.block 2 mS (.loop mJ Cn))) (.seq (.ae pM) .ret))))),36,[.tmp 2]⟩
abbrev RQ(x6 x25 x26 x27:AV)(h:List Ob)(e:Cx:=cx):an:=aY p5 (.code Cn::.inLoop mJ Cn::.inBlock 2 mS::C0) (U::U::U::U::U::U::x6::(by(iterate 18 refine U::?_);exact[x25,x26,x27,U,U,U,U,U,U,U,U])) h e
abbrev yzh:zI:=[.code (.seq (.ae Rj) (.seq (.seq (.ae qP) (.block 2 mS (.loop mJ Cn))) (.seq (.ae pM) .ret)))]
abbrev SI(x0 x3 x9 x10 x11:AV)(h:List Ob)(e:Cx:=cx):an:=aY p5 (.code mU::.inLoop qW mU::.inBlock 0 qX::yzh) (x0::U::U::x3::U::U::U::U::U::x9::x10::x11::(by(iterate 24 refine U::?_);exact[])) h e
@[simp] theorem JP:az Tryz.prog p5=some UX:=by kernel_rfl
@[simp] theorem axa:ar Tryz.prog p5=true:=by kernel_rfl
abbrev yzj:zR:=[o 3 (.fO (.func vJ) [] [.t 1]),ab 2 3]
abbrev SV:zR:=[o 1 (.box 1 (.t 0)),o 2 (.mv (.c .c9))]
abbrev Uu:aA:=⟨.seq (.ae SV) (.seq (.ae yzj) .ret),4,[.tmp 2]⟩
@[simp] theorem Up:az Tryz.prog DF=some Uu:=by kernel_rfl
@[simp] theorem awZ:ar Tryz.prog DF=true:=by kernel_rfl
abbrev yzl:zR:=[al 29 0 6,aj 30 1 29,ab 31 1,o 32 (.call (.t 30) [.t 31]),al 33 1 6,aj 34 1 33,o 35 (.cmp .neq (.sc .bool) (.t 32) (.t 34)),ab 4 35,aN 5 0]
abbrev yzm:zR:=[o 27 (.fO (.func zX) [] [.t 2]),al 28 0 6,aO 1 28 27]
abbrev yzn:zR:=[al 24 4 2,aj 25 1 24,al 26 1 6,aO 1 26 25]
abbrev yzo:ah:=.seq (.ae yzn) (.ae yzm)
abbrev yzp:zR:=[al 21 1 2,aj 22 1 21,o 23 (.cmp .eql (.sc .int) (.t 22) (.c (.int .i64 10)))]
abbrev yzq:zR:=[al 18 1 2,aj 19 1 18,aW 20 AF 19,o 6 (.alloc [.c9,.bool false]),aO 2 6 20]
abbrev yzr:zR:=[lY 4,aN 5 1]
abbrev yzs:ah:=.seq (.ae yzr) .ret
abbrev yzt:zR:=[aL 7 5 2,aW 8 wG 7,o 9 (.not (.t 8)),ab 10 9,on 11 10 (.mv (.t 1)),on 12 10 (.len (.t 11)),on 13 10 (.off 2 (.t 2)),on 14 10 (.load false 1 (.t 13)),on 15 10 (.len (.t 14)),on 16 10 (.cmp .neq (.sc .int) (.t 12) (.t 15)),o 17 (.pick (.t 10) (.c (.bool true)) (.t 16))]
abbrev yzu:zR:=[o 2 (.box 5 (.t 0)),lY 4,aN 5 0]
abbrev ZO:aA:=⟨.seq (.ae yzu) (.seq (.seq (.ae yzt) (.cond (.t 17) yzs .skip)) (.seq (.ae yzq) (.seq (.seq (.ae yzp) (.cond (.t 23) yzo .skip)) (.seq (.aS [O,O,O,O,O,I,O,O,O] [4,4,4,10,10,10,10,10,10] yzl) .ret)))),36,[.tmp 4,.tmp 5]⟩
@[simp] theorem XM:az Tryz.prog Af=some ZO:=by kernel_rfl
@[simp] theorem azj:ar Tryz.prog Af=true:=by kernel_rfl
abbrev yzw:zR:=[ab 17 0,ab 18 0,o 19 (.cap (.t 18)),o 20 (.slice 1 (.t 17) none (some (.t 19))),ab 21 1,o 22 (.qh 1 aV 1 (.bool false) (.t 20) (.t 21)),ab 23 0,aQ 24 23,o 25 (.slice 1 (.t 22) none (some (.t 24))),ab 0 25]
abbrev UW:aA:=⟨.seq (.ae HQ) (.seq (.seq (.ae CO) (.cond (.t 6) (.ae De) .skip)) (.seq (.seq (.ae CU) (.seq (.ae CS) (.cond (.t 16) (.ae yzw) .skip))) (.seq (.ae Cj) .ret))),27,[.tmp 4]⟩
@[simp] theorem JQ:az Tryz.prog DI=some UW:=by kernel_rfl
@[simp] theorem axb:ar Tryz.prog DI=true:=by kernel_rfl
abbrev RU:zB:=I::I::(by(iterate 21 refine O::?_);exact[])
abbrev SD:zB:=(by(iterate 23 refine O::?_);exact[])
abbrev yzE:zR:=[ab 22 4,ab 1 22]
abbrev yzF:zR:=[ab 18 0,ab 19 4,ab 20 1,o 21 (.invoke (.t 18) "Swap" [.t 19,.t 20])]
abbrev yzG:zR:=[ab 8 4,ab 9 1,o 10 (.cmp .eql (.sc .int) (.t 8) (.t 9)),ab 11 10,on 12 11 (.mv (.t 0)),on 13 11 (.mv (.t 1)),on 14 11 (.mv (.t 4)),on 15 11 (.invoke (.t 12) "Less" [.t 13,.t 14]),on 16 11 (.not (.t 15)),o 17 (.pick (.t 11) (.c (.bool true)) (.t 16))]
abbrev yzH:zR:=[ab 5 1,o 6 (.bK .sub (.t 5) (.c (.int .i64 1))),o 7 (.bK .quo (.t 6) (.c (.int .i64 2))),ab 4 7]
abbrev yzI:ah:=.seq (.ae yzH) (.seq (.seq (.ae yzG) (.cond (.t 17) (.exit 0) .skip)) (.seq (.ae yzF) (.ae yzE)))
abbrev H8:ah:=.block 1 [] yzI
abbrev Vv:aA:=⟨.block 0 SD (.loop RU H8),23,[]⟩
abbrev yzL(x0 x1:AV)(h:List Ob)(e:Cx:=cx):an:=aY vR (.code H8::.inLoop RU H8::.inBlock 0 SD::y4) (x0::x1::(by(iterate 21 refine U::?_);exact[])) h e
@[simp] theorem U8:az Tryz.prog vR=some Vv:=by kernel_rfl
@[simp] theorem axs:ar Tryz.prog vR=true:=by kernel_rfl
abbrev Q4:zR:=[ab 45 7,ab 46 1,o 47 (.cmp .gtr (.sc .int) (.t 45) (.t 46)),ab 6 47]
abbrev Rh:zB:=I::I::I::O::O::O::O::I::(by(iterate 40 refine O::?_);exact[])
abbrev TF:zB:=O::I::O::O::O::O::O::I::(by(iterate 40 refine O::?_);exact[])
abbrev yzP:zR:=[ab 44 9,ab 7 44]
abbrev yzQ:zR:=[ab 40 0,ab 41 7,ab 42 9,o 43 (.invoke (.t 40) "Swap" [.t 41,.t 42])]
abbrev yzR:zR:=[ab 35 0,ab 36 9,ab 37 7,o 38 (.invoke (.t 35) "Less" [.t 36,.t 37]),o 39 (.not (.t 38))]
abbrev yzS:zR:=[ab 34 10,ab 9 34]
abbrev yzT:zR:=[ab 25 10,ab 26 2,cN 27 25 26,ab 28 27,cD 29 28 0,cD 30 28 10,cD 31 28 8,oy 32 28 (.invoke (.t 29) "Less" [.t 30,.t 31]),bO 33 28 32]
abbrev yzU:zR:=[ab 23 8,bB 24 23 1,ab 10 24]
abbrev yzV:zR:=[ab 22 8,ab 9 22]
abbrev yzW:zR:=[ab 15 8,ab 16 2,o 17 (.cmp .geq (.sc .int) (.t 15) (.t 16)),ab 18 17,on 19 18 (.mv (.t 8)),on 20 18 (.cmp .lss (.sc .int) (.t 19) (.c (.int .i64 0))),o 21 (.pick (.t 18) (.c (.bool true)) (.t 20))]
abbrev yzX:zR:=[ab 12 7,o 13 (.bK .mul (.c (.int .i64 2)) (.t 12)),bB 14 13 1,ab 8 14]
abbrev yzY:ah:=.seq (.ae yzX) (.seq (.seq (.ae yzW) (.cond (.t 21) (.exit 0) .skip)) (.seq (.ae yzV) (.seq (.seq (.ae yzU) (.seq (.ae yzT) (.cond (.t 33) (.ae yzS) .skip))) (.seq (.seq (.ae yzR) (.cond (.t 39) (.exit 0) .skip)) (.seq (.ae yzQ) (.ae yzP))))))
abbrev Jb:ah:=.block 1 [] yzY
abbrev yAa:zR:=[ab 11 1,ab 7 11]
abbrev Vc:aA:=⟨.seq (.ae yk) (.seq (.ae yAa) (.seq (.block 0 TF (.loop Rh Jb)) (.seq (.ae Q4) .ret))),48,[.tmp 6]⟩
abbrev yAc:zI:=[.code (.seq (.ae Q4) .ret)]
abbrev yAd(x0 x1 x2 x7:AV)(h:List Ob)(e:Cx:=cx):an:=aY vO (.code Jb::.inLoop Rh Jb::.inBlock 0 TF::yAc) (x0::x1::x2::U::U::U::U::x7::(by(iterate 40 refine U::?_);exact[])) h e
@[simp] theorem UU:az Tryz.prog vO=some Vc:=by kernel_rfl
@[simp] theorem axi:ar Tryz.prog vO=true:=by kernel_rfl
abbrev yAe:zR:=[ab 3 0,o 4 (.call (.f tm) [.t 3,.c (.str [45])]),o 5 (.cmp .eql (.sc .str) (.t 4) (.c (.str []))),ab 2 5]
abbrev Wa:aA:=⟨.seq (.ae jR) (.seq (.ae yAe) .ret),6,[.tmp 2]⟩
@[simp] theorem VF:az Tryz.prog zO=some Wa:=by kernel_rfl
@[simp] theorem axS:ar Tryz.prog zO=true:=by kernel_rfl
abbrev yAg:zR:=[o 3 (.fO (.func rq) [] [.t 1]),ab 2 3]
abbrev Wj:aA:=⟨.seq (.ae SV) (.seq (.ae yAg) .ret),4,[.tmp 2]⟩
@[simp] theorem VM:az Tryz.prog th=some Wj:=by kernel_rfl
@[simp] theorem axX:ar Tryz.prog th=true:=by kernel_rfl
abbrev Tj:zB:=[O,O,O,I,O,I,O,O,I,I,I,O,O,O,O,O,O,O,O,O,O,O]
abbrev yAm:zR:=[ab 18 5,bB 19 18 1,ab 5 19]
abbrev yAn:zR:=[aL 14 2 3,aW 15 wu 14,ab 16 7,o 17 (.call (.t 15) [.t 16])]
abbrev yAp:ah:=.seq (.ae SZ) (.seq (.ae yAn) (.cond (.t 17) (.ae yAm) .skip))
abbrev HJ:ah:=.seq (.ae Ir) (.seq (.cond (.t 11) .skip (.exit 0)) (.seq (.block 1 [] yAp) (.ae Tc)))
abbrev yAs:zR:=[ab 8 0,aQ 9 8,aN 10 0]
abbrev yAu:zR:=[o 3 (.box 2 (.t 1)),aN 4 0]
abbrev X6:aA:=⟨.seq (.ae yAu) (.seq (.ae qR) (.seq (.seq (.ae yAs) (.block 0 CX (.loop Tj HJ))) (.seq (.ae IQ) .ret))),22,[.tmp 4]⟩
abbrev yAw(x3 x5 x8 x9 x10:AV)(h:List Ob)(e:Cx:=cx):an:=aY tu (.code HJ::.inLoop Tj HJ::.inBlock 0 CX::Ti) [U,U,U,x3,U,x5,U,U,x8,x9,x10,U,U,U,U,U,U,U,U,U,U,U] h e
@[simp] theorem WN:az Tryz.prog tu=some X6:=by kernel_rfl
@[simp] theorem ayo:ar Tryz.prog tu=true:=by kernel_rfl
abbrev Rm:zR:=[ab 44 6,ab 45 1,o 46 (.append 3 aU 24 (.t 44) (.t 45)),ab 4 46]
abbrev RN:zB:=O::I::O::O::O::O::I::(by(iterate 25 refine O::?_);exact[I,I,I,O,O,O,O,O,O,O,O,O,O,O,O])
abbrev Ta:zB:=O::I::O::O::O::O::I::(by(iterate 40 refine O::?_);exact[])
abbrev yAA:zR:=[bB 43 34 1,ab 34 43]
abbrev yAB:zR:=[ab 38 6,aL 39 2 8,aW 40 zH 39,o 41 (.lit 3 [.agg [.int .i64 0,.int .i64 0,.int .i64 0]] [(0,.t 40)]),o 42 (.append 3 aU 24 (.t 38) (.t 41)),ab 6 42]
abbrev yAC:zR:=[a_ 36 2 32 34,aL 37 2 36,o 8 (.alloc [.int .i64 0,.int .i64 0]),aO 2 8 37]
abbrev yAD:ah:=.seq (.ae yAC) (.ae yAB)
abbrev IJ:ah:=.seq (.ae Su) (.seq (.cond (.t 35) .skip (.exit 0)) (.seq (.block 1 [] yAD) (.ae yAA)))
abbrev yAG:zR:=[ab 32 0,aQ 33 32,aN 34 0]
abbrev yAH:zR:=[ab 27 6,ab 28 5,o 29 (.build [.int .i64 0,.int .i64 0,.int .i64 0] [(0,1,.c (.int .i64 3)),(2,1,.t 28)]),o 30 (.lit 3 [.agg [.int .i64 0,.int .i64 0,.int .i64 0]] [(0,.t 29)]),o 31 (.append 3 aU 24 (.t 27) (.t 30)),ab 6 31]
abbrev yAI:zR:=[ab 25 5,o 26 (.cmp .gtr (.sc .int) (.t 25) (.c (.int .i64 1)))]
abbrev yAJ:zR:=[o 6 (.bC 3 aU)]
abbrev yAK:zR:=[ab 19 0,aQ 20 19,ab 21 1,aQ 22 21,o 23 (.min [.t 22,.c (.int .i64 1)]),o 24 (.bK .add (.t 20) (.t 23)),ab 5 24]
abbrev yAL:zR:=[o 1 (.bC 3 aU)]
abbrev yAM:zR:=[ab 9 1,aQ 10 9,o 11 (.cmp .eql (.sc .int) (.t 10) (.c (.int .i64 1))),ab 12 11,cD 13 12 1,oy 14 12 (.jA 3 (.t 13) (.c (.int .i64 0))),oy 15 12 (.off 0 (.t 14)),cT 16 12 1 15,oy 17 12 (.cmp .eql (.sc .int) (.t 16) (.c (.int .i64 1))),bO 18 12 17]
abbrev QS:zR:=[o 4 (.bC 3 aU)]
abbrev aam:aA:=⟨.seq (.ae QS) (.seq (.seq (.ae yAM) (.cond (.t 18) (.ae yAL) .skip)) (.seq (.ae yAK) (.seq (.ae yAJ) (.seq (.seq (.ae yAI) (.cond (.t 26) (.ae yAH) .skip)) (.seq (.seq (.ae yAG) (.block 0 Ta (.loop RN IJ))) (.seq (.ae Rm) .ret)))))),47,[.tmp 4]⟩
abbrev yAO:zI:=[.code (.seq (.ae Rm) .ret)]
abbrev yAP(x1 x6 x32 x33 x34:AV)(h:List Ob)(e:Cx:=cx):an:=aY rz (.code IJ::.inLoop RN IJ::.inBlock 0 Ta::yAO) (U::x1::U::U::U::U::x6::(by(iterate 25 refine U::?_);exact[x32,x33,x34,U,U,U,U,U,U,U,U,U,U,U,U])) h e
@[simp] theorem Yd:az Tryz.prog rz=some aam:=by kernel_rfl
@[simp] theorem azg:ar Tryz.prog rz=true:=by kernel_rfl
abbrev HD:zR:=[ab 36 5,ab 4 36]
abbrev Hw:zB:=O::I::O::O::O::I::O::O::O::O::O::I::I::I::(by(iterate 23 refine O::?_);exact[])
abbrev Jh:zB:=O::O::O::O::O::I::(by(iterate 31 refine O::?_);exact[])
abbrev Rx:zR:=[bB 35 13 1,ab 13 35]
abbrev RZ:zR:=[ab 30 5,ab 31 8,o 32 (.toStr (.t 31)),o 33 (.lit 1 [.str []] [(0,.t 32)]),o 34 (.append 1 aE 16 (.t 30) (.t 33)),ab 5 34]
abbrev R8:zB:=O::I::O::O::O::I::O::O::I::O::O::I::I::I::O::O::O::O::O::I::I::I::(by(iterate 15 refine O::?_);exact[])
abbrev Si:zB:=O::I::O::O::O::I::O::O::I::O::O::I::I::I::(by(iterate 23 refine O::?_);exact[])
abbrev yAX:zR:=[bB 29 21 1,ab 21 29]
abbrev yAY:zR:=[ab 25 8,o 26 (.gM 2 1 (.t 10) (.c (.int .i64 0))),aj 27 1 26,a_ 28 1 25 27,q (.store 1 (.t 28) (.c (.int .u8 45)))]
abbrev yAZ:zR:=[a_ 23 2 19 21,aL 24 2 23,o 10 (.alloc [.int .i64 0,.int .i64 0]),aO 2 10 24]
abbrev yBa:ah:=.seq (.ae yAZ) (.ae yAY)
abbrev yBb:zR:=[cN 22 21 20]
abbrev HL:ah:=.seq (.ae yBb) (.seq (.cond (.t 22) .skip (.exit 2)) (.seq (.block 3 [] yBa) (.ae yAX)))
abbrev yBd:zR:=[ab 19 1,aQ 20 19,aN 21 0]
abbrev yBe:zR:=[ab 17 7,o 18 (.xh Gf (.t 17)),ab 8 18]
abbrev yBg:ah:=.seq (.ae QO) (.seq (.ae yBe) (.seq (.seq (.ae yBd) (.block 2 Si (.loop R8 HL))) (.ae RZ)))
abbrev CV:ah:=.seq (.ae u6) (.seq (.cond (.t 14) .skip (.exit 0)) (.seq (.block 1 [] yBg) (.ae Rx)))
abbrev yBk:zR:=[o 5 (.bC 1 aE)]
abbrev Xi:aA:=⟨.seq (.ae I8) (.seq (.ae yBk) (.seq (.seq (.ae CZ) (.block 0 Jh (.loop Hw CV))) (.seq (.ae HD) .ret))),37,[.tmp 4]⟩
abbrev Rq:zI:=[.code (.ae RZ),.inBlock 1 [],.code (.ae Rx),.inLoop Hw CV,.inBlock 0 Jh,.code (.seq (.ae HD) .ret)]
abbrev yBn(x1 x5 x8 x11 x12 x13 x19 x20 x21:AV)(h:List Ob)(e:Cx:=cx):an:=aY p7 (.code HL::.inLoop R8 HL::.inBlock 2 Si::Rq) (U::x1::U::U::U::x5::U::U::x8::U::U::x11::x12::x13::U::U::U::U::U::x19::x20::x21::(by(iterate 15 refine U::?_);exact[])) h e
abbrev yBo(x1 x5 x8 x11 x12 x13:AV)(h:List Ob)(e:Cx:=cx):an:=aY p7 Rq (U::x1::U::U::U::x5::U::U::x8::U::U::x11::x12::x13::(by(iterate 23 refine U::?_);exact[])) h e
abbrev yBp:zI:=[.code (.seq (.ae HD) .ret)]
abbrev yBq(x1 x5 x11 x12 x13:AV)(h:List Ob)(e:Cx:=cx):an:=aY p7 (.code CV::.inLoop Hw CV::.inBlock 0 Jh::yBp) (U::x1::U::U::U::x5::U::U::U::U::U::x11::x12::x13::(by(iterate 23 refine U::?_);exact[])) h e
@[simp] theorem V7:az Tryz.prog p7=some Xi:=by kernel_rfl
@[simp] theorem ayc:ar Tryz.prog p7=true:=by kernel_rfl
abbrev Jk:zR:=[aL 36 2 4,ab 37 5,aO 2 2 36,ab 3 37]
abbrev yz:zB:=I::O::I::O::I::I::O::O::O::O::O::O::O::O::O::I::I::(by(iterate 21 refine O::?_);exact[])
abbrev HU:zB:=O::O::I::O::I::I::(by(iterate 32 refine O::?_);exact[])
abbrev Ts:zR:=[bB 35 16 1,ab 16 35]
abbrev QR:zB:=I::O::I::O::I::I::I::O::O::O::O::O::O::O::O::I::I::O::O::I::(by(iterate 18 refine O::?_);exact[])
abbrev yBx:zR:=[aL 33 2 9,ab 34 10,aO 2 4 33,ab 5 34]
abbrev yBy:zR:=[ab 30 10,ab 31 5,o 32 (.cmp .gtr (.sc .int) (.t 30) (.t 31))]
abbrev yBz:zR:=[ab 27 0,aL 28 2 9,cM 29 tu 27 28,ab 10 29]
abbrev yBA:zR:=[ab 23 6,ab 24 8,o 25 (.conv .i64 (.t 24)),o 26 (.build [.int .i64 0,.int .i64 0] [(0,1,.t 23),(1,1,.t 25)]),o 9 (.alloc [.int .i64 0,.int .i64 0]),aO 2 9 26]
abbrev yBB:zR:=[ba 22 20 2,ab 8 22]
abbrev yBC:ah:=.seq (.ae yBB) (.seq (.ae yBA) (.seq (.ae yBz) (.seq (.ae yBy) (.cond (.t 32) (.ae yBx) .skip))))
abbrev yBD:zR:=[o 20 (.next (.t 19)),ba 21 20 0]
abbrev G9:ah:=.seq (.ae yBD) (.seq (.cond (.t 21) .skip (.exit 2)) (.block 3 [] yBC))
abbrev yBF:zR:=[o 19 (.range (.c (.str [49,48])))]
abbrev yBG:zR:=[ab 18 16,ab 6 18]
abbrev yBH:ah:=.seq (.ae yBG) (.seq (.ae yBF) (.block 2 yz (.loop QR G9)))
abbrev Dd:ah:=.seq (.ae zi) (.seq (.cond (.t 17) .skip (.exit 0)) (.seq (.block 1 [] yBH) (.ae Ts)))
abbrev yBK:zR:=[ab 12 0,o 13 (.jA 1 (.t 12) (.c (.int .i64 0))),aj 14 1 13,o 15 (.mj (.t 14)),aN 16 0]
abbrev yBL:zR:=[o 11 (.build [.int .i64 0,.int .i64 0] []),o 4 (.alloc [.int .i64 0,.int .i64 0]),aO 2 4 11,aN 5 0]
abbrev yBM:zR:=[o 2 (.alloc [.int .i64 0,.int .i64 0]),aN 3 0]
abbrev Zz:aA:=⟨.seq (.ae yBM) (.seq (.ae yBL) (.seq (.seq (.ae yBK) (.block 0 HU (.loop yz Dd))) (.seq (.ae Jk) .ret))),38,[.cell 2 true 2,.tmp 3]⟩
abbrev yBN:zI:=[.inBlock 1 [],.code (.ae Ts),.inLoop yz Dd,.inBlock 0 HU,.code (.seq (.ae Jk) .ret)]
abbrev yBO(x0 x2 x4 x5 x6 x15 x16 x19:AV)(h:List Ob)(e:Cx:=cx):an:=aY tv (.code G9::.inLoop QR G9::.inBlock 2 yz::yBN) (x0::U::x2::U::x4::x5::x6::U::U::U::U::U::U::U::U::x15::x16::U::U::x19::(by(iterate 18 refine U::?_);exact[])) h e
abbrev yBP:zI:=[.code (.seq (.ae Jk) .ret)]
abbrev yBQ(x0 x2 x4 x5 x15 x16:AV)(h:List Ob)(e:Cx:=cx):an:=aY tv (.code Dd::.inLoop yz Dd::.inBlock 0 HU::yBP) (x0::U::x2::U::x4::x5::U::U::U::U::U::U::U::U::U::x15::x16::(by(iterate 21 refine U::?_);exact[])) h e
@[simp] theorem WZ:az Tryz.prog tv=some Zz:=by kernel_rfl
@[simp] theorem ayE:ar Tryz.prog tv=true:=by kernel_rfl
abbrev yBR:zR:=[ab 3 0,o 4 (.call (.f zy) [.c (.list true 0 []),.t 3]),ab 2 4]
abbrev yBS:zR:=[o 2 (.bC 2 lr)]
abbrev Us:aA:=⟨.seq (.ae yBS) (.seq (.ae yBR) .ret),5,[.tmp 2]⟩
@[simp] theorem Ui:az Tryz.prog zC=some Us:=by kernel_rfl
@[simp] theorem awX:ar Tryz.prog zC=true:=by kernel_rfl
abbrev yBT:zR:=[o 3 (.fO (.func oJ) [] [.t 1]),ab 2 3]
abbrev yBU:zR:=[o 1 (.box 2 (.t 0)),o 2 (.mv (.c .c9))]
abbrev abc:aA:=⟨.seq (.ae yBU) (.seq (.ae yBT) .ret),4,[.tmp 2]⟩
@[simp] theorem X7:az Tryz.prog wu=some abc:=by kernel_rfl
@[simp] theorem aze:ar Tryz.prog wu=true:=by kernel_rfl
abbrev yBV:zR:=[aj 4 1 1,ab 5 0,o 6 (.call (.t 4) [.t 5]),o 7 (.not (.t 6)),ab 3 7]
abbrev Wf:aA:=⟨.seq (.ae yS) (.seq (.ae yBV) .ret),8,[.tmp 3]⟩
@[simp] theorem VO:az Tryz.prog vW=some Wf:=by kernel_rfl
@[simp] theorem axY:ar Tryz.prog vW=true:=by kernel_rfl
abbrev SS:zR:=[ab 39 0,ab 40 5,o 41 (.slice 1 (.t 39) none (some (.t 40))),ab 4 41]
abbrev RL:zR:=[ab 36 0,ab 37 5,o 38 (.slice 1 (.t 36) (some (.t 37)) none),q (.clear 1 (.str []) (.t 38))]
abbrev Sl:zB:=I::I::O::O::O::I::I::(by(iterate 35 refine O::?_);exact[])
abbrev Qw:zB:=I::O::O::O::O::I::(by(iterate 36 refine O::?_);exact[])
abbrev yCb:zR:=[ab 20 6,bB 21 20 1,ab 6 21]
abbrev yCc:zR:=[ab 34 5,bB 35 34 1,ab 5 35]
abbrev yCd:zR:=[ab 30 0,ab 31 5,ab 32 7,a_ 33 1 30 31,aO 1 33 32]
abbrev yCe:ah:=.seq (.ae yCd) (.ae yCc)
abbrev yCf:zR:=[ab 26 1,ab 27 7,o 28 (.call (.t 26) [.t 27]),o 29 (.not (.t 28))]
abbrev yCg:zR:=[ab 22 0,ab 23 6,a_ 24 1 22 23,aj 25 1 24,ab 7 25]
abbrev yCh:ah:=.seq (.ae yCg) (.seq (.ae yCf) (.cond (.t 29) yCe .skip))
abbrev yCi:zR:=[ab 16 6,ab 17 0,aQ 18 17,cN 19 16 18]
abbrev H3:ah:=.seq (.seq (.ae yCi) (.cond (.t 19) .skip (.exit 0))) (.seq (.block 1 [] yCh) (.ae yCb))
abbrev yCk:zR:=[ab 14 5,bB 15 14 1,ab 6 15]
abbrev yCl:zR:=[ab 13 0,ab 4 13]
abbrev yCm:ah:=.seq (.ae yCl) .ret
abbrev yCn:zR:=[ab 11 5,o 12 (.cmp .eql (.sc .int) (.t 11) (.c (.int .i64 (-1))))]
abbrev yCo:zR:=[ab 8 0,ab 9 1,cM 10 rj 8 9,ab 5 10]
abbrev Uf:aA:=⟨.seq (.ae I8) (.seq (.ae yCo) (.seq (.seq (.ae yCn) (.cond (.t 12) yCm .skip)) (.seq (.seq (.ae yCk) (.block 0 Qw (.loop Sl H3))) (.seq (.ae RL) (.seq (.ae SS) .ret))))),42,[.tmp 4]⟩
abbrev yCq:zI:=[.code (.seq (.ae RL) (.seq (.ae SS) .ret))]
abbrev yCr(x0 x1 x5 x6:AV)(h:List Ob)(e:Cx:=cx):an:=aY p4 (.code H3::.inLoop Sl H3::.inBlock 0 Qw::yCq) (x0::x1::U::U::U::x5::x6::(by(iterate 35 refine U::?_);exact[])) h e
@[simp] theorem JG:az Tryz.prog p4=some Uf:=by kernel_rfl
@[simp] theorem awT:ar Tryz.prog p4=true:=by kernel_rfl
abbrev yCw:zR:=[ab 31 6,ab 32 8,o 33 (.append 3 aU 24 (.t 31) (.t 32)),ab 6 33]
abbrev yCy:ah:=.seq (.ae Cv) (.ae yCw)
abbrev Cq:ah:=.seq (.ae u0) (.seq (.cond (.t 28) .skip (.exit 2)) (.seq (.block 3 [] yCy) (.ae CB)))
abbrev So:zR:=[ab 23 3,o 24 (.call (.f DE) [.c (.list true 0 []),.t 23]),ab 6 24]
abbrev yCP:zR:=[o 2 (.bC 3 aU)]
abbrev Ub:aA:=⟨.seq (.ae yCP) (.seq (.ae sJ) (.seq (.seq (.ae Cy) (.block 0 qX (.loop qW mU))) (.seq (.ae So) (.seq (.seq (.ae qP) (.block 2 mS (.loop mJ Cq))) (.seq (.ae pM) .ret))))),36,[.tmp 2]⟩
abbrev yCR(x6 x25 x26 x27:AV)(h:List Ob)(e:Cx:=cx):an:=aY sZ (.code Cq::.inLoop mJ Cq::.inBlock 2 mS::C0) (U::U::U::U::U::U::x6::(by(iterate 18 refine U::?_);exact[x25,x26,x27,U,U,U,U,U,U,U,U])) h e
abbrev yCS:zI:=[.code (.seq (.ae So) (.seq (.seq (.ae qP) (.block 2 mS (.loop mJ Cq))) (.seq (.ae pM) .ret)))]
abbrev yCT(x0 x3 x9 x10 x11:AV)(h:List Ob)(e:Cx:=cx):an:=aY sZ (.code mU::.inLoop qW mU::.inBlock 0 qX::yCS) (x0::U::U::x3::U::U::U::U::U::x9::x10::x11::(by(iterate 24 refine U::?_);exact[])) h e
@[simp] theorem T7:az Tryz.prog sZ=some Ub:=by kernel_rfl
@[simp] theorem awP:ar Tryz.prog sZ=true:=by kernel_rfl
abbrev Rb:zR:=[ab 31 8,ab 6 31]
abbrev Sz:zB:=[I,O,O,O,O,O,O,I,I,O,O,O,O,O,O,O,O,O,I,I,I,O,O,O,O,O,O,O,O,O,O,O]
abbrev To:zB:=O::O::O::O::O::O::O::O::I::(by(iterate 23 refine O::?_);exact[])
abbrev yCX:zR:=[bB 30 20 1,ab 20 30]
abbrev yCY:zR:=[ab 24 0,ab 25 8,ab 26 7,ab 27 10,o 28 (.call (.t 26) [.t 27]),o 29 (.call (.f rp) [.t 24,.t 25,.t 28]),ab 8 29]
abbrev yCZ:zR:=[a_ 22 1 18 20,aj 23 1 22,ab 10 23]
abbrev yDa:ah:=.seq (.ae yCZ) (.ae yCY)
abbrev yDb:zR:=[cN 21 20 19]
abbrev Ji:ah:=.seq (.ae yDb) (.seq (.cond (.t 21) .skip (.exit 0)) (.seq (.block 1 [] yDa) (.ae yCX)))
abbrev yDd:zR:=[ab 17 1,o 18 (.slice 1 (.t 17) (some (.c (.int .i64 1))) none),aQ 19 18,aN 20 0]
abbrev yDe:zR:=[ab 12 7,ab 13 1,o 14 (.jA 1 (.t 13) (.c (.int .i64 0))),aj 15 1 14,o 16 (.call (.t 12) [.t 15]),ab 8 16]
abbrev yDf:zR:=[o 11 (.fO (.func vM) [] [.t 5]),ab 7 11]
abbrev yDg:zR:=[o 5 (.box 1 (.t 2)),aN 6 0]
abbrev Vq:aA:=⟨.seq (.ae yDg) (.seq (.ae yDf) (.seq (.ae yDe) (.seq (.seq (.ae yDd) (.block 0 To (.loop Sz Ji))) (.seq (.ae Rb) .ret)))),32,[.tmp 6]⟩
abbrev yDh:zI:=[.code (.seq (.ae Rb) .ret)]
abbrev yDi(x0 x7 x8 x18 x19 x20:AV)(h:List Ob)(e:Cx:=cx):an:=aY s_ (.code Ji::.inLoop Sz Ji::.inBlock 0 To::yDh) [x0,U,U,U,U,U,U,x7,x8,U,U,U,U,U,U,U,U,U,x18,x19,x20,U,U,U,U,U,U,U,U,U,U,U] h e
@[simp] theorem UY:az Tryz.prog s_=some Vq:=by kernel_rfl
@[simp] theorem axo:ar Tryz.prog s_=true:=by kernel_rfl
abbrev yDj:zR:=[o 5 (.lit 2 [] []),ab 6 0,o 7 (.append 2 cP 16 (.t 5) (.t 6)),ab 2 7]
abbrev Sc:zR:=[o 2 (.bC 2 cP)]
abbrev yDl:ah:=.seq (.ae Sc) .ret
abbrev UI:aA:=⟨.seq (.ae Sc) (.seq (.seq (.ae Co) (.cond (.t 4) yDl .skip)) (.seq (.ae yDj) .ret)),8,[.tmp 2]⟩
@[simp] theorem Uy:az Tryz.prog zD=some UI:=by kernel_rfl
@[simp] theorem aw7:ar Tryz.prog zD=true:=by kernel_rfl
abbrev yDo:zR:=[ab 3 0,o 4 (.cmp .leq (.sc .int) (.t 3) (.c (.int .i32 32))),ab 5 4,on 6 5 (.mv (.t 0)),on 7 5 (.cmp .gtr (.sc .int) (.t 6) (.c (.int .i32 126))),o 8 (.pick (.t 5) (.c (.bool true)) (.t 7)),ab 2 8]
abbrev Vk:aA:=⟨.seq (.ae jR) (.seq (.ae yDo) .ret),9,[.tmp 2]⟩
@[simp] theorem U1:az Tryz.prog rm=some Vk:=by kernel_rfl
@[simp] theorem axr:ar Tryz.prog rm=true:=by kernel_rfl
abbrev yDq:zR:=[ab 5 0,ab 6 1,o 7 (.call (.f vS) [.t 5,.t 6,.c (.bool true)]),ab 4 7]
abbrev Vu:aA:=⟨.seq (.ae mN) (.seq (.ae yDq) .ret),8,[.tmp 4]⟩
@[simp] theorem U9:az Tryz.prog zK=some Vu:=by kernel_rfl
@[simp] theorem axw:ar Tryz.prog zK=true:=by kernel_rfl
abbrev yDt:zR:=[ab 17 0,ab 18 0,o 19 (.cap (.t 18)),o 20 (.slice 1 (.t 17) none (some (.t 19))),ab 21 1,o 22 (.qh 1 aq 8 (.int .i64 0) (.t 20) (.t 21)),ab 23 0,aQ 24 23,o 25 (.slice 1 (.t 22) none (some (.t 24))),ab 0 25]
abbrev Va:aA:=⟨.seq (.ae IN) (.seq (.seq (.ae CO) (.cond (.t 6) (.ae De) .skip)) (.seq (.seq (.ae CU) (.seq (.ae CS) (.cond (.t 16) (.ae yDt) .skip))) (.seq (.ae Cj) .ret))),27,[.tmp 4]⟩
@[simp] theorem JU:az Tryz.prog DK=some Va:=by kernel_rfl
@[simp] theorem axj:ar Tryz.prog DK=true:=by kernel_rfl
abbrev SH:zB:=I::I::O::I::(by(iterate 15 refine O::?_);exact[])
abbrev yDB:zR:=[ab 9 3,o 10 (.bK .sub (.t 9) (.c (.int .i64 1))),ab 3 10]
abbrev yDC:zR:=[ab 11 0,ab 12 3,aj 13 1 1,ab 14 3,a_ 15 2 13 14,aL 16 2 15,o 17 (.call (.t 11) [.t 12,.t 16]),o 18 (.not (.t 17))]
abbrev yDD:ah:=.seq (.ae yDC) (.cond (.t 18) .ret .skip)
abbrev yDE:zR:=[ab 7 3,o 8 (.cmp .geq (.sc .int) (.t 7) (.c (.int .i64 0)))]
abbrev H9:ah:=.seq (.seq (.ae yDE) (.cond (.t 8) .skip (.exit 0))) (.seq (.block 1 [] yDD) (.ae yDB))
abbrev yDG:zR:=[aj 4 1 1,aQ 5 4,o 6 (.bK .sub (.t 5) (.c (.int .i64 1))),ab 3 6]
abbrev Ul:aA:=⟨.seq (.ae yDG) (.block 0 mT (.loop SH H9)),19,[]⟩
abbrev yDI(x0 x1 x3:AV)(h:List Ob)(e:Cx:=cx):an:=aY vJ (.code H9::.inLoop SH H9::.inBlock 0 mT::y4) (x0::x1::U::x3::(by(iterate 15 refine U::?_);exact[])) h e
@[simp] theorem Uh:az Tryz.prog vJ=some Ul:=by kernel_rfl
@[simp] theorem awW:ar Tryz.prog vJ=true:=by kernel_rfl
abbrev yDJ:zR:=[aL 35 2 3,aO 2 2 35]
abbrev yDK:zR:=[al 34 0 3,q (.store 1 (.t 34) (.f wq))]
abbrev yDL:zR:=[al 33 0 3,q (.store 1 (.t 33) (.f wo))]
abbrev yDM:zR:=[al 32 0 3,q (.store 1 (.t 32) (.f wh))]
abbrev yDN:zR:=[al 31 0 3,q (.store 1 (.t 31) (.f wv))]
abbrev yDO:zR:=[o 30 (.cmp .eql (.sc .int) (.t 13) (.c (.int .i64 9))),ab 28 30]
abbrev yDP:zR:=[o 29 (.cmp .eql (.sc .int) (.t 13) (.c (.int .i64 8))),ab 28 29]
abbrev yDQ:zR:=[o 27 (.cmp .eql (.sc .int) (.t 13) (.c (.int .i64 7))),ab 25 27]
abbrev yDR:zR:=[o 26 (.cmp .eql (.sc .int) (.t 13) (.c (.int .i64 6))),ab 25 26]
abbrev yDS:zR:=[o 24 (.cmp .eql (.sc .int) (.t 13) (.c (.int .i64 5))),ab 22 24]
abbrev yDT:zR:=[o 23 (.cmp .eql (.sc .int) (.t 13) (.c (.int .i64 4))),ab 22 23]
abbrev yDU:zR:=[o 21 (.cmp .eql (.sc .int) (.t 13) (.c (.int .i64 3))),ab 20 21]
abbrev yDV:zR:=[o 19 (.cmp .eql (.sc .int) (.t 13) (.c (.int .i64 2))),ab 18 19]
abbrev yDW:zR:=[o 17 (.cmp .eql (.sc .int) (.t 13) (.c (.int .i64 1))),ab 16 17]
abbrev yDX:zR:=[o 15 (.cmp .eql (.sc .int) (.t 13) (.c (.int .i64 0))),ab 14 15]
abbrev yDY:ah:=.seq (.seq (.seq (.ae yDX) (.cond (.t 14) (.exit 2) .skip)) (.seq (.seq (.ae yDW) (.cond (.t 16) (.exit 3) .skip)) (.seq (.seq (.ae yDV) (.cond (.t 18) (.exit 4) .skip)) (.seq (.seq (.ae yDU) (.cond (.t 20) (.exit 5) .skip)) (.seq (.seq (.seq (.ae yDT) (.cond (.t 22) .skip (.ae yDS))) (.cond (.t 22) (.exit 6) .skip)) (.seq (.seq (.seq (.ae yDR) (.cond (.t 25) .skip (.ae yDQ))) (.cond (.t 25) (.exit 7) .skip)) (.seq (.seq (.ae yDP) (.cond (.t 28) .skip (.ae yDO))) (.cond (.t 28) (.exit 8) .skip)))))))) (.exit 1)
abbrev yDZ:ah:=.block 2 [] yDY
abbrev yEa:ah:=.seq (.block 3 [] yDZ) (.seq (.ae yDN) (.exit 1))
abbrev yEb:ah:=.block 4 [] yEa
abbrev yEc:ah:=.block 5 [] yEb
abbrev yEd:ah:=.seq (.block 6 [] yEc) (.seq (.ae yDM) (.exit 1))
abbrev yEe:ah:=.seq (.block 7 [] yEd) (.seq (.ae yDL) (.exit 1))
abbrev yEf:ah:=.seq (.block 8 [] yEe) (.seq (.ae yDK) (.exit 1))
abbrev yEg:zR:=[ab 13 0]
abbrev yEh:zR:=[al 12 1 3,q (.store 1 (.t 12) (.c (.bool true)))]
abbrev yEi:zR:=[o 11 (.cmp .eql (.sc .int) (.t 5) (.c (.int .i64 9))),ab 6 11]
abbrev yEj:zR:=[o 10 (.cmp .eql (.sc .int) (.t 5) (.c (.int .i64 7))),ab 6 10]
abbrev yEk:ah:=.seq (.ae yEj) (.cond (.t 6) .skip (.ae yEi))
abbrev yEl:zR:=[o 9 (.cmp .eql (.sc .int) (.t 5) (.c (.int .i64 5))),ab 6 9]
abbrev yEm:ah:=.seq (.ae yEl) (.cond (.t 6) .skip yEk)
abbrev yEn:zR:=[o 8 (.cmp .eql (.sc .int) (.t 5) (.c (.int .i64 3))),ab 6 8]
abbrev yEo:ah:=.seq (.ae yEn) (.cond (.t 6) .skip yEm)
abbrev yEp:zR:=[o 7 (.cmp .eql (.sc .int) (.t 5) (.c (.int .i64 1))),ab 6 7]
abbrev yEq:ah:=.seq (.seq (.ae yEp) (.cond (.t 6) .skip yEo)) (.cond (.t 6) (.ae yEh) .skip)
abbrev yEr:zR:=[ab 5 0]
abbrev yEs:zR:=[o 4 (.build [.c9,.bool false] []),o 3 (.alloc [.c9,.bool false]),aO 2 3 4]
abbrev yEt:zR:=[o 2 (.alloc [.c9,.bool false])]
abbrev ad9:aA:=⟨.seq (.ae yEt) (.seq (.ae yEs) (.seq (.seq (.ae yEr) (.block 0 [] yEq)) (.seq (.seq (.ae yEg) (.block 1 [] yEf)) (.seq (.ae yDJ) .ret)))),36,[.cell 2 true 2]⟩
@[simp] theorem abh:az Tryz.prog AF=some ad9:=by kernel_rfl
@[simp] theorem azS:ar Tryz.prog AF=true:=by kernel_rfl
abbrev yEu:zR:=[al 4 3 1,aj 5 1 4,o 6 (.fO (.func zT) [] [.t 2]),cM 7 p3 5 6,ab 3 7]
abbrev yEv:zR:=[o 2 (.box 1 (.t 0)),lY 3]
abbrev Xz:aA:=⟨.seq (.ae yEv) (.seq (.ae yEu) .ret),8,[.tmp 3]⟩
@[simp] theorem WR:az Tryz.prog zX=some Xz:=by kernel_rfl
@[simp] theorem ayv:ar Tryz.prog zX=true:=by kernel_rfl
abbrev yEw:zR:=[ab 4 0,aj 5 1 1,cM 6 wk 4 5,ab 3 6]
abbrev WG:aA:=⟨.seq (.ae yS) (.seq (.ae yEw) .ret),7,[.tmp 3]⟩
@[simp] theorem VR:az Tryz.prog zT=some WG:=by kernel_rfl
@[simp] theorem ax3:ar Tryz.prog zT=true:=by kernel_rfl
abbrev Q9:zB:=I::O::O::O::O::O::O::I::I::I::(by(iterate 17 refine O::?_);exact[])
abbrev QU:zB:=(by(iterate 27 refine O::?_);exact[])
abbrev yEB:zR:=[bB 26 9 1,ab 9 26]
abbrev yEE:zR:=[ab 14 0,ab 15 5,o 16 (.sn (.t 14) (.t 15)),o 17 (.cmp .neq (.sc .int) (.t 16) (.c (.int .u8 45))),ab 18 17,cD 19 18 0,cD 20 18 5,oy 21 18 (.sn (.t 19) (.t 20)),oy 22 18 (.cmp .eql (.sc .int) (.t 21) (.c (.int .u8 49))),cD 23 18 6,oy 24 18 (.cmp .neq (.sc .bool) (.t 22) (.t 23)),bO 25 18 24]
abbrev yEF:zR:=[ab 11 9,a_ 12 1 7 9,aj 13 1 12,ab 5 11,ab 6 13]
abbrev yEG:ah:=.seq (.ae yEF) (.seq (.ae yEE) (.cond (.t 25) lX .skip))
abbrev Ib:ah:=.seq (.ae x_) (.seq (.cond (.t 10) .skip (.exit 0)) (.seq (.block 1 [] yEG) (.ae yEB)))
abbrev yEJ:zR:=[ab 7 1,aQ 8 7,aN 9 0]
abbrev ZM:aA:=⟨.seq (.ae jQ) (.seq (.seq (.ae yEJ) (.block 0 QU (.loop Q9 Ib))) (.seq (.ae sM) .ret)),27,[.tmp 4]⟩
abbrev yEM(x0 x7 x8 x9:AV)(h:List Ob)(e:Cx:=cx):an:=aY wk (.code Ib::.inLoop Q9 Ib::.inBlock 0 QU::vk) (x0::U::U::U::U::U::U::x7::x8::x9::(by(iterate 17 refine U::?_);exact[])) h e
@[simp] theorem XX:az Tryz.prog wk=some ZM:=by kernel_rfl
@[simp] theorem ay3:ar Tryz.prog wk=true:=by kernel_rfl
abbrev R5:zB:=I::I::O::O::O::I::I::(by(iterate 18 refine O::?_);exact[])
abbrev S4:zB:=(by(iterate 25 refine O::?_);exact[])
abbrev yEP:zR:=[bB 24 6 1,ab 6 24]
abbrev yEQ:zR:=[aj 9 1 1,ab 10 3,o 11 (.sn (.t 9) (.t 10)),o 12 (.cmp .neq (.sc .int) (.t 11) (.c (.int .u8 45))),ab 13 12,cD 14 13 0,cD 15 13 3,cT 16 13 1 1,cD 17 13 3,oy 18 13 (.sn (.t 16) (.t 17)),oy 19 13 (.conv .i64 (.t 18)),oy 20 13 (.build [.int .i64 0,.int .i64 0] [(0,1,.t 15),(1,1,.t 19)]),oy 21 13 (.call (.t 14) [.t 20]),oy 22 13 (.not (.t 21)),bO 23 13 22]
abbrev yER:zR:=[ab 8 6,ab 3 8]
abbrev yES:ah:=.seq (.ae yER) (.seq (.ae yEQ) (.cond (.t 23) .ret .skip))
abbrev yET:zR:=[cN 7 6 5]
abbrev Jd:ah:=.seq (.ae yET) (.seq (.cond (.t 7) .skip (.exit 0)) (.seq (.block 1 [] yES) (.ae yEP)))
abbrev yEV:zR:=[aj 4 1 1,o 5 (.mj (.t 4)),aN 6 0]
abbrev Vz:aA:=⟨.seq (.ae yEV) (.block 0 S4 (.loop R5 Jd)),25,[]⟩
abbrev IW(x0 x1 x5 x6:AV)(h:List Ob)(e:Cx:=cx):an:=aY rq (.code Jd::.inLoop R5 Jd::.inBlock 0 S4::y4) (x0::x1::U::U::U::x5::x6::(by(iterate 18 refine U::?_);exact[])) h e
@[simp] theorem DO:az Tryz.prog rq=some Vz:=by kernel_rfl
@[simp] theorem axE:ar Tryz.prog rq=true:=by kernel_rfl
abbrev yEY:zR:=[aL 15 3 3,aO 3 2 15]
abbrev yEZ:zR:=[al 11 1 3,aj 12 1 11,bB 13 12 1,al 14 1 3,aO 1 14 13]
abbrev yFa:zR:=[o 8 (.gM 2 1 (.t 1) (.c (.int .i64 1))),aj 9 1 8,o 10 (.cmp .eql (.sc .int) (.t 9) (.c (.int .i64 48)))]
abbrev yFb:zR:=[o 4 (.gM 2 1 (.t 1) (.c (.int .i64 0))),aj 5 1 4,o 6 (.bK .mul (.c (.int .i64 2)) (.t 5)),o 7 (.build [.int .i64 0,.int .i64 0,.int .i64 0] [(0,1,.c (.int .i64 2)),(1,1,.t 6)]),o 3 (.alloc [.int .i64 0,.int .i64 0,.int .i64 0]),aO 3 3 7]
abbrev yFc:zR:=[o 1 (.box 2 (.t 0)),o 2 (.alloc [.int .i64 0,.int .i64 0,.int .i64 0])]
abbrev Vi:aA:=⟨.seq (.ae yFc) (.seq (.ae yFb) (.seq (.seq (.ae yFa) (.cond (.t 10) (.ae yEZ) .skip)) (.seq (.ae yEY) .ret))),16,[.cell 2 true 3]⟩
@[simp] theorem U4:az Tryz.prog zH=some Vi:=by kernel_rfl
@[simp] theorem axl:ar Tryz.prog zH=true:=by kernel_rfl
abbrev yFd:zR:=[aj 12 1 2,ab 4 12]
abbrev R4:zR:=[o 5 (.alloc [.int .i64 0,.int .i64 0]),aO 2 5 7]
abbrev yFf:zR:=[aj 8 1 2,aL 9 2 5,o 10 (.lit 2 [.agg [.int .i64 0,.int .i64 0]] [(0,.t 9)]),o 11 (.append 2 lr 16 (.t 8) (.t 10)),aO 1 2 11]
abbrev TK:ah:=.block 1 [] (.ae yFf)
abbrev yFh:ah:=.rangeFunc (.t 6) [7] [O,O,I,O,I,O,O,O,O,O,O,O,O] (.ae R4) TK
abbrev yFi:zR:=[ab 6 1]
abbrev yFj:zR:=[o 2 (.box 1 (.t 0)),o 4 (.bC 2 lr)]
abbrev T5:aA:=⟨.seq (.ae yFj) (.seq (.seq (.ae yFi) (.block 0 [] yFh)) (.seq (.ae yFd) .ret)),13,[.tmp 4]⟩
@[simp] theorem T4:az Tryz.prog zy=some T5:=by kernel_rfl
@[simp] theorem awN:ar Tryz.prog zy=true:=by kernel_rfl
abbrev Sm:zR:=[q (.store 1 (.t 3) (.c (.bool false)))]
abbrev QM:zR:=[o 4 (.alloc [.int .i64 0,.int .i64 0]),aO 2 4 7]
abbrev yFm:zR:=[q (.store 1 (.t 3) (.c (.bool true)))]
abbrev yFn:ah:=.seq (.ae yFm) .ret
abbrev yFo:zR:=[aL 8 2 4,aL 9 2 1,o 10 (.cmp .eql (.ja [.int,.int]) (.t 8) (.t 9))]
abbrev yFp:ah:=.seq (.ae yFo) (.cond (.t 10) yFn .skip)
abbrev RD:ah:=.block 1 [] yFp
abbrev yFr:ah:=.rangeFunc (.t 6) [7] [O,I,O,I,O,O,O,O,O,O,O] (.ae QM) RD
abbrev yFs:zR:=[ab 5 0,aW 6 th 5]
abbrev yFt:zR:=[o 3 (.alloc [.bool false])]
abbrev Xy:aA:=⟨.seq (.ae yFt) (.seq (.seq (.ae yFs) (.block 0 [] yFr)) (.seq (.ae Sm) .ret)),11,[.cell 3 false 1]⟩
@[simp] theorem WL:az Tryz.prog oJ=some Xy:=by kernel_rfl
@[simp] theorem ayh:ar Tryz.prog oJ=true:=by kernel_rfl
abbrev yFv:zR:=[ab 17 0,ab 18 0,o 19 (.cap (.t 18)),o 20 (.slice 3 (.t 17) none (some (.t 19))),ab 21 1,o 22 (.qh 3 aU 24 (.agg [.int .i64 0,.int .i64 0,.int .i64 0]) (.t 20) (.t 21)),ab 23 0,aQ 24 23,o 25 (.slice 3 (.t 22) none (some (.t 24))),ab 0 25]
abbrev Ud:aA:=⟨.seq (.ae QS) (.seq (.seq (.ae CO) (.cond (.t 6) (.ae De) .skip)) (.seq (.seq (.ae CU) (.seq (.ae CS) (.cond (.t 16) (.ae yFv) .skip))) (.seq (.ae Cj) .ret))),27,[.tmp 4]⟩
@[simp] theorem Ua:az Tryz.prog DE=some Ud:=by kernel_rfl
@[simp] theorem awR:ar Tryz.prog DE=true:=by kernel_rfl
abbrev yFB:zR:=[ab 4 0,aj 5 1 1,o 6 (.bK .xor (.t 4) (.t 5)),ab 3 6]
abbrev U3:aA:=⟨.seq (.ae sJ) (.seq (.ae yFB) .ret),7,[.tmp 3]⟩
@[simp] theorem UO:az Tryz.prog vM=some U3:=by kernel_rfl
@[simp] theorem axf:ar Tryz.prog vM=true:=by kernel_rfl
abbrev yFD:zR:=[ab 29 8,ab 6 29]
abbrev yFE:zR:=[ab 25 0,aL 26 5 7,o 27 (.cv (.t 25)),al 28 0 27,aO 5 28 26]
abbrev yFF:zR:=[o 23 (.build [] []),o 24 (.lz D1 (.t 23)),q (.panic (.t 24))]
abbrev yFG:zR:=[ab 21 9,o 22 (.cmp .neq (.sc .int) (.t 21) (.c (.int .i64 0)))]
abbrev yFH:zR:=[ab 11 0,o 12 (.cv (.t 11)),al 13 0 12,aL 14 5 13,ab 15 1,ab 16 2,o 17 (.call (.f Az) [.t 14,.t 15,.t 16]),ab 10 17,ba 18 10 0,ba 19 10 1,ba 20 10 2,o 7 (.alloc [.int .i64 0,.own 1 aq [],.own 1 aq [],.own 2 cP [],.own 1 aq []]),aO 5 7 18,ab 8 19,ab 9 20]
abbrev Vx:aA:=⟨.seq (.ae Da) (.seq (.ae yFH) (.seq (.seq (.ae yFG) (.cond (.t 22) (.ae yFF) .skip)) (.seq (.ae yFE) (.seq (.ae yFD) .ret)))),30,[.tmp 6]⟩
@[simp] theorem Ve:az Tryz.prog rp=some Vx:=by kernel_rfl
@[simp] theorem axA:ar Tryz.prog rp=true:=by kernel_rfl
abbrev Ri:zR:=[o 6 (.mv (.c (.int .i64 (-1))))]
abbrev TI:zB:=[O,I,I,O,O,O,O,O,O,O,I,O,O,O,O,O,O,O,O,O,O]
abbrev SE:zB:=(by(iterate 21 refine O::?_);exact[])
abbrev yFM:zR:=[ab 20 7,ab 6 20]
abbrev yFN:ah:=.seq (.ae yFM) .ret
abbrev yFO:zR:=[ab 15 1,ab 16 8,o 17 (.call (.t 15) [.t 16]),ab 18 2,o 19 (.cmp .eql (.sc .bool) (.t 17) (.t 18))]
abbrev yFP:zR:=[ba 13 11 1,ba 14 11 2,ab 7 13,ab 8 14]
abbrev yFQ:ah:=.seq (.ae yFP) (.seq (.ae yFO) (.cond (.t 19) yFN .skip))
abbrev yFR:zR:=[o 11 (.next (.t 10)),ba 12 11 0]
abbrev Ia:ah:=.seq (.ae yFR) (.seq (.cond (.t 12) .skip (.exit 0)) (.block 1 [] yFQ))
abbrev yFT:zR:=[ab 9 0,o 10 (.range (.t 9))]
abbrev Vs:aA:=⟨.seq (.ae Da) (.seq (.seq (.ae yFT) (.block 0 SE (.loop TI Ia))) (.seq (.ae Ri) .ret)),21,[.tmp 6]⟩
abbrev yFV:zI:=[.code (.seq (.ae Ri) .ret)]
abbrev yFW(x1 x2 x10:AV)(h:List Ob)(e:Cx:=cx):an:=aY vS (.code Ia::.inLoop TI Ia::.inBlock 0 SE::yFV) [U,x1,x2,U,U,U,U,U,U,U,x10,U,U,U,U,U,U,U,U,U,U] h e
@[simp] theorem Vb:az Tryz.prog vS=some Vs:=by kernel_rfl
@[simp] theorem axz:ar Tryz.prog vS=true:=by kernel_rfl
abbrev ZP:aA:=⟨.seq (.ae jR) (.seq (.ae jR) .ret),3,[.tmp 2]⟩
@[simp] theorem XY:az Tryz.prog wv=some ZP:=by kernel_rfl
@[simp] theorem ay6:ar Tryz.prog wv=true:=by kernel_rfl
abbrev yFZ:zR:=[ab 3 0,aW 4 ry 3,ab 5 0,aQ 6 5,o 7 (.cmp .eql (.sc .int) (.t 4) (.t 6)),ab 2 7]
abbrev aaT:aA:=⟨.seq (.ae jR) (.seq (.ae yFZ) .ret),8,[.tmp 2]⟩
@[simp] theorem Ys:az Tryz.prog wh=some aaT:=by kernel_rfl
@[simp] theorem ayV:ar Tryz.prog wh=true:=by kernel_rfl
abbrev Q8:zR:=[ab 16 3,ab 2 16]
abbrev SJ:zB:=[O,O,O,I,O,O,I,I,I,O,O,O,O,O,O,O,O]
abbrev SQ:zB:=O::O::O::I::(by(iterate 13 refine O::?_);exact[])
abbrev yGe:zR:=[bB 15 8 1,ab 8 15]
abbrev yGf:zR:=[ab 13 3,bB 14 13 1,ab 3 14]
abbrev yGg:zR:=[ab 12 5]
abbrev yGh:zR:=[a_ 10 1 6 8,aj 11 1 10,ab 5 11]
abbrev yGi:ah:=.seq (.ae yGh) (.seq (.ae yGg) (.cond (.t 12) (.ae yGf) .skip))
abbrev IE:ah:=.seq (.ae C8) (.seq (.cond (.t 9) .skip (.exit 0)) (.seq (.block 1 [] yGi) (.ae yGe)))
abbrev Zg:aA:=⟨.seq (.ae ze) (.seq (.ae sJ) (.seq (.seq (.ae y0) (.block 0 SQ (.loop SJ IE))) (.seq (.ae Q8) .ret))),17,[.tmp 2]⟩
abbrev yGo:zI:=[.code (.seq (.ae Q8) .ret)]
abbrev yGp(x3 x6 x7 x8:AV)(h:List Ob)(e:Cx:=cx):an:=aY ry (.code IE::.inLoop SJ IE::.inBlock 0 SQ::yGo) [U,U,U,x3,U,U,x6,x7,x8,U,U,U,U,U,U,U,U] h e
@[simp] theorem W4:az Tryz.prog ry=some Zg:=by kernel_rfl
@[simp] theorem ayC:ar Tryz.prog ry=true:=by kernel_rfl
abbrev yGq:zR:=[ab 3 0,aW 4 ry 3,o 5 (.cmp .gtr (.sc .int) (.t 4) (.c (.int .i64 0))),ab 2 5]
abbrev Z4:aA:=⟨.seq (.ae jR) (.seq (.ae yGq) .ret),6,[.tmp 2]⟩
@[simp] theorem XV:az Tryz.prog wo=some Z4:=by kernel_rfl
@[simp] theorem ayT:ar Tryz.prog wo=true:=by kernel_rfl
abbrev yGs:zR:=[ab 3 0,aW 4 ry 3,o 5 (.bK .rem (.t 4) (.c (.int .i64 2))),o 6 (.cmp .eql (.sc .int) (.t 5) (.c (.int .i64 1))),ab 2 6]
abbrev aaU:aA:=⟨.seq (.ae jR) (.seq (.ae yGs) .ret),7,[.tmp 2]⟩
@[simp] theorem XC:az Tryz.prog wq=some aaU:=by kernel_rfl
@[simp] theorem ay9:ar Tryz.prog wq=true:=by kernel_rfl
abbrev yGu:zR:=[ab 58 11,o 59 (.cv (.t 58)),al 60 0 59,aL 61 5 60,ab 62 12,aO 5 6 61,ab 7 62,aN 8 0]
abbrev yGv:zR:=[o 57 (.build [.int .i64 0,.list true 0 [],.list true 0 [],.list true 0 [],.list true 0 []] []),aO 5 6 57,aN 7 0,aN 8 8]
abbrev yGw:ah:=.seq (.ae yGv) .ret
abbrev yGx:zR:=[ab 51 11,o 52 (.cv (.t 51)),al 53 0 52,aL 54 5 53,aW 55 oM 54,o 56 (.cmp .eql (.sc .int) (.t 55) (.c (.int .i64 8)))]
abbrev yGy:zR:=[ab 47 11,ab 48 1,ab 49 2,o 50 (.call (.f p6) [.t 47,.t 48,.t 49]),ab 12 50]
abbrev yGz:zR:=[aL 45 5 3,aW 46 rC 45,ab 11 46]
abbrev yGA:zR:=[o 25 (.build [.int .i64 0,.list true 0 [],.list true 0 [],.list true 0 [],.list true 0 []] []),ab 26 9,aO 5 6 25,aN 7 0,ab 8 26]
abbrev yGB:zR:=[o 44 (.build [.int .i64 0,.list true 0 [],.list true 0 [],.list true 0 [],.list true 0 []] []),aO 5 6 44,aN 7 0,aN 8 1]
abbrev yGC:ah:=.seq (.ae yGB) .ret
abbrev yGD:zR:=[ab 28 1,o 29 (.cmp .lss (.sc .int) (.t 28) (.c (.int .i64 0))),ab 30 29,on 31 30 (.mv (.t 2)),on 32 30 (.cmp .lss (.sc .int) (.t 31) (.c (.int .i64 0))),o 33 (.pick (.t 30) (.c (.bool true)) (.t 32)),ab 34 33,on 35 34 (.mv (.t 1)),on 36 34 (.mv (.t 10)),on 37 34 (.cmp .geq (.sc .int) (.t 35) (.t 36)),o 38 (.pick (.t 34) (.c (.bool true)) (.t 37)),ab 39 38,on 40 39 (.mv (.t 2)),on 41 39 (.mv (.t 10)),on 42 39 (.cmp .geq (.sc .int) (.t 40) (.t 41)),o 43 (.pick (.t 39) (.c (.bool true)) (.t 42)),ab 27 43]
abbrev yGE:ah:=.seq (.ae yGA) .ret
abbrev yGF:ah:=.seq (.ae yGD) (.cond (.t 27) yGC .skip)
abbrev yGG:zR:=[ab 23 9,o 24 (.cmp .neq (.sc .int) (.t 23) (.c (.int .i64 0))),ab 22 24]
abbrev yGH:ah:=.seq (.ae yGG) (.cond (.t 22) yGE yGF)
abbrev yGI:zR:=[aL 15 5 3,aW 16 lu 15,al 17 3 3,aj 18 1 17,aQ 19 18,o 20 (.bK .add (.t 16) (.t 19)),o 21 (.bK .mul (.c (.int .i64 2)) (.t 20)),ab 10 21]
abbrev yGJ:zR:=[aL 13 5 3,aW 14 oM 13,ab 9 14]
abbrev yGK:zR:=[o 3 (.box 5 (.t 0)),o 6 (.alloc [.int .i64 0,.own 1 aq [],.own 1 aq [],.own 2 cP [],.own 1 aq []]),aN 7 0,aN 8 0]
abbrev ad4:aA:=⟨.seq (.ae yGK) (.seq (.ae yGJ) (.seq (.aS [O,O,O,I,O,O,O,O] [2,9,9,9,9,9,9,9] yGI) (.seq (.block 0 [] yGH) (.seq (.ae yGz) (.seq (.ae yGy) (.seq (.seq (.ae yGx) (.cond (.t 56) yGw .skip)) (.seq (.ae yGu) .ret))))))),63,[.cell 6 true 5,.tmp 7,.tmp 8]⟩
@[simp] theorem aa0:az Tryz.prog Az=some ad4:=by kernel_rfl
@[simp] theorem azQ:ar Tryz.prog Az=true:=by kernel_rfl
abbrev yGL:zR:=[ab 7 0,ab 8 1,a_ 9 1 7 8,aj 10 1 9,ab 11 0,ab 12 2,a_ 13 1 11 12,aj 14 1 13,cN 15 10 14,ab 6 15]
abbrev VX:aA:=⟨.seq (.ae yk) (.seq (.aS [O,O,O,O,O,O,O,O,O,O] [11,11,11,11,11,11,11,11,11,11] yGL) .ret),16,[.tmp 6]⟩
@[simp] theorem J3:az Tryz.prog vV=some VX:=by kernel_rfl
@[simp] theorem axO:ar Tryz.prog vV=true:=by kernel_rfl
abbrev yGN:zR:=[ab 25 3,o 26 (.lz aq (.t 25)),ab 2 26]
abbrev yGO:zR:=[ab 14 0,ab 15 0,o 16 (.cv (.t 15)),aj 17 1 16,ab 18 0,o 19 (.cv (.t 18)),aj 20 1 19,aQ 21 20,o 22 (.bK .sub (.t 21) (.c (.int .i64 1))),o 23 (.slice 1 (.t 17) none (some (.t 22))),o 24 (.cv (.t 14)),aO 1 24 23]
abbrev yGP:zR:=[ab 4 0,o 5 (.cv (.t 4)),aj 6 1 5,ab 7 0,o 8 (.cv (.t 7)),aj 9 1 8,aQ 10 9,o 11 (.bK .sub (.t 10) (.c (.int .i64 1))),a_ 12 1 6 11,aj 13 1 12,ab 3 13]
abbrev V':aA:=⟨.seq (.ae S3) (.seq (.aS [O,O,O,O,O,O,O,O,O,O,O] [12,12,12,12,12,12,12,12,12,12,12] yGP) (.seq (.aS [O,O,O,O,O,O,O,O,O,O,O,O] [12,12,12,12,12,12,12,12,12,12,12,13] yGO) (.seq (.ae yGN) .ret))),27,[.tmp 2]⟩
@[simp] theorem VH:az Tryz.prog zP=some V':=by kernel_rfl
@[simp] theorem axW:ar Tryz.prog zP=true:=by kernel_rfl
abbrev yGR:zR:=[ab 4 0,ab 5 0,o 6 (.cv (.t 5)),aj 7 1 6,ab 8 1,o 9 (.rW (.t 8) aq (.int .i64 0) false),o 10 (.lit 1 [.int .i64 0] [(0,.t 9)]),o 11 (.append 1 aq 8 (.t 7) (.t 10)),o 12 (.cv (.t 4)),aO 1 12 11]
abbrev VW:aA:=⟨.aS [O,O,O,I,O,O,O,O,O,O] [10,8,8,8,7,7,8,10,10,11] yGR,13,[]⟩
@[simp] theorem J2:az Tryz.prog zN=some VW:=by kernel_rfl
@[simp] theorem axG:ar Tryz.prog zN=true:=by kernel_rfl
abbrev yGS:zR:=[ab 6 0,ab 7 1,ab 8 0,ab 9 2,ab 10 0,ab 11 2,a_ 12 1 10 11,aj 13 1 12,ab 14 0,ab 15 1,a_ 16 1 14 15,aj 17 1 16,a_ 18 1 6 7,aO 1 18 13,a_ 19 1 8 9,aO 1 19 17]
abbrev VU:aA:=⟨.aS ((by(iterate 16 refine O::?_);exact[])) [14,14,16,16,14,14,14,14,14,14,14,14,14,16,16,17] yGS,20,[]⟩
@[simp] theorem JZ:az Tryz.prog vU=some VU:=by kernel_rfl
@[simp] theorem axH:ar Tryz.prog vU=true:=by kernel_rfl
abbrev Vo:aA:=⟨.seq (.ae mN) (.seq (.ae mN) .ret),5,[.tmp 4]⟩
@[simp] theorem U5:az Tryz.prog vQ=some Vo:=by kernel_rfl
@[simp] theorem axp:ar Tryz.prog vQ=true:=by kernel_rfl
abbrev RF:zR:=[ab 38 5,ab 4 38]
abbrev Sg:zB:=I::O::O::O::O::I::O::O::O::O::O::O::O::O::I::I::I::(by(iterate 22 refine O::?_);exact[])
abbrev Ss:zB:=O::O::O::O::O::I::(by(iterate 33 refine O::?_);exact[])
abbrev yGY:zR:=[bB 37 16 1,ab 16 37]
abbrev yGZ:zR:=[ab 30 0,ab 31 8,o 32 (.bK .xor (.t 31) (.c (.int .i64 1))),ab 33 9,o 34 (.bK .xor (.t 33) (.c (.int .i64 1))),o 35 (.call (.f rp) [.t 30,.t 32,.t 34]),o 36 (.bK .xor (.t 35) (.c (.int .i64 1))),ab 5 36]
abbrev yHa:zR:=[ab 25 0,ab 26 5,o 27 (.bK .xor (.t 26) (.c (.int .i64 1))),ab 28 7,o 29 (.call (.f rp) [.t 25,.t 27,.t 28]),ab 9 29]
abbrev yHb:zR:=[ab 20 0,ab 21 5,ab 22 7,o 23 (.bK .xor (.t 22) (.c (.int .i64 1))),o 24 (.call (.f rp) [.t 20,.t 21,.t 23]),ab 8 24]
abbrev yHc:zR:=[a_ 18 1 14 16,aj 19 1 18,ab 7 19]
abbrev yHd:ah:=.seq (.ae yHc) (.seq (.ae yHb) (.seq (.ae yHa) (.ae yGZ)))
abbrev HV:ah:=.seq (.ae zi) (.seq (.cond (.t 17) .skip (.exit 0)) (.seq (.block 1 [] yHd) (.ae yGY)))
abbrev yHg:zR:=[ab 13 1,o 14 (.slice 1 (.t 13) (some (.c (.int .i64 1))) none),aQ 15 14,aN 16 0]
abbrev yHh:zR:=[ab 10 1,o 11 (.jA 1 (.t 10) (.c (.int .i64 0))),aj 12 1 11,ab 5 12]
abbrev Vy:aA:=⟨.seq (.ae mN) (.seq (.ae yHh) (.seq (.seq (.ae yHg) (.block 0 Ss (.loop Sg HV))) (.seq (.ae RF) .ret))),39,[.tmp 4]⟩
abbrev yHj:zI:=[.code (.seq (.ae RF) .ret)]
abbrev yHk(x0 x5 x14 x15 x16:AV)(h:List Ob)(e:Cx:=cx):an:=aY td (.code HV::.inLoop Sg HV::.inBlock 0 Ss::yHj) (x0::U::U::U::U::x5::U::U::U::U::U::U::U::U::x14::x15::x16::(by(iterate 22 refine U::?_);exact[])) h e
@[simp] theorem U':az Tryz.prog td=some Vy:=by kernel_rfl
@[simp] theorem axy:ar Tryz.prog td=true:=by kernel_rfl
end Go.Proofs.YtihmomicdpkabaaGreatDoor
