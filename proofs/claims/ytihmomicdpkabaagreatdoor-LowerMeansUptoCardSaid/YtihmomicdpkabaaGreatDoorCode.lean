/- The functions, as the abstract machine has them. Printed by a program. -/
import Derived.Test.YtihmomicdpkabaaGreatDoorAMd
import Derived.Test.YtihmomicdpkabaaGreatDoorChecked
import Derived.KernelRfl
set_option linter.unusedSimpArgs false
set_option linter.unusedVariables false
namespace Go.Proofs.YtihmomicdpkabaaGreatDoor
open Go.AM Go.Proofs
abbrev zR:=List AG
abbrev zB:=List Bool
abbrev zI:=List It
abbrev ab(d i:Nat):AG:=o d (.mv (.t i))
abbrev ai(d k i:Nat):AG:=o d (.load false k (.t i))
abbrev aM(d k i:Nat):AG:=o d (.load true k (.t i))
abbrev al(d k i:Nat):AG:=o d (.off k (.t i))
abbrev ba(d k i j:Nat):AG:=o d (.kK k (.t i) (.t j))
abbrev bE(d i:Nat)(n:Int):AG:=o d (.bJ .add (.t i) (.c (.int .i64 n)))
abbrev cN(d i j:Nat):AG:=o d (.cmp .lss (.sc .int) (.t i) (.t j))
abbrev bT(d i j:Nat):AG:=o d (.pick (.t i) (.t j) (.c (.bool false)))
abbrev aO(d:Nat)(n:Int):AG:=o d (.mv (.c (.int .i64 n)))
abbrev aQ(d i:Nat):AG:=o d (.len (.t i))
abbrev aN(k a x:Nat):AG:=q (.store k (.t a) (.t x))
abbrev bo(d i k:Nat):AG:=o d (.extract (.t i) k)
abbrev cU(d j k i:Nat):AG:=oy d j (.load false k (.t i))
abbrev cO(d j i:Nat):AG:=oy d j (.mv (.t i))
abbrev aW(d:Nat)(f:FuncId)(i:Nat):AG:=o d (.call (.f f) [.t i])
abbrev cM(d:Nat)(f:FuncId)(i j:Nat):AG:=o d (.call (.f f) [.t i,.t j])
abbrev lQ(d:Nat):AG:=o d (.mv (.c (.bool false)))
abbrev Dx:FuncId:=5
abbrev zV:FuncId:=7
abbrev vS:FuncId:=8
abbrev lh:FuncId:=10
abbrev vK:FuncId:=11
abbrev vZ:FuncId:=12
abbrev s_:FuncId:=13
abbrev zU:FuncId:=15
abbrev z8:FuncId:=16
abbrev tt:FuncId:=17
abbrev KU:FuncId:=18
abbrev KF:FuncId:=20
abbrev wc:FuncId:=21
abbrev tc:FuncId:=22
abbrev vM:FuncId:=23
abbrev zM:FuncId:=24
abbrev sR:FuncId:=25
abbrev p3:FuncId:=26
abbrev zA:FuncId:=27
abbrev ot:FuncId:=28
abbrev ox:FuncId:=29
abbrev mU:FuncId:=30
abbrev vA:FuncId:=31
abbrev oB:FuncId:=32
abbrev nF:FuncId:=33
abbrev oD:FuncId:=34
abbrev tq:FuncId:=35
abbrev ta:FuncId:=36
abbrev mT:FuncId:=37
abbrev rC:FuncId:=38
abbrev lj:FuncId:=39
abbrev th:FuncId:=41
abbrev q_:FuncId:=42
abbrev vO:FuncId:=43
abbrev vQ:FuncId:=44
abbrev tu:FuncId:=45
abbrev zO:FuncId:=46
abbrev Dq:FuncId:=47
abbrev Dk:FuncId:=48
abbrev qY:FuncId:=49
abbrev vw:FuncId:=50
abbrev qX:FuncId:=51
abbrev rB:FuncId:=52
abbrev zF:FuncId:=53
abbrev s9:FuncId:=54
abbrev Dz:FuncId:=55
abbrev vI:FuncId:=56
abbrev sU:FuncId:=57
abbrev tv:FuncId:=58
abbrev pV:FuncId:=59
abbrev nD:FuncId:=60
abbrev zr:FuncId:=61
abbrev zG:FuncId:=62
abbrev vJ:FuncId:=63
abbrev nH:FuncId:=64
abbrev zh:FuncId:=65
abbrev tE:FuncId:=66
abbrev vP:FuncId:=67
abbrev rq:FuncId:=68
abbrev v8:FuncId:=69
abbrev tB:FuncId:=70
abbrev zE:FuncId:=71
abbrev zJ:FuncId:=72
abbrev sP:FuncId:=73
abbrev pS:FuncId:=74
abbrev zH:FuncId:=75
abbrev Dj:FuncId:=76
abbrev DC:FuncId:=77
abbrev ov:FuncId:=79
abbrev tp:FuncId:=80
abbrev ou:FuncId:=81
abbrev Dn:FuncId:=82
abbrev zD:FuncId:=83
abbrev pZ:FuncId:=84
abbrev nE:FuncId:=85
abbrev mV:FuncId:=86
abbrev vy:FuncId:=87
abbrev sY:FuncId:=88
abbrev zn:FuncId:=89
abbrev zx:FuncId:=90
abbrev s8:FuncId:=91
abbrev zi:FuncId:=92
abbrev iv:FuncId:=93
abbrev sV:FuncId:=94
abbrev sW:FuncId:=95
abbrev rm:FuncId:=96
abbrev zm:FuncId:=97
abbrev rb:FuncId:=98
abbrev vt:FuncId:=99
abbrev zq:FuncId:=100
abbrev zQ:FuncId:=101
abbrev Ah:FuncId:=102
abbrev tG:FuncId:=103
abbrev vv:FuncId:=104
abbrev qW:FuncId:=105
abbrev ow:FuncId:=106
abbrev pU:FuncId:=107
abbrev Dh:FuncId:=108
abbrev zY:FuncId:=109
abbrev Dl:FuncId:=110
abbrev vC:FuncId:=111
abbrev vz:FuncId:=112
abbrev zw:FuncId:=120
abbrev sZ:FuncId:=121
abbrev td:FuncId:=122
abbrev rn:FuncId:=123
abbrev pW:FuncId:=124
abbrev tj:FuncId:=125
abbrev zj:FuncId:=126
abbrev vV:FuncId:=127
abbrev vH:FuncId:=128
abbrev pT:FuncId:=129
abbrev sO:FuncId:=130
abbrev sS:FuncId:=131
abbrev zk:FuncId:=132
abbrev qZ:FuncId:=133
abbrev zp:FuncId:=134
abbrev Dp:FuncId:=135
abbrev vu:FuncId:=136
abbrev Aq:FuncId:=137
abbrev zK:FuncId:=138
abbrev zz:FuncId:=139
abbrev vX:FuncId:=140
abbrev ra:FuncId:=145
abbrev zo:FuncId:=146
abbrev zg:FuncId:=147
abbrev oz:FuncId:=148
abbrev Dg:FuncId:=149
abbrev vx:FuncId:=150
abbrev q9:FuncId:=151
abbrev vD:FuncId:=152
abbrev vR:FuncId:=153
abbrev vW:FuncId:=154
abbrev rh:FuncId:=155
abbrev v7:FuncId:=156
abbrev vT:FuncId:=157
abbrev Am:FuncId:=161
abbrev vF:FuncId:=185
abbrev zy:FuncId:=186
abbrev zu:FuncId:=187
abbrev vG:FuncId:=188
abbrev vB:FuncId:=191
abbrev sX:FuncId:=192
abbrev aq:TypeId:=3
abbrev aZ:TypeId:=4
abbrev FD:TypeId:=5
abbrev aF:TypeId:=9
abbrev Wx:TypeId:=32
abbrev iW:TypeId:=33
abbrev V5:TypeId:=46
abbrev rE:TypeId:=50
abbrev cP:TypeId:=63
abbrev DF:TypeId:=70
abbrev DQ:TypeId:=126
abbrev kx:TypeId:=153
@[simp] theorem awq:mj Tryz.prog kx "Push" =some (zu,none):=by kernel_rfl
@[simp] theorem awA:mj Tryz.prog kx "Len" =some (sY,some (false,1)):=by kernel_rfl
@[simp] theorem awt:mj Tryz.prog kx "Swap" =some (vG,some (false,1)):=by kernel_rfl
@[simp] theorem awD:mj Tryz.prog kx "Pop" =some (zy,none):=by kernel_rfl
@[simp] theorem aww:mj Tryz.prog kx "Less" =some (vF,some (false,1)):=by kernel_rfl
abbrev DA:TypeId:=154
@[simp] theorem awn:mj Tryz.prog DA "Len" =some (sY,none):=by kernel_rfl
@[simp] theorem awh:mj Tryz.prog DA "Swap" =some (vG,none):=by kernel_rfl
@[simp] theorem awf:mj Tryz.prog DA "Less" =some (vF,none):=by kernel_rfl
abbrev jR:TypeId:=155
abbrev aS:TypeId:=163
abbrev lg:TypeId:=196
abbrev ya:zR:=[ab 63 7,ab 64 63,cO 65 64 14,cO 66 64 17,oy 67 64 (.cmp .eql (.sc .int) (.t 65) (.t 66)),bT 68 64 67,ab 69 68,cO 70 69 12,cO 71 69 15,oy 72 69 (.call (.f tt) [.t 70,.t 71]),bT 73 69 72,ab 74 73,cO 75 74 13,cO 76 74 16,oy 77 74 (.call (.f tt) [.t 75,.t 76]),bT 78 74 77,ab 6 78]
abbrev yd:zR:=[al 55 0 9,aM 56 5 55,ab 57 1,ab 58 2,o 59 (.call (.f z8) [.t 56,.t 57,.t 58]),ab 54 59,bo 60 54 0,bo 61 54 1,bo 62 54 2,ab 15 60,ab 16 61,ab 17 62]
abbrev ye:zR:=[aM 47 4 3,ab 48 1,ab 49 2,o 50 (.call (.f zU) [.t 47,.t 48,.t 49]),ab 46 50,bo 51 46 0,bo 52 46 1,bo 53 46 2,ab 12 51,ab 13 52,ab 14 53]
abbrev yf:zR:=[ab 45 7,ab 6 45]
abbrev yg:ah:=.seq (.ae yf) .ret
abbrev yh:zR:=[ab 29 8,o 30 (.not (.t 29)),ab 31 30,on 32 31 (.mv (.t 10)),on 33 31 (.cmp .neq (.sc .int) (.t 32) (.c (.int .i64 0))),o 34 (.pick (.t 31) (.c (.bool true)) (.t 33)),ab 35 34,on 36 35 (.mv (.t 1)),on 37 35 (.len (.t 36)),on 38 35 (.cmp .gtr (.sc .int) (.t 37) (.c (.int .i64 60))),o 39 (.pick (.t 35) (.c (.bool true)) (.t 38)),ab 40 39,on 41 40 (.mv (.t 2)),on 42 40 (.len (.t 41)),on 43 40 (.cmp .gtr (.sc .int) (.t 42) (.c (.int .i64 60))),o 44 (.pick (.t 40) (.c (.bool true)) (.t 43))]
abbrev yi:zR:=[aM 24 4 3,aW 25 lh 24,ab 23 25,bo 26 23 0,bo 27 23 1,bo 28 23 2,o 9 (.alloc [.int .i64 0,.own 1 aq [],.own 1 aq [],.own 2 cP [],.own 1 aq [],.own 1 aF [],.own 1 aF [],.own 1 aF []]),aN 8 9 26,ab 10 27,ab 11 28]
abbrev yj:zR:=[aM 21 4 3,aW 22 vS 21,ab 8 22]
abbrev yk:zR:=[lQ 6]
abbrev ym:ah:=.seq (.ae yk) .ret
abbrev yo:zR:=[ab 19 7,o 20 (.not (.t 19))]
abbrev yp:zR:=[o 18 (.call (.f zV) []),ab 7 18]
abbrev yq:zR:=[o 3 (.box 4 (.t 0)),lQ 6]
abbrev VF:aA:=⟨.seq (.ae yq) (.seq (.ae yp) (.seq (.seq (.ae yo) (.cond (.t 20) ym .skip)) (.seq (.ae yj) (.seq (.ae yi) (.seq (.seq (.ae yh) (.cond (.t 44) yg .skip)) (.seq (.ae ye) (.seq (.ae yd) (.seq (.ae ya) .ret)))))))),79,[.tmp 6]⟩
@[simp] theorem UX:az Tryz.prog Dx=some VF:=by kernel_rfl
@[simp] theorem awx:au Tryz.prog Dx=true:=by kernel_rfl
abbrev yr:zR:=[ab 41 3,o 42 (.cmp .eql (.sc .int) (.t 41) (.c (.int .i64 0))),ab 43 42,cO 44 43 4,oy 45 43 (.cmp .eql (.sc .str) (.t 44) (.c (.str []))),bT 46 43 45,ab 47 46,oy 48 47 (.off 0 (.t 2)),oy 49 47 (.load true 5 (.t 48)),oy 50 47 (.load true 5 (.t 5)),oy 51 47 (.call (.f wc) [.t 49,.t 50]),bT 52 47 51,ab 53 52,oy 54 53 (.off 6 (.t 2)),cU 55 53 1 54,oy 56 53 (.lit 1 [.str []] [(0,.c (.str [113]))]),oy 57 53 (.call (.f vZ) [.t 55,.t 56]),bT 58 53 57,ab 59 58,cO 60 59 7,oy 61 59 (.cmp .eql (.sc .int) (.t 60) (.c (.int .i64 6))),bT 62 59 61,ab 63 62,cO 64 63 8,oy 65 63 (.cmp .eql (.sc .str) (.t 64) (.c (.str [121]))),bT 66 63 65,ab 67 66,oy 68 67 (.load true 8 (.t 2)),oy 69 67 (.call (.f s_) [.t 68]),oy 70 67 (.cmp .eql (.sc .int) (.t 69) (.c (.int .i64 0))),bT 71 67 70,ab 72 71,oy 73 72 (.load true 8 (.t 9)),oy 74 72 (.call (.f s_) [.t 73]),oy 75 72 (.cmp .eql (.sc .int) (.t 74) (.c (.int .i64 5))),bT 76 72 75,ab 77 76,oy 78 77 (.load true 8 (.t 2)),oy 79 77 (.call (.f tc) [.t 78,.c (.str [113])]),oy 80 77 (.cmp .eql (.sc .int) (.t 79) (.c (.int .i64 3))),bT 81 77 80,ab 82 81,oy 83 82 (.load true 8 (.t 2)),oy 84 82 (.call (.f tc) [.t 83,.c (.str [122])]),oy 85 82 (.cmp .eql (.sc .int) (.t 84) (.c (.int .i64 (-1)))),bT 86 82 85,ab 87 86,oy 88 87 (.load true 8 (.t 2)),oy 89 87 (.load true 8 (.t 2)),oy 90 87 (.call (.f vM) [.t 88,.t 89]),bT 91 87 90,ab 92 91,oy 93 92 (.load true 8 (.t 2)),oy 94 92 (.load true 8 (.t 9)),oy 95 92 (.call (.f vM) [.t 93,.t 94]),oy 96 92 (.not (.t 95)),bT 97 92 96,ab 0 97]
abbrev yu:zR:=[o 39 (.lit 1 [.str []] [(0,.c (.str [97]))]),al 40 7 9,aN 1 40 39]
abbrev yv:zR:=[aM 38 8 2,o 9 (.alloc [.int .i64 0,.own 1 aq [],.own 1 aq [],.own 2 cP [],.own 1 aq [],.own 1 aF [],.own 1 aF [],.own 1 aF []]),aN 8 9 38]
abbrev yw:zR:=[aM 33 4 1,aW 34 lh 33,ab 32 34,bo 35 32 0,bo 36 32 1,bo 37 32 2,o 6 (.alloc [.int .i64 0,.own 1 aq [],.own 1 aq [],.own 2 cP [],.own 1 aq [],.own 1 aF [],.own 1 aF [],.own 1 aF []]),aN 8 6 35,ab 7 36,ab 8 37]
abbrev yx:zR:=[o 30 (.lit 1 [.str []] [(0,.c (.str [121]))]),al 31 1 1,aN 1 31 30]
abbrev yy:zR:=[o 24 (.lit 1 [.int .i64 0] [(0,.c (.int .i64 9))]),o 25 (.lit 1 [.int .i64 0] [(0,.c (.int .i64 1))]),o 26 (.build [.int .i64 0,.int .i64 0] [(0,1,.c (.int .i64 5)),(1,1,.c (.int .i64 3))]),o 27 (.lit 2 [.agg [.int .i64 0,.int .i64 0]] [(0,.t 26)]),o 28 (.lit 1 [.int .i64 0] [(0,.c (.int .i64 9))]),o 29 (.build [.int .i64 0,.list true 0 [],.list true 0 [],.list true 0 [],.list true 0 []] [(0,1,.c (.int .i64 2)),(1,1,.t 24),(2,1,.t 25),(3,1,.t 27),(4,1,.t 28)]),o 5 (.alloc [.int .i64 0,.own 1 aq [],.own 1 aq [],.own 2 cP [],.own 1 aq []]),aN 5 5 29]
abbrev yz:zR:=[aM 19 4 1,aW 20 lh 19,ab 18 20,bo 21 18 0,bo 22 18 1,bo 23 18 2,o 2 (.alloc [.int .i64 0,.own 1 aq [],.own 1 aq [],.own 2 cP [],.own 1 aq [],.own 1 aF [],.own 1 aF [],.own 1 aF []]),aN 8 2 21,ab 3 22,ab 4 23]
abbrev yA:zR:=[o 10 (.lit 1 [.str [],.str []] [(0,.c (.str [97])),(1,.c (.str [98]))]),o 11 (.lit 1 [.str []] [(0,.c (.str [122]))]),o 12 (.build [.str [],.str [],.int .i64 0] [(0,1,.c (.str [113])),(1,1,.c (.str [122])),(2,1,.c (.int .i64 1))]),o 13 (.lit 3 [.agg [.str [],.str [],.int .i64 0]] [(0,.t 12)]),o 14 (.lit 1 [.str [],.str []] [(0,.c (.str [97])),(1,.c (.str [98]))]),o 15 (.build [.str [],.int .i64 0,.list true 0 [],.list true 0 [],.bool false] [(0,1,.c (.str [122])),(1,1,.c (.int .i64 6)),(2,1,.t 14)]),o 16 (.lit 5 [.agg [.str [],.int .i64 0,.list true 0 [],.list true 0 [],.bool false]] [(0,.t 15)]),o 17 (.build [.list true 0 [],.list true 0 [],.list true 0 [],.list true 0 []] [(0,1,.t 10),(1,1,.t 11),(2,1,.t 13),(3,1,.t 16)]),o 1 (.alloc [.own 1 aF [],.own 1 aF [],.own 3 V5 [],.own 5 Wx []]),aN 4 1 17]
abbrev yB:zR:=[lQ 0]
abbrev aac:aA:=⟨.seq (.ae yB) (.seq (.ae yA) (.seq (.ae yz) (.seq (.ae yy) (.seq (.ae yx) (.seq (.ae yw) (.seq (.ae yv) (.seq (.ae yu) (.seq (.ae yr) .ret)))))))),98,[.tmp 0]⟩
@[simp] theorem Xa:az Tryz.prog zV=some aac:=by kernel_rfl
@[simp] theorem axX:au Tryz.prog zV=true:=by kernel_rfl
abbrev yC:zR:=[ab 24 3,ab 25 24,cO 26 25 4,oy 27 25 (.cmp .leq (.sc .int) (.t 26) (.c (.int .i64 40))),bT 28 25 27,ab 29 28,oy 30 29 (.off 3 (.t 1)),cU 31 29 1 30,oy 32 29 (.len (.t 31)),oy 33 29 (.cmp .leq (.sc .int) (.t 32) (.c (.int .i64 16))),bT 34 29 33,ab 2 34]
abbrev yD:zB:=O::I::O::I::I::I::(by(iterate 29 refine O::?_);exact[])
abbrev yE:zB:=O::I::O::I::I::(by(iterate 30 refine O::?_);exact[])
abbrev yF:zR:=[ab 13 5,bE 14 13 1,ab 5 14]
abbrev yG:zR:=[ab 15 4,al 16 3 1,ai 17 1 16,ab 18 5,ba 19 5 17 18,al 20 3 19,ai 21 1 20,aQ 22 21,o 23 (.bJ .add (.t 15) (.t 22)),ab 4 23]
abbrev yH:zR:=[ab 8 5,al 9 3 1,ai 10 1 9,aQ 11 10,cN 12 8 11]
abbrev yI:ah:=.seq (.seq (.ae yH) (.cond (.t 12) .skip (.exit 0))) (.seq (.block 1 [] (.ae yG)) (.ae yF))
abbrev yJ:zR:=[aO 5 0]
abbrev yK:zR:=[aO 4 0]
abbrev yL:zR:=[aM 6 4 1,aW 7 zM 6,ab 3 7]
abbrev yM:zR:=[o 1 (.box 4 (.t 0)),lQ 2]
abbrev Zs:aA:=⟨.seq (.ae yM) (.seq (.ae yL) (.seq (.ae yK) (.seq (.seq (.ae yJ) (.block 0 yE (.loop yD yI))) (.seq (.ae yC) .ret)))),35,[.tmp 2]⟩
abbrev yN:zI:=[.code (.seq (.ae yC) .ret)]
abbrev yO(x1 x3 x4 x5:AV)(h:List Ob)(e:Cx:=cx):an:=aY vS (.code yI::.inLoop yD yI::.inBlock 0 yE::yN) (U::x1::U::x3::x4::x5::(by(iterate 29 refine U::?_);exact[])) h e
@[simp] theorem Xs:az Tryz.prog vS=some Zs:=by kernel_rfl
@[simp] theorem axC:au Tryz.prog vS=true:=by kernel_rfl
abbrev yP:zR:=[aM 148 8 2,aN 8 2 148,q (.store 1 (.t 3) (.c (.int .i64 0))),q (.store 1 (.t 4) (.c (.str [])))]
abbrev yQ:zR:=[ab 140 7,o 141 (.cv (.t 140)),al 142 0 141,aM 143 5 142,aW 144 oB 143,ab 139 144,bo 145 139 0,bo 146 139 1,al 147 0 2,aN 5 147 145]
abbrev yR:zR:=[ab 124 7,ab 125 7,ab 126 11,ab 127 12,o 128 (.call (.t 126) [.t 127]),ab 129 11,al 130 1 1,ai 131 1 130,o 132 (.call (.t 129) [.t 131]),o 133 (.cv (.t 124)),al 134 0 133,al 135 1 134,aN 1 135 128,o 136 (.cv (.t 125)),al 137 0 136,al 138 4 137,aN 1 138 132]
abbrev yS:zB:=O::I::I::I::I::O::O::I::I::O::O::I::I::(by(iterate 89 refine O::?_);exact I::I::I::(by(iterate 44 refine O::?_);exact[]))
abbrev yT:zB:=O::I::I::I::I::O::O::I::O::O::O::I::I::(by(iterate 136 refine O::?_);exact[])
abbrev yU:zR:=[bE 123 104 1,ab 104 123]
abbrev yV:zR:=[ai 113 1 8,al 114 0 19,ai 115 1 114,ab 116 7,aM 117 5 19,ab 118 11,al 119 2 19,ai 120 1 119,o 121 (.call (.t 118) [.t 120]),o 122 (.call (.f vA) [.t 116,.t 117,.t 121]),q (.bH (.sc .str) (.t 113) (.t 115) (.t 122))]
abbrev yX:zR:=[al 108 3 1,ai 109 1 108,ab 110 18,ba 111 5 109 110,aM 112 5 111,o 19 (.alloc [.str [],.int .i64 0,.own 1 aF [],.own 1 aF [],.bool false]),aN 5 19 112]
abbrev yY:zR:=[ba 106 1 102 104,ai 107 1 106,ab 18 107]
abbrev yZ:ah:=.seq (.ae yY) (.seq (.ae yX) (.aT [I,O,I,O,I,O,O,O,O,O,O] [11,11,11,10,10,9,9,9,10,11,12] yV))
abbrev yba:zR:=[cN 105 104 103]
abbrev xK:ah:=.seq (.ae yba) (.seq (.cond (.t 105) .skip (.exit 4)) (.seq (.block 5 [] yZ) (.ae yU)))
abbrev Hg:zR:=[ab 102 15,aQ 103 102,aO 104 0]
abbrev Hc:zR:=[aM 98 4 1,aW 99 mU 98,ab 97 99,bo 100 97 0,bo 101 97 1,ab 15 100,ab 16 101]
abbrev G6:zB:=O::I::I::I::I::O::O::I::I::O::O::I::I::(by(iterate 52 refine O::?_);exact I::I::I::(by(iterate 81 refine O::?_);exact[]))
abbrev Ii:zB:=O::I::I::I::I::O::O::I::I::O::O::I::I::(by(iterate 136 refine O::?_);exact[])
abbrev ybg:zR:=[bE 96 67 1,ab 67 96]
abbrev ybh:zR:=[ab 91 12,al 92 1 14,ai 93 1 92,o 94 (.lit 1 [.str []] [(0,.t 93)]),o 95 (.append 1 aF 16 (.t 91) (.t 94)),ab 12 95]
abbrev ybi:zR:=[ab 78 7,ab 79 7,o 80 (.cv (.t 79)),al 81 0 80,al 82 2 81,ai 83 1 82,al 84 2 14,ai 85 1 84,o 86 (.lit 1 [.int .i64 0] [(0,.t 85)]),o 87 (.append 1 aq 8 (.t 83) (.t 86)),o 88 (.cv (.t 78)),al 89 0 88,al 90 2 89,aN 1 90 87]
abbrev ybj:zR:=[al 71 6 2,ai 72 1 71,al 73 0 14,ai 74 1 73,o 75 (.lit 1 [.str []] [(0,.t 74)]),o 76 (.append 1 aF 16 (.t 72) (.t 75)),al 77 6 2,aN 1 77 76]
abbrev ybk:zR:=[ba 69 3 65 67,aM 70 3 69,o 14 (.alloc [.str [],.str [],.int .i64 0]),aN 3 14 70]
abbrev ybl:ah:=.seq (.ae ybk) (.seq (.ae ybj) (.seq (.aT [O,O,O,O,O,I,O,O,O,O,O,O,O,O] [14,10,10,10,10,10,9,9,10,14,14,14,14,15] ybi) (.ae ybh)))
abbrev ybm:zR:=[cN 68 67 66]
abbrev Cf:ah:=.seq (.ae ybm) (.seq (.cond (.t 68) .skip (.exit 2)) (.seq (.block 3 [] ybl) (.ae ybg)))
abbrev QU:zR:=[al 64 2 1,ai 65 1 64,aQ 66 65,aO 67 0]
abbrev R3:zR:=[o 12 (.bG 1 aF)]
abbrev RI:zR:=[o 63 (.fI (.func ox) [] [.t 8]),ab 11 63]
abbrev QB:zB:=O::I::I::I::I::O::O::I::I::(by(iterate 41 refine O::?_);exact I::I::I::(by(iterate 96 refine O::?_);exact[]))
abbrev QR:zB:=O::I::I::I::I::O::O::I::I::(by(iterate 140 refine O::?_);exact[])
abbrev ybt:zR:=[bE 62 52 1,ab 52 62]
abbrev ybu:zR:=[ai 57 1 8,ab 58 10,ab 59 9,bE 60 59 1,o 61 (.bJ .mul (.c (.int .i64 2)) (.t 60)),q (.bH (.sc .str) (.t 57) (.t 58) (.t 61))]
abbrev ybv:zR:=[ab 54 52,ba 55 1 50 52,ai 56 1 55,ab 9 54,ab 10 56]
abbrev ybw:ah:=.seq (.ae ybv) (.ae ybu)
abbrev ybx:zR:=[cN 53 52 51]
abbrev H_:ah:=.seq (.ae ybx) (.seq (.cond (.t 53) .skip (.exit 0)) (.seq (.block 1 [] ybw) (.ae ybt)))
abbrev ybz:zR:=[aM 49 4 1,aW 50 p3 49,aQ 51 50,aO 52 0]
abbrev ybA:zR:=[o 48 (.mkMap),o 8 (.alloc [.c8]),aN 1 8 48]
abbrev ybB:zR:=[al 41 0 1,ai 42 1 41,aW 43 ot 42,al 44 1 1,ai 45 1 44,aW 46 ot 45,o 47 (.build [.int .i64 0,.list true 0 [],.list true 0 [],.list true 0 [],.list true 0 [],.list true 0 [],.list true 0 [],.list true 0 []] [(5,1,.t 43),(7,1,.t 46)]),aN 8 2 47]
abbrev ybC:zR:=[al 31 0 1,ai 32 1 31,aQ 33 32,al 34 2 1,ai 35 1 34,aQ 36 35,o 37 (.mkSlice 1 aq 8 (.int .i64 0) (.t 36) (.t 36)),o 38 (.build [.int .i64 0,.list true 0 [],.list true 0 [],.list true 0 [],.list true 0 []] [(0,1,.t 33),(1,1,.t 37)]),o 39 (.build [.int .i64 0,.list true 0 [],.list true 0 [],.list true 0 [],.list true 0 []] [(0,5,.t 38)]),o 40 (.box 5 (.t 39)),ab 7 40]
abbrev ybD:zR:=[o 30 (.fI (.func zA) [] [.t 2,.t 3,.t 4]),q (.defer (.t 30) [])]
abbrev ybE:zR:=[o 27 (.build [.int .i64 0,.list true 0 [],.list true 0 [],.list true 0 [],.list true 0 [],.list true 0 [],.list true 0 [],.list true 0 []] []),ab 28 5,ab 29 6,aN 8 2 27,aN 1 3 28,aN 1 4 29]
abbrev ybF:ah:=.seq (.ae ybE) .ret
abbrev ybG:zR:=[ab 25 5,o 26 (.cmp .neq (.sc .int) (.t 25) (.c (.int .i64 0)))]
abbrev ybH:zR:=[aM 21 4 1,aW 22 vK 21,ab 20 22,bo 23 20 0,bo 24 20 1,ab 5 23,ab 6 24]
abbrev ybI:zR:=[o 1 (.box 4 (.t 0)),o 2 (.alloc [.int .i64 0,.own 1 aq [],.own 1 aq [],.own 2 cP [],.own 1 aq [],.own 1 aF [],.own 1 aF [],.own 1 aF []]),o 3 (.alloc [.int .i64 0]),o 4 (.alloc [.str []])]
abbrev W5:aA:=⟨.seq (.ae ybI) (.seq (.seq (.ae ybH) (.seq (.ae ybG) (.cond (.t 26) ybF .skip))) (.seq (.ae ybD) (.seq (.aT [O,I,O,O,O,O,O,O,O,O,O] [10,10,10,7,7,7,10,10,10,12,12] ybC) (.seq (.aT [O,O,O,O,I,O,O,O] [3,3,6,6,6,8,8,9] ybB) (.seq (.ae ybA) (.seq (.seq (.ae ybz) (.block 0 QR (.loop QB H_))) (.seq (.ae RI) (.seq (.ae R3) (.seq (.seq (.ae QU) (.block 2 Ii (.loop G6 Cf))) (.seq (.ae Hc) (.seq (.seq (.ae Hg) (.block 4 yT (.loop yS xK))) (.seq (.aT [O,O,O,O,O,O,O,I,O,O,O,O,O,O,O,O,O] [13,17,5,5,9,9,9,9,13,13,13,13,17,17,17,17,18] yR) (.seq (.ae yQ) (.seq (.ae yP) .ret)))))))))))))),149,[.cell 2 true 8,.cell 3 false 1,.cell 4 false 1]⟩
abbrev Qc:zI:=[.code (.seq (.aT [O,O,O,O,O,O,O,I,O,O,O,O,O,O,O,O,O] [13,17,5,5,9,9,9,9,13,13,13,13,17,17,17,17,18] yR) (.seq (.ae yQ) (.seq (.ae yP) .ret)))]
abbrev ybK(x1 x2 x3 x4 x7 x8 x11 x12 x102 x103 x104:AV)(h:List Ob)(e:Cx:=cx):an:=aY lh (.code xK::.inLoop yS xK::.inBlock 4 yT::Qc) (U::x1::x2::x3::x4::U::U::x7::x8::U::U::x11::x12::(by(iterate 89 refine U::?_);exact x102::x103::x104::(by(iterate 44 refine U::?_);exact[]))) h e
abbrev ybL(x1 x2 x3 x4 x7 x11 x12:AV)(h:List Ob)(e:Cx:=cx):an:=aY lh Qc (U::x1::x2::x3::x4::U::U::x7::U::U::U::x11::x12::(by(iterate 136 refine U::?_);exact[])) h e
abbrev P_:zI:=[.code (.seq (.ae Hc) (.seq (.seq (.ae Hg) (.block 4 yT (.loop yS xK))) (.seq (.aT [O,O,O,O,O,O,O,I,O,O,O,O,O,O,O,O,O] [13,17,5,5,9,9,9,9,13,13,13,13,17,17,17,17,18] yR) (.seq (.ae yQ) (.seq (.ae yP) .ret)))))]
abbrev ybN(x1 x2 x3 x4 x7 x8 x11 x12 x65 x66 x67:AV)(h:List Ob)(e:Cx:=cx):an:=aY lh (.code Cf::.inLoop G6 Cf::.inBlock 2 Ii::P_) (U::x1::x2::x3::x4::U::U::x7::x8::U::U::x11::x12::(by(iterate 52 refine U::?_);exact x65::x66::x67::(by(iterate 81 refine U::?_);exact[]))) h e
abbrev ybO(x1 x2 x3 x4 x7 x8 x11 x12:AV)(h:List Ob)(e:Cx:=cx):an:=aY lh P_ (U::x1::x2::x3::x4::U::U::x7::x8::U::U::x11::x12::(by(iterate 136 refine U::?_);exact[])) h e
abbrev Qg:zI:=[.code (.seq (.ae RI) (.seq (.ae R3) (.seq (.seq (.ae QU) (.block 2 Ii (.loop G6 Cf))) (.seq (.ae Hc) (.seq (.seq (.ae Hg) (.block 4 yT (.loop yS xK))) (.seq (.aT [O,O,O,O,O,O,O,I,O,O,O,O,O,O,O,O,O] [13,17,5,5,9,9,9,9,13,13,13,13,17,17,17,17,18] yR) (.seq (.ae yQ) (.seq (.ae yP) .ret))))))))]
abbrev ybQ(x1 x2 x3 x4 x7 x8 x50 x51 x52:AV)(h:List Ob)(e:Cx:=cx):an:=aY lh (.code H_::.inLoop QB H_::.inBlock 0 QR::Qg) (U::x1::x2::x3::x4::U::U::x7::x8::(by(iterate 41 refine U::?_);exact x50::x51::x52::(by(iterate 96 refine U::?_);exact[]))) h e
abbrev ybR(x1 x2 x3 x4 x7 x8:AV)(h:List Ob)(e:Cx:=cx):an:=aY lh Qg (U::x1::x2::x3::x4::U::U::x7::x8::(by(iterate 140 refine U::?_);exact[])) h e
@[simp] theorem VH:az Tryz.prog lh=some W5:=by kernel_rfl
@[simp] theorem awT:au Tryz.prog lh=true:=by kernel_rfl
abbrev ybS:zR:=[aO 2 0,o 3 (.mv (.c (.str [])))]
abbrev ybT:zR:=[ab 25 7,o 26 (.kK 1 (.t 25) (.c (.int .i64 0))),ai 27 1 26,aO 2 7,ab 3 27]
abbrev ybU:ah:=.seq (.aT [O,O,O,O,O] [6,6,6,6,6] ybT) .ret
abbrev ybV:zR:=[ab 22 7,aQ 23 22,o 24 (.cmp .gtr (.sc .int) (.t 23) (.c (.int .i64 0)))]
abbrev ybW:zR:=[aM 18 4 1,aW 19 mU 18,ab 17 19,bo 20 17 0,bo 21 17 1,ab 6 20,ab 7 21]
abbrev ybX:zR:=[ab 15 4,ab 16 5,ab 2 15,ab 3 16]
abbrev ybY:ah:=.seq (.ae ybX) .ret
abbrev ybZ:zR:=[ab 13 4,o 14 (.cmp .neq (.sc .int) (.t 13) (.c (.int .i64 0)))]
abbrev yca:zR:=[aM 9 4 1,aW 10 nF 9,ab 8 10,bo 11 8 0,bo 12 8 1,ab 4 11,ab 5 12]
abbrev ycb:zR:=[o 1 (.box 4 (.t 0)),aO 2 0,o 3 (.mv (.c (.str [])))]
abbrev W3:aA:=⟨.seq (.ae ycb) (.seq (.seq (.ae yca) (.seq (.ae ybZ) (.cond (.t 14) ybY .skip))) (.seq (.seq (.ae ybW) (.seq (.ae ybV) (.cond (.t 24) ybU .skip))) (.seq (.ae ybS) .ret))),28,[.tmp 2,.tmp 3]⟩
@[simp] theorem VR:az Tryz.prog vK=some W3:=by kernel_rfl
@[simp] theorem aw6:au Tryz.prog vK=true:=by kernel_rfl
abbrev sC:zR:=[o 4 (.mv (.c (.bool true)))]
abbrev Cd:zB:=I::I::O::O::O::I::(by(iterate 20 refine O::?_);exact[])
abbrev oa:zB:=(by(iterate 26 refine O::?_);exact[])
abbrev Cl:zR:=[ab 15 5,bE 16 15 1,ab 5 16]
abbrev jM:zR:=[lQ 4]
abbrev lT:ah:=.seq (.ae jM) .ret
abbrev yci:zR:=[ab 17 0,ab 18 5,ba 19 1 17 18,ai 20 1 19,ab 21 1,ab 22 5,ba 23 1 21 22,ai 24 1 23,o 25 (.cmp .neq (.sc .str) (.t 20) (.t 24))]
abbrev ycj:ah:=.seq (.aT [O,O,O,O,O,O,O,O,O] [10,10,10,10,10,10,10,10,10] yci) (.cond (.t 25) lT .skip)
abbrev QZ:zR:=[ab 11 5,ab 12 0,aQ 13 12,cN 14 11 13]
abbrev Ij:ah:=.seq (.seq (.ae QZ) (.cond (.t 14) .skip (.exit 0))) (.seq (.block 1 [] ycj) (.ae Cl))
abbrev xY:zR:=[ab 6 0,aQ 7 6,ab 8 1,aQ 9 8,o 10 (.cmp .neq (.sc .int) (.t 7) (.t 9))]
abbrev aas:aA:=⟨.seq (.ae jM) (.seq (.seq (.ae xY) (.cond (.t 10) lT .skip)) (.seq (.seq (.ae yJ) (.block 0 oa (.loop Cd Ij))) (.seq (.ae sC) .ret))),26,[.tmp 4]⟩
abbrev uV:zI:=[.code (.seq (.ae sC) .ret)]
abbrev ycs(x0 x1 x5:AV)(h:List Ob)(e:Cx:=cx):an:=aY vZ (.code Ij::.inLoop Cd Ij::.inBlock 0 oa::uV) (x0::x1::U::U::U::x5::(by(iterate 20 refine U::?_);exact[])) h e
@[simp] theorem XK:az Tryz.prog vZ=some aas:=by kernel_rfl
@[simp] theorem axR:au Tryz.prog vZ=true:=by kernel_rfl
abbrev xZ:zR:=[aO 2 0]
abbrev Ru:zB:=O::I::(by(iterate 58 refine O::?_);exact I::I::I::(by(iterate 21 refine O::?_);exact[]))
abbrev SC:zB:=(by(iterate 84 refine O::?_);exact[])
abbrev ycw:zR:=[bE 83 62 1,ab 62 83]
abbrev ycx:zR:=[aO 2 5]
abbrev R':ah:=.seq (.ae ycx) .ret
abbrev ycz:zR:=[ab 70 6,o 71 (.cmp .geq (.sc .int) (.t 70) (.c (.int .i64 0))),ab 72 71,oy 73 72 (.off 0 (.t 1)),oy 74 72 (.off 4 (.t 73)),cU 75 72 1 74,cO 76 72 4,oy 77 72 (.kK 1 (.t 75) (.t 76)),cU 78 72 1 77,cO 79 72 6,oy 80 72 (.bJ .mul (.c (.int .i64 2)) (.t 79)),oy 81 72 (.cmp .neq (.sc .int) (.t 78) (.t 80)),bT 82 72 81]
abbrev ycA:zR:=[aM 67 8 1,ab 68 5,cM 69 tc 67 68,ab 6 69]
abbrev ycB:zR:=[ab 64 62,ba 65 1 60 62,ai 66 1 65,ab 4 64,ab 5 66]
abbrev ycC:ah:=.seq (.ae ycB) (.seq (.ae ycA) (.seq (.ae ycz) (.cond (.t 82) R' .skip)))
abbrev RZ:zR:=[cN 63 62 61]
abbrev Hn:ah:=.seq (.ae RZ) (.seq (.cond (.t 63) .skip (.exit 1)) (.seq (.block 2 [] ycC) (.ae ycw)))
abbrev ycF:zR:=[al 59 7 1,ai 60 1 59,aQ 61 60,aO 62 0]
abbrev ycG:zR:=[ab 13 3,ab 2 13]
abbrev ycH:zR:=[aO 2 1]
abbrev ycI:zR:=[aO 2 4]
abbrev ycL:zR:=[al 56 7 1,ai 57 1 56,aW 58 ta 57,ab 48 58]
abbrev ycM:zR:=[al 49 5 1,ai 50 1 49,al 51 6 1,ai 52 1 51,o 53 (.lit 1 [.list true 0 [],.list true 0 []] [(0,.t 50),(1,.t 52)]),aW 54 mT 53,aW 55 ta 54,ab 48 55]
abbrev ycN:ah:=.seq (.ae ycI) .ret
abbrev ycO:ah:=.seq (.seq (.ae ycM) (.cond (.t 48) .skip (.ae ycL))) (.cond (.t 48) R' .skip)
abbrev ycP:zR:=[al 45 7 1,ai 46 1 45,aW 47 tq 46,ab 38 47]
abbrev ycQ:zR:=[al 42 6 1,ai 43 1 42,aW 44 tq 43,ab 38 44]
abbrev ycR:ah:=.seq (.ae ycQ) (.cond (.t 38) .skip (.ae ycP))
abbrev ycS:zR:=[al 39 5 1,ai 40 1 39,aW 41 tq 40,ab 38 41]
abbrev Iu:ah:=.seq (.ae ycH) .ret
abbrev ycU:ah:=.seq (.seq (.ae ycS) (.cond (.t 38) .skip ycR)) (.cond (.t 38) ycN ycO)
abbrev ycV:zR:=[al 30 7 1,ai 31 1 30,aQ 32 31,al 33 0 1,al 34 4 33,ai 35 1 34,aQ 36 35,o 37 (.cmp .neq (.sc .int) (.t 32) (.t 36)),ab 14 37]
abbrev ycW:zR:=[al 22 6 1,ai 23 1 22,aQ 24 23,al 25 0 1,al 26 1 25,ai 27 1 26,aQ 28 27,o 29 (.cmp .neq (.sc .int) (.t 24) (.t 28)),ab 14 29]
abbrev ycX:ah:=.seq (.ae ycW) (.cond (.t 14) .skip (.ae ycV))
abbrev ycY:zR:=[al 15 5 1,ai 16 1 15,aQ 17 16,al 18 0 1,al 19 0 18,ai 20 1 19,o 21 (.cmp .neq (.sc .int) (.t 17) (.t 20)),ab 14 21]
abbrev ycZ:ah:=.seq (.ae ycG) .ret
abbrev yda:ah:=.seq (.seq (.ae ycY) (.cond (.t 14) .skip ycX)) (.cond (.t 14) Iu ycU)
abbrev ydb:zR:=[ab 11 3,o 12 (.cmp .neq (.sc .int) (.t 11) (.c (.int .i64 0))),ab 10 12]
abbrev ydc:ah:=.seq (.ae ydb) (.cond (.t 10) ycZ yda)
abbrev ydd:zR:=[al 7 0 1,aM 8 5 7,aW 9 oD 8,ab 3 9]
abbrev yde:zR:=[o 1 (.box 8 (.t 0)),aO 2 0]
abbrev XE:aA:=⟨.seq (.ae yde) (.seq (.ae ydd) (.seq (.block 0 [] ydc) (.seq (.seq (.ae ycF) (.block 1 SC (.loop Ru Hn))) (.seq (.ae xZ) .ret)))),84,[.tmp 2]⟩
abbrev SA:zI:=[.code (.seq (.ae xZ) .ret)]
abbrev ydg(x1 x60 x61 x62:AV)(h:List Ob)(e:Cx:=cx):an:=aY s_ (.code Hn::.inLoop Ru Hn::.inBlock 1 SC::SA) (U::x1::(by(iterate 58 refine U::?_);exact x60::x61::x62::(by(iterate 21 refine U::?_);exact[]))) h e
@[simp] theorem V7:az Tryz.prog s_=some XE:=by kernel_rfl
@[simp] theorem awW:au Tryz.prog s_=true:=by kernel_rfl
abbrev ydh:zR:=[ab 19 9,ab 20 1,ab 21 2,o 22 (.call (.f q_) [.t 19,.t 20,.t 21]),bo 23 22 0,bo 24 22 1,bo 25 22 2,ab 6 23,ab 7 24,ab 8 25]
abbrev ydi:zR:=[ab 18 10,o 6 (.bG 1 aZ),o 7 (.bG 1 aZ),ab 8 18]
abbrev ydj:ah:=.seq (.ae ydi) .ret
abbrev ydk:zR:=[ab 16 10,o 17 (.cmp .neq (.sc .int) (.t 16) (.c (.int .i64 0)))]
abbrev ydl:zR:=[aM 12 4 3,aW 13 th 12,ab 11 13,bo 14 11 0,bo 15 11 1,ab 9 14,ab 10 15]
abbrev ydm:zR:=[o 3 (.box 4 (.t 0)),o 6 (.bG 1 aZ),o 7 (.bG 1 aZ),aO 8 0]
abbrev Z2:aA:=⟨.seq (.ae ydm) (.seq (.ae ydl) (.seq (.seq (.ae ydk) (.cond (.t 17) ydj .skip)) (.seq (.ae ydh) .ret))),26,[.tmp 6,.tmp 7,.tmp 8]⟩
@[simp] theorem J3:az Tryz.prog zU=some Z2:=by kernel_rfl
@[simp] theorem axO:au Tryz.prog zU=true:=by kernel_rfl
abbrev ydn:zR:=[ab 23 11,al 24 4 3,ai 25 1 24,o 26 (.call (.t 23) [.t 25]),ab 27 11,al 28 1 3,ai 29 1 28,o 30 (.call (.t 27) [.t 29]),ab 6 26,ab 7 30,aO 8 0]
abbrev ydo:zR:=[o 22 (.fI (.func vQ) [] [.t 9]),ab 11 22]
abbrev ydp:zR:=[ab 21 10,o 6 (.bG 1 aZ),o 7 (.bG 1 aZ),ab 8 21]
abbrev ydq:ah:=.seq (.ae ydp) .ret
abbrev ydr:zR:=[ab 19 10,o 20 (.cmp .neq (.sc .int) (.t 19) (.c (.int .i64 0)))]
abbrev yds:zR:=[aM 13 5 3,ab 14 1,ab 15 2,o 16 (.call (.f vO) [.t 13,.t 14,.t 15]),ab 12 16,bo 17 12 0,bo 18 12 1,o 9 (.alloc [.own 1 aZ []]),aN 1 9 17,ab 10 18]
abbrev ydt:zR:=[o 3 (.box 5 (.t 0)),o 6 (.bG 1 aZ),o 7 (.bG 1 aZ),aO 8 0]
abbrev ab6:aA:=⟨.seq (.ae ydt) (.seq (.ae yds) (.seq (.seq (.ae ydr) (.cond (.t 20) ydq .skip)) (.seq (.ae ydo) (.seq (.aT [O,O,O,O,O,O,I,O,O,O,O] [4,4,4,8,8,8,8,12,12,12,12] ydn) .ret)))),31,[.tmp 6,.tmp 7,.tmp 8]⟩
@[simp] theorem YM:az Tryz.prog z8=some ab6:=by kernel_rfl
@[simp] theorem ax1:au Tryz.prog z8=true:=by kernel_rfl
abbrev ydA:zR:=[ab 17 0,ab 18 5,ba 19 1 17 18,ai 20 1 19,ab 21 1,ab 22 5,ba 23 1 21 22,ai 24 1 23,o 25 (.cmp .neq (.sc .bool) (.t 20) (.t 24))]
abbrev ydB:ah:=.seq (.aT [O,O,O,O,O,O,O,O,O] [10,10,10,10,10,10,10,10,10] ydA) (.cond (.t 25) lT .skip)
abbrev H4:ah:=.seq (.seq (.ae QZ) (.cond (.t 14) .skip (.exit 0))) (.seq (.block 1 [] ydB) (.ae Cl))
abbrev aae:aA:=⟨.seq (.ae jM) (.seq (.seq (.ae xY) (.cond (.t 10) lT .skip)) (.seq (.seq (.ae yJ) (.block 0 oa (.loop Cd H4))) (.seq (.ae sC) .ret))),26,[.tmp 4]⟩
abbrev ydK(x0 x1 x5:AV)(h:List Ob)(e:Cx:=cx):an:=aY tt (.code H4::.inLoop Cd H4::.inBlock 0 oa::uV) (x0::x1::U::U::U::x5::(by(iterate 20 refine U::?_);exact[])) h e
@[simp] theorem Xl:az Tryz.prog tt=some aae:=by kernel_rfl
@[simp] theorem axV:au Tryz.prog tt=true:=by kernel_rfl
abbrev GS:zR:=[ab 23 0,aQ 24 23,ab 25 1,o 26 (.cmp .leq (.sc .int) (.t 24) (.t 25)),ab 4 26]
abbrev IP:zB:=I::I::O::O::O::I::(by(iterate 21 refine O::?_);exact[])
abbrev HX:zB:=I::I::(by(iterate 25 refine O::?_);exact[])
abbrev ydR:zR:=[ab 17 0,ab 18 5,ba 19 1 17 18,ai 20 1 19,aQ 21 20,o 22 (.cmp .gtr (.sc .int) (.t 21) (.c (.int .i64 60)))]
abbrev ydS:ah:=.seq (.ae ydR) (.cond (.t 22) lT .skip)
abbrev R_:zR:=[ab 6 5,ab 7 0,aQ 8 7,cN 9 6 8,ab 10 9,cO 11 10 5,cO 12 10 1,oy 13 10 (.cmp .leq (.sc .int) (.t 11) (.t 12)),bT 14 10 13]
abbrev ydU:ah:=.seq (.seq (.ae R_) (.cond (.t 14) .skip (.exit 0))) (.seq (.block 1 [] ydS) (.ae Cl))
abbrev aaD:aA:=⟨.seq (.ae jM) (.seq (.seq (.ae yJ) (.block 0 HX (.loop IP ydU))) (.seq (.ae GS) .ret)),27,[.tmp 4]⟩
@[simp] theorem ayi:az Tryz.prog KU=some aaD:=by kernel_rfl
@[simp] theorem ax3:au Tryz.prog KU=true:=by kernel_rfl
abbrev ydX:zR:=[ai 48 1 11,ai 49 1 4,aW 50 Dk 49,ab 6 48,ab 7 50,aO 8 0]
abbrev ydY:zR:=[ai 47 1 10,o 6 (.bG 1 rE),o 7 (.bG 1 aZ),ab 8 47]
abbrev ydZ:ah:=.seq (.aT [I,O,O,O] [5,3,5,5] ydY) .ret
abbrev yea:zR:=[ai 45 1 10,o 46 (.cmp .neq (.sc .int) (.t 45) (.c (.int .i64 0)))]
abbrev yeb:zR:=[ab 13 39]
abbrev yec:zR:=[ab 12 38]
abbrev yed:zR:=[ai 40 1 11,ab 41 12,o 42 (.lit 1 [.list true 0 []] [(0,.t 41)]),o 43 (.append 1 rE 24 (.t 40) (.t 42)),ab 44 13,aN 1 11 43,aN 1 4 44]
abbrev yee:ah:=.seq (.ae yec) (.ae yeb)
abbrev yef:ah:=.block 2 [] (.ae yed)
abbrev yeg:ah:=.rangeFunc (.t 37) [38,39] (O::O::O::O::I::O::I::I::I::O::O::I::(by(iterate 39 refine O::?_);exact[])) yee yef
abbrev yeh:zR:=[ab 34 9,ai 35 1 4,ab 36 2,o 37 (.call (.f Dq) [.t 34,.t 35,.t 36,.t 10])]
abbrev yei:zR:=[o 11 (.alloc [.own 1 rE []])]
abbrev yej:zR:=[ai 22 1 10,o 6 (.bG 1 rE),o 7 (.bG 1 aZ),ab 8 22]
abbrev yek:zR:=[o 6 (.bG 1 rE),o 7 (.bG 1 aZ),aO 8 8]
abbrev yel:zR:=[o 6 (.bG 1 rE),o 7 (.bG 1 aZ),aO 8 11]
abbrev yem:ah:=.seq (.ae yel) .ret
abbrev yen:zR:=[ai 28 1 4,aQ 29 28,al 30 2 3,ai 31 1 30,aQ 32 31,o 33 (.cmp .neq (.sc .int) (.t 29) (.t 32)),ab 27 33]
abbrev yeo:ah:=.seq (.ae yek) .ret
abbrev yep:ah:=.seq (.ae yen) (.cond (.t 27) yem .skip)
abbrev yeq:zR:=[ab 24 2,aQ 25 24,o 26 (.cmp .gtr (.sc .int) (.t 25) (.c (.int .i64 40))),ab 23 26]
abbrev yer:ah:=.seq (.aT [I,O,O,O] [5,3,5,5] yej) .ret
abbrev yeu:ah:=.seq (.ae yeq) (.cond (.t 23) yeo yep)
abbrev yev:zR:=[ai 20 1 10,o 21 (.cmp .neq (.sc .int) (.t 20) (.c (.int .i64 0))),ab 19 21]
abbrev yew:ah:=.seq (.ae yev) (.cond (.t 19) yer yeu)
abbrev yex:zR:=[aM 15 4 3,aW 16 th 15,ab 14 16,bo 17 14 0,bo 18 14 1,o 10 (.alloc [.int .i64 0]),ab 9 17,aN 1 10 18]
abbrev yey:zR:=[o 3 (.box 4 (.t 0)),o 4 (.box 1 (.t 1)),o 6 (.bG 1 rE),o 7 (.bG 1 aZ),aO 8 0]
abbrev abm:aA:=⟨.seq (.ae yey) (.seq (.ae yex) (.seq (.block 0 [] yew) (.seq (.ae yei) (.seq (.seq (.ae yeh) (.block 1 [] yeg)) (.seq (.seq (.ae yea) (.cond (.t 46) ydZ .skip)) (.seq (.aT [I,O,O,O,O,O] [7,3,7,7,7,7] ydX) .ret)))))),51,[.tmp 6,.tmp 7,.tmp 8]⟩
@[simp] theorem ax9:az Tryz.prog KF=some abm:=by kernel_rfl
@[simp] theorem ayc:au Tryz.prog KF=true:=by kernel_rfl
abbrev yez:zR:=[al 5 0 2,ai 6 1 5,al 7 0 3,ai 8 1 7,o 9 (.cmp .eql (.sc .int) (.t 6) (.t 8)),ab 10 9,oy 11 10 (.off 1 (.t 2)),cU 12 10 1 11,oy 13 10 (.off 1 (.t 3)),cU 14 10 1 13,oy 15 10 (.call (.f qY) [.t 12,.t 14]),bT 16 10 15,ab 17 16,oy 18 17 (.off 2 (.t 2)),cU 19 17 1 18,oy 20 17 (.off 2 (.t 3)),cU 21 17 1 20,oy 22 17 (.call (.f qY) [.t 19,.t 21]),bT 23 17 22,ab 24 23,oy 25 24 (.off 3 (.t 2)),cU 26 24 1 25,oy 27 24 (.off 3 (.t 3)),cU 28 24 1 27,oy 29 24 (.call (.f vw) [.t 26,.t 28]),bT 30 24 29,ab 31 30,oy 32 31 (.off 4 (.t 2)),cU 33 31 1 32,oy 34 31 (.off 4 (.t 3)),cU 35 31 1 34,oy 36 31 (.call (.f qY) [.t 33,.t 35]),bT 37 31 36,ab 4 37]
abbrev yeA:zR:=[o 2 (.box 5 (.t 0)),o 3 (.box 5 (.t 1)),lQ 4]
abbrev aaL:aA:=⟨.seq (.ae yeA) (.seq (.ae yez) .ret),38,[.tmp 4]⟩
@[simp] theorem Yz:az Tryz.prog wc=some aaL:=by kernel_rfl
@[simp] theorem ayj:au Tryz.prog wc=true:=by kernel_rfl
abbrev yeB:zR:=[ab 16 5,bE 17 16 1,ab 4 17]
abbrev uX:zR:=[o 4 (.mv (.c (.int .i64 (-1))))]
abbrev yeD:ah:=.seq (.ae uX) .ret
abbrev yeE:zR:=[ab 14 5,o 15 (.cmp .lss (.sc .int) (.t 14) (.c (.int .i64 0)))]
abbrev yeF:zR:=[al 6 5 2,ai 7 1 6,al 8 6 2,ai 9 1 8,o 10 (.lit 1 [.list true 0 [],.list true 0 []] [(0,.t 7),(1,.t 9)]),aW 11 mT 10,ab 12 1,cM 13 sR 11 12,ab 5 13]
abbrev yeG:zR:=[o 2 (.box 8 (.t 0)),aO 4 0]
abbrev WS:aA:=⟨.seq (.ae yeG) (.seq (.ae yeF) (.seq (.seq (.ae yeE) (.cond (.t 15) yeD .skip)) (.seq (.ae yeB) .ret))),18,[.tmp 4]⟩
@[simp] theorem VG:az Tryz.prog tc=some WS:=by kernel_rfl
@[simp] theorem awZ:au Tryz.prog tc=true:=by kernel_rfl
abbrev yeH:zR:=[al 5 0 2,aM 6 5 5,al 7 0 3,aM 8 5 7,cM 9 wc 6 8,ab 10 9,oy 11 10 (.off 5 (.t 2)),cU 12 10 1 11,oy 13 10 (.off 5 (.t 3)),cU 14 10 1 13,oy 15 10 (.call (.f qX) [.t 12,.t 14]),bT 16 10 15,ab 17 16,oy 18 17 (.off 6 (.t 2)),cU 19 17 1 18,oy 20 17 (.off 6 (.t 3)),cU 21 17 1 20,oy 22 17 (.call (.f qX) [.t 19,.t 21]),bT 23 17 22,ab 24 23,oy 25 24 (.off 7 (.t 2)),cU 26 24 1 25,oy 27 24 (.off 7 (.t 3)),cU 28 24 1 27,oy 29 24 (.call (.f qX) [.t 26,.t 28]),bT 30 24 29,ab 4 30]
abbrev yeI:zR:=[o 2 (.box 8 (.t 0)),o 3 (.box 8 (.t 1)),lQ 4]
abbrev XO:aA:=⟨.seq (.ae yeI) (.seq (.ae yeH) .ret),31,[.tmp 4]⟩
@[simp] theorem Wv:az Tryz.prog vM=some XO:=by kernel_rfl
@[simp] theorem axs:au Tryz.prog vM=true:=by kernel_rfl
abbrev yeJ:zR:=[ab 6 3,ab 7 6,oy 8 7 (.off 3 (.t 1)),cU 9 7 1 8,oy 10 7 (.len (.t 9)),oy 11 7 (.cmp .leq (.sc .int) (.t 10) (.c (.int .i64 24))),bT 12 7 11,ab 13 12,oy 14 13 (.off 0 (.t 1)),cU 15 13 1 14,oy 16 13 (.len (.t 15)),oy 17 13 (.cmp .leq (.sc .int) (.t 16) (.c (.int .i64 24))),bT 18 13 17,ab 19 18,oy 20 19 (.off 2 (.t 1)),cU 21 19 1 20,oy 22 19 (.len (.t 21)),oy 23 19 (.cmp .leq (.sc .int) (.t 22) (.c (.int .i64 24))),bT 24 19 23,ab 2 24]
abbrev yeK:zR:=[aM 4 4 1,aW 5 rB 4,ab 3 5]
abbrev XS:aA:=⟨.seq (.ae yM) (.seq (.ae yeK) (.seq (.ae yeJ) .ret)),25,[.tmp 2]⟩
@[simp] theorem Ww:az Tryz.prog zM=some XS:=by kernel_rfl
@[simp] theorem axg:au Tryz.prog zM=true:=by kernel_rfl
abbrev qE:zB:=[I,I,O,O,O,O,O,I,I,O,O,O,O,O,O,O,O,O,O]
abbrev mJ:zB:=(by(iterate 19 refine O::?_);exact[])
abbrev Hz:zR:=[bE 18 8 1,ab 8 18]
abbrev yeQ:zR:=[ab 17 5,ab 4 17]
abbrev HZ:ah:=.seq (.ae yeQ) .ret
abbrev yeS:zR:=[ab 11 1,ab 12 0,ab 13 5,ba 14 1 12 13,ai 15 1 14,o 16 (.cmp .eql (.sc .str) (.t 11) (.t 15))]
abbrev Hj:zR:=[ab 10 8,ab 5 10]
abbrev yeU:ah:=.seq (.ae Hj) (.seq (.ae yeS) (.cond (.t 16) HZ .skip))
abbrev C3:zR:=[cN 9 8 7]
abbrev Is:ah:=.seq (.ae C3) (.seq (.cond (.t 9) .skip (.exit 0)) (.seq (.block 1 [] yeU) (.ae Hz)))
abbrev y3:zR:=[ab 6 0,aQ 7 6,aO 8 0]
abbrev T4:aA:=⟨.seq (.ae yK) (.seq (.seq (.ae y3) (.block 0 mJ (.loop qE Is))) (.seq (.ae uX) .ret)),19,[.tmp 4]⟩
abbrev Cq:zI:=[.code (.seq (.ae uX) .ret)]
abbrev yfa(x0 x1 x7 x8:AV)(h:List Ob)(e:Cx:=cx):an:=aY sR (.code Is::.inLoop qE Is::.inBlock 0 mJ::Cq) [x0,x1,U,U,U,U,U,x7,x8,U,U,U,U,U,U,U,U,U,U] h e
@[simp] theorem TQ:az Tryz.prog sR=some T4:=by kernel_rfl
@[simp] theorem avH:au Tryz.prog sR=true:=by kernel_rfl
abbrev IW:zR:=[ab 37 3,ab 2 37]
abbrev H5:zB:=O::O::O::I::(by(iterate 21 refine O::?_);exact[I,I,I,O,O,O,O,O,O,O,O,O,O])
abbrev IS:zB:=O::O::O::I::(by(iterate 34 refine O::?_);exact[])
abbrev yfe:zR:=[bE 36 27 1,ab 27 36]
abbrev yff:zR:=[ab 31 3,al 32 0 7,ai 33 1 32,o 34 (.lit 1 [.str []] [(0,.t 33)]),o 35 (.append 1 aF 16 (.t 31) (.t 34)),ab 3 35]
abbrev Qb:zR:=[ba 29 5 25 27,aM 30 5 29,o 7 (.alloc [.str [],.int .i64 0,.own 1 aF [],.own 1 aF [],.bool false]),aN 5 7 30]
abbrev yfh:ah:=.seq (.ae Qb) (.ae yff)
abbrev uM:zR:=[cN 28 27 26]
abbrev Cy:ah:=.seq (.ae uM) (.seq (.cond (.t 28) .skip (.exit 2)) (.seq (.block 3 [] yfh) (.ae yfe)))
abbrev C2:zR:=[al 24 3 1,ai 25 1 24,aQ 26 25,aO 27 0]
abbrev fA:zB:=O::I::O::I::O::O::O::O::O::O::O::O::I::I::I::(by(iterate 23 refine O::?_);exact[])
abbrev SQ:zB:=O::I::O::I::(by(iterate 34 refine O::?_);exact[])
abbrev Sz:zR:=[bE 23 14 1,ab 14 23]
abbrev yfo:zR:=[ab 18 3,al 19 0 5,ai 20 1 19,o 21 (.lit 1 [.str []] [(0,.t 20)]),o 22 (.append 1 aF 16 (.t 18) (.t 21)),ab 3 22]
abbrev Q9:zR:=[ba 16 3 12 14,aM 17 3 16,o 5 (.alloc [.str [],.str [],.int .i64 0]),aN 3 5 17]
abbrev yfq:ah:=.seq (.ae Q9) (.ae yfo)
abbrev Sf:zR:=[cN 15 14 13]
abbrev HA:ah:=.seq (.ae Sf) (.seq (.cond (.t 15) .skip (.exit 0)) (.seq (.block 1 [] yfq) (.ae Sz)))
abbrev R4:zR:=[al 11 2 1,ai 12 1 11,aQ 13 12,aO 14 0]
abbrev yfu:zR:=[al 8 0 1,ai 9 1 8,aW 10 ot 9,ab 3 10]
abbrev Iq:zR:=[o 1 (.box 4 (.t 0)),o 2 (.bG 1 aF)]
abbrev aaN:aA:=⟨.seq (.ae Iq) (.seq (.ae yfu) (.seq (.seq (.ae R4) (.block 0 SQ (.loop fA HA))) (.seq (.seq (.ae C2) (.block 2 IS (.loop H5 Cy))) (.seq (.ae IW) .ret)))),38,[.tmp 2]⟩
abbrev yfw:zI:=[.code (.seq (.ae IW) .ret)]
abbrev yfx(x3 x25 x26 x27:AV)(h:List Ob)(e:Cx:=cx):an:=aY p3 (.code Cy::.inLoop H5 Cy::.inBlock 2 IS::yfw) (U::U::U::x3::(by(iterate 21 refine U::?_);exact[x25,x26,x27,U,U,U,U,U,U,U,U,U,U])) h e
abbrev yfy:zI:=[.code (.seq (.seq (.ae C2) (.block 2 IS (.loop H5 Cy))) (.seq (.ae IW) .ret))]
abbrev yfz(x1 x3 x12 x13 x14:AV)(h:List Ob)(e:Cx:=cx):an:=aY p3 (.code HA::.inLoop fA HA::.inBlock 0 SQ::yfy) (U::x1::U::x3::U::U::U::U::U::U::U::U::x12::x13::x14::(by(iterate 23 refine U::?_);exact[])) h e
@[simp] theorem YG:az Tryz.prog p3=some aaN:=by kernel_rfl
@[simp] theorem ayf:au Tryz.prog p3=true:=by kernel_rfl
abbrev yfA:zR:=[o 11 (.build [.int .i64 0,.list true 0 [],.list true 0 [],.list true 0 [],.list true 0 [],.list true 0 [],.list true 0 [],.list true 0 []] []),aN 8 0 11,q (.store 1 (.t 1) (.c (.int .i64 8))),q (.store 1 (.t 2) (.c (.str [])))]
abbrev yfB:zR:=[ab 10 4]
abbrev yfC:zR:=[o 6 (.recover),o 7 (.rM (.t 6) DF (.agg []) true),ab 5 7,bo 8 5 0,bo 9 5 1,o 3 (.alloc []),aN 0 3 8,ab 4 9]
abbrev VZ:aA:=⟨.seq (.ae yfC) (.seq (.ae yfB) (.cond (.t 10) (.ae yfA) .skip)),12,[]⟩
@[simp] theorem awL:az Tryz.prog zA=some VZ:=by kernel_rfl
@[simp] theorem awH:au Tryz.prog zA=true:=by kernel_rfl
abbrev yfD:zR:=[o 5 (.lit 1 [] []),ab 6 0,o 7 (.append 1 aF 16 (.t 5) (.t 6)),ab 2 7]
abbrev IZ:zR:=[o 2 (.bG 1 aF)]
abbrev yfF:ah:=.seq (.ae IZ) .ret
abbrev B9:zR:=[ab 3 0,o 4 (.jv false (.t 3))]
abbrev T3:aA:=⟨.seq (.ae IZ) (.seq (.seq (.ae B9) (.cond (.t 4) yfF .skip)) (.seq (.ae yfD) .ret)),8,[.tmp 2]⟩
@[simp] theorem TT:az Tryz.prog ot=some T3:=by kernel_rfl
@[simp] theorem avG:au Tryz.prog ot=true:=by kernel_rfl
abbrev Ht:zR:=[ab 20 4,ab 3 20]
abbrev B8:zB:=[O,I,O,O,I,O,O,I,I,I,O,O,O,O,O,O,O,O,O,O,O]
abbrev Cv:zB:=O::O::O::O::I::(by(iterate 16 refine O::?_);exact[])
abbrev QY:zR:=[bE 19 9 1,ab 9 19]
abbrev yfM:zR:=[ab 13 4,ai 14 1 1,ab 15 6,o 16 (.lookup (.sc .str) (.int .i64 0) (.t 14) (.t 15) false),o 17 (.lit 1 [.int .i64 0] [(0,.t 16)]),o 18 (.append 1 aq 8 (.t 13) (.t 17)),ab 4 18]
abbrev Ro:zR:=[ba 11 1 7 9,ai 12 1 11,ab 6 12]
abbrev yfO:ah:=.seq (.ae Ro) (.ae yfM)
abbrev y0:zR:=[cN 10 9 8]
abbrev GX:ah:=.seq (.ae y0) (.seq (.cond (.t 10) .skip (.exit 0)) (.seq (.block 1 [] yfO) (.ae QY)))
abbrev Cr:zR:=[ab 7 0,aQ 8 7,aO 9 0]
abbrev H3:zR:=[o 4 (.bG 1 aq)]
abbrev yfT:zR:=[o 3 (.bG 1 aq)]
abbrev VQ:aA:=⟨.seq (.ae yfT) (.seq (.ae H3) (.seq (.seq (.ae Cr) (.block 0 Cv (.loop B8 GX))) (.seq (.ae Ht) .ret))),21,[.tmp 3]⟩
abbrev Q_:zI:=[.code (.seq (.ae Ht) .ret)]
abbrev yfV(x1 x4 x7 x8 x9:AV)(h:List Ob)(e:Cx:=cx):an:=aY ox (.code GX::.inLoop B8 GX::.inBlock 0 Cv::Q_) [U,x1,U,U,x4,U,U,x7,x8,x9,U,U,U,U,U,U,U,U,U,U,U] h e
@[simp] theorem Vc:az Tryz.prog ox=some VQ:=by kernel_rfl
@[simp] theorem awI:au Tryz.prog ox=true:=by kernel_rfl
abbrev R9:zR:=[ai 52 1 4,ab 53 7,ab 2 52,ab 3 53]
abbrev SP:zB:=O::O::O::O::I::I::O::I::(by(iterate 24 refine O::?_);exact I::I::I::(by(iterate 19 refine O::?_);exact[]))
abbrev Si:zB:=O::O::O::O::I::O::O::I::(by(iterate 46 refine O::?_);exact[])
abbrev yfZ:zR:=[bE 51 34 1,ab 34 51]
abbrev yga:zR:=[ab 46 7,al 47 0 9,ai 48 1 47,o 49 (.lit 1 [.str []] [(0,.t 48)]),o 50 (.append 1 aF 16 (.t 46) (.t 49)),ab 7 50]
abbrev ygb:zR:=[ab 45 11]
abbrev ygc:zR:=[ai 39 1 5,al 40 0 9,ai 41 1 40,o 42 (.lookup (.sc .str) (.int .i64 0) (.t 39) (.t 41) true),ab 38 42,bo 43 38 0,bo 44 38 1,ab 10 43,ab 11 44]
abbrev ygd:zR:=[ba 36 5 32 34,aM 37 5 36,o 9 (.alloc [.str [],.int .i64 0,.own 1 aF [],.own 1 aF [],.bool false]),aN 5 9 37]
abbrev yge:ah:=.seq (.ae ygd) (.seq (.ae ygc) (.seq (.ae ygb) (.cond (.t 45) (.ae yga) .skip)))
abbrev Sd:zR:=[cN 35 34 33]
abbrev HO:ah:=.seq (.ae Sd) (.seq (.cond (.t 35) .skip (.exit 2)) (.seq (.block 3 [] yge) (.ae yfZ)))
abbrev ygh:zR:=[al 31 3 1,ai 32 1 31,aQ 33 32,aO 34 0]
abbrev Se:zR:=[o 7 (.bG 1 aF)]
abbrev Ix:zR:=[ab 6 19]
abbrev ygk:zR:=[ai 24 1 5,al 25 3 1,ai 26 1 25,ab 27 6,ba 28 5 26 27,al 29 0 28,ai 30 1 29,q (.delete (.sc .str) (.t 24) (.t 30))]
abbrev ygl:zR:=[ai 20 1 4,ab 21 6,o 22 (.lit 1 [.int .i64 0] [(0,.t 21)]),o 23 (.append 1 aq 8 (.t 20) (.t 22)),aN 1 4 23]
abbrev ygm:ah:=.seq (.ae ygl) (.aT [O,O,O,O,O,O,O,O] [8,8,8,8,8,8,8,9] ygk)
abbrev HQ:ah:=.block 1 [] ygm
abbrev ygo:ah:=.rangeFunc (.t 18) [19] (O::I::I::I::I::I::(by(iterate 48 refine O::?_);exact[])) (.ae Ix) HQ
abbrev ygp:zR:=[aM 17 4 1,aW 18 Dz 17]
abbrev ygq:zR:=[aM 15 4 1,aW 16 s9 15,o 5 (.alloc [.c8]),aN 1 5 16]
abbrev ygr:zR:=[o 4 (.alloc [.own 1 aq []])]
abbrev ygs:zR:=[o 2 (.bG 1 aq),o 3 (.bG 1 aF)]
abbrev ygt:ah:=.seq (.ae ygs) .ret
abbrev ygu:zR:=[aM 12 4 1,aW 13 zF 12,o 14 (.not (.t 13))]
abbrev ygv:zR:=[o 1 (.box 4 (.t 0)),o 2 (.bG 1 aq),o 3 (.bG 1 aF)]
abbrev Ym:aA:=⟨.seq (.ae ygv) (.seq (.seq (.ae ygu) (.cond (.t 14) ygt .skip)) (.seq (.ae ygr) (.seq (.ae ygq) (.seq (.seq (.ae ygp) (.block 0 [] ygo)) (.seq (.ae Se) (.seq (.seq (.ae ygh) (.block 2 Si (.loop SP HO))) (.seq (.ae R9) .ret))))))),54,[.tmp 2,.tmp 3]⟩
abbrev ygw:zI:=[.code (.seq (.ae R9) .ret)]
abbrev ygx(x4 x5 x7 x32 x33 x34:AV)(h:List Ob)(e:Cx:=cx):an:=aY mU (.code HO::.inLoop SP HO::.inBlock 2 Si::ygw) (U::U::U::U::x4::x5::U::x7::(by(iterate 24 refine U::?_);exact x32::x33::x34::(by(iterate 19 refine U::?_);exact[]))) h e
@[simp] theorem JQ:az Tryz.prog mU=some Ym:=by kernel_rfl
@[simp] theorem axj:au Tryz.prog mU=true:=by kernel_rfl
abbrev ygy:zR:=[ab 49 11,ab 6 49]
abbrev ygz:zR:=[ab 47 11,o 48 (.bJ .xor (.t 47) (.c (.int .i64 1))),ab 11 48]
abbrev ygA:zR:=[al 45 4 4,ai 46 1 45]
abbrev ygB:zR:=[ab 39 0,ab 40 9,ab 41 2,o 42 (.call (.f sU) [.t 39,.t 40,.t 41]),ab 38 42,bo 43 38 0,bo 44 38 1,ab 11 43,ab 12 44]
abbrev ygC:zR:=[al 30 3 4,ai 31 1 30,al 32 2 4,ai 33 1 32,aQ 34 33,cM 35 vI 31 34,ab 29 35,bo 36 29 0,bo 37 29 1,ab 9 36,ab 10 37]
abbrev ygD:zR:=[al 21 0 7,ai 22 1 21,ab 23 0,ab 24 2,o 25 (.call (.t 22) [.t 23,.t 24]),al 26 1 7,ai 27 1 26,o 28 (.bJ .xor (.t 25) (.t 27)),ab 6 28]
abbrev ygE:ah:=.seq (.aT [O,O,O,O,O,O,I,O,O] [5,5,5,5,10,10,10,10,10] ygD) .ret
abbrev ygF:zR:=[ab 20 8]
abbrev ygG:zR:=[o 14 (.load false 1 (.g 0)),al 15 1 4,ai 16 1 15,o 17 (.lookup (.sc .int) (.agg [.c_,.int .i64 0]) (.t 14) (.t 16) true),ab 13 17,bo 18 13 0,bo 19 13 1,o 7 (.alloc [.c_,.int .i64 0]),aN 2 7 18,ab 8 19]
abbrev ygH:zR:=[o 4 (.box 5 (.t 1)),aO 6 0]
abbrev UL:aA:=⟨.seq (.ae ygH) (.seq (.seq (.ae ygG) (.seq (.ae ygF) (.cond (.t 20) ygE .skip))) (.seq (.ae ygC) (.seq (.ae ygB) (.seq (.seq (.ae ygA) (.cond (.t 46) (.ae ygz) .skip)) (.seq (.ae ygy) .ret))))),50,[.tmp 6]⟩
@[simp] theorem Jx:az Tryz.prog vA=some UL:=by kernel_rfl
@[simp] theorem av9:au Tryz.prog vA=true:=by kernel_rfl
abbrev CO:zR:=[ab 92 10,aM 93 5 8,cM 94 zr 92 93,aN 5 2 94,aO 3 0]
abbrev Cu:zB:=O::O::I::O::O::O::O::O::I::I::I::(by(iterate 46 refine O::?_);exact I::I::I::(by(iterate 35 refine O::?_);exact[]))
abbrev B_:zB:=O::O::I::O::O::O::O::O::I::O::I::(by(iterate 84 refine O::?_);exact[])
abbrev ygL:zR:=[bE 91 59 1,ab 59 91]
abbrev ygM:zR:=[ab 81 10,ab 82 10,o 83 (.cv (.t 82)),al 84 6 83,ai 85 1 84,ab 86 13,o 87 (.lit 1 [.int .i64 0] [(0,.t 86)]),o 88 (.append 1 aq 8 (.t 85) (.t 87)),o 89 (.cv (.t 81)),al 90 6 89,aN 1 90 88]
abbrev ygN:zR:=[ab 71 10,ab 72 10,o 73 (.gG 2 1 (.t 12) (.c (.int .i64 0))),ai 74 1 73,cM 75 nD 72 74,ab 76 10,o 77 (.gG 2 1 (.t 12) (.c (.int .i64 1))),ai 78 1 77,cM 79 nD 76 78,o 80 (.call (.f pV) [.t 71,.t 75,.t 79]),ab 13 80]
abbrev ygO:zR:=[ab 64 9,aM 65 5 8,aW 66 lj 65,ab 67 11,o 68 (.bJ .add (.t 66) (.t 67)),ba 69 1 64 68,ai 70 1 69]
abbrev ygP:zR:=[aO 13 0]
abbrev ygQ:zR:=[ab 61 59,ba 62 2 57 59,aM 63 2 62,o 12 (.alloc [.int .i64 0,.int .i64 0]),ab 11 61,aN 2 12 63]
abbrev ygR:ah:=.seq (.ae ygQ) (.seq (.ae ygP) (.seq (.seq (.ae ygO) (.cond (.t 70) (.aT [O,O,O,O,O,O,O,I,O,O,O] [10,5,5,5,9,9,9,9,10,12,12] ygN) .skip)) (.ae ygM)))
abbrev ygS:zR:=[cN 60 59 58]
abbrev xX:ah:=.seq (.ae ygS) (.seq (.cond (.t 60) .skip (.exit 2)) (.seq (.block 3 [] ygR) (.ae ygL)))
abbrev G8:zR:=[al 56 3 8,ai 57 1 56,aQ 58 57,aO 59 0]
abbrev IV:zR:=[aM 54 5 8,aW 55 tv 54,ab 10 55]
abbrev Q2:zR:=[aM 52 5 8,aW 53 rC 52,ab 9 53]
abbrev SM:zR:=[ab 49 5,aM 50 5 1,cM 51 zr 49 50,o 8 (.alloc [.int .i64 0,.own 1 aq [],.own 1 aq [],.own 2 cP [],.own 1 aq []]),aN 5 8 51]
abbrev Qd:zB:=O::I::I::O::O::I::(by(iterate 17 refine O::?_);exact I::I::I::(by(iterate 69 refine O::?_);exact[]))
abbrev RN:zB:=O::I::I::O::O::I::(by(iterate 89 refine O::?_);exact[])
abbrev yha:zR:=[bE 48 25 1,ab 25 48]
abbrev yhb:zR:=[ab 29 5,ab 30 5,o 31 (.cv (.t 30)),al 32 6 31,ai 33 1 32,ab 34 5,ab 35 5,o 36 (.gG 2 1 (.t 7) (.c (.int .i64 0))),ai 37 1 36,cM 38 nD 35 37,ab 39 5,o 40 (.gG 2 1 (.t 7) (.c (.int .i64 1))),ai 41 1 40,cM 42 nD 39 41,o 43 (.call (.f pV) [.t 34,.t 38,.t 42]),o 44 (.lit 1 [.int .i64 0] [(0,.t 43)]),o 45 (.append 1 aq 8 (.t 33) (.t 44)),o 46 (.cv (.t 29)),al 47 6 46,aN 1 47 45]
abbrev yhc:zR:=[ba 27 2 23 25,aM 28 2 27,o 7 (.alloc [.int .i64 0,.int .i64 0]),aN 2 7 28]
abbrev yhd:ah:=.seq (.ae yhc) (.aT [O,O,O,O,I,O,O,O,O,O,O,O,I,O,O,O,O,O,O,O] [20,17,17,17,17,15,10,10,10,14,14,14,14,15,16,17,20,20,20,21] yhb)
abbrev R1:zR:=[cN 26 25 24]
abbrev Hm:ah:=.seq (.ae R1) (.seq (.cond (.t 26) .skip (.exit 0)) (.seq (.block 1 [] yhd) (.ae yha)))
abbrev Sv:zR:=[al 22 3 1,ai 23 1 22,aQ 24 23,aO 25 0]
abbrev yhh:zR:=[aM 20 5 1,aW 21 tv 20,ab 5 21]
abbrev yhi:zR:=[o 18 (.build [.int .i64 0,.list true 0 [],.list true 0 [],.list true 0 [],.list true 0 []] []),ab 19 4,aN 5 2 18,ab 3 19]
abbrev yhj:ah:=.seq (.ae yhi) .ret
abbrev yhk:zR:=[ab 16 4,o 17 (.cmp .neq (.sc .int) (.t 16) (.c (.int .i64 0)))]
abbrev yhl:zR:=[aM 14 5 1,aW 15 oD 14,ab 4 15]
abbrev yhm:zR:=[o 1 (.box 5 (.t 0)),o 2 (.alloc [.int .i64 0,.own 1 aq [],.own 1 aq [],.own 2 cP [],.own 1 aq []]),aO 3 0]
abbrev Yy:aA:=⟨.seq (.ae yhm) (.seq (.seq (.ae yhl) (.seq (.ae yhk) (.cond (.t 17) yhj .skip))) (.seq (.ae yhh) (.seq (.seq (.ae Sv) (.block 0 RN (.loop Qd Hm))) (.seq (.ae SM) (.seq (.ae Q2) (.seq (.ae IV) (.seq (.seq (.ae G8) (.block 2 B_ (.loop Cu xX))) (.seq (.ae CO) .ret)))))))),95,[.cell 2 true 5,.tmp 3]⟩
abbrev RX:zI:=[.code (.seq (.ae CO) .ret)]
abbrev yho(x2 x8 x9 x10 x57 x58 x59:AV)(h:List Ob)(e:Cx:=cx):an:=aY oB (.code xX::.inLoop Cu xX::.inBlock 2 B_::RX) (U::U::x2::U::U::U::U::U::x8::x9::x10::(by(iterate 46 refine U::?_);exact x57::x58::x59::(by(iterate 35 refine U::?_);exact[]))) h e
abbrev Sx(x2 x8 x10:AV)(h:List Ob)(e:Cx:=cx):an:=aY oB RX (U::U::x2::U::U::U::U::U::x8::U::x10::(by(iterate 84 refine U::?_);exact[])) h e
abbrev Qv:zI:=[.code (.seq (.ae SM) (.seq (.ae Q2) (.seq (.ae IV) (.seq (.seq (.ae G8) (.block 2 B_ (.loop Cu xX))) (.seq (.ae CO) .ret)))))]
abbrev yhr(x1 x2 x5 x23 x24 x25:AV)(h:List Ob)(e:Cx:=cx):an:=aY oB (.code Hm::.inLoop Qd Hm::.inBlock 0 RN::Qv) (U::x1::x2::U::U::x5::(by(iterate 17 refine U::?_);exact x23::x24::x25::(by(iterate 69 refine U::?_);exact[]))) h e
abbrev Hw(x1 x2 x5:AV)(h:List Ob)(e:Cx:=cx):an:=aY oB Qv (U::x1::x2::U::U::x5::(by(iterate 89 refine U::?_);exact[])) h e
@[simp] theorem WL:az Tryz.prog oB=some Yy:=by kernel_rfl
@[simp] theorem axm:au Tryz.prog oB=true:=by kernel_rfl
abbrev xR:zR:=[q (.store 1 (.t 2) (.c (.int .i64 0))),q (.store 1 (.t 3) (.c (.str [])))]
abbrev xO:zB:=O::O::I::I::O::O::O::I::(by(iterate 84 refine O::?_);exact[I,I,I,O,O,O,O,O,O,O,O,O])
abbrev xN:zB:=O::O::I::I::(by(iterate 100 refine O::?_);exact[])
abbrev yhw:zR:=[bE 103 94 1,ab 94 103]
abbrev yhx:zR:=[ab 98 7,ab 99 13,o 100 (.lookup (.sc .str) (.bool false) (.t 98) (.t 99) false),ab 101 13,o 102 (.call (.f nH) [.t 100,.c (.int .i64 6),.t 101])]
abbrev yhy:zR:=[ba 96 1 92 94,ai 97 1 96,ab 13 97]
abbrev yhz:ah:=.seq (.ae yhy) (.ae yhx)
abbrev yhA:zR:=[cN 95 94 93]
abbrev uQ:ah:=.seq (.ae yhA) (.seq (.cond (.t 95) .skip (.exit 6)) (.seq (.block 7 [] yhz) (.ae yhw)))
abbrev CB:zR:=[aM 91 4 1,aW 92 tB 91,aQ 93 92,aO 94 0]
abbrev Ci:zB:=O::I::I::I::O::O::O::I::(by(iterate 71 refine O::?_);exact I::I::I::(by(iterate 22 refine O::?_);exact[]))
abbrev sw:zB:=O::I::I::I::O::O::O::I::(by(iterate 96 refine O::?_);exact[])
abbrev yhF:zR:=[bE 90 81 1,ab 81 90]
abbrev Iv:zR:=[aM 85 5 11,aW 86 v8 85,al 87 0 11,ai 88 1 87,o 89 (.call (.f nH) [.t 86,.c (.int .i64 1),.t 88])]
abbrev yhH:zR:=[ba 83 5 79 81,aM 84 5 83,o 11 (.alloc [.str [],.int .i64 0,.own 1 aF [],.own 1 aF [],.bool false]),aN 5 11 84]
abbrev yhI:ah:=.seq (.ae yhH) (.aT [O,O,O,I,O] [2,5,5,5,6] Iv)
abbrev yhJ:zR:=[cN 82 81 80]
abbrev xP:ah:=.seq (.ae yhJ) (.seq (.cond (.t 82) .skip (.exit 4)) (.seq (.block 5 [] yhI) (.ae yhF)))
abbrev Hf:zR:=[al 78 3 1,ai 79 1 78,aQ 80 79,aO 81 0]
abbrev Iy:zB:=O::I::I::I::O::O::O::I::(by(iterate 52 refine O::?_);exact I::I::I::(by(iterate 41 refine O::?_);exact[]))
abbrev yhO:zR:=[bE 77 62 1,ab 62 77]
abbrev yhP:zR:=[al 66 2 9,ai 67 1 66,o 68 (.cmp .geq (.sc .int) (.t 67) (.c (.int .i64 0))),ab 69 68,oy 70 69 (.off 2 (.t 9)),cU 71 69 1 70,oy 72 69 (.cmp .leq (.sc .int) (.t 71) (.c (.int .i64 2))),bT 73 69 72,al 74 0 9,ai 75 1 74,o 76 (.call (.f nH) [.t 73,.c (.int .i64 1),.t 75])]
abbrev yhQ:zR:=[ba 64 3 60 62,aM 65 3 64,o 9 (.alloc [.str [],.str [],.int .i64 0]),aN 3 9 65]
abbrev yhR:ah:=.seq (.ae yhQ) (.ae yhP)
abbrev Cn:ah:=.seq (.ae RZ) (.seq (.cond (.t 63) .skip (.exit 2)) (.seq (.block 3 [] yhR) (.ae yhO)))
abbrev So:zR:=[al 59 2 1,ai 60 1 59,aQ 61 60,aO 62 0]
abbrev Sa:zR:=[al 56 1 1,ai 57 1 56,aW 58 rq 57]
abbrev QC:zR:=[aM 53 4 1,aW 54 p3 53,aW 55 rq 54,ab 7 55]
abbrev RR:zB:=O::I::I::I::(by(iterate 38 refine O::?_);exact I::I::I::(by(iterate 59 refine O::?_);exact[]))
abbrev R7:zB:=O::I::I::I::(by(iterate 100 refine O::?_);exact[])
abbrev yhZ:zR:=[bE 52 44 1,ab 44 52]
abbrev yia:zR:=[ab 48 6,aW 49 vP 48,ab 50 6,o 51 (.call (.f nH) [.t 49,.c (.int .i64 4),.t 50])]
abbrev yib:zR:=[ba 46 1 42 44,ai 47 1 46,ab 6 47]
abbrev yic:ah:=.seq (.ae yib) (.ae yia)
abbrev yid:zR:=[cN 45 44 43]
abbrev H7:ah:=.seq (.ae yid) (.seq (.cond (.t 45) .skip (.exit 0)) (.seq (.block 1 [] yic) (.ae yhZ)))
abbrev yif:zR:=[aM 41 4 1,aW 42 tE 41,aQ 43 42,aO 44 0]
abbrev yig:zR:=[al 15 0 1,ai 16 1 15,aQ 17 16,al 18 2 1,ai 19 1 18,aQ 20 19,o 21 (.bJ .add (.t 17) (.t 20)),al 22 3 1,ai 23 1 22,aQ 24 23,o 25 (.bJ .add (.t 21) (.t 24)),o 26 (.cmp .leq (.sc .int) (.t 25) (.c (.int .i64 200))),ab 27 26,oy 28 27 (.off 1 (.t 1)),cU 29 27 1 28,oy 30 27 (.len (.t 29)),oy 31 27 (.cmp .leq (.sc .int) (.t 30) (.c (.int .i64 200))),bT 32 27 31,ab 33 32,oy 34 33 (.off 3 (.t 1)),cU 35 33 1 34,cO 36 33 4,oy 37 33 (.call (.f zh) [.t 35,.t 36]),oy 38 33 (.not (.t 37)),bT 39 33 38,o 40 (.call (.f nH) [.t 39,.c (.int .i64 8),.c (.str [])])]
abbrev yih:zR:=[o 4 (.mv (.f vJ))]
abbrev yii:zR:=[o 14 (.fI (.func zG) [] [.t 2,.t 3]),q (.defer (.t 14) [])]
abbrev yij:zR:=[o 1 (.box 4 (.t 0)),o 2 (.alloc [.int .i64 0]),o 3 (.alloc [.str []])]
abbrev Zc:aA:=⟨.seq (.ae yij) (.seq (.ae yii) (.seq (.ae yih) (.seq (.ae yig) (.seq (.seq (.ae yif) (.block 0 R7 (.loop RR H7))) (.seq (.ae QC) (.seq (.ae Sa) (.seq (.seq (.ae So) (.block 2 sw (.loop Iy Cn))) (.seq (.seq (.ae Hf) (.block 4 sw (.loop Ci xP))) (.seq (.seq (.ae CB) (.block 6 xN (.loop xO uQ))) (.seq (.ae xR) .ret)))))))))),104,[.cell 2 false 1,.cell 3 false 1]⟩
abbrev yik:zI:=[.code (.seq (.ae xR) .ret)]
abbrev yil(x2 x3 x7 x92 x93 x94:AV)(h:List Ob)(e:Cx:=cx):an:=aY nF (.code uQ::.inLoop xO uQ::.inBlock 6 xN::yik) (U::U::x2::x3::U::U::U::x7::(by(iterate 84 refine U::?_);exact[x92,x93,x94,U,U,U,U,U,U,U,U,U])) h e
abbrev yim:zI:=[.code (.seq (.seq (.ae CB) (.block 6 xN (.loop xO uQ))) (.seq (.ae xR) .ret))]
abbrev yin(x1 x2 x3 x7 x79 x80 x81:AV)(h:List Ob)(e:Cx:=cx):an:=aY nF (.code xP::.inLoop Ci xP::.inBlock 4 sw::yim) (U::x1::x2::x3::U::U::U::x7::(by(iterate 71 refine U::?_);exact x79::x80::x81::(by(iterate 22 refine U::?_);exact[]))) h e
abbrev yio:zI:=[.code (.seq (.seq (.ae Hf) (.block 4 sw (.loop Ci xP))) (.seq (.seq (.ae CB) (.block 6 xN (.loop xO uQ))) (.seq (.ae xR) .ret)))]
abbrev yip(x1 x2 x3 x7 x60 x61 x62:AV)(h:List Ob)(e:Cx:=cx):an:=aY nF (.code Cn::.inLoop Iy Cn::.inBlock 2 sw::yio) (U::x1::x2::x3::U::U::U::x7::(by(iterate 52 refine U::?_);exact x60::x61::x62::(by(iterate 41 refine U::?_);exact[]))) h e
abbrev yiq:zI:=[.code (.seq (.ae QC) (.seq (.ae Sa) (.seq (.seq (.ae So) (.block 2 sw (.loop Iy Cn))) (.seq (.seq (.ae Hf) (.block 4 sw (.loop Ci xP))) (.seq (.seq (.ae CB) (.block 6 xN (.loop xO uQ))) (.seq (.ae xR) .ret))))))]
abbrev yir(x1 x2 x3 x42 x43 x44:AV)(h:List Ob)(e:Cx:=cx):an:=aY nF (.code H7::.inLoop RR H7::.inBlock 0 R7::yiq) (U::x1::x2::x3::(by(iterate 38 refine U::?_);exact x42::x43::x44::(by(iterate 59 refine U::?_);exact[]))) h e
@[simp] theorem Kg:az Tryz.prog nF=some Zc:=by kernel_rfl
@[simp] theorem axT:au Tryz.prog nF=true:=by kernel_rfl
abbrev Sg:zB:=O::I::(by(iterate 68 refine O::?_);exact I::I::I::(by(iterate 30 refine O::?_);exact[]))
abbrev Q4:zB:=(by(iterate 103 refine O::?_);exact[])
abbrev yiv:zR:=[bE 102 72 1,ab 72 102]
abbrev yiy:zR:=[o 82 (.gG 2 1 (.t 7) (.c (.int .i64 0))),ai 83 1 82,o 84 (.cmp .lss (.sc .int) (.t 83) (.c (.int .i64 0))),ab 85 84,on 86 85 (.gG 2 1 (.t 7) (.c (.int .i64 1))),on 87 85 (.load false 1 (.t 86)),on 88 85 (.cmp .lss (.sc .int) (.t 87) (.c (.int .i64 0))),o 89 (.pick (.t 85) (.c (.bool true)) (.t 88)),ab 90 89,on 91 90 (.gG 2 1 (.t 7) (.c (.int .i64 0))),on 92 90 (.load false 1 (.t 91)),on 93 90 (.mv (.t 8)),on 94 90 (.cmp .geq (.sc .int) (.t 92) (.t 93)),o 95 (.pick (.t 90) (.c (.bool true)) (.t 94)),ab 96 95,on 97 96 (.gG 2 1 (.t 7) (.c (.int .i64 1))),on 98 96 (.load false 1 (.t 97)),on 99 96 (.mv (.t 8)),on 100 96 (.cmp .geq (.sc .int) (.t 98) (.t 99)),o 101 (.pick (.t 96) (.c (.bool true)) (.t 100))]
abbrev yiz:zR:=[aM 77 5 1,aW 78 lj 77,ab 79 6,o 80 (.bJ .add (.t 78) (.t 79)),o 81 (.bJ .mul (.c (.int .i64 2)) (.t 80)),ab 8 81]
abbrev yiA:zR:=[ab 74 72,ba 75 2 70 72,aM 76 2 75,o 7 (.alloc [.int .i64 0,.int .i64 0]),ab 6 74,aN 2 7 76]
abbrev yiB:ah:=.seq (.ae yiA) (.seq (.ae yiz) (.seq (.ae yiy) (.cond (.t 101) Iu .skip)))
abbrev yiC:zR:=[cN 73 72 71]
abbrev He:ah:=.seq (.ae yiC) (.seq (.cond (.t 73) .skip (.exit 0)) (.seq (.block 1 [] yiB) (.ae yiv)))
abbrev yiE:zR:=[al 69 3 1,ai 70 1 69,aQ 71 70,aO 72 0]
abbrev yiH:zR:=[al 44 2 1,ai 45 1 44,aQ 46 45,al 47 1 1,ai 48 1 47,aQ 49 48,o 50 (.cmp .neq (.sc .int) (.t 46) (.t 49)),ab 51 50,on 52 51 (.off 2 (.t 1)),on 53 51 (.load false 1 (.t 52)),on 54 51 (.mv (.t 5)),on 55 51 (.call (.f sP) [.t 53,.t 54]),o 56 (.pick (.t 51) (.c (.bool true)) (.t 55)),ab 57 56,on 58 57 (.off 1 (.t 1)),on 59 57 (.load false 1 (.t 58)),on 60 57 (.mv (.t 4)),on 61 57 (.call (.f sP) [.t 59,.t 60]),o 62 (.pick (.t 57) (.c (.bool true)) (.t 61)),ab 63 62,on 64 63 (.off 4 (.t 1)),on 65 63 (.load false 1 (.t 64)),on 66 63 (.mv (.t 4)),on 67 63 (.call (.f sP) [.t 65,.t 66]),o 68 (.pick (.t 63) (.c (.bool true)) (.t 67))]
abbrev yiI:zR:=[o 5 (.mv (.f zJ))]
abbrev yiJ:zR:=[o 43 (.fI (.func zE) [] [.t 3]),ab 4 43]
abbrev yiK:zR:=[aM 36 5 1,aW 37 lj 36,al 38 3 1,ai 39 1 38,aQ 40 39,o 41 (.bJ .add (.t 37) (.t 40)),o 42 (.bJ .mul (.c (.int .i64 2)) (.t 41)),o 3 (.alloc [.int .i64 0]),aN 1 3 42]
abbrev yiL:zR:=[aO 2 8]
abbrev yiM:ah:=.seq (.ae yiL) .ret
abbrev yiN:zR:=[al 9 0 1,ai 10 1 9,o 11 (.cmp .lss (.sc .int) (.t 10) (.c (.int .i64 0))),ab 12 11,on 13 12 (.off 0 (.t 1)),on 14 12 (.load false 1 (.t 13)),on 15 12 (.cmp .gtr (.sc .int) (.t 14) (.c (.int .i64 4000))),o 16 (.pick (.t 12) (.c (.bool true)) (.t 15)),ab 17 16,on 18 17 (.off 0 (.t 1)),on 19 17 (.load false 1 (.t 18)),on 20 17 (.off 1 (.t 1)),on 21 17 (.load false 1 (.t 20)),on 22 17 (.len (.t 21)),on 23 17 (.bJ .add (.t 19) (.t 22)),on 24 17 (.off 3 (.t 1)),on 25 17 (.load false 1 (.t 24)),on 26 17 (.len (.t 25)),on 27 17 (.bJ .add (.t 23) (.t 26)),on 28 17 (.cmp .gtr (.sc .int) (.t 27) (.c (.int .i64 4000))),o 29 (.pick (.t 17) (.c (.bool true)) (.t 28)),ab 30 29,on 31 30 (.off 4 (.t 1)),on 32 30 (.load false 1 (.t 31)),on 33 30 (.len (.t 32)),on 34 30 (.cmp .gtr (.sc .int) (.t 33) (.c (.int .i64 4000))),o 35 (.pick (.t 30) (.c (.bool true)) (.t 34))]
abbrev Qr:zR:=[o 1 (.box 5 (.t 0)),aO 2 0]
abbrev aaf:aA:=⟨.seq (.ae Qr) (.seq (.seq (.ae yiN) (.cond (.t 35) yiM .skip)) (.seq (.aT [I,I,O,I,O,O,O,O,O] [9,9,9,9,9,9,9,9,10] yiK) (.seq (.ae yiJ) (.seq (.ae yiI) (.seq (.seq (.ae yiH) (.cond (.t 68) Iu .skip)) (.seq (.seq (.ae yiE) (.block 0 Q4 (.loop Sg He))) (.seq (.ae xZ) .ret))))))),103,[.tmp 2]⟩
abbrev yiQ(x1 x70 x71 x72:AV)(h:List Ob)(e:Cx:=cx):an:=aY oD (.code He::.inLoop Sg He::.inBlock 0 Q4::SA) (U::x1::(by(iterate 68 refine U::?_);exact x70::x71::x72::(by(iterate 30 refine U::?_);exact[]))) h e
@[simp] theorem Xw:az Tryz.prog oD=some aaf:=by kernel_rfl
@[simp] theorem axJ:au Tryz.prog oD=true:=by kernel_rfl
abbrev yiR:zR:=[ab 3 0,o 4 (.call (.f pS) [.t 3,.f zH]),ab 2 4]
abbrev jK:zR:=[lQ 2]
abbrev Y':aA:=⟨.seq (.ae jK) (.seq (.ae yiR) .ret),5,[.tmp 2]⟩
@[simp] theorem XI:az Tryz.prog tq=some Y':=by kernel_rfl
@[simp] theorem axU:au Tryz.prog tq=true:=by kernel_rfl
abbrev QQ:zB:=[O,O,O,I,O,O,O,I,I,I,O,O,O,O,O,O,O,O,O]
abbrev yiW:zR:=[bE 18 9 1,ab 9 18]
abbrev yiX:zR:=[ab 16 3,ab 17 5,q (.bH (.sc .str) (.t 16) (.t 17) (.c (.bool true)))]
abbrev yiY:zR:=[o 2 (.mv (.c (.bool true)))]
abbrev yiZ:ah:=.seq (.ae yiY) .ret
abbrev yja:zR:=[ab 13 3,ab 14 5,o 15 (.lookup (.sc .str) (.bool false) (.t 13) (.t 14) false)]
abbrev SB:zR:=[ba 11 1 7 9,ai 12 1 11,ab 5 12]
abbrev yjc:ah:=.seq (.ae SB) (.seq (.seq (.ae yja) (.cond (.t 15) yiZ .skip)) (.ae yiX))
abbrev HR:ah:=.seq (.ae y0) (.seq (.cond (.t 10) .skip (.exit 0)) (.seq (.block 1 [] yjc) (.ae yiW)))
abbrev GO:zR:=[o 6 (.mkMap),ab 3 6]
abbrev Xu:aA:=⟨.seq (.ae jK) (.seq (.ae GO) (.seq (.seq (.ae Cr) (.block 0 mJ (.loop QQ HR))) (.seq (.ae jK) .ret))),19,[.tmp 2]⟩
abbrev yji:zI:=[.code (.seq (.ae jK) .ret)]
abbrev yjj(x3 x7 x8 x9:AV)(h:List Ob)(e:Cx:=cx):an:=aY ta (.code HR::.inLoop QQ HR::.inBlock 0 mJ::yji) [U,U,U,x3,U,U,U,x7,x8,x9,U,U,U,U,U,U,U,U,U] h e
@[simp] theorem VN:az Tryz.prog ta=some Xu:=by kernel_rfl
@[simp] theorem axb:au Tryz.prog ta=true:=by kernel_rfl
abbrev pB:zR:=[ab 35 6,ab 2 35]
abbrev mG:zB:=O::O::O::O::O::O::I::(by(iterate 18 refine O::?_);exact[I,I,I,O,O,O,O,O,O,O,O])
abbrev mE:zB:=O::O::O::O::O::O::I::(by(iterate 29 refine O::?_);exact[])
abbrev Ch:zR:=[bE 34 27 1,ab 27 34]
abbrev yjo:zR:=[ab 31 6,ab 32 8,o 33 (.append 1 aF 16 (.t 31) (.t 32)),ab 6 33]
abbrev C4:zR:=[ba 29 1 25 27,ai 30 1 29,ab 8 30]
abbrev yjq:ah:=.seq (.ae C4) (.ae yjo)
abbrev CY:ah:=.seq (.ae uM) (.seq (.cond (.t 28) .skip (.exit 2)) (.seq (.block 3 [] yjq) (.ae Ch)))
abbrev qM:zR:=[ab 25 0,aQ 26 25,aO 27 0]
abbrev QI:zR:=[ab 23 3,o 24 (.call (.f Dj) [.c (.list true 0 []),.t 23]),ab 6 24]
abbrev qI:zB:=I::O::O::I::O::O::O::O::O::I::I::I::(by(iterate 24 refine O::?_);exact[])
abbrev qL:zB:=I::O::O::I::(by(iterate 32 refine O::?_);exact[])
abbrev yjx:zR:=[bE 22 11 1,ab 11 22]
abbrev yjy:zR:=[o 21 (.lr aF (.c (.str [108,101,110,32,111,117,116,32,111,102,32,114,97,110,103,101]))),q (.panic (.t 21))]
abbrev yjz:zR:=[ab 19 3,o 20 (.cmp .lss (.sc .int) (.t 19) (.c (.int .i64 0)))]
abbrev yjA:zR:=[ab 15 3,ab 16 5,aQ 17 16,o 18 (.bJ .add (.t 15) (.t 17)),ab 3 18]
abbrev yjB:zR:=[ba 13 1 9 11,ai 14 1 13,ab 5 14]
abbrev yjC:ah:=.seq (.ae yjB) (.seq (.ae yjA) (.seq (.ae yjz) (.cond (.t 20) (.ae yjy) .skip)))
abbrev yjD:zR:=[cN 12 11 10]
abbrev mI:ah:=.seq (.ae yjD) (.seq (.cond (.t 12) .skip (.exit 0)) (.seq (.block 1 [] yjC) (.ae yjx)))
abbrev Cg:zR:=[ab 9 0,aQ 10 9,aO 11 0]
abbrev sy:zR:=[aO 3 0]
abbrev TV:aA:=⟨.seq (.ae IZ) (.seq (.ae sy) (.seq (.seq (.ae Cg) (.block 0 qL (.loop qI mI))) (.seq (.ae QI) (.seq (.seq (.ae qM) (.block 2 mE (.loop mG CY))) (.seq (.ae pB) .ret))))),36,[.tmp 2]⟩
abbrev CX:zI:=[.code (.seq (.ae pB) .ret)]
abbrev Te(x6 x25 x26 x27:AV)(h:List Ob)(e:Cx:=cx):an:=aY mT (.code CY::.inLoop mG CY::.inBlock 2 mE::CX) (U::U::U::U::U::U::x6::(by(iterate 18 refine U::?_);exact[x25,x26,x27,U,U,U,U,U,U,U,U])) h e
abbrev yjK:zI:=[.code (.seq (.ae QI) (.seq (.seq (.ae qM) (.block 2 mE (.loop mG CY))) (.seq (.ae pB) .ret)))]
abbrev Rx(x0 x3 x9 x10 x11:AV)(h:List Ob)(e:Cx:=cx):an:=aY mT (.code mI::.inLoop qI mI::.inBlock 0 qL::yjK) (x0::U::U::x3::U::U::U::U::U::x9::x10::x11::(by(iterate 24 refine U::?_);exact[])) h e
@[simp] theorem Jn:az Tryz.prog mT=some TV:=by kernel_rfl
@[simp] theorem avF:au Tryz.prog mT=true:=by kernel_rfl
abbrev Ho:zR:=[ai 20 1 3,ab 2 20]
abbrev Rc:zR:=[ab 4 15]
abbrev yjO:zR:=[ai 16 1 3,ab 17 4,o 18 (.bJ .shr (.t 17) (.c (.int .u64 1))),ba 19 1 16 18,q (.store 1 (.t 19) (.c (.bool true)))]
abbrev Rt:ah:=.block 1 [] (.ae yjO)
abbrev Ss:ah:=.rangeFunc (.t 14) [15] (O::O::I::I::(by(iterate 17 refine O::?_);exact[])) (.ae Rc) Rt
abbrev Rp:zR:=[aM 12 5 1,ai 13 1 3,cM 14 DC 12 13]
abbrev yjS:zR:=[aM 5 5 1,aW 6 lj 5,al 7 3 1,ai 8 1 7,aQ 9 8,o 10 (.bJ .add (.t 6) (.t 9)),o 11 (.mkSlice 1 aZ 1 (.bool false) (.t 10) (.t 10)),o 3 (.alloc [.own 1 aZ []]),aN 1 3 11]
abbrev yjT:zR:=[o 1 (.box 5 (.t 0)),o 2 (.bG 1 aZ)]
abbrev acF:aA:=⟨.seq (.ae yjT) (.seq (.fm [[],[0],[],[2],[3],[1,4],[5,5],[],[7,6,1,0,1,2,3,4,5,6,7]] yjS) (.seq (.seq (.ae Rp) (.block 0 [] Ss)) (.seq (.ae Ho) .ret))),21,[.tmp 2]⟩
@[simp] theorem aad:az Tryz.prog rC=some acF:=by kernel_rfl
@[simp] theorem ayp:au Tryz.prog rC=true:=by kernel_rfl
abbrev yjU:zR:=[al 3 0 1,ai 4 1 3,o 5 (.bJ .add (.c (.int .i64 1)) (.t 4)),al 6 1 1,ai 7 1 6,aQ 8 7,o 9 (.bJ .add (.t 5) (.t 8)),ab 2 9]
abbrev Ze:aA:=⟨.seq (.ae Qr) (.seq (.ae yjU) .ret),10,[.tmp 2]⟩
@[simp] theorem J6:az Tryz.prog lj=some Ze:=by kernel_rfl
@[simp] theorem axZ:au Tryz.prog lj=true:=by kernel_rfl
abbrev yjW:zR:=[aM 14 4 1,aM 15 4 1,aW 16 p3 15,ab 17 4,o 18 (.build [.list true 0 [],.list true 0 [],.list true 0 [],.list true 0 [],.list true 0 [],.list true 0 []] [(0,4,.t 14),(4,1,.t 16),(5,1,.t 17)]),o 19 (.box 6 (.t 18)),ab 2 19,aO 3 0]
abbrev yjX:zR:=[aM 10 4 1,aW 11 mU 10,ab 9 11,bo 12 9 0,bo 13 9 1,ab 4 12,ab 5 13]
abbrev yjY:zR:=[o 2 (.mv (.c .iG)),aO 3 1]
abbrev yjZ:ah:=.seq (.ae yjY) .ret
abbrev yka:zR:=[aM 6 4 1,aW 7 zO 6,o 8 (.not (.t 7))]
abbrev ykb:zR:=[o 1 (.box 4 (.t 0)),o 2 (.mv (.c .iG)),aO 3 0]
abbrev Ye:aA:=⟨.seq (.ae ykb) (.seq (.seq (.ae yka) (.cond (.t 8) yjZ .skip)) (.seq (.ae yjX) (.seq (.aT [I,O,O,O,O,O,O,O] [6,3,6,6,6,9,9,9] yjW) .ret))),20,[.tmp 2,.tmp 3]⟩
@[simp] theorem JW:az Tryz.prog th=some Ye:=by kernel_rfl
@[simp] theorem axq:au Tryz.prog th=true:=by kernel_rfl
abbrev QX:zR:=[ab 42 9,ab 43 0,o 44 (.cv (.t 43)),al 45 0 44,al 46 1 45,ai 47 1 46,cM 48 tp 42 47,ab 49 11,ab 6 48,ab 7 49,aO 8 0]
abbrev Ra:zB:=I::O::O::O::O::O::O::O::O::I::O::I::(by(iterate 16 refine O::?_);exact I::I::I::(by(iterate 19 refine O::?_);exact[]))
abbrev S5:zB:=I::O::O::O::O::O::O::O::O::I::O::I::(by(iterate 38 refine O::?_);exact[])
abbrev ykf:zR:=[bE 41 30 1,ab 30 41]
abbrev ykg:zR:=[ab 34 11,ab 35 9,al 36 1 13,ai 37 1 36,o 38 (.lookup (.sc .str) (.bool false) (.t 35) (.t 37) false),o 39 (.lit 1 [.bool false] [(0,.t 38)]),o 40 (.append 1 aZ 1 (.t 34) (.t 39)),ab 11 40]
abbrev ykh:zR:=[ba 32 3 28 30,aM 33 3 32,o 13 (.alloc [.str [],.str [],.int .i64 0]),aN 3 13 33]
abbrev yki:ah:=.seq (.ae ykh) (.ae ykg)
abbrev ykj:zR:=[cN 31 30 29]
abbrev GR:ah:=.seq (.ae ykj) (.seq (.cond (.t 31) .skip (.exit 0)) (.seq (.block 1 [] yki) (.ae ykf)))
abbrev ykl:zR:=[ab 24 0,o 25 (.cv (.t 24)),al 26 0 25,al 27 2 26,ai 28 1 27,aQ 29 28,aO 30 0]
abbrev ykm:zR:=[o 11 (.bG 1 aZ)]
abbrev ykn:zR:=[ab 23 10,o 6 (.bG 1 aZ),o 7 (.bG 1 aZ),ab 8 23]
abbrev yko:ah:=.seq (.ae ykn) .ret
abbrev ykp:zR:=[ab 21 10,o 22 (.cmp .neq (.sc .int) (.t 21) (.c (.int .i64 0)))]
abbrev ykq:zR:=[ab 15 0,ab 16 1,ab 17 2,o 18 (.call (.f ov) [.t 15,.t 16,.t 17]),ab 14 18,bo 19 14 0,bo 20 14 1,ab 9 19,ab 10 20]
abbrev ykr:zR:=[o 6 (.bG 1 aZ),o 7 (.bG 1 aZ),aO 8 0]
abbrev UU:aA:=⟨.seq (.ae ykr) (.seq (.ae ykq) (.seq (.seq (.ae ykp) (.cond (.t 22) yko .skip)) (.seq (.ae ykm) (.seq (.seq (.ae ykl) (.block 0 S5 (.loop Ra GR))) (.seq (.ae QX) .ret))))),50,[.tmp 6,.tmp 7,.tmp 8]⟩
abbrev SS:zI:=[.code (.seq (.ae QX) .ret)]
abbrev ykt(x0 x9 x11 x28 x29 x30:AV)(h:List Ob)(e:Cx:=cx):an:=aY q_ (.code GR::.inLoop Ra GR::.inBlock 0 S5::SS) (x0::U::U::U::U::U::U::U::U::x9::U::x11::(by(iterate 16 refine U::?_);exact x28::x29::x30::(by(iterate 19 refine U::?_);exact[]))) h e
abbrev yku(x0 x9 x11:AV)(h:List Ob)(e:Cx:=cx):an:=aY q_ SS (x0::U::U::U::U::U::U::U::U::x9::U::x11::(by(iterate 38 refine U::?_);exact[])) h e
@[simp] theorem Jz:az Tryz.prog q_=some UU:=by kernel_rfl
@[simp] theorem awe:au Tryz.prog q_=true:=by kernel_rfl
abbrev RD:zR:=[ab 56 9,ab 6 56,aO 7 0]
abbrev Qk:zB:=O::O::O::O::O::O::O::O::O::I::(by(iterate 26 refine O::?_);exact I::I::I::(by(iterate 18 refine O::?_);exact[]))
abbrev QA:zB:=O::O::O::O::O::O::O::O::O::I::(by(iterate 47 refine O::?_);exact[])
abbrev yky:zR:=[bE 55 38 1,ab 38 55]
abbrev ykz:zR:=[ab 42 9,ab 43 9,o 44 (.gG 2 1 (.t 11) (.c (.int .i64 0))),ai 45 1 44,cM 46 tu 43 45,ab 47 46,cO 48 47 9,oy 49 47 (.gG 2 1 (.t 11) (.c (.int .i64 1))),cU 50 47 1 49,oy 51 47 (.call (.f tu) [.t 48,.t 50]),bT 52 47 51,o 53 (.lit 1 [.bool false] [(0,.t 52)]),o 54 (.append 1 aZ 1 (.t 42) (.t 53)),ab 9 54]
abbrev ykA:zR:=[ba 40 2 36 38,aM 41 2 40,o 11 (.alloc [.int .i64 0,.int .i64 0]),aN 2 11 41]
abbrev ykB:ah:=.seq (.ae ykA) (.ae ykz)
abbrev Qy:zR:=[cN 39 38 37]
abbrev Ih:ah:=.seq (.ae Qy) (.seq (.cond (.t 39) .skip (.exit 0)) (.seq (.block 1 [] ykB) (.ae yky)))
abbrev ykE:zR:=[al 35 3 3,ai 36 1 35,aQ 37 36,aO 38 0]
abbrev ykF:zR:=[o 30 (.lit 1 [.bool false] [(0,.c (.bool false))]),ab 31 2,ab 32 1,o 33 (.lit 1 [.list true 0 [],.list true 0 [],.list true 0 []] [(0,.t 30),(1,.t 31),(2,.t 32)]),aW 34 ou 33,ab 9 34]
abbrev ykG:zR:=[o 6 (.bG 1 aZ),aO 7 11]
abbrev ykH:ah:=.seq (.ae ykG) .ret
abbrev ykI:zR:=[ab 17 1,aQ 18 17,al 19 1 3,ai 20 1 19,aQ 21 20,o 22 (.cmp .neq (.sc .int) (.t 18) (.t 21)),ab 23 22,on 24 23 (.mv (.t 2)),on 25 23 (.len (.t 24)),on 26 23 (.off 0 (.t 3)),on 27 23 (.load false 1 (.t 26)),on 28 23 (.cmp .neq (.sc .int) (.t 25) (.t 27)),o 29 (.pick (.t 23) (.c (.bool true)) (.t 28))]
abbrev ykJ:zR:=[ab 16 8,o 6 (.bG 1 aZ),ab 7 16]
abbrev ykK:ah:=.seq (.ae ykJ) .ret
abbrev ykL:zR:=[ab 14 8,o 15 (.cmp .neq (.sc .int) (.t 14) (.c (.int .i64 0)))]
abbrev ykM:zR:=[aM 12 5 3,aW 13 oD 12,ab 8 13]
abbrev ykN:zR:=[o 3 (.box 5 (.t 0)),o 6 (.bG 1 aZ),aO 7 0]
abbrev YN:aA:=⟨.seq (.ae ykN) (.seq (.seq (.ae ykM) (.seq (.ae ykL) (.cond (.t 15) ykK .skip))) (.seq (.seq (.ae ykI) (.cond (.t 29) ykH .skip)) (.seq (.ae ykF) (.seq (.seq (.ae ykE) (.block 0 QA (.loop Qk Ih))) (.seq (.ae RD) .ret))))),57,[.tmp 6,.tmp 7]⟩
abbrev ykO:zI:=[.code (.seq (.ae RD) .ret)]
abbrev ykP(x9 x36 x37 x38:AV)(h:List Ob)(e:Cx:=cx):an:=aY vO (.code Ih::.inLoop Qk Ih::.inBlock 0 QA::ykO) (U::U::U::U::U::U::U::U::U::x9::(by(iterate 26 refine U::?_);exact x36::x37::x38::(by(iterate 18 refine U::?_);exact[]))) h e
@[simp] theorem WM:az Tryz.prog vO=some YN:=by kernel_rfl
@[simp] theorem axo:au Tryz.prog vO=true:=by kernel_rfl
abbrev ykU:zR:=[ab 13 4,ai 14 1 1,ab 15 6,cM 16 tu 14 15,o 17 (.lit 1 [.bool false] [(0,.t 16)]),o 18 (.append 1 aZ 1 (.t 13) (.t 17)),ab 4 18]
abbrev ykW:ah:=.seq (.ae Ro) (.ae ykU)
abbrev IU:ah:=.seq (.ae y0) (.seq (.cond (.t 10) .skip (.exit 0)) (.seq (.block 1 [] ykW) (.ae QY)))
abbrev IA:zR:=[o 4 (.bG 1 aZ)]
abbrev ylb:zR:=[o 3 (.bG 1 aZ)]
abbrev X6:aA:=⟨.seq (.ae ylb) (.seq (.ae IA) (.seq (.seq (.ae Cr) (.block 0 Cv (.loop B8 IU))) (.seq (.ae Ht) .ret))),21,[.tmp 3]⟩
abbrev yle(x1 x4 x7 x8 x9:AV)(h:List Ob)(e:Cx:=cx):an:=aY vQ (.code IU::.inLoop B8 IU::.inBlock 0 Cv::Q_) [U,x1,U,U,x4,U,U,x7,x8,x9,U,U,U,U,U,U,U,U,U,U,U] h e
@[simp] theorem WO:az Tryz.prog vQ=some X6:=by kernel_rfl
@[simp] theorem axl:au Tryz.prog vQ=true:=by kernel_rfl
abbrev ylf:zR:=[ab 5 0,ab 6 1,o 7 (.bJ .shr (.t 6) (.c (.int .u64 1))),ba 8 1 5 7,ai 9 1 8,ab 10 1,o 11 (.bJ .and (.t 10) (.c (.int .i64 1))),o 12 (.cmp .eql (.sc .int) (.t 11) (.c (.int .i64 1))),o 13 (.cmp .neq (.sc .bool) (.t 9) (.t 12)),ab 4 13]
abbrev YS:aA:=⟨.seq (.ae jM) (.seq (.ae ylf) .ret),14,[.tmp 4]⟩
@[simp] theorem XA:az Tryz.prog tu=some YS:=by kernel_rfl
@[simp] theorem axD:au Tryz.prog tu=true:=by kernel_rfl
abbrev Qa:zR:=[ab 10 3,o 11 (.cmp .eql (.sc .int) (.t 10) (.c (.int .i64 0))),ab 2 11]
abbrev yli:zR:=[aM 6 4 1,aW 7 vK 6,ab 5 7,bo 8 5 0,bo 9 5 1,ab 3 8,ab 4 9]
abbrev Ys:aA:=⟨.seq (.ae yM) (.seq (.ae yli) (.seq (.ae Qa) .ret)),12,[.tmp 2]⟩
@[simp] theorem WI:az Tryz.prog zO=some Ys:=by kernel_rfl
@[simp] theorem axk:au Tryz.prog zO=true:=by kernel_rfl
abbrev ylk:zR:=[o 9 (.fI (.func Dn) [] [.t 6,.t 4,.t 5,.t 7]),ab 8 9]
abbrev yll:zR:=[o 4 (.box 1 (.t 0)),o 5 (.box 1 (.t 1)),o 6 (.box 1 (.t 2)),o 7 (.box 1 (.t 3)),o 8 (.mv (.c .c_))]
abbrev UK:aA:=⟨.seq (.ae yll) (.seq (.ae ylk) .ret),10,[.tmp 8]⟩
@[simp] theorem av6:az Tryz.prog Dq=some UK:=by kernel_rfl
@[simp] theorem av1:au Tryz.prog Dq=true:=by kernel_rfl
abbrev ylm:zR:=[o 5 (.lit 1 [] []),ab 6 0,o 7 (.append 1 aZ 1 (.t 5) (.t 6)),ab 2 7]
abbrev Iz:zR:=[o 2 (.bG 1 aZ)]
abbrev ylo:ah:=.seq (.ae Iz) .ret
abbrev Uc:aA:=⟨.seq (.ae Iz) (.seq (.seq (.ae B9) (.cond (.t 4) ylo .skip)) (.seq (.ae ylm) .ret)),8,[.tmp 2]⟩
@[simp] theorem avO:az Tryz.prog Dk=some Uc:=by kernel_rfl
@[simp] theorem avP:au Tryz.prog Dk=true:=by kernel_rfl
abbrev uS:zB:=[I,I,O,O,O,O,O,O,O,O,O,O,I,I,O,O,O,O,O,O,O,O,O,O,O,O]
abbrev IC:zR:=[bE 25 13 1,ab 13 25]
abbrev ylx:zR:=[ab 16 0,ab 17 5,ba 18 1 16 17,ai 19 1 18,ab 20 1,ab 21 5,ba 22 1 20 21,ai 23 1 22,o 24 (.cmp .neq (.sc .int) (.t 19) (.t 23))]
abbrev Im:zR:=[ab 15 13,ab 5 15]
abbrev ylz:ah:=.seq (.ae Im) (.seq (.aT [O,O,O,O,O,O,O,O,O] [10,10,10,10,10,10,10,10,10] ylx) (.cond (.t 24) lT .skip))
abbrev uN:zR:=[cN 14 13 12]
abbrev HL:ah:=.seq (.ae uN) (.seq (.cond (.t 14) .skip (.exit 0)) (.seq (.block 1 [] ylz) (.ae IC)))
abbrev CQ:zR:=[ab 11 0,aQ 12 11,aO 13 0]
abbrev Um:aA:=⟨.seq (.ae jM) (.seq (.seq (.ae xY) (.cond (.t 10) lT .skip)) (.seq (.seq (.ae CQ) (.block 0 oa (.loop uS HL))) (.seq (.ae sC) .ret))),26,[.tmp 4]⟩
abbrev ylI(x0 x1 x12 x13:AV)(h:List Ob)(e:Cx:=cx):an:=aY qY (.code HL::.inLoop uS HL::.inBlock 0 oa::uV) [x0,x1,U,U,U,U,U,U,U,U,U,U,x12,x13,U,U,U,U,U,U,U,U,U,U,U,U] h e
@[simp] theorem Ud:az Tryz.prog qY=some Um:=by kernel_rfl
@[simp] theorem avT:au Tryz.prog qY=true:=by kernel_rfl
abbrev ylP:zR:=[ab 16 0,ab 17 5,ba 18 2 16 17,aM 19 2 18,ab 20 1,ab 21 5,ba 22 2 20 21,aM 23 2 22,o 24 (.cmp .neq (.jb [.int,.int]) (.t 19) (.t 23))]
abbrev ylR:ah:=.seq (.ae Im) (.seq (.aT [O,O,O,O,O,O,O,O,O] [10,10,10,10,10,10,10,10,10] ylP) (.cond (.t 24) lT .skip))
abbrev Hp:ah:=.seq (.ae uN) (.seq (.cond (.t 14) .skip (.exit 0)) (.seq (.block 1 [] ylR) (.ae IC)))
abbrev T9:aA:=⟨.seq (.ae jM) (.seq (.seq (.ae xY) (.cond (.t 10) lT .skip)) (.seq (.seq (.ae CQ) (.block 0 oa (.loop uS Hp))) (.seq (.ae sC) .ret))),26,[.tmp 4]⟩
abbrev yma(x0 x1 x12 x13:AV)(h:List Ob)(e:Cx:=cx):an:=aY vw (.code Hp::.inLoop uS Hp::.inBlock 0 oa::uV) [x0,x1,U,U,U,U,U,U,U,U,U,U,x12,x13,U,U,U,U,U,U,U,U,U,U,U,U] h e
@[simp] theorem T0:az Tryz.prog vw=some T9:=by kernel_rfl
@[simp] theorem avL:au Tryz.prog vw=true:=by kernel_rfl
abbrev ymh:zR:=[ab 16 0,ab 17 5,ba 18 1 16 17,ai 19 1 18,ab 20 1,ab 21 5,ba 22 1 20 21,ai 23 1 22,o 24 (.cmp .neq (.sc .str) (.t 19) (.t 23))]
abbrev ymj:ah:=.seq (.ae Im) (.seq (.aT [O,O,O,O,O,O,O,O,O] [10,10,10,10,10,10,10,10,10] ymh) (.cond (.t 24) lT .skip))
abbrev G4:ah:=.seq (.ae uN) (.seq (.cond (.t 14) .skip (.exit 0)) (.seq (.block 1 [] ymj) (.ae IC)))
abbrev T1:aA:=⟨.seq (.ae jM) (.seq (.seq (.ae xY) (.cond (.t 10) lT .skip)) (.seq (.seq (.ae CQ) (.block 0 oa (.loop uS G4))) (.seq (.ae sC) .ret))),26,[.tmp 4]⟩
abbrev yms(x0 x1 x12 x13:AV)(h:List Ob)(e:Cx:=cx):an:=aY qX (.code G4::.inLoop uS G4::.inBlock 0 oa::uV) [x0,x1,U,U,U,U,U,U,U,U,U,U,x12,x13,U,U,U,U,U,U,U,U,U,U,U,U] h e
@[simp] theorem TP:az Tryz.prog qX=some T1:=by kernel_rfl
@[simp] theorem avI:au Tryz.prog qX=true:=by kernel_rfl
abbrev H8:zR:=[ab 62 6,ab 63 62,cO 64 63 7,bT 65 63 64,ab 66 65,oy 67 66 (.off 3 (.t 1)),cU 68 66 1 67,oy 69 66 (.len (.t 68)),oy 70 66 (.cmp .leq (.sc .int) (.t 69) (.c (.int .i64 210))),bT 71 66 70,ab 72 71,oy 73 72 (.off 2 (.t 1)),cU 74 72 1 73,oy 75 72 (.len (.t 74)),oy 76 72 (.cmp .leq (.sc .int) (.t 75) (.c (.int .i64 210))),bT 77 72 76,ab 2 77]
abbrev HH:zR:=[al 59 1 1,ai 60 1 59,o 61 (.call (.f pZ) [.t 60,.c (.int .i64 210)]),ab 7 61]
abbrev IF:zR:=[al 56 0 1,ai 57 1 56,o 58 (.call (.f pZ) [.t 57,.c (.int .i64 210)]),ab 6 58]
abbrev Ic:zB:=O::I::O::O::O::I::(by(iterate 72 refine O::?_);exact[])
abbrev y4:zB:=O::I::(by(iterate 76 refine O::?_);exact[])
abbrev ymy:zR:=[ab 36 5,bE 37 36 1,ab 5 37]
abbrev Hx:ah:=.seq (.ae jK) .ret
abbrev ymB:zR:=[al 38 2 1,ai 39 1 38,ab 40 5,ba 41 3 39 40,al 42 0 41,ai 43 1 42,o 44 (.ma (.t 43)),o 45 (.cmp .gtr (.sc .int) (.t 44) (.c (.int .i64 60))),ab 46 45,on 47 46 (.off 2 (.t 1)),on 48 46 (.load false 1 (.t 47)),on 49 46 (.mv (.t 5)),on 50 46 (.kK 3 (.t 48) (.t 49)),on 51 46 (.off 1 (.t 50)),on 52 46 (.load false 1 (.t 51)),on 53 46 (.ma (.t 52)),on 54 46 (.cmp .gtr (.sc .int) (.t 53) (.c (.int .i64 60))),o 55 (.pick (.t 46) (.c (.bool true)) (.t 54))]
abbrev ymC:ah:=.seq (.ae ymB) (.cond (.t 55) Hx .skip)
abbrev ymD:zR:=[ab 27 5,al 28 2 1,ai 29 1 28,aQ 30 29,cN 31 27 30,ab 32 31,cO 33 32 5,oy 34 32 (.cmp .leq (.sc .int) (.t 33) (.c (.int .i64 210))),bT 35 32 34]
abbrev CF:ah:=.seq (.seq (.ae ymD) (.cond (.t 35) .skip (.exit 2))) (.seq (.block 3 [] ymC) (.ae ymy))
abbrev Qh:zB:=O::I::O::I::(by(iterate 74 refine O::?_);exact[])
abbrev ymI:zR:=[ab 17 3,bE 18 17 1,ab 3 18]
abbrev ymL:zR:=[ab 25 4,o 26 (.not (.t 25))]
abbrev ymM:zR:=[al 19 3 1,ai 20 1 19,ab 21 3,ba 22 5 20 21,aM 23 5 22,aW 24 zD 23,ab 4 24]
abbrev ymN:ah:=.seq (.ae ymM) (.seq (.ae ymL) (.cond (.t 26) Hx .skip))
abbrev ymO:zR:=[ab 8 3,al 9 3 1,ai 10 1 9,aQ 11 10,cN 12 8 11,ab 13 12,cO 14 13 3,oy 15 13 (.cmp .leq (.sc .int) (.t 14) (.c (.int .i64 210))),bT 16 13 15]
abbrev G0:ah:=.seq (.seq (.ae ymO) (.cond (.t 16) .skip (.exit 0))) (.seq (.block 1 [] ymN) (.ae ymI))
abbrev acO:aA:=⟨.seq (.ae yM) (.seq (.seq (.ae sy) (.block 0 y4 (.loop Qh G0))) (.seq (.seq (.ae yJ) (.block 2 y4 (.loop Ic CF))) (.seq (.ae IF) (.seq (.ae HH) (.seq (.ae H8) .ret))))),78,[.tmp 2]⟩
abbrev SZ:zI:=[.code (.seq (.ae IF) (.seq (.ae HH) (.seq (.ae H8) .ret)))]
abbrev ymT(x1 x5:AV)(h:List Ob)(e:Cx:=cx):an:=aY rB (.code CF::.inLoop Ic CF::.inBlock 2 y4::SZ) (U::x1::U::U::U::x5::(by(iterate 72 refine U::?_);exact[])) h e
abbrev ymU(x1:AV)(h:List Ob)(e:Cx:=cx):an:=aY rB SZ (U::x1::(by(iterate 76 refine U::?_);exact[])) h e
abbrev ymV:zI:=[.code (.seq (.seq (.ae yJ) (.block 2 y4 (.loop Ic CF))) (.seq (.ae IF) (.seq (.ae HH) (.seq (.ae H8) .ret))))]
abbrev ymW(x1 x3:AV)(h:List Ob)(e:Cx:=cx):an:=aY rB (.code G0::.inLoop Qh G0::.inBlock 0 y4::ymV) (U::x1::U::x3::(by(iterate 74 refine U::?_);exact[])) h e
@[simp] theorem ZP:az Tryz.prog rB=some acO:=by kernel_rfl
@[simp] theorem ayN:au Tryz.prog rB=true:=by kernel_rfl
abbrev ymY:zR:=[aM 6 4 1,aW 7 nF 6,ab 5 7,bo 8 5 0,bo 9 5 1,ab 3 8,ab 4 9]
abbrev Xh:aA:=⟨.seq (.ae yM) (.seq (.ae ymY) (.seq (.ae Qa) .ret)),12,[.tmp 2]⟩
@[simp] theorem V6:az Tryz.prog zF=some Xh:=by kernel_rfl
@[simp] theorem aw0:au Tryz.prog zF=true:=by kernel_rfl
abbrev Rk:zR:=[ab 20 3,ab 2 20]
abbrev Qo:zB:=[O,O,O,I,O,O,O,O,I,I,I,O,O,O,O,O,O,O,O,O,O]
abbrev QL:zB:=O::O::O::I::(by(iterate 17 refine O::?_);exact[])
abbrev ynd:zR:=[bE 19 10 1,ab 10 19]
abbrev yne:zR:=[ab 15 3,al 16 0 5,ai 17 1 16,ab 18 4,q (.bH (.sc .str) (.t 15) (.t 17) (.t 18))]
abbrev ynf:zR:=[ab 12 10,ba 13 5 8 10,aM 14 5 13,o 5 (.alloc [.str [],.int .i64 0,.own 1 aF [],.own 1 aF [],.bool false]),ab 4 12,aN 5 5 14]
abbrev yng:ah:=.seq (.ae ynf) (.ae yne)
abbrev GP:zR:=[cN 11 10 9]
abbrev H9:ah:=.seq (.ae GP) (.seq (.cond (.t 11) .skip (.exit 0)) (.seq (.block 1 [] yng) (.ae ynd)))
abbrev ynj:zR:=[al 7 3 1,ai 8 1 7,aQ 9 8,aO 10 0]
abbrev ynl:zR:=[o 1 (.box 4 (.t 0)),o 2 (.mv (.c .c8))]
abbrev Wd:aA:=⟨.seq (.ae ynl) (.seq (.ae GO) (.seq (.seq (.ae ynj) (.block 0 QL (.loop Qo H9))) (.seq (.ae Rk) .ret))),21,[.tmp 2]⟩
abbrev ynm:zI:=[.code (.seq (.ae Rk) .ret)]
abbrev ynn(x3 x8 x9 x10:AV)(h:List Ob)(e:Cx:=cx):an:=aY s9 (.code H9::.inLoop Qo H9::.inBlock 0 QL::ynm) [U,U,U,x3,U,U,U,U,x8,x9,x10,U,U,U,U,U,U,U,U,U,U] h e
@[simp] theorem VC:az Tryz.prog s9=some Wd:=by kernel_rfl
@[simp] theorem awP:au Tryz.prog s9=true:=by kernel_rfl
abbrev yno:zR:=[o 3 (.fI (.func nE) [] [.t 1]),ab 2 3]
abbrev ynp:zR:=[o 1 (.box 4 (.t 0)),o 2 (.mv (.c .c_))]
abbrev Wf:aA:=⟨.seq (.ae ynp) (.seq (.ae yno) .ret),4,[.tmp 2]⟩
@[simp] theorem Vt:az Tryz.prog Dz=some Wf:=by kernel_rfl
@[simp] theorem awS:au Tryz.prog Dz=true:=by kernel_rfl
abbrev Rr:zR:=[ab 42 7,aW 43 iv 42,ab 4 43,aO 5 0]
abbrev Sw:zB:=O::O::O::O::O::O::O::I::(by(iterate 19 refine O::?_);exact I::I::I::(by(iterate 14 refine O::?_);exact[]))
abbrev SL:zB:=O::O::O::O::O::O::O::I::(by(iterate 36 refine O::?_);exact[])
abbrev ynt:zR:=[bE 41 29 1,ab 29 41]
abbrev ynu:zR:=[ab 37 7,ab 38 9,o 39 (.lit 1 [.str []] [(0,.t 38)]),o 40 (.append 1 aF 16 (.t 37) (.t 39)),ab 7 40]
abbrev ynv:zR:=[ab 33 7,ab 34 9,cM 35 zi 33 34,o 36 (.not (.t 35))]
abbrev ynw:zR:=[ba 31 1 27 29,ai 32 1 31,ab 9 32]
abbrev ynx:ah:=.seq (.ae ynw) (.seq (.ae ynv) (.cond (.t 36) (.ae ynu) .skip))
abbrev yny:zR:=[cN 30 29 28]
abbrev G2:ah:=.seq (.ae yny) (.seq (.cond (.t 30) .skip (.exit 0)) (.seq (.block 1 [] ynx) (.ae ynt)))
abbrev ynA:zR:=[ab 27 0,aQ 28 27,aO 29 0]
abbrev ynC:zR:=[o 4 (.bG 3 aS),aO 5 1]
abbrev ynD:ah:=.seq (.ae ynC) .ret
abbrev ynE:zR:=[ai 11 1 3,o 12 (.cmp .lss (.sc .int) (.t 11) (.c (.int .i64 0))),ab 13 12,on 14 13 (.load false 1 (.t 3)),on 15 13 (.cmp .gtr (.sc .int) (.t 14) (.c (.int .i64 8))),o 16 (.pick (.t 13) (.c (.bool true)) (.t 15)),ab 17 16,on 18 17 (.mv (.t 0)),on 19 17 (.len (.t 18)),on 20 17 (.cmp .gtr (.sc .int) (.t 19) (.c (.int .i64 128))),o 21 (.pick (.t 17) (.c (.bool true)) (.t 20)),ab 22 21,on 23 22 (.mv (.t 0)),on 24 22 (.mv (.t 6)),on 25 22 (.call (.f pS) [.t 23,.t 24]),o 26 (.pick (.t 22) (.c (.bool true)) (.t 25))]
abbrev ynF:zR:=[o 10 (.fI (.func zx) [] [.t 3]),ab 6 10]
abbrev ynG:zR:=[o 3 (.box 1 (.t 1)),o 4 (.bG 3 aS),aO 5 0]
abbrev Wy:aA:=⟨.seq (.ae ynG) (.seq (.ae ynF) (.seq (.seq (.ae ynE) (.cond (.t 26) ynD .skip)) (.seq (.ae Se) (.seq (.seq (.ae ynA) (.block 0 SL (.loop Sw G2))) (.seq (.ae Rr) .ret))))),44,[.tmp 4,.tmp 5]⟩
abbrev ynH:zI:=[.code (.seq (.ae Rr) .ret)]
abbrev ynI(x7 x27 x28 x29:AV)(h:List Ob)(e:Cx:=cx):an:=aY vI (.code G2::.inLoop Sw G2::.inBlock 0 SL::ynH) (U::U::U::U::U::U::U::x7::(by(iterate 19 refine U::?_);exact x27::x28::x29::(by(iterate 14 refine U::?_);exact[]))) h e
@[simp] theorem Vz:az Tryz.prog vI=some Wy:=by kernel_rfl
@[simp] theorem awN:au Tryz.prog vI=true:=by kernel_rfl
abbrev Sc:zR:=[ab 61 0,ab 62 10,cM 63 sW 61 62,ab 64 9,ab 6 63,ab 7 64]
abbrev ynK:zR:=[ab 57 0,ab 58 10,cM 59 sV 57 58,ab 60 9,ab 6 59,ab 7 60]
abbrev Sm:ah:=.seq (.ae ynK) .ret
abbrev S3:zR:=[al 54 0 8,ai 55 1 54,o 56 (.cmp .eql (.sc .int) (.t 55) (.c (.int .i64 3)))]
abbrev RL:zB:=I::O::I::O::O::O::O::O::I::I::I::(by(iterate 28 refine O::?_);exact I::I::(by(iterate 24 refine O::?_);exact[]))
abbrev Q6:zB:=I::O::O::O::O::O::O::O::I::I::I::(by(iterate 54 refine O::?_);exact[])
abbrev ynP:zR:=[bE 53 40 1,ab 40 53]
abbrev ynQ:zR:=[ab 49 10,ab 50 11,o 51 (.lit 1 [.int .i64 0] [(0,.t 50)]),o 52 (.append 1 aq 8 (.t 49) (.t 51)),ab 10 52]
abbrev ynR:zR:=[ab 43 0,ab 44 9,ab 45 2,o 46 (.call (.f sU) [.t 43,.t 44,.t 45]),ab 42 46,bo 47 42 0,bo 48 42 1,ab 11 47,ab 9 48]
abbrev ynS:zR:=[aO 11 0]
abbrev ynT:ah:=.seq (.ae ynS) (.seq (.ae ynR) (.ae ynQ))
abbrev QJ:zR:=[cN 41 40 39]
abbrev Hl:ah:=.seq (.ae QJ) (.seq (.cond (.t 41) .skip (.exit 1)) (.seq (.block 2 [] ynT) (.ae ynP)))
abbrev ynW:zR:=[al 38 2 8,ai 39 1 38,aO 40 0]
abbrev ynX:zR:=[o 10 (.bG 1 aq)]
abbrev ynY:zR:=[al 22 0 8,ai 23 1 22,ab 24 9,ab 6 23,ab 7 24]
abbrev ynZ:zR:=[ab 27 2,al 28 1 8,ai 29 1 28,o 30 (.bJ .shr (.t 29) (.c (.int .u64 1))),ba 31 1 27 30,ai 32 1 31,al 33 1 8,ai 34 1 33,o 35 (.bJ .and (.t 34) (.c (.int .i64 1))),o 36 (.bJ .xor (.t 32) (.t 35)),ab 37 9,ab 6 36,ab 7 37]
abbrev yoa:ah:=.seq (.aT [O,O,O,O,O,O,O,O,O,O,O,O,O] [14,14,14,14,14,14,14,14,14,14,14,14,14] ynZ) .ret
abbrev yob:zR:=[o 26 (.cmp .eql (.sc .int) (.t 18) (.c (.int .i64 2))),ab 25 26]
abbrev yoc:ah:=.seq (.ae ynY) .ret
abbrev yod:ah:=.seq (.ae yob) (.cond (.t 25) yoa .skip)
abbrev yoe:zR:=[o 21 (.cmp .eql (.sc .int) (.t 18) (.c (.int .i64 1))),ab 19 21]
abbrev yof:zR:=[o 20 (.cmp .eql (.sc .int) (.t 18) (.c (.int .i64 0))),ab 19 20]
abbrev yog:ah:=.seq (.seq (.ae yof) (.cond (.t 19) .skip (.ae yoe))) (.cond (.t 19) yoc yod)
abbrev yoh:zR:=[al 17 0 8,ai 18 1 17]
abbrev yoi:zR:=[ab 12 1,o 13 (.kK 3 (.t 12) (.c (.int .i64 0))),aM 14 3 13,ab 15 1,o 16 (.slice 3 (.t 15) (some (.c (.int .i64 1))) none),o 8 (.alloc [.int .i64 0,.int .i64 0,.int .i64 0]),aN 3 8 14,ab 9 16]
abbrev yoj:zR:=[aO 6 0,o 7 (.bG 3 aS)]
abbrev UF:aA:=⟨.seq (.ae yoj) (.seq (.aT [O,O,I,O,I,O,O,O] [7,7,7,9,9,7,9,9] yoi) (.seq (.seq (.ae yoh) (.block 0 [] yog)) (.seq (.ae ynX) (.seq (.seq (.ae ynW) (.block 1 Q6 (.loop RL Hl))) (.seq (.seq (.ae S3) (.cond (.t 56) Sm .skip)) (.seq (.ae Sc) .ret)))))),65,[.tmp 6,.tmp 7]⟩
abbrev yok:zI:=[.code (.seq (.seq (.ae S3) (.cond (.t 56) Sm .skip)) (.seq (.ae Sc) .ret))]
abbrev yol(x0 x2 x8 x9 x10 x39 x40:AV)(h:List Ob)(e:Cx:=cx):an:=aY sU (.code Hl::.inLoop RL Hl::.inBlock 1 Q6::yok) (x0::U::x2::U::U::U::U::U::x8::x9::x10::(by(iterate 28 refine U::?_);exact x39::x40::(by(iterate 24 refine U::?_);exact[]))) h e
@[simp] theorem Dr:az Tryz.prog sU=some UF:=by kernel_rfl
@[simp] theorem av8:au Tryz.prog sU=true:=by kernel_rfl
abbrev SD:zR:=[ab 31 3,ab 2 31]
abbrev QT:zB:=O::O::O::I::O::O::O::O::O::O::O::O::O::O::O::I::I::(by(iterate 15 refine O::?_);exact[])
abbrev RM:zB:=O::O::O::I::(by(iterate 28 refine O::?_);exact[])
abbrev yop:zR:=[bE 30 16 1,ab 16 30]
abbrev yoq:zR:=[ab 19 3,ab 20 3,o 21 (.cv (.t 20)),al 22 6 21,ai 23 1 22,ab 24 4,o 25 (.bJ .mul (.c (.int .i64 2)) (.t 24)),o 26 (.lit 1 [.int .i64 0] [(0,.t 25)]),o 27 (.append 1 aq 8 (.t 23) (.t 26)),o 28 (.cv (.t 19)),al 29 6 28,aN 1 29 27]
abbrev yor:zR:=[ab 18 16,ab 4 18]
abbrev yos:ah:=.seq (.ae yor) (.ae yoq)
abbrev Cw:zR:=[cN 17 16 15]
abbrev GU:ah:=.seq (.ae Cw) (.seq (.cond (.t 17) .skip (.exit 0)) (.seq (.block 1 [] yos) (.ae yop)))
abbrev yov:zR:=[aM 14 5 1,aW 15 lj 14,aO 16 0]
abbrev yow:zR:=[al 5 0 1,ai 6 1 5,al 7 1 1,ai 8 1 7,al 9 2 1,ai 10 1 9,aW 11 zm 10,o 12 (.build [.int .i64 0,.list true 0 [],.list true 0 [],.list true 0 [],.list true 0 []] [(0,1,.t 6),(1,1,.t 8),(2,1,.t 11)]),aW 13 rm 12,ab 3 13]
abbrev Qp:zR:=[o 1 (.box 5 (.t 0)),o 2 (.mv (.c .iG))]
abbrev aap:aA:=⟨.seq (.ae Qp) (.seq (.aT [O,I,O,I,O,O,O,O,O,O] [9,9,9,9,7,7,9,9,11,11] yow) (.seq (.seq (.ae yov) (.block 0 RM (.loop QT GU))) (.seq (.ae SD) .ret))),32,[.tmp 2]⟩
abbrev QK:zI:=[.code (.seq (.ae SD) .ret)]
abbrev yoz(x3 x15 x16:AV)(h:List Ob)(e:Cx:=cx):an:=aY tv (.code GU::.inLoop QT GU::.inBlock 0 RM::QK) (U::U::U::x3::U::U::U::U::U::U::U::U::U::U::U::x15::x16::(by(iterate 15 refine U::?_);exact[])) h e
abbrev yoA(x3:AV)(h:List Ob)(e:Cx:=cx):an:=aY tv QK (U::U::U::x3::(by(iterate 28 refine U::?_);exact[])) h e
@[simp] theorem J9:az Tryz.prog tv=some aap:=by kernel_rfl
@[simp] theorem axG:au Tryz.prog tv=true:=by kernel_rfl
abbrev yoB:zR:=[ab 76 10,ab 6 76]
abbrev yoC:zR:=[ab 70 0,o 71 (.cv (.t 70)),al 72 5 71,ai 73 1 72,aM 74 2 7,ab 75 10,q (.bH (.jb [.int,.int]) (.t 73) (.t 74) (.t 75))]
abbrev yoD:zR:=[ab 58 0,ab 59 0,o 60 (.cv (.t 59)),al 61 0 60,al 62 3 61,ai 63 1 62,aM 64 2 7,o 65 (.lit 2 [.agg [.int .i64 0,.int .i64 0]] [(0,.t 64)]),o 66 (.append 2 cP 16 (.t 63) (.t 65)),o 67 (.cv (.t 58)),al 68 0 67,al 69 3 68,aN 1 69 66]
abbrev yoE:zR:=[ab 45 0,o 46 (.cv (.t 45)),al 47 0 46,aM 48 5 47,aW 49 lj 48,ab 50 0,o 51 (.cv (.t 50)),al 52 0 51,al 53 3 52,ai 54 1 53,aQ 55 54,o 56 (.bJ .add (.t 49) (.t 55)),o 57 (.bJ .mul (.c (.int .i64 2)) (.t 56)),ab 10 57]
abbrev yoF:zR:=[ab 44 8,ab 6 44]
abbrev yoG:ah:=.seq (.ae yoF) .ret
abbrev yoH:zR:=[ab 43 9]
abbrev yoI:zR:=[ab 35 0,o 36 (.cv (.t 35)),al 37 5 36,ai 38 1 37,aM 39 2 7,o 40 (.lookup (.jb [.int,.int]) (.int .i64 0) (.t 38) (.t 39) true),ab 34 40,bo 41 34 0,bo 42 34 1,ab 8 41,ab 9 42]
abbrev yoJ:zR:=[ab 31 1,ab 32 2,o 33 (.build [.int .i64 0,.int .i64 0] [(0,1,.t 31),(1,1,.t 32)]),o 7 (.alloc [.int .i64 0,.int .i64 0]),aN 2 7 33]
abbrev CU:zR:=[aO 6 0]
abbrev yoL:zR:=[ab 30 1,ab 6 30]
abbrev yoM:ah:=.seq (.ae yoL) .ret
abbrev yoN:zR:=[ab 27 1,ab 28 2,o 29 (.cmp .eql (.sc .int) (.t 27) (.t 28)),ab 24 29]
abbrev yoO:zR:=[ab 25 2,o 26 (.cmp .eql (.sc .int) (.t 25) (.c (.int .i64 1))),ab 24 26]
abbrev yoP:ah:=.seq (.ae CU) .ret
abbrev yoQ:ah:=.seq (.seq (.ae yoO) (.cond (.t 24) .skip (.ae yoN))) (.cond (.t 24) yoM .skip)
abbrev yoR:zR:=[ab 20 1,o 21 (.bJ .xor (.t 20) (.c (.int .i64 1))),ab 22 2,o 23 (.cmp .eql (.sc .int) (.t 21) (.t 22)),ab 17 23]
abbrev yoS:zR:=[ab 18 2,o 19 (.cmp .eql (.sc .int) (.t 18) (.c (.int .i64 0))),ab 17 19]
abbrev yoT:ah:=.seq (.seq (.ae yoS) (.cond (.t 17) .skip (.ae yoR))) (.cond (.t 17) yoP yoQ)
abbrev yoU:zR:=[ab 11 1,ab 12 2,o 13 (.max [.t 11,.t 12]),ab 14 1,ab 15 2,o 16 (.min [.t 14,.t 15]),ab 1 13,ab 2 16]
abbrev Vg:aA:=⟨.seq (.ae CU) (.seq (.ae yoU) (.seq (.block 0 [] yoT) (.seq (.ae yoJ) (.seq (.seq (.aT [O,O,O,O,O,O,O,O,O,O,O] [12,12,12,12,12,12,12,12,12,12,12] yoI) (.seq (.ae yoH) (.cond (.t 43) yoG .skip))) (.seq (.aT [O,O,O,O,O,O,O,O,O,I,O,O,O,O] [5,5,5,5,15,15,15,15,15,15,15,15,15,15] yoE) (.seq (.aT [O,O,O,O,O,I,O,O,O,O,O,O,O] [13,9,9,9,9,9,8,9,13,13,13,13,14] yoD) (.seq (.aT [O,O,O,O,O,O,O] [7,7,7,7,7,7,8] yoC) (.seq (.ae yoB) .ret)))))))),77,[.tmp 6]⟩
@[simp] theorem Dv:az Tryz.prog pV=some Vg:=by kernel_rfl
@[simp] theorem awv:au Tryz.prog pV=true:=by kernel_rfl
abbrev yoW:zR:=[ab 5 0,o 6 (.cv (.t 5)),al 7 6 6,ai 8 1 7,ab 9 1,o 10 (.bJ .shr (.t 9) (.c (.int .u64 1))),ba 11 1 8 10,ai 12 1 11,ab 13 1,o 14 (.bJ .and (.t 13) (.c (.int .i64 1))),o 15 (.bJ .xor (.t 12) (.t 14)),ab 4 15]
abbrev U4:aA:=⟨.seq (.ae yK) (.seq (.ae yoW) .ret),16,[.tmp 4]⟩
@[simp] theorem UE:az Tryz.prog nD=some U4:=by kernel_rfl
@[simp] theorem awl:au Tryz.prog nD=true:=by kernel_rfl
abbrev yoY:zR:=[ab 21 0,o 22 (.cv (.t 21)),al 23 0 22,aM 24 5 23,aN 5 4 24]
abbrev yoZ:zR:=[ab 5 0,ab 6 0,ab 7 0,al 8 1 3,ai 9 1 8,cM 10 rb 7 9,ab 11 0,al 12 4 3,ai 13 1 12,cM 14 rb 11 13,o 15 (.cv (.t 5)),al 16 0 15,al 17 1 16,aN 1 17 10,o 18 (.cv (.t 6)),al 19 0 18,al 20 4 19,aN 1 20 14]
abbrev ypa:zR:=[o 3 (.box 5 (.t 1)),o 4 (.alloc [.int .i64 0,.own 1 aq [],.own 1 aq [],.own 2 cP [],.own 1 aq []])]
abbrev Vp:aA:=⟨.seq (.ae ypa) (.seq (.aT [O,O,O,O,O,O,O,O,I,O,O,O,O,O,O,O,O,O] [14,18,6,6,6,10,10,10,10,14,14,14,14,18,18,18,18,19] yoZ) (.seq (.ae yoY) .ret)),25,[.cell 4 true 5]⟩
@[simp] theorem JD:az Tryz.prog zr=some Vp:=by kernel_rfl
@[simp] theorem awp:au Tryz.prog zr=true:=by kernel_rfl
abbrev ypb:zR:=[al 10 0 2,ai 11 1 10,al 12 1 2,ai 13 1 12,aN 1 0 11,aN 1 1 13]
abbrev ypc:zR:=[ab 9 3]
abbrev ypd:zR:=[o 5 (.recover),o 6 (.rM (.t 5) DQ (.agg [.int .i64 0,.str []]) true),ab 4 6,bo 7 4 0,bo 8 4 1,o 2 (.alloc [.int .i64 0,.str []]),aN 2 2 7,ab 3 8]
abbrev WZ:aA:=⟨.seq (.ae ypd) (.seq (.ae ypc) (.cond (.t 9) (.aT [O,O,O,I,O,O] [5,5,6,6,6,7] ypb) .skip)),14,[]⟩
@[simp] theorem aw1:az Tryz.prog zG=some WZ:=by kernel_rfl
@[simp] theorem awX:au Tryz.prog zG=true:=by kernel_rfl
abbrev ype:zR:=[al 3 2 1,ai 4 1 3,aQ 5 4,o 6 (.cmp .gtr (.sc .int) (.t 5) (.c (.int .i64 8))),ab 7 6,on 8 7 (.off 3 (.t 1)),on 9 7 (.load false 1 (.t 8)),on 10 7 (.len (.t 9)),on 11 7 (.cmp .gtr (.sc .int) (.t 10) (.c (.int .i64 128))),o 12 (.pick (.t 7) (.c (.bool true)) (.t 11)),ab 2 12]
abbrev HN:zR:=[o 1 (.box 5 (.t 0)),lQ 2]
abbrev XD:aA:=⟨.seq (.ae HN) (.seq (.ae ype) .ret),13,[.tmp 2]⟩
@[simp] theorem V3:az Tryz.prog vJ=some XD:=by kernel_rfl
@[simp] theorem aw9:au Tryz.prog vJ=true:=by kernel_rfl
abbrev ypg:zR:=[ab 8 1,ab 9 2,o 10 (.build [.int .i64 0,.str []] [(0,1,.t 8),(1,1,.t 9)]),o 11 (.lr DQ (.t 10)),q (.panic (.t 11))]
abbrev yph:zR:=[ab 6 0,o 7 (.not (.t 6))]
abbrev abI:aA:=⟨.seq (.ae yph) (.cond (.t 7) (.ae ypg) .skip),12,[]⟩
@[simp] theorem KA:az Tryz.prog nH=some abI:=by kernel_rfl
@[simp] theorem ax8:au Tryz.prog nH=true:=by kernel_rfl
abbrev ypi:zR:=[ab 5 0,ab 6 1,cM 7 vt 5 6,o 8 (.cmp .geq (.sc .int) (.t 7) (.c (.int .i64 0))),ab 4 8]
abbrev Tt:aA:=⟨.seq (.ae jM) (.seq (.ae ypi) .ret),9,[.tmp 4]⟩
@[simp] theorem Ts:az Tryz.prog zh=some Tt:=by kernel_rfl
@[simp] theorem avt:au Tryz.prog zh=true:=by kernel_rfl
abbrev IG:zR:=[ab 45 3,ab 2 45]
abbrev HV:zB:=O::O::O::I::(by(iterate 26 refine O::?_);exact I::I::I::(by(iterate 13 refine O::?_);exact[]))
abbrev IK:zB:=O::O::O::I::(by(iterate 42 refine O::?_);exact[])
abbrev ypn:zR:=[bE 44 32 1,ab 32 44]
abbrev ypo:zR:=[ab 36 3,al 37 0 7,ai 38 1 37,o 39 (.lit 1 [.str []] [(0,.t 38)]),o 40 (.append 1 aF 16 (.t 36) (.t 39)),al 41 2 7,ai 42 1 41,o 43 (.append 1 aF 16 (.t 40) (.t 42)),ab 3 43]
abbrev ypp:zR:=[ba 34 5 30 32,aM 35 5 34,o 7 (.alloc [.str [],.int .i64 0,.own 1 aF [],.own 1 aF [],.bool false]),aN 5 7 35]
abbrev ypq:ah:=.seq (.ae ypp) (.aT [O,O,O,O,O,O,I,O,O] [5,4,4,5,8,8,8,10,10] ypo)
abbrev ypr:zR:=[cN 33 32 31]
abbrev Ck:ah:=.seq (.ae ypr) (.seq (.cond (.t 33) .skip (.exit 2)) (.seq (.block 3 [] ypq) (.ae ypn)))
abbrev RV:zR:=[al 29 3 1,ai 30 1 29,aQ 31 30,aO 32 0]
abbrev Rw:zB:=O::I::O::I::O::O::O::O::O::O::O::O::O::O::O::I::I::I::(by(iterate 28 refine O::?_);exact[])
abbrev Qe:zB:=O::I::O::I::(by(iterate 42 refine O::?_);exact[])
abbrev ypw:zR:=[bE 28 17 1,ab 17 28]
abbrev ypx:zR:=[ab 21 3,al 22 0 5,ai 23 1 22,al 24 1 5,ai 25 1 24,o 26 (.lit 1 [.str [],.str []] [(0,.t 23),(1,.t 25)]),o 27 (.append 1 aF 16 (.t 21) (.t 26)),ab 3 27]
abbrev ypy:zR:=[ba 19 3 15 17,aM 20 3 19,o 5 (.alloc [.str [],.str [],.int .i64 0]),aN 3 5 20]
abbrev ypz:ah:=.seq (.ae ypy) (.ae ypx)
abbrev ypA:zR:=[cN 18 17 16]
abbrev G1:ah:=.seq (.ae ypA) (.seq (.cond (.t 18) .skip (.exit 0)) (.seq (.block 1 [] ypz) (.ae ypw)))
abbrev ypC:zR:=[al 14 2 1,ai 15 1 14,aQ 16 15,aO 17 0]
abbrev ypD:zR:=[al 8 0 1,ai 9 1 8,al 10 1 1,ai 11 1 10,o 12 (.lit 1 [.list true 0 [],.list true 0 []] [(0,.t 9),(1,.t 11)]),aW 13 mT 12,ab 3 13]
abbrev aaM:aA:=⟨.seq (.ae Iq) (.seq (.ae ypD) (.seq (.seq (.ae ypC) (.block 0 Qe (.loop Rw G1))) (.seq (.seq (.ae RV) (.block 2 IK (.loop HV Ck))) (.seq (.ae IG) .ret)))),46,[.tmp 2]⟩
abbrev ypF:zI:=[.code (.seq (.ae IG) .ret)]
abbrev ypG(x3 x30 x31 x32:AV)(h:List Ob)(e:Cx:=cx):an:=aY tE (.code Ck::.inLoop HV Ck::.inBlock 2 IK::ypF) (U::U::U::x3::(by(iterate 26 refine U::?_);exact x30::x31::x32::(by(iterate 13 refine U::?_);exact[]))) h e
abbrev ypH:zI:=[.code (.seq (.seq (.ae RV) (.block 2 IK (.loop HV Ck))) (.seq (.ae IG) .ret))]
abbrev ypI(x1 x3 x15 x16 x17:AV)(h:List Ob)(e:Cx:=cx):an:=aY tE (.code G1::.inLoop Rw G1::.inBlock 0 Qe::ypH) (U::x1::U::x3::U::U::U::U::U::U::U::U::U::U::U::x15::x16::x17::(by(iterate 28 refine U::?_);exact[])) h e
@[simp] theorem YB:az Tryz.prog tE=some aaM:=by kernel_rfl
@[simp] theorem ax5:au Tryz.prog tE=true:=by kernel_rfl
abbrev ypJ:zR:=[ab 3 0,aW 4 zq 3,ab 2 4]
abbrev Yj:aA:=⟨.seq (.ae jK) (.seq (.ae ypJ) .ret),5,[.tmp 2]⟩
@[simp] theorem WK:az Tryz.prog vP=some Yj:=by kernel_rfl
@[simp] theorem axt:au Tryz.prog vP=true:=by kernel_rfl
abbrev SH:zR:=[ab 22 3,ab 2 22]
abbrev Rz:zB:=O::O::O::I::O::O::O::I::I::I::(by(iterate 13 refine O::?_);exact[])
abbrev S4:zB:=O::O::O::I::(by(iterate 19 refine O::?_);exact[])
abbrev ypO:zR:=[bE 21 9 1,ab 9 21]
abbrev ypP:zR:=[ab 19 3,ab 20 5,q (.bH (.sc .str) (.t 19) (.t 20) (.c (.bool true)))]
abbrev ypQ:zR:=[ab 13 3,ab 14 5,o 15 (.lookup (.sc .str) (.bool false) (.t 13) (.t 14) false),o 16 (.not (.t 15)),ab 17 5,o 18 (.call (.f nH) [.t 16,.c (.int .i64 5),.t 17])]
abbrev ypS:ah:=.seq (.ae SB) (.seq (.ae ypQ) (.ae ypP))
abbrev HW:ah:=.seq (.ae y0) (.seq (.cond (.t 10) .skip (.exit 0)) (.seq (.block 1 [] ypS) (.ae ypO)))
abbrev ypX:zR:=[o 2 (.mv (.c .c8))]
abbrev abd:aA:=⟨.seq (.ae ypX) (.seq (.ae GO) (.seq (.seq (.ae Cr) (.block 0 S4 (.loop Rz HW))) (.seq (.ae SH) .ret))),23,[.tmp 2]⟩
abbrev ypY:zI:=[.code (.seq (.ae SH) .ret)]
abbrev SG(x3 x7 x8 x9:AV)(h:List Ob)(e:Cx:=cx):an:=aY rq (.code HW::.inLoop Rz HW::.inBlock 0 S4::ypY) (U::U::U::x3::U::U::U::x7::x8::x9::(by(iterate 13 refine U::?_);exact[])) h e
@[simp] theorem Kv:az Tryz.prog rq=some abd:=by kernel_rfl
@[simp] theorem ax2:au Tryz.prog rq=true:=by kernel_rfl
abbrev yqa:zR:=[al 18 1 1,ai 19 1 18,al 20 2 1,ai 21 1 20,aQ 22 21,cM 23 tG 19 22,ab 24 23,oy 25 24 (.off 3 (.t 1)),cU 26 24 1 25,oy 27 24 (.len (.t 26)),oy 28 24 (.cmp .leq (.sc .int) (.t 27) (.c (.int .i64 128))),bT 29 24 28,ab 30 29,oy 31 30 (.off 3 (.t 1)),cU 32 30 1 31,cO 33 30 3,oy 34 30 (.call (.f pS) [.t 32,.t 33]),oy 35 30 (.not (.t 34)),bT 36 30 35,ab 2 36]
abbrev yqd:zR:=[al 5 1 1,ai 6 1 5,o 7 (.cmp .neq (.sc .int) (.t 6) (.c (.int .i64 10))),ab 8 7,oy 9 8 (.off 3 (.t 1)),cU 10 8 1 9,oy 11 8 (.len (.t 10)),oy 12 8 (.cmp .gtr (.sc .int) (.t 11) (.c (.int .i64 0))),cO 13 8 12,on 14 13 (.off 4 (.t 1)),on 15 13 (.load false 1 (.t 14)),oy 16 8 (.pick (.t 13) (.c (.bool true)) (.t 15)),bT 17 8 16]
abbrev yqe:zR:=[o 4 (.fI (.func zQ) [] [.t 1]),ab 3 4]
abbrev abo:aA:=⟨.seq (.ae HN) (.seq (.ae yqe) (.seq (.seq (.ae yqd) (.cond (.t 17) Hx .skip)) (.seq (.ae yqa) .ret))),37,[.tmp 2]⟩
@[simp] theorem Yr:az Tryz.prog v8=some abo:=by kernel_rfl
@[simp] theorem ayg:au Tryz.prog v8=true:=by kernel_rfl
abbrev IJ:zR:=[ab 36 3,ab 2 36]
abbrev HY:zB:=O::O::O::I::(by(iterate 21 refine O::?_);exact[I,I,I,O,O,O,O,O,O,O,O,O])
abbrev II:zB:=O::O::O::I::(by(iterate 33 refine O::?_);exact[])
abbrev yqj:zR:=[bE 35 27 1,ab 27 35]
abbrev yqk:zR:=[ab 31 3,al 32 2 7,ai 33 1 32,o 34 (.append 1 aF 16 (.t 31) (.t 33)),ab 3 34]
abbrev yqm:ah:=.seq (.ae Qb) (.ae yqk)
abbrev Ca:ah:=.seq (.ae uM) (.seq (.cond (.t 28) .skip (.exit 2)) (.seq (.block 3 [] yqm) (.ae yqj)))
abbrev Q':zB:=O::I::O::I::O::O::O::O::O::O::O::O::I::I::I::(by(iterate 22 refine O::?_);exact[])
abbrev SW:zB:=O::I::O::I::(by(iterate 33 refine O::?_);exact[])
abbrev yqt:zR:=[ab 18 3,al 19 1 5,ai 20 1 19,o 21 (.lit 1 [.str []] [(0,.t 20)]),o 22 (.append 1 aF 16 (.t 18) (.t 21)),ab 3 22]
abbrev yqv:ah:=.seq (.ae Q9) (.ae yqt)
abbrev GV:ah:=.seq (.ae Sf) (.seq (.cond (.t 15) .skip (.exit 0)) (.seq (.block 1 [] yqv) (.ae Sz)))
abbrev yqz:zR:=[al 8 1 1,ai 9 1 8,aW 10 ot 9,ab 3 10]
abbrev aa0:aA:=⟨.seq (.ae Iq) (.seq (.ae yqz) (.seq (.seq (.ae R4) (.block 0 SW (.loop Q' GV))) (.seq (.seq (.ae C2) (.block 2 II (.loop HY Ca))) (.seq (.ae IJ) .ret)))),37,[.tmp 2]⟩
abbrev yqB:zI:=[.code (.seq (.ae IJ) .ret)]
abbrev yqC(x3 x25 x26 x27:AV)(h:List Ob)(e:Cx:=cx):an:=aY tB (.code Ca::.inLoop HY Ca::.inBlock 2 II::yqB) (U::U::U::x3::(by(iterate 21 refine U::?_);exact[x25,x26,x27,U,U,U,U,U,U,U,U,U])) h e
abbrev yqD:zI:=[.code (.seq (.seq (.ae C2) (.block 2 II (.loop HY Ca))) (.seq (.ae IJ) .ret))]
abbrev yqE(x1 x3 x12 x13 x14:AV)(h:List Ob)(e:Cx:=cx):an:=aY tB (.code GV::.inLoop Q' GV::.inBlock 0 SW::yqD) (U::x1::U::x3::U::U::U::U::U::U::U::U::x12::x13::x14::(by(iterate 22 refine U::?_);exact[])) h e
@[simp] theorem Yn:az Tryz.prog tB=some aa0:=by kernel_rfl
@[simp] theorem ayh:au Tryz.prog tB=true:=by kernel_rfl
abbrev yqF:zR:=[ab 4 0,o 5 (.cmp .lss (.sc .int) (.t 4) (.c (.int .i64 0))),ab 6 5,on 7 6 (.mv (.t 0)),on 8 6 (.load false 1 (.t 1)),on 9 6 (.cmp .geq (.sc .int) (.t 7) (.t 8)),o 10 (.pick (.t 6) (.c (.bool true)) (.t 9)),ab 3 10]
abbrev xI:zR:=[lQ 3]
abbrev Xn:aA:=⟨.seq (.ae xI) (.seq (.ae yqF) .ret),11,[.tmp 3]⟩
@[simp] theorem VY:az Tryz.prog zE=some Xn:=by kernel_rfl
@[simp] theorem aw7:au Tryz.prog zE=true:=by kernel_rfl
abbrev yqH:zR:=[ab 3 0,o 4 (.cmp .lss (.sc .int) (.t 3) (.c (.int .i64 0))),ab 5 4,on 6 5 (.mv (.t 0)),on 7 5 (.cmp .gtr (.sc .int) (.t 6) (.c (.int .i64 2))),o 8 (.pick (.t 5) (.c (.bool true)) (.t 7)),ab 2 8]
abbrev WQ:aA:=⟨.seq (.ae jK) (.seq (.ae yqH) .ret),9,[.tmp 2]⟩
@[simp] theorem VU:az Tryz.prog zJ=some WQ:=by kernel_rfl
@[simp] theorem axa:au Tryz.prog zJ=true:=by kernel_rfl
abbrev yqJ:zR:=[ab 5 0,ab 6 1,cM 7 vv 5 6,o 8 (.cmp .geq (.sc .int) (.t 7) (.c (.int .i64 0))),ab 4 8]
abbrev TW:aA:=⟨.seq (.ae jM) (.seq (.ae yqJ) .ret),9,[.tmp 4]⟩
@[simp] theorem TN:az Tryz.prog sP=some TW:=by kernel_rfl
@[simp] theorem avE:au Tryz.prog sP=true:=by kernel_rfl
abbrev yqL:zR:=[ab 5 0,ab 6 1,cM 7 qW 5 6,o 8 (.cmp .geq (.sc .int) (.t 7) (.c (.int .i64 0))),ab 4 8]
abbrev TD:aA:=⟨.seq (.ae jM) (.seq (.ae yqL) .ret),9,[.tmp 4]⟩
@[simp] theorem TA:az Tryz.prog pS=some TD:=by kernel_rfl
@[simp] theorem avx:au Tryz.prog pS=true:=by kernel_rfl
abbrev yqN:zR:=[ab 3 0,aW 4 vP 3,o 5 (.not (.t 4)),ab 2 5]
abbrev W2:aA:=⟨.seq (.ae jK) (.seq (.ae yqN) .ret),6,[.tmp 2]⟩
@[simp] theorem VM:az Tryz.prog zH=some W2:=by kernel_rfl
@[simp] theorem awY:au Tryz.prog zH=true:=by kernel_rfl
abbrev B5:zR:=[ab 26 0,ab 4 26]
abbrev yqQ:zR:=[ab 17 0,ab 18 0,o 19 (.cap (.t 18)),o 20 (.slice 1 (.t 17) none (some (.t 19))),ab 21 1,o 22 (.p_ 1 aF 16 (.str []) (.t 20) (.t 21)),ab 23 0,aQ 24 23,o 25 (.slice 1 (.t 22) none (some (.t 24))),ab 0 25]
abbrev CZ:zR:=[ab 15 1,o 16 (.cmp .gtr (.sc .int) (.t 15) (.c (.int .i64 0)))]
abbrev C0:zR:=[ab 8 1,ab 9 0,o 10 (.cap (.t 9)),ab 11 0,aQ 12 11,o 13 (.bJ .sub (.t 10) (.t 12)),o 14 (.bJ .sub (.t 8) (.t 13)),ab 1 14]
abbrev CC:zR:=[o 7 (.lr aF (.c (.str [99,97,110,110,111,116,32,98,101,32,110,101,103,97,116,105,118,101]))),q (.panic (.t 7))]
abbrev Cp:zR:=[ab 5 1,o 6 (.cmp .lss (.sc .int) (.t 5) (.c (.int .i64 0)))]
abbrev Ha:zR:=[o 4 (.bG 1 aF)]
abbrev T6:aA:=⟨.seq (.ae Ha) (.seq (.seq (.ae Cp) (.cond (.t 6) (.ae CC) .skip)) (.seq (.seq (.ae C0) (.seq (.ae CZ) (.cond (.t 16) (.ae yqQ) .skip))) (.seq (.ae B5) .ret))),27,[.tmp 4]⟩
@[simp] theorem Jo:az Tryz.prog Dj=some T6:=by kernel_rfl
@[simp] theorem avJ:au Tryz.prog Dj=true:=by kernel_rfl
abbrev yqW:zR:=[o 5 (.fI (.func ow) [] [.t 2,.t 3]),ab 4 5]
abbrev yqX:zR:=[o 2 (.box 5 (.t 0)),o 3 (.box 1 (.t 1)),o 4 (.mv (.c .c_))]
abbrev W1:aA:=⟨.seq (.ae yqX) (.seq (.ae yqW) .ret),6,[.tmp 4]⟩
@[simp] theorem VO:az Tryz.prog DC=some W1:=by kernel_rfl
@[simp] theorem aw4:au Tryz.prog DC=true:=by kernel_rfl
abbrev Hu:zR:=[ab 85 8,ab 6 85,aO 7 0]
abbrev IE:zB:=I::O::O::O::O::O::O::O::I::(by(iterate 49 refine O::?_);exact I::I::I::(by(iterate 25 refine O::?_);exact[]))
abbrev HJ:zB:=O::O::O::O::O::O::O::O::I::(by(iterate 77 refine O::?_);exact[])
abbrev yrb:zR:=[bE 84 60 1,ab 60 84]
abbrev yrc:zR:=[ab 73 8,al 74 0 13,ai 75 1 74,aM 76 5 13,ab 77 8,al 78 2 13,ai 79 1 78,cM 80 tp 77 79,cM 81 zY 76 80,ab 72 81,bo 82 72 0,bo 83 72 1,q (.bH (.sc .str) (.t 73) (.t 75) (.t 82))]
abbrev yrd:zR:=[ab 64 0,o 65 (.cv (.t 64)),al 66 0 65,al 67 3 66,ai 68 1 67,ab 69 12,ba 70 5 68 69,aM 71 5 70,o 13 (.alloc [.str [],.int .i64 0,.own 1 aF [],.own 1 aF [],.bool false]),aN 5 13 71]
abbrev yre:zR:=[ba 62 1 58 60,ai 63 1 62,ab 12 63]
abbrev yrf:ah:=.seq (.ae yre) (.seq (.ae yrd) (.aT [O,O,I,I,O,O,O,O,O,O,O,O,O] [13,13,13,9,8,8,8,9,13,13,13,14,14] yrc))
abbrev yrg:zR:=[cN 61 60 59]
abbrev CV:ah:=.seq (.ae yrg) (.seq (.cond (.t 61) .skip (.exit 2)) (.seq (.block 3 [] yrf) (.ae yrb)))
abbrev RG:zR:=[ab 55 0,o 56 (.cv (.t 55)),al 57 5 56,ai 58 1 57,aQ 59 58,aO 60 0]
abbrev Sn:zB:=I::O::O::O::O::O::O::O::I::(by(iterate 29 refine O::?_);exact I::I::I::(by(iterate 45 refine O::?_);exact[]))
abbrev QH:zB:=I::O::O::O::O::O::O::O::I::(by(iterate 77 refine O::?_);exact[])
abbrev yrl:zR:=[bE 54 40 1,ab 40 54]
abbrev yrm:zR:=[ab 45 8,ab 46 0,o 47 (.cv (.t 46)),al 48 4 47,ai 49 1 48,ab 50 9,ba 51 1 49 50,ai 52 1 51,ab 53 10,q (.bH (.sc .str) (.t 45) (.t 52) (.t 53))]
abbrev yrn:zR:=[ab 42 40,ba 43 1 38 40,ai 44 1 43,ab 9 42,ab 10 44]
abbrev yro:ah:=.seq (.ae yrn) (.ae yrm)
abbrev G9:ah:=.seq (.ae QJ) (.seq (.cond (.t 41) .skip (.exit 0)) (.seq (.block 1 [] yro) (.ae yrl)))
abbrev yrr:zR:=[ab 35 2,ab 36 1,o 37 (.lit 1 [.list true 0 [],.list true 0 []] [(0,.t 35),(1,.t 36)]),aW 38 ou 37,aQ 39 38,aO 40 0]
abbrev yrs:zR:=[o 34 (.mkMap),ab 8 34]
abbrev yrt:zR:=[o 6 (.mv (.c .c8)),aO 7 11]
abbrev yru:ah:=.seq (.ae yrt) .ret
abbrev yrv:zR:=[ab 14 1,aQ 15 14,ab 16 0,o 17 (.cv (.t 16)),al 18 0 17,al 19 2 18,ai 20 1 19,aQ 21 20,o 22 (.cmp .neq (.sc .int) (.t 15) (.t 21)),ab 23 22,on 24 23 (.mv (.t 2)),on 25 23 (.len (.t 24)),on 26 23 (.mv (.t 0)),on 27 23 (.cv (.t 26)),on 28 23 (.off 0 (.t 27)),on 29 23 (.off 0 (.t 28)),on 30 23 (.load false 1 (.t 29)),on 31 23 (.len (.t 30)),on 32 23 (.cmp .neq (.sc .int) (.t 25) (.t 31)),o 33 (.pick (.t 23) (.c (.bool true)) (.t 32))]
abbrev yrw:zR:=[o 6 (.mv (.c .c8)),aO 7 0]
abbrev Us:aA:=⟨.seq (.ae yrw) (.seq (.seq (.ae yrv) (.cond (.t 33) yru .skip)) (.seq (.ae yrs) (.seq (.seq (.ae yrr) (.block 0 QH (.loop Sn G9))) (.seq (.seq (.ae RG) (.block 2 HJ (.loop IE CV))) (.seq (.ae Hu) .ret))))),86,[.tmp 6,.tmp 7]⟩
abbrev P6:zI:=[.code (.seq (.ae Hu) .ret)]
abbrev yry(x0 x8 x58 x59 x60:AV)(h:List Ob)(e:Cx:=cx):an:=aY ov (.code CV::.inLoop IE CV::.inBlock 2 HJ::P6) (x0::U::U::U::U::U::U::U::x8::(by(iterate 49 refine U::?_);exact x58::x59::x60::(by(iterate 25 refine U::?_);exact[]))) h e
abbrev yrz(x8:AV)(h:List Ob)(e:Cx:=cx):an:=aY ov P6 (U::U::U::U::U::U::U::U::x8::(by(iterate 77 refine U::?_);exact[])) h e
abbrev Qi:zI:=[.code (.seq (.seq (.ae RG) (.block 2 HJ (.loop IE CV))) (.seq (.ae Hu) .ret))]
abbrev yrB(x0 x8 x38 x39 x40:AV)(h:List Ob)(e:Cx:=cx):an:=aY ov (.code G9::.inLoop Sn G9::.inBlock 0 QH::Qi) (x0::U::U::U::U::U::U::U::x8::(by(iterate 29 refine U::?_);exact x38::x39::x40::(by(iterate 45 refine U::?_);exact[]))) h e
abbrev yrC(x0 x8:AV)(h:List Ob)(e:Cx:=cx):an:=aY ov Qi (x0::U::U::U::U::U::U::U::x8::(by(iterate 77 refine U::?_);exact[])) h e
@[simp] theorem Jw:az Tryz.prog ov=some Us:=by kernel_rfl
@[simp] theorem avY:au Tryz.prog ov=true:=by kernel_rfl
abbrev IY:zR:=[ab 21 5,ab 4 21]
abbrev Qt:zB:=[I,O,O,O,O,I,O,O,I,I,I,O,O,O,O,O,O,O,O,O,O,O]
abbrev B7:zB:=O::O::O::O::O::I::(by(iterate 16 refine O::?_);exact[])
abbrev Qu:zR:=[bE 20 10 1,ab 10 20]
abbrev yrH:zR:=[ab 14 5,ab 15 0,ab 16 7,o 17 (.lookup (.sc .str) (.bool false) (.t 15) (.t 16) false),o 18 (.lit 1 [.bool false] [(0,.t 17)]),o 19 (.append 1 aZ 1 (.t 14) (.t 18)),ab 5 19]
abbrev Q1:zR:=[ba 12 1 8 10,ai 13 1 12,ab 7 13]
abbrev yrJ:ah:=.seq (.ae Q1) (.ae yrH)
abbrev G3:ah:=.seq (.ae GP) (.seq (.cond (.t 11) .skip (.exit 0)) (.seq (.block 1 [] yrJ) (.ae Qu)))
abbrev yrM:zR:=[ab 8 1,aQ 9 8,aO 10 0]
abbrev yrN:zR:=[o 5 (.bG 1 aZ)]
abbrev Zj:aA:=⟨.seq (.ae IA) (.seq (.ae yrN) (.seq (.seq (.ae yrM) (.block 0 B7 (.loop Qt G3))) (.seq (.ae IY) .ret))),22,[.tmp 4]⟩
abbrev Sy:zI:=[.code (.seq (.ae IY) .ret)]
abbrev yrQ(x0 x5 x8 x9 x10:AV)(h:List Ob)(e:Cx:=cx):an:=aY tp (.code G3::.inLoop Qt G3::.inBlock 0 B7::Sy) [x0,U,U,U,U,x5,U,U,x8,x9,x10,U,U,U,U,U,U,U,U,U,U,U] h e
@[simp] theorem W0:az Tryz.prog tp=some Zj:=by kernel_rfl
@[simp] theorem axw:au Tryz.prog tp=true:=by kernel_rfl
abbrev yrV:zR:=[ab 31 6,ab 32 8,o 33 (.append 1 aZ 1 (.t 31) (.t 32)),ab 6 33]
abbrev yrX:ah:=.seq (.ae C4) (.ae yrV)
abbrev CM:ah:=.seq (.ae uM) (.seq (.cond (.t 28) .skip (.exit 2)) (.seq (.block 3 [] yrX) (.ae Ch)))
abbrev Qz:zR:=[ab 23 3,o 24 (.call (.f Dl) [.c (.list true 0 []),.t 23]),ab 6 24]
abbrev T_:aA:=⟨.seq (.ae Iz) (.seq (.ae sy) (.seq (.seq (.ae Cg) (.block 0 qL (.loop qI mI))) (.seq (.ae Qz) (.seq (.seq (.ae qM) (.block 2 mE (.loop mG CM))) (.seq (.ae pB) .ret))))),36,[.tmp 2]⟩
abbrev SU(x6 x25 x26 x27:AV)(h:List Ob)(e:Cx:=cx):an:=aY ou (.code CM::.inLoop mG CM::.inBlock 2 mE::CX) (U::U::U::U::U::U::x6::(by(iterate 18 refine U::?_);exact[x25,x26,x27,U,U,U,U,U,U,U,U])) h e
abbrev ysr:zI:=[.code (.seq (.ae Qz) (.seq (.seq (.ae qM) (.block 2 mE (.loop mG CM))) (.seq (.ae pB) .ret)))]
abbrev Sr(x0 x3 x9 x10 x11:AV)(h:List Ob)(e:Cx:=cx):an:=aY ou (.code mI::.inLoop qI mI::.inBlock 0 qL::ysr) (x0::U::U::x3::U::U::U::U::U::x9::x10::x11::(by(iterate 24 refine U::?_);exact[])) h e
@[simp] theorem Jq:az Tryz.prog ou=some T_:=by kernel_rfl
@[simp] theorem avN:au Tryz.prog ou=true:=by kernel_rfl
abbrev yst:zB:=I::O::I::I::I::O::O::O::O::O::O::I::I::I::(by(iterate 25 refine O::?_);exact[])
abbrev ysu:zB:=(by(iterate 39 refine O::?_);exact[])
abbrev ysv:zR:=[bE 38 13 1,ab 13 38]
abbrev ysw:zR:=[ab 37 9,aN 1 3 37]
abbrev ysx:zR:=[ab 28 10,o 29 (.cmp .neq (.sc .int) (.t 28) (.c (.int .i64 0))),ab 30 29,on 31 30 (.mv (.t 0)),on 32 30 (.mv (.t 8)),on 33 30 (.mv (.t 9)),on 34 30 (.call (.t 31) [.t 32,.t 33]),on 35 30 (.not (.t 34)),o 36 (.pick (.t 30) (.c (.bool true)) (.t 35))]
abbrev ysy:zR:=[ai 25 1 4,ab 26 10,o 27 (.cv (.t 25)),aN 1 27 26]
abbrev ysz:zR:=[ai 18 1 2,ai 19 1 3,ab 20 7,o 21 (.call (.f q_) [.t 18,.t 19,.t 20]),ab 17 21,bo 22 17 0,bo 23 17 1,bo 24 17 2,ab 8 22,ab 9 23,ab 10 24]
abbrev Rb:zR:=[ba 15 1 11 13,ai 16 1 15,ab 7 16]
abbrev ysB:ah:=.seq (.ae Rb) (.seq (.ae ysz) (.seq (.seq (.ae ysy) (.seq (.ae ysx) (.cond (.t 36) .ret .skip))) (.ae ysw)))
abbrev ysD:ah:=.seq (.ae uN) (.seq (.cond (.t 14) .skip (.exit 0)) (.seq (.block 1 [] ysB) (.ae ysv)))
abbrev ysE:zR:=[ai 11 1 1,aQ 12 11,aO 13 0]
abbrev Ul:aA:=⟨.seq (.ae ysE) (.block 0 ysu (.loop yst ysD)),39,[]⟩
@[simp] theorem avW:az Tryz.prog Dn=some Ul:=by kernel_rfl
@[simp] theorem avS:au Tryz.prog Dn=true:=by kernel_rfl
abbrev ysF:zR:=[ab 11 3,ab 12 11,cO 13 12 4,bT 14 12 13,ab 15 14,oy 16 15 (.off 0 (.t 1)),cU 17 15 1 16,oy 18 15 (.ma (.t 17)),oy 19 15 (.cmp .leq (.sc .int) (.t 18) (.c (.int .i64 60))),bT 20 15 19,ab 2 20]
abbrev ysG:zR:=[al 8 3 1,ai 9 1 8,o 10 (.call (.f pZ) [.t 9,.c (.int .i64 140)]),ab 4 10]
abbrev ysH:zR:=[al 5 2 1,ai 6 1 5,o 7 (.call (.f pZ) [.t 6,.c (.int .i64 12)]),ab 3 7]
abbrev XG:aA:=⟨.seq (.ae HN) (.seq (.ae ysH) (.seq (.ae ysG) (.seq (.ae ysF) .ret))),21,[.tmp 2]⟩
@[simp] theorem VW:az Tryz.prog zD=some XG:=by kernel_rfl
@[simp] theorem aw8:au Tryz.prog zD=true:=by kernel_rfl
abbrev ysP:zR:=[ab 17 0,ab 18 5,ba 19 1 17 18,ai 20 1 19,o 21 (.ma (.t 20)),o 22 (.cmp .gtr (.sc .int) (.t 21) (.c (.int .i64 60)))]
abbrev ysQ:ah:=.seq (.ae ysP) (.cond (.t 22) lT .skip)
abbrev HD:ah:=.seq (.seq (.ae R_) (.cond (.t 14) .skip (.exit 0))) (.seq (.block 1 [] ysQ) (.ae Cl))
abbrev YT:aA:=⟨.seq (.ae jM) (.seq (.seq (.ae yJ) (.block 0 HX (.loop IP HD))) (.seq (.ae GS) .ret)),27,[.tmp 4]⟩
abbrev ysV:zI:=[.code (.seq (.ae GS) .ret)]
abbrev ysW(x0 x1 x5:AV)(h:List Ob)(e:Cx:=cx):an:=aY pZ (.code HD::.inLoop IP HD::.inBlock 0 HX::ysV) (x0::x1::U::U::U::x5::(by(iterate 21 refine U::?_);exact[])) h e
@[simp] theorem WV:az Tryz.prog pZ=some YT:=by kernel_rfl
@[simp] theorem axu:au Tryz.prog pZ=true:=by kernel_rfl
abbrev qF:zB:=I::O::O::I::I::(by(iterate 69 refine O::?_);exact[])
abbrev CA:zB:=(by(iterate 74 refine O::?_);exact[])
abbrev QO:zB:=I::O::O::I::I::O::I::(by(iterate 42 refine O::?_);exact I::I::I::(by(iterate 22 refine O::?_);exact[]))
abbrev ytb:zR:=[bE 73 51 1,ab 51 73]
abbrev ytc:zR:=[ab 68 4,o 69 (.lr kx (.t 68)),ab 70 8,o 71 (.lr aq (.t 70)),cM 72 vy 69 71]
abbrev ytd:zR:=[al 61 0 3,ai 62 1 61,ab 63 8,ba 64 1 62 63,ai 65 1 64,o 66 (.uu (.t 65)),o 67 (.cmp .eql (.sc .int) (.t 66) (.c (.int .i64 0)))]
abbrev yte:zR:=[al 55 0 3,ai 56 1 55,ab 57 8,ba 58 1 56 57,ai 59 1 58,ab 60 6,q (.delete (.sc .int) (.t 59) (.t 60))]
abbrev ytf:zR:=[ba 53 1 49 51,ai 54 1 53,ab 8 54]
abbrev ytg:ah:=.seq (.ae ytf) (.seq (.ae yte) (.seq (.ae ytd) (.cond (.t 67) (.ae ytc) .skip)))
abbrev yth:zR:=[cN 52 51 50]
abbrev Hs:ah:=.seq (.ae yth) (.seq (.cond (.t 52) .skip (.exit 4)) (.seq (.block 5 [] ytg) (.ae ytb)))
abbrev ytj:zR:=[al 45 1 3,ai 46 1 45,ab 47 6,ba 48 1 46 47,ai 49 1 48,aQ 50 49,aO 51 0]
abbrev ytk:zR:=[ab 41 0,ab 42 6,o 43 (.call (.t 41) [.t 42]),o 44 (.not (.t 43))]
abbrev ytl:zR:=[ab 37 4,o 38 (.lr kx (.t 37)),aW 39 zn 38,o 40 (.rM (.t 39) aq (.int .i64 0) false),ab 6 40]
abbrev ytm:ah:=.seq (.ae ytl) (.seq (.seq (.ae ytk) (.cond (.t 44) .ret .skip)) (.seq (.ae ytj) (.block 4 qF (.loop QO Hs))))
abbrev ytn:zR:=[ab 32 4,o 33 (.cv (.t 32)),ai 34 1 33,aW 35 sY 34,o 36 (.cmp .gtr (.sc .int) (.t 35) (.c (.int .i64 0)))]
abbrev xW:ah:=.seq (.seq (.ae ytn) (.cond (.t 36) .skip (.exit 2))) (.block 3 [] ytm)
abbrev Sk:zB:=I::O::O::I::I::O::O::O::O::O::O::O::O::O::O::I::I::(by(iterate 57 refine O::?_);exact[])
abbrev ytr:zR:=[bE 31 16 1,ab 16 31]
abbrev yts:zR:=[ab 26 4,o 27 (.lr kx (.t 26)),ab 28 5,o 29 (.lr aq (.t 28)),cM 30 vy 27 29]
abbrev ytt:zR:=[al 19 0 3,ai 20 1 19,ab 21 5,ba 22 1 20 21,ai 23 1 22,o 24 (.uu (.t 23)),o 25 (.cmp .eql (.sc .int) (.t 24) (.c (.int .i64 0)))]
abbrev ytu:zR:=[ab 18 16,ab 5 18]
abbrev ytv:ah:=.seq (.ae ytu) (.seq (.ae ytt) (.cond (.t 25) (.ae yts) .skip))
abbrev GW:ah:=.seq (.ae Cw) (.seq (.cond (.t 17) .skip (.exit 0)) (.seq (.block 1 [] ytv) (.ae ytr)))
abbrev yty:zR:=[al 13 3 1,ai 14 1 13,aQ 15 14,aO 16 0]
abbrev ytz:zR:=[o 11 (.lit 1 [] []),o 12 (.box 1 (.t 11)),ab 4 12]
abbrev ytA:zR:=[aM 9 4 1,aW 10 mV 9,o 3 (.alloc [.own 1 jR [],.own 1 iW []]),aN 2 3 10]
abbrev Vy:aA:=⟨.seq (.ae ytA) (.seq (.ae ytz) (.seq (.seq (.ae yty) (.block 0 qF (.loop Sk GW))) (.block 2 CA (.loop qF xW)))),74,[]⟩
abbrev RQ:zI:=[.inBlock 3 [],.inLoop qF xW,.inBlock 2 CA]
abbrev ytC(x0 x3 x4 x6 x49 x50 x51:AV)(h:List Ob)(e:Cx:=cx):an:=aY nE (.code Hs::.inLoop QO Hs::.inBlock 4 qF::RQ) (x0::U::U::x3::x4::U::x6::(by(iterate 42 refine U::?_);exact x49::x50::x51::(by(iterate 22 refine U::?_);exact[]))) h e
abbrev ytD(x0 x3 x4:AV)(h:List Ob)(e:Cx:=cx):an:=aY nE RQ (x0::U::U::x3::x4::(by(iterate 69 refine U::?_);exact[])) h e
abbrev CE:zI:=[]
abbrev QG(x0 x3 x4:AV)(h:List Ob)(e:Cx:=cx):an:=aY nE (.code xW::.inLoop qF xW::.inBlock 2 CA::CE) (x0::U::U::x3::x4::(by(iterate 69 refine U::?_);exact[])) h e
abbrev Qf:zI:=[.code (.block 2 CA (.loop qF xW))]
abbrev ytH(x0 x3 x4 x15 x16:AV)(h:List Ob)(e:Cx:=cx):an:=aY nE (.code GW::.inLoop Sk GW::.inBlock 0 qF::Qf) (x0::U::U::x3::x4::U::U::U::U::U::U::U::U::U::U::x15::x16::(by(iterate 57 refine U::?_);exact[])) h e
abbrev ytI(x0 x3 x4:AV)(h:List Ob)(e:Cx:=cx):an:=aY nE Qf (x0::U::U::x3::x4::(by(iterate 69 refine U::?_);exact[])) h e
@[simp] theorem U2:az Tryz.prog nE=some Vy:=by kernel_rfl
@[simp] theorem awB:au Tryz.prog nE=true:=by kernel_rfl
abbrev HI:zR:=[aM 79 2 4,aN 2 2 79]
abbrev xS:zB:=O::O::I::I::I::(by(iterate 18 refine O::?_);exact I::I::I::(by(iterate 54 refine O::?_);exact[]))
abbrev Ib:zB:=O::O::I::O::I::(by(iterate 75 refine O::?_);exact[])
abbrev Tc:zR:=[bE 78 25 1,ab 25 78]
abbrev RC:zB:=O::O::I::I::I::I::(by(iterate 17 refine O::?_);exact I::I::I::O::O::O::O::O::O::O::O::O::O::I::I::I::(by(iterate 41 refine O::?_);exact[]))
abbrev ytP:zR:=[bE 77 38 1,ab 38 77]
abbrev ytQ:zR:=[al 65 1 4,ai 66 1 65,ab 67 9,al 68 1 4,ai 69 1 68,ab 70 9,ba 71 1 69 70,ai 72 1 71,ab 73 5,o 74 (.lit 1 [.int .i64 0] [(0,.t 73)]),o 75 (.append 1 aq 8 (.t 72) (.t 74)),ba 76 1 66 67,aN 1 76 75]
abbrev ytR:zR:=[al 59 0 4,ai 60 1 59,ab 61 5,ba 62 1 60 61,ai 63 1 62,ab 64 9,q (.bH (.sc .int) (.t 63) (.t 64) (.c (.bool true)))]
abbrev ytS:ah:=.seq (.ae ytR) (.aT [O,I,O,O,I,O,O,I,O,O,O,O,O] [13,13,13,11,11,11,11,11,10,11,13,13,14] ytQ)
abbrev ytT:zR:=[ab 48 10,ab 49 48,oy 50 49 (.off 0 (.t 4)),cU 51 49 1 50,cO 52 49 5,oy 53 49 (.kK 1 (.t 51) (.t 52)),cU 54 49 1 53,cO 55 49 9,oy 56 49 (.lookup (.sc .int) (.bool false) (.t 54) (.t 55) false),oy 57 49 (.not (.t 56)),bT 58 49 57]
abbrev ytU:zR:=[ab 43 3,ab 44 8,o 45 (.lookup (.sc .str) (.int .i64 0) (.t 43) (.t 44) true),ab 42 45,bo 46 42 0,bo 47 42 1,ab 9 46,ab 10 47]
abbrev ytV:zR:=[ba 40 1 36 38,ai 41 1 40,ab 8 41]
abbrev ytW:ah:=.seq (.ae ytV) (.seq (.ae ytU) (.seq (.ae ytT) (.cond (.t 58) ytS .skip)))
abbrev GN:ah:=.seq (.ae Qy) (.seq (.cond (.t 39) .skip (.exit 2)) (.seq (.block 3 [] ytW) (.ae ytP)))
abbrev ytZ:zR:=[al 35 2 6,ai 36 1 35,aQ 37 36,aO 38 0]
abbrev yua:zR:=[al 30 0 4,ai 31 1 30,ab 32 5,o 33 (.mkMap),ba 34 1 31 32,aN 1 34 33]
abbrev yub:zR:=[ab 27 25,ba 28 5 23 25,aM 29 5 28,o 6 (.alloc [.str [],.int .i64 0,.own 1 aF [],.own 1 aF [],.bool false]),ab 5 27,aN 5 6 29]
abbrev yuc:ah:=.seq (.ae yub) (.seq (.ae yua) (.seq (.ae ytZ) (.block 2 xS (.loop RC GN))))
abbrev Co:ah:=.seq (.ae R1) (.seq (.cond (.t 26) .skip (.exit 0)) (.seq (.block 1 [] yuc) (.ae Tc)))
abbrev Cm:zR:=[al 13 3 1,ai 14 1 13,aQ 15 14,o 16 (.mkSlice 1 jR 8 .c8 (.t 15) (.t 15)),al 17 3 1,ai 18 1 17,aQ 19 18,o 20 (.mkSlice 1 iW 24 (.list true 0 []) (.t 19) (.t 19)),o 21 (.build [.list true 0 [],.list true 0 []] [(0,1,.t 16),(1,1,.t 20)]),o 4 (.alloc [.own 1 jR [],.own 1 iW []]),aN 2 4 21]
abbrev yuh:zR:=[aM 11 4 1,aW 12 s9 11,ab 3 12]
abbrev yui:zR:=[o 1 (.box 4 (.t 0)),o 2 (.alloc [.own 1 jR [],.own 1 iW []])]
abbrev Yd:aA:=⟨.seq (.ae yui) (.seq (.ae yuh) (.seq (.fm [[],[0],[1],[2,2],[],[4],[5],[6,6],[3,7],[],[9,8,0,1,2,3,4,5,6,7,8,9]] Cm) (.seq (.seq (.ae Sv) (.block 0 Ib (.loop xS Co))) (.seq (.ae HI) .ret)))),80,[.cell 2 true 2]⟩
abbrev Tb:zI:=[.inBlock 1 [],.code (.ae Tc),.inLoop xS Co,.inBlock 0 Ib,.code (.seq (.ae HI) .ret)]
abbrev yuk(x2 x3 x4 x5 x23 x24 x25 x36 x37 x38:AV)(h:List Ob)(e:Cx:=cx):an:=aY mV (.code GN::.inLoop RC GN::.inBlock 2 xS::Tb) (U::U::x2::x3::x4::x5::(by(iterate 17 refine U::?_);exact x23::x24::x25::U::U::U::U::U::U::U::U::U::U::x36::x37::x38::(by(iterate 41 refine U::?_);exact[]))) h e
abbrev yul(x2 x3 x4 x23 x24 x25:AV)(h:List Ob)(e:Cx:=cx):an:=aY mV Tb (U::U::x2::x3::x4::(by(iterate 18 refine U::?_);exact x23::x24::x25::(by(iterate 54 refine U::?_);exact[]))) h e
abbrev yum:zI:=[.code (.seq (.ae HI) .ret)]
abbrev HF(x2 x3 x4 x23 x24 x25:AV)(h:List Ob)(e:Cx:=cx):an:=aY mV (.code Co::.inLoop xS Co::.inBlock 0 Ib::yum) (U::U::x2::x3::x4::(by(iterate 18 refine U::?_);exact x23::x24::x25::(by(iterate 54 refine U::?_);exact[]))) h e
@[simp] theorem Wl:az Tryz.prog mV=some Yd:=by kernel_rfl
@[simp] theorem axi:au Tryz.prog mV=true:=by kernel_rfl
abbrev yuo:zR:=[ab 7 0,ab 8 0,o 9 (.invoke (.t 8) "Len" []),o 10 (.bJ .sub (.t 9) (.c (.int .i64 1))),cM 11 vC 7 10]
abbrev yup:zR:=[ab 4 0,ab 5 1,o 6 (.invoke (.t 4) "Push" [.t 5])]
abbrev Uu:aA:=⟨.seq (.ae yup) (.ae yuo),12,[]⟩
@[simp] theorem Uh:az Tryz.prog vy=some Uu:=by kernel_rfl
@[simp] theorem av0:au Tryz.prog vy=true:=by kernel_rfl
abbrev yuq:zR:=[ab 3 0,aQ 4 3,ab 2 4]
abbrev Vq:aA:=⟨.seq (.ae xZ) (.seq (.ae yuq) .ret),5,[.tmp 2]⟩
@[simp] theorem JF:az Tryz.prog sY=some Vq:=by kernel_rfl
@[simp] theorem awG:au Tryz.prog sY=true:=by kernel_rfl
abbrev yus:zR:=[ab 13 0,o 14 (.invoke (.t 13) "Pop" []),ab 2 14]
abbrev yut:zR:=[ab 10 0,ab 11 3,o 12 (.call (.f vz) [.t 10,.c (.int .i64 0),.t 11])]
abbrev yuu:zR:=[ab 7 0,ab 8 3,o 9 (.invoke (.t 7) "Swap" [.c (.int .i64 0),.t 8])]
abbrev yuv:zR:=[ab 4 0,o 5 (.invoke (.t 4) "Len" []),o 6 (.bJ .sub (.t 5) (.c (.int .i64 1))),ab 3 6]
abbrev QF:zR:=[o 2 (.mv (.c .eh))]
abbrev UD:aA:=⟨.seq (.ae QF) (.seq (.ae yuv) (.seq (.ae yuu) (.seq (.ae yut) (.seq (.ae yus) .ret)))),15,[.tmp 2]⟩
@[simp] theorem Uq:az Tryz.prog zn=some UD:=by kernel_rfl
@[simp] theorem av3:au Tryz.prog zn=true:=by kernel_rfl
abbrev yux:zR:=[ab 4 0,o 5 (.ma (.t 4)),ai 6 1 1,o 7 (.cmp .neq (.sc .int) (.t 5) (.t 6)),ab 8 7,on 9 8 (.mv (.t 0)),on 10 8 (.call (.f s8) [.t 9,.c (.str [48,49,45])]),on 11 8 (.cmp .neq (.sc .str) (.t 10) (.c (.str []))),o 12 (.pick (.t 8) (.c (.bool true)) (.t 11)),ab 3 12]
abbrev Vv:aA:=⟨.seq (.ae xI) (.seq (.ae yux) .ret),13,[.tmp 3]⟩
@[simp] theorem U_:az Tryz.prog zx=some Vv:=by kernel_rfl
@[simp] theorem awC:au Tryz.prog zx=true:=by kernel_rfl
@[simp] theorem awQ:au Tryz.prog s8=true:=by kernel_rfl
abbrev yuz:zR:=[ab 5 0,ab 6 1,cM 7 sR 5 6,o 8 (.cmp .geq (.sc .int) (.t 7) (.c (.int .i64 0))),ab 4 8]
abbrev TK:aA:=⟨.seq (.ae jM) (.seq (.ae yuz) .ret),9,[.tmp 4]⟩
@[simp] theorem TF:az Tryz.prog zi=some TK:=by kernel_rfl
@[simp] theorem avB:au Tryz.prog zi=true:=by kernel_rfl
abbrev CP:zR:=[o 92 (.build [.int .i64 0,.int .i64 0,.int .i64 0] [(0,1,.c (.int .i64 4)),(2,1,.c (.int .i64 2))]),o 93 (.lit 3 [.agg [.int .i64 0,.int .i64 0,.int .i64 0]] [(0,.t 92)]),aM 94 2 6,o 95 (.lit 2 [.agg [.int .i64 0,.int .i64 0]] [(0,.t 94)]),ab 96 13,cM 97 rn 95 96,ab 98 14,o 99 (.lit 1 [.list true 0 [],.list true 0 [],.list true 0 []] [(0,.t 93),(1,.t 97),(2,.t 98)]),aW 100 sO 99,ab 2 100]
abbrev CL:zR:=[ai 87 1 1,aW 88 ot 87,ai 89 1 11,cM 90 pT 88 89,aW 91 iv 90,ab 14 91]
abbrev xJ:zR:=[ai 79 1 1,aW 80 ot 79,ab 81 12,cM 82 pT 80 81,aM 83 2 6,o 84 (.lit 2 [.agg [.int .i64 0,.int .i64 0]] [(0,.t 83)]),cM 85 pW 82 84,aW 86 iv 85,ab 13 86]
abbrev Re:zR:=[o 78 (.fI (.func vH) [] [.t 11]),ab 12 78]
abbrev Rm:zR:=[aM 76 2 6,aW 77 vV 76,o 11 (.alloc [.c_]),aN 1 11 77]
abbrev SV:zR:=[ab 75 8,ab 2 75]
abbrev SO:zB:=O::O::O::O::O::O::O::O::I::(by(iterate 53 refine O::?_);exact I::I::I::(by(iterate 36 refine O::?_);exact[]))
abbrev Sj:zB:=O::O::O::O::O::O::O::O::I::(by(iterate 92 refine O::?_);exact[])
abbrev yuJ:zR:=[bE 74 64 1,ab 64 74]
abbrev yuK:zR:=[ab 68 8,ab 69 10,aW 70 sZ 69,aW 71 zj 70,o 72 (.call (.f rn) [.t 71,.c (.list true 0 [])]),o 73 (.append 3 aS 24 (.t 68) (.t 72)),ab 8 73]
abbrev yuL:zR:=[ba 66 1 62 64,ai 67 1 66,ab 10 67]
abbrev yuM:ah:=.seq (.ae yuL) (.ae yuK)
abbrev yuN:zR:=[cN 65 64 63]
abbrev Ig:ah:=.seq (.ae yuN) (.seq (.cond (.t 65) .skip (.exit 3)) (.seq (.block 4 [] yuM) (.ae yuJ)))
abbrev yuP:zR:=[ai 62 1 1,aQ 63 62,aO 64 0]
abbrev yuQ:zR:=[ai 58 1 1,aQ 59 58,o 60 (.build [.int .i64 0,.int .i64 0,.int .i64 0] [(0,1,.c (.int .i64 4)),(2,1,.t 59)]),o 61 (.lit 3 [.agg [.int .i64 0,.int .i64 0,.int .i64 0]] [(0,.t 60)]),ab 8 61]
abbrev yuR:ah:=.seq (.ae yuQ) (.seq (.seq (.ae yuP) (.block 3 Sj (.loop SO Ig))) (.seq (.ae SV) .ret))
abbrev yuS:zR:=[ab 56 7,o 57 (.cmp .lss (.sc .int) (.t 56) (.c (.int .i64 2)))]
abbrev yuT:zR:=[ai 52 1 1,aW 53 tj 52,ab 51 53,bo 54 51 0,bo 55 51 1,o 6 (.alloc [.int .i64 0,.int .i64 0]),aN 2 6 54,ab 7 55]
abbrev yuU:zR:=[ai 45 1 4,ai 46 1 1,ai 47 1 4,cM 48 pW 46 47,aW 49 iv 48,cM 50 rn 45 49,ab 2 50]
abbrev yuV:ah:=.seq (.aT [I,O,O,O,O,O,O] [6,4,4,5,6,8,8] yuU) .ret
abbrev yuW:zR:=[ai 42 1 4,aQ 43 42,o 44 (.cmp .gtr (.sc .int) (.t 43) (.c (.int .i64 0)))]
abbrev Cz:zR:=[o 5 (.alloc [.int .i64 0,.int .i64 0]),aN 2 5 31]
abbrev yuY:zR:=[ai 38 1 4,aM 39 2 5,o 40 (.lit 2 [.agg [.int .i64 0,.int .i64 0]] [(0,.t 39)]),o 41 (.append 2 lg 16 (.t 38) (.t 40)),aN 1 4 41]
abbrev yuZ:zR:=[ai 32 1 1,aM 33 2 5,cM 34 td 32 33,ai 35 1 1,aQ 36 35,o 37 (.cmp .eql (.sc .int) (.t 34) (.t 36))]
abbrev yva:ah:=.seq (.aT [O,O,O,I,O,O] [3,3,7,7,7,7] yuZ) (.cond (.t 37) (.ae yuY) .skip)
abbrev Cc:ah:=.block 2 [] yva
abbrev yvc:ah:=.rangeFunc (.t 30) [31] (O::I::I::O::I::(by(iterate 96 refine O::?_);exact[])) (.ae Cz) Cc
abbrev yvd:zR:=[ai 27 1 1,o 28 (.kK 1 (.t 27) (.c (.int .i64 0))),ai 29 1 28,aW 30 sZ 29]
abbrev yve:zR:=[o 4 (.alloc [.own 2 lg []])]
abbrev yvf:zR:=[o 19 (.build [.int .i64 0,.int .i64 0,.int .i64 0] [(0,1,.c (.int .i64 0))]),o 20 (.lit 3 [.agg [.int .i64 0,.int .i64 0,.int .i64 0]] [(0,.t 19)]),ab 2 20]
abbrev yvg:zR:=[o 25 (.build [.int .i64 0,.int .i64 0,.int .i64 0] [(0,1,.c (.int .i64 1))]),o 26 (.lit 3 [.agg [.int .i64 0,.int .i64 0,.int .i64 0]] [(0,.t 25)]),ab 2 26]
abbrev yvh:ah:=.seq (.ae yvg) .ret
abbrev yvi:zR:=[ai 22 1 1,ab 23 3,cM 24 pS 22 23,ab 21 24]
abbrev yvj:ah:=.seq (.ae yvf) .ret
abbrev yvk:ah:=.seq (.ae yvi) (.cond (.t 21) yvh .skip)
abbrev yvl:zR:=[ai 16 1 1,aQ 17 16,o 18 (.cmp .eql (.sc .int) (.t 17) (.c (.int .i64 0))),ab 15 18]
abbrev yvm:ah:=.seq (.ae yvl) (.cond (.t 15) yvj yvk)
abbrev yvn:zR:=[o 3 (.mv (.f zw))]
abbrev yvo:zR:=[o 1 (.box 1 (.t 0)),o 2 (.bG 3 aS)]
abbrev Wr:aA:=⟨.seq (.ae yvo) (.seq (.ae yvn) (.seq (.block 0 [] yvm) (.seq (.ae yve) (.seq (.seq (.ae yvd) (.block 1 [] yvc)) (.seq (.seq (.ae yuW) (.cond (.t 44) yuV .skip)) (.seq (.ae yuT) (.seq (.seq (.ae yuS) (.cond (.t 57) yuR .skip)) (.seq (.ae Rm) (.seq (.ae Re) (.seq (.aT [I,I,O,I,O,O,O,O,O] [7,7,7,7,6,7,8,10,10] xJ) (.seq (.aT [O,O,I,O,O,O] [2,4,4,5,7,7] CL) (.seq (.ae CP) .ret)))))))))))),101,[.tmp 2]⟩
abbrev yvp:zI:=[.code (.seq (.ae SV) .ret),.code (.seq (.ae Rm) (.seq (.ae Re) (.seq (.aT [I,I,O,I,O,O,O,O,O] [7,7,7,7,6,7,8,10,10] xJ) (.seq (.aT [O,O,I,O,O,O] [2,4,4,5,7,7] CL) (.seq (.ae CP) .ret)))))]
abbrev yvq(x8 x62 x63 x64:AV)(h:List Ob)(e:Cx:=cx):an:=aY iv (.code Ig::.inLoop SO Ig::.inBlock 3 Sj::yvp) (U::U::U::U::U::U::U::U::x8::(by(iterate 53 refine U::?_);exact x62::x63::x64::(by(iterate 36 refine U::?_);exact[]))) h e
@[simp] theorem eY:az Tryz.prog iv=some Wr:=by kernel_rfl
@[simp] theorem awM:au Tryz.prog iv=true:=by kernel_rfl
abbrev yvr:zR:=[ab 5 0,ab 6 1,o 7 (.call (.f sS) [.t 5,.t 6,.c (.int .i64 0)]),ab 4 7]
abbrev UT:aA:=⟨.seq (.ae yK) (.seq (.ae yvr) .ret),8,[.tmp 4]⟩
@[simp] theorem Uy:az Tryz.prog sV=some UT:=by kernel_rfl
@[simp] theorem awj:au Tryz.prog sV=true:=by kernel_rfl
abbrev yvt:zR:=[ab 5 0,ab 6 1,o 7 (.call (.f sS) [.t 5,.t 6,.c (.int .i64 1)]),o 8 (.bJ .xor (.t 7) (.c (.int .i64 1))),ab 4 8]
abbrev US:aA:=⟨.seq (.ae yK) (.seq (.ae yvt) .ret),9,[.tmp 4]⟩
@[simp] theorem Ut:az Tryz.prog sW=some US:=by kernel_rfl
@[simp] theorem awd:au Tryz.prog sW=true:=by kernel_rfl
abbrev SF:zR:=[ab 49 3,ab 2 49]
abbrev QP:zB:=O::I::O::I::(by(iterate 16 refine O::?_);exact I::I::I::(by(iterate 27 refine O::?_);exact[]))
abbrev RH:zB:=O::O::O::I::(by(iterate 46 refine O::?_);exact[])
abbrev yvy:zR:=[bE 48 22 1,ab 22 48]
abbrev yvz:zR:=[ab 38 3,o 39 (.cv (.t 38)),al 40 5 39,ai 41 1 40,aM 42 2 5,aM 43 5 1,aW 44 lj 43,ab 45 4,o 46 (.bJ .add (.t 44) (.t 45)),o 47 (.bJ .mul (.c (.int .i64 2)) (.t 46)),q (.bH (.jb [.int,.int]) (.t 41) (.t 42) (.t 47))]
abbrev yvA:zR:=[ab 36 7,o 37 (.not (.t 36))]
abbrev yvB:zR:=[ab 28 3,o 29 (.cv (.t 28)),al 30 5 29,ai 31 1 30,aM 32 2 5,o 33 (.lookup (.jb [.int,.int]) (.int .i64 0) (.t 31) (.t 32) true),ab 27 33,bo 34 27 0,bo 35 27 1,ab 6 34,ab 7 35]
abbrev yvC:zR:=[ab 24 22,ba 25 2 20 22,aM 26 2 25,o 5 (.alloc [.int .i64 0,.int .i64 0]),ab 4 24,aN 2 5 26]
abbrev yvD:ah:=.seq (.ae yvC) (.seq (.aT [O,O,O,O,O,O,O,O,O,O,O] [12,12,12,12,12,12,12,12,12,12,12] yvB) (.seq (.ae yvA) (.cond (.t 37) (.aT [O,O,O,I,I,O,O,O,O,O,O] [11,11,11,11,11,7,11,11,11,11,12] yvz) .skip)))
abbrev yvE:zR:=[cN 23 22 21]
abbrev G5:ah:=.seq (.ae yvE) (.seq (.cond (.t 23) .skip (.exit 0)) (.seq (.block 1 [] yvD) (.ae yvy)))
abbrev yvG:zR:=[al 19 3 1,ai 20 1 19,aQ 21 20,aO 22 0]
abbrev yvH:zR:=[ab 12 3,al 13 3 1,ai 14 1 13,aW 15 zk 14,o 16 (.cv (.t 12)),al 17 0 16,al 18 3 17,aN 1 18 15]
abbrev yvI:zR:=[aM 8 5 1,o 9 (.mkMap),o 10 (.build [.int .i64 0,.list true 0 [],.list true 0 [],.list true 0 [],.list true 0 [],.c8,.list true 0 []] [(0,5,.t 8),(5,1,.t 9)]),o 11 (.box 7 (.t 10)),ab 3 11]
abbrev aak:aA:=⟨.seq (.ae Qp) (.seq (.ae yvI) (.seq (.ae yvH) (.seq (.seq (.ae yvG) (.block 0 RH (.loop QP G5))) (.seq (.ae SF) .ret)))),50,[.tmp 2]⟩
abbrev yvK:zI:=[.code (.seq (.ae SF) .ret)]
abbrev yvL(x1 x3 x20 x21 x22:AV)(h:List Ob)(e:Cx:=cx):an:=aY rm (.code G5::.inLoop QP G5::.inBlock 0 RH::yvK) (U::x1::U::x3::(by(iterate 16 refine U::?_);exact x20::x21::x22::(by(iterate 27 refine U::?_);exact[]))) h e
@[simp] theorem Ka:az Tryz.prog rm=some aak:=by kernel_rfl
@[simp] theorem axW:au Tryz.prog rm=true:=by kernel_rfl
abbrev yvM:zR:=[o 5 (.lit 1 [] []),ab 6 0,o 7 (.append 1 aq 8 (.t 5) (.t 6)),ab 2 7]
abbrev IM:zR:=[o 2 (.bG 1 aq)]
abbrev yvO:ah:=.seq (.ae IM) .ret
abbrev Up:aA:=⟨.seq (.ae IM) (.seq (.seq (.ae B9) (.cond (.t 4) yvO .skip)) (.seq (.ae yvM) .ret)),8,[.tmp 2]⟩
@[simp] theorem Ub:az Tryz.prog zm=some Up:=by kernel_rfl
@[simp] theorem avV:au Tryz.prog zm=true:=by kernel_rfl
abbrev Rs:zR:=[ab 24 5,ab 4 24]
abbrev Q5:zB:=[O,O,O,O,O,I,I,O,O,O,O,I,I,I,O,O,O,O,O,O,O,O,O,O,O]
abbrev Ql:zB:=O::O::O::O::O::I::(by(iterate 19 refine O::?_);exact[])
abbrev yvU:zR:=[bE 23 13 1,ab 13 23]
abbrev yvV:zR:=[ab 17 5,ab 18 6,ab 19 8,o 20 (.call (.t 18) [.t 19]),o 21 (.lit 1 [.int .i64 0] [(0,.t 20)]),o 22 (.append 1 aq 8 (.t 17) (.t 21)),ab 5 22]
abbrev yvW:zR:=[ba 15 1 11 13,ai 16 1 15,ab 8 16]
abbrev yvX:ah:=.seq (.ae yvW) (.ae yvV)
abbrev Hd:ah:=.seq (.ae uN) (.seq (.cond (.t 14) .skip (.exit 0)) (.seq (.block 1 [] yvX) (.ae yvU)))
abbrev ywa:zR:=[ab 11 1,aQ 12 11,aO 13 0]
abbrev ywb:zR:=[ab 9 0,o 10 (.fI (.func nD) [.t 9] []),ab 6 10]
abbrev ywc:zR:=[o 5 (.bG 1 aq)]
abbrev Vl:aA:=⟨.seq (.ae H3) (.seq (.ae ywc) (.seq (.ae ywb) (.seq (.seq (.ae ywa) (.block 0 Ql (.loop Q5 Hd))) (.seq (.ae Rs) .ret)))),25,[.tmp 4]⟩
abbrev ywe:zI:=[.code (.seq (.ae Rs) .ret)]
abbrev P4(x5 x6 x11 x12 x13:AV)(h:List Ob)(e:Cx:=cx):an:=aY rb (.code Hd::.inLoop Q5 Hd::.inBlock 0 Ql::ywe) [U,U,U,U,U,x5,x6,U,U,U,U,x11,x12,x13,U,U,U,U,U,U,U,U,U,U,U] h e
@[simp] theorem JC:az Tryz.prog rb=some Vl:=by kernel_rfl
@[simp] theorem awr:au Tryz.prog rb=true:=by kernel_rfl
abbrev ywm:zR:=[ab 11 1,ab 12 0,ab 13 5,ba 14 5 12 13,aM 15 5 14,o 16 (.call (.t 11) [.t 15])]
abbrev ywo:ah:=.seq (.ae Hj) (.seq (.ae ywm) (.cond (.t 16) HZ .skip))
abbrev HM:ah:=.seq (.ae C3) (.seq (.cond (.t 9) .skip (.exit 0)) (.seq (.block 1 [] ywo) (.ae Hz)))
abbrev TB:aA:=⟨.seq (.ae yK) (.seq (.seq (.ae y3) (.block 0 mJ (.loop qE HM))) (.seq (.ae uX) .ret)),19,[.tmp 4]⟩
abbrev ywu(x0 x1 x7 x8:AV)(h:List Ob)(e:Cx:=cx):an:=aY vt (.code HM::.inLoop qE HM::.inBlock 0 mJ::Cq) [x0,x1,U,U,U,U,U,x7,x8,U,U,U,U,U,U,U,U,U,U] h e
@[simp] theorem Tw:az Tryz.prog vt=some TB:=by kernel_rfl
@[simp] theorem avv:au Tryz.prog vt=true:=by kernel_rfl
abbrev ywv:zR:=[ab 4 0,o 5 (.cmp .neq (.sc .str) (.t 4) (.c (.str []))),ab 6 5,cO 7 6 0,oy 8 6 (.ma (.t 7)),oy 9 6 (.cmp .leq (.sc .int) (.t 8) (.c (.int .i64 40))),bT 10 6 9,ab 11 10,cO 12 11 0,cO 13 11 3,oy 14 11 (.call (.f zp) [.t 12,.t 13]),oy 15 11 (.cmp .lss (.sc .int) (.t 14) (.c (.int .i64 0))),bT 16 11 15,ab 2 16]
abbrev yww:zR:=[o 3 (.mv (.f qZ))]
abbrev U9:aA:=⟨.seq (.ae jK) (.seq (.ae yww) (.seq (.ae ywv) .ret)),17,[.tmp 2]⟩
@[simp] theorem UG:az Tryz.prog zq=some U9:=by kernel_rfl
@[simp] theorem awk:au Tryz.prog zq=true:=by kernel_rfl
abbrev ywy:zR:=[ab 4 0,al 5 2 1,ai 6 1 5,aQ 7 6,cM 8 Ah 4 7,o 9 (.not (.t 8)),ab 3 9]
abbrev Yx:aA:=⟨.seq (.ae xI) (.seq (.ae ywy) .ret),10,[.tmp 3]⟩
@[simp] theorem Wk:az Tryz.prog zQ=some Yx:=by kernel_rfl
@[simp] theorem axh:au Tryz.prog zQ=true:=by kernel_rfl
abbrev ywA:zR:=[ab 5 0,o 6 (.ma (.t 5)),ab 7 1,o 8 (.cmp .eql (.sc .int) (.t 6) (.t 7)),ab 9 8,cO 10 9 0,oy 11 9 (.call (.f s8) [.t 10,.c (.str [48,49,45])]),oy 12 9 (.cmp .eql (.sc .str) (.t 11) (.c (.str []))),bT 13 9 12,ab 4 13]
abbrev adL:aA:=⟨.seq (.ae jM) (.seq (.ae ywA) .ret),14,[.tmp 4]⟩
@[simp] theorem Z3:az Tryz.prog Ah=some adL:=by kernel_rfl
@[simp] theorem ayK:au Tryz.prog Ah=true:=by kernel_rfl
abbrev ywC:zR:=[ab 13 6,ab 14 13,cO 15 14 1,oy 16 14 (.gG 2 1 (.t 5) (.c (.int .i64 0))),cU 17 14 1 16,oy 18 14 (.cmp .geq (.sc .int) (.t 15) (.t 17)),bT 19 14 18,ab 20 19,cO 21 20 1,oy 22 20 (.gG 2 1 (.t 5) (.c (.int .i64 1))),cU 23 20 1 22,oy 24 20 (.cmp .leq (.sc .int) (.t 21) (.t 23)),bT 25 20 24,ab 4 25]
abbrev ywD:zR:=[o 8 (.load false 1 (.g 1)),ab 9 0,o 10 (.lookup (.sc .int) (.agg [.int .i64 0,.int .i64 0]) (.t 8) (.t 9) true),ab 7 10,bo 11 7 0,bo 12 7 1,o 5 (.alloc [.int .i64 0,.int .i64 0]),aN 2 5 11,ab 6 12]
abbrev adi:aA:=⟨.seq (.ae jM) (.seq (.ae ywD) (.seq (.ae ywC) .ret)),26,[.tmp 4]⟩
@[simp] theorem Lw:az Tryz.prog tG=some adi:=by kernel_rfl
@[simp] theorem ayI:au Tryz.prog tG=true:=by kernel_rfl
abbrev ywL:zR:=[ab 11 1,ab 12 0,ab 13 5,ba 14 1 12 13,ai 15 1 14,o 16 (.call (.t 11) [.t 15])]
abbrev ywN:ah:=.seq (.ae Hj) (.seq (.ae ywL) (.cond (.t 16) HZ .skip))
abbrev uR:ah:=.seq (.ae C3) (.seq (.cond (.t 9) .skip (.exit 0)) (.seq (.block 1 [] ywN) (.ae Hz)))
abbrev T8:aA:=⟨.seq (.ae yK) (.seq (.seq (.ae y3) (.block 0 mJ (.loop qE uR))) (.seq (.ae uX) .ret)),19,[.tmp 4]⟩
abbrev ywT(x0 x1 x7 x8:AV)(h:List Ob)(e:Cx:=cx):an:=aY vv (.code uR::.inLoop qE uR::.inBlock 0 mJ::Cq) [x0,x1,U,U,U,U,U,x7,x8,U,U,U,U,U,U,U,U,U,U] h e
@[simp] theorem T5:az Tryz.prog vv=some T8:=by kernel_rfl
@[simp] theorem avK:au Tryz.prog vv=true:=by kernel_rfl
abbrev TH:aA:=⟨.seq (.ae yK) (.seq (.seq (.ae y3) (.block 0 mJ (.loop qE uR))) (.seq (.ae uX) .ret)),19,[.tmp 4]⟩
abbrev Q8(x0 x1 x7 x8:AV)(h:List Ob)(e:Cx:=cx):an:=aY qW (.code uR::.inLoop qE uR::.inBlock 0 mJ::Cq) [x0,x1,U,U,U,U,U,x7,x8,U,U,U,U,U,U,U,U,U,U] h e
@[simp] theorem Jl:az Tryz.prog qW=some TH:=by kernel_rfl
@[simp] theorem avz:au Tryz.prog qW=true:=by kernel_rfl
abbrev yxj:zR:=[o 7 (.alloc [.int .i64 0,.int .i64 0]),aN 2 7 28]
abbrev yxk:zR:=[ab 6 27]
abbrev yxl:zR:=[ai 29 1 2,aM 30 5 1,aW 31 lj 30,ab 32 6,o 33 (.bJ .add (.t 31) (.t 32)),ba 34 1 29 33,ai 35 1 34,ab 36 35,cU 37 36 1 3,oy 38 36 (.gG 2 1 (.t 7) (.c (.int .i64 0))),cU 39 36 1 38,oy 40 36 (.call (.t 37) [.t 39]),oy 41 36 (.not (.t 40)),cO 42 36 41,on 43 42 (.load false 1 (.t 3)),on 44 42 (.gG 2 1 (.t 7) (.c (.int .i64 1))),on 45 42 (.load false 1 (.t 44)),on 46 42 (.call (.t 43) [.t 45]),on 47 42 (.not (.t 46)),oy 48 36 (.pick (.t 42) (.c (.bool true)) (.t 47)),bT 49 36 48]
abbrev yxm:ah:=.seq (.aT (I::(by(iterate 20 refine O::?_);exact[])) [12,3,12,12,12,12,12,12,12,12,12,18,18,18,18,18,18,22,22,22,22] yxl) (.cond (.t 49) .ret .skip)
abbrev GY:ah:=.seq (.ae yxk) (.ae yxj)
abbrev GZ:ah:=.block 3 [] yxm
abbrev Qs:ah:=.rangeFunc (.t 26) [27,28] (O::I::I::I::(by(iterate 46 refine O::?_);exact[])) GY GZ
abbrev S_:zR:=[al 24 3 1,ai 25 1 24,aW 26 Dh 25]
abbrev Su:zB:=O::I::I::I::O::O::O::O::O::O::O::O::O::I::I::I::(by(iterate 34 refine O::?_);exact[])
abbrev Ri:zB:=O::I::I::I::(by(iterate 46 refine O::?_);exact[])
abbrev yxt:zR:=[bE 23 15 1,ab 15 23]
abbrev yxu:zR:=[ai 19 1 3,ab 20 5,o 21 (.call (.t 19) [.t 20]),o 22 (.not (.t 21))]
abbrev yxv:zR:=[ba 17 1 13 15,ai 18 1 17,ab 5 18]
abbrev yxw:ah:=.seq (.ae yxv) (.seq (.ae yxu) (.cond (.t 22) .ret .skip))
abbrev yxx:zR:=[cN 16 15 14]
abbrev Ia:ah:=.seq (.ae yxx) (.seq (.cond (.t 16) .skip (.exit 0)) (.seq (.block 1 [] yxw) (.ae yxt)))
abbrev yxz:zR:=[al 8 1 1,ai 9 1 8,al 10 4 1,ai 11 1 10,o 12 (.lit 1 [.list true 0 [],.list true 0 []] [(0,.t 9),(1,.t 11)]),aW 13 pU 12,aQ 14 13,aO 15 0]
abbrev yxA:zR:=[o 3 (.box 1 (.t 0))]
abbrev VT:aA:=⟨.seq (.ae yxA) (.seq (.seq (.ae yxz) (.block 0 Ri (.loop Su Ia))) (.seq (.ae S_) (.block 2 [] Qs))),50,[]⟩
abbrev RS:zI:=[.code (.seq (.ae S_) (.block 2 [] Qs))]
abbrev yxC(x1 x2 x3 x13 x14 x15:AV)(h:List Ob)(e:Cx:=cx):an:=aY ow (.code Ia::.inLoop Su Ia::.inBlock 0 Ri::RS) (U::x1::x2::x3::U::U::U::U::U::U::U::U::U::x13::x14::x15::(by(iterate 34 refine U::?_);exact[])) h e
abbrev IT(x1 x2 x3:AV)(h:List Ob)(e:Cx:=cx):an:=aY ow RS (U::x1::x2::x3::(by(iterate 46 refine U::?_);exact[])) h e
@[simp] theorem Vf:az Tryz.prog ow=some VT:=by kernel_rfl
@[simp] theorem awJ:au Tryz.prog ow=true:=by kernel_rfl
abbrev yxI:zR:=[ab 31 6,ab 32 8,o 33 (.append 1 aq 8 (.t 31) (.t 32)),ab 6 33]
abbrev yxK:ah:=.seq (.ae C4) (.ae yxI)
abbrev Ce:ah:=.seq (.ae uM) (.seq (.cond (.t 28) .skip (.exit 2)) (.seq (.block 3 [] yxK) (.ae Ch)))
abbrev S9:zR:=[ab 23 3,o 24 (.call (.f Dp) [.c (.list true 0 []),.t 23]),ab 6 24]
abbrev Ug:aA:=⟨.seq (.ae IM) (.seq (.ae sy) (.seq (.seq (.ae Cg) (.block 0 qL (.loop qI mI))) (.seq (.ae S9) (.seq (.seq (.ae qM) (.block 2 mE (.loop mG Ce))) (.seq (.ae pB) .ret))))),36,[.tmp 2]⟩
abbrev R8(x6 x25 x26 x27:AV)(h:List Ob)(e:Cx:=cx):an:=aY pU (.code Ce::.inLoop mG Ce::.inBlock 2 mE::CX) (U::U::U::U::U::U::x6::(by(iterate 18 refine U::?_);exact[x25,x26,x27,U,U,U,U,U,U,U,U])) h e
abbrev yye:zI:=[.code (.seq (.ae S9) (.seq (.seq (.ae qM) (.block 2 mE (.loop mG Ce))) (.seq (.ae pB) .ret)))]
abbrev Sp(x0 x3 x9 x10 x11:AV)(h:List Ob)(e:Cx:=cx):an:=aY pU (.code mI::.inLoop qI mI::.inBlock 0 qL::yye) (x0::U::U::x3::U::U::U::U::U::x9::x10::x11::(by(iterate 24 refine U::?_);exact[])) h e
@[simp] theorem Js:az Tryz.prog pU=some Ug:=by kernel_rfl
@[simp] theorem avR:au Tryz.prog pU=true:=by kernel_rfl
abbrev yyg:zR:=[o 3 (.fI (.func vu) [] [.t 1]),ab 2 3]
abbrev Ry:zR:=[o 1 (.box 1 (.t 0)),o 2 (.mv (.c .c_))]
abbrev TX:aA:=⟨.seq (.ae Ry) (.seq (.ae yyg) .ret),4,[.tmp 2]⟩
@[simp] theorem TM:az Tryz.prog Dh=some TX:=by kernel_rfl
@[simp] theorem avD:au Tryz.prog Dh=true:=by kernel_rfl
abbrev yyi:zR:=[al 29 0 6,ai 30 1 29,ab 31 1,o 32 (.call (.t 30) [.t 31]),al 33 1 6,ai 34 1 33,o 35 (.cmp .neq (.sc .bool) (.t 32) (.t 34)),ab 4 35,aO 5 0]
abbrev yyj:zR:=[o 27 (.fI (.func zK) [] [.t 2]),al 28 0 6,aN 1 28 27]
abbrev yyk:zR:=[al 24 4 2,ai 25 1 24,al 26 1 6,aN 1 26 25]
abbrev yyl:ah:=.seq (.ae yyk) (.ae yyj)
abbrev yym:zR:=[al 21 1 2,ai 22 1 21,o 23 (.cmp .eql (.sc .int) (.t 22) (.c (.int .i64 10)))]
abbrev yyn:zR:=[al 18 1 2,ai 19 1 18,aW 20 Aq 19,o 6 (.alloc [.c_,.bool false]),aN 2 6 20]
abbrev yyo:zR:=[lQ 4,aO 5 1]
abbrev yyp:ah:=.seq (.ae yyo) .ret
abbrev yyq:zR:=[aM 7 5 2,aW 8 v8 7,o 9 (.not (.t 8)),ab 10 9,on 11 10 (.mv (.t 1)),on 12 10 (.len (.t 11)),on 13 10 (.off 2 (.t 2)),on 14 10 (.load false 1 (.t 13)),on 15 10 (.len (.t 14)),on 16 10 (.cmp .neq (.sc .int) (.t 12) (.t 15)),o 17 (.pick (.t 10) (.c (.bool true)) (.t 16))]
abbrev yyr:zR:=[o 2 (.box 5 (.t 0)),lQ 4,aO 5 0]
abbrev ZJ:aA:=⟨.seq (.ae yyr) (.seq (.seq (.ae yyq) (.cond (.t 17) yyp .skip)) (.seq (.ae yyn) (.seq (.seq (.ae yym) (.cond (.t 23) yyl .skip)) (.seq (.aT [O,O,O,O,O,I,O,O,O] [4,4,4,10,10,10,10,10,10] yyi) .ret)))),36,[.tmp 4,.tmp 5]⟩
@[simp] theorem WX:az Tryz.prog zY=some ZJ:=by kernel_rfl
@[simp] theorem axH:au Tryz.prog zY=true:=by kernel_rfl
abbrev yyt:zR:=[ab 17 0,ab 18 0,o 19 (.cap (.t 18)),o 20 (.slice 1 (.t 17) none (some (.t 19))),ab 21 1,o 22 (.p_ 1 aZ 1 (.bool false) (.t 20) (.t 21)),ab 23 0,aQ 24 23,o 25 (.slice 1 (.t 22) none (some (.t 24))),ab 0 25]
abbrev Uf:aA:=⟨.seq (.ae IA) (.seq (.seq (.ae Cp) (.cond (.t 6) (.ae CC) .skip)) (.seq (.seq (.ae C0) (.seq (.ae CZ) (.cond (.t 16) (.ae yyt) .skip))) (.seq (.ae B5) .ret))),27,[.tmp 4]⟩
@[simp] theorem Jt:az Tryz.prog Dl=some Uf:=by kernel_rfl
@[simp] theorem avQ:au Tryz.prog Dl=true:=by kernel_rfl
abbrev R5:zB:=I::I::(by(iterate 21 refine O::?_);exact[])
abbrev QM:zB:=(by(iterate 23 refine O::?_);exact[])
abbrev yyB:zR:=[ab 22 4,ab 1 22]
abbrev yyC:zR:=[ab 18 0,ab 19 4,ab 20 1,o 21 (.invoke (.t 18) "Swap" [.t 19,.t 20])]
abbrev yyD:zR:=[ab 8 4,ab 9 1,o 10 (.cmp .eql (.sc .int) (.t 8) (.t 9)),ab 11 10,on 12 11 (.mv (.t 0)),on 13 11 (.mv (.t 1)),on 14 11 (.mv (.t 4)),on 15 11 (.invoke (.t 12) "Less" [.t 13,.t 14]),on 16 11 (.not (.t 15)),o 17 (.pick (.t 11) (.c (.bool true)) (.t 16))]
abbrev yyE:zR:=[ab 5 1,o 6 (.bJ .sub (.t 5) (.c (.int .i64 1))),o 7 (.bJ .quo (.t 6) (.c (.int .i64 2))),ab 4 7]
abbrev yyF:ah:=.seq (.ae yyE) (.seq (.seq (.ae yyD) (.cond (.t 17) (.exit 0) .skip)) (.seq (.ae yyC) (.ae yyB)))
abbrev Il:ah:=.block 1 [] yyF
abbrev UP:aA:=⟨.block 0 QM (.loop R5 Il),23,[]⟩
abbrev yyI(x0 x1:AV)(h:List Ob)(e:Cx:=cx):an:=aY vC (.code Il::.inLoop R5 Il::.inBlock 0 QM::CE) (x0::x1::(by(iterate 21 refine U::?_);exact[])) h e
@[simp] theorem UB:az Tryz.prog vC=some UP:=by kernel_rfl
@[simp] theorem awa:au Tryz.prog vC=true:=by kernel_rfl
abbrev P9:zR:=[ab 45 7,ab 46 1,o 47 (.cmp .gtr (.sc .int) (.t 45) (.t 46)),ab 6 47]
abbrev Qw:zB:=I::I::I::O::O::O::O::I::(by(iterate 40 refine O::?_);exact[])
abbrev QV:zB:=O::I::O::O::O::O::O::I::(by(iterate 40 refine O::?_);exact[])
abbrev yyM:zR:=[ab 44 9,ab 7 44]
abbrev yyN:zR:=[ab 40 0,ab 41 7,ab 42 9,o 43 (.invoke (.t 40) "Swap" [.t 41,.t 42])]
abbrev yyO:zR:=[ab 35 0,ab 36 9,ab 37 7,o 38 (.invoke (.t 35) "Less" [.t 36,.t 37]),o 39 (.not (.t 38))]
abbrev yyP:zR:=[ab 34 10,ab 9 34]
abbrev yyQ:zR:=[ab 25 10,ab 26 2,cN 27 25 26,ab 28 27,cO 29 28 0,cO 30 28 10,cO 31 28 8,oy 32 28 (.invoke (.t 29) "Less" [.t 30,.t 31]),bT 33 28 32]
abbrev yyR:zR:=[ab 23 8,bE 24 23 1,ab 10 24]
abbrev yyS:zR:=[ab 22 8,ab 9 22]
abbrev yyT:zR:=[ab 15 8,ab 16 2,o 17 (.cmp .geq (.sc .int) (.t 15) (.t 16)),ab 18 17,on 19 18 (.mv (.t 8)),on 20 18 (.cmp .lss (.sc .int) (.t 19) (.c (.int .i64 0))),o 21 (.pick (.t 18) (.c (.bool true)) (.t 20))]
abbrev yyU:zR:=[ab 12 7,o 13 (.bJ .mul (.c (.int .i64 2)) (.t 12)),bE 14 13 1,ab 8 14]
abbrev yyV:ah:=.seq (.ae yyU) (.seq (.seq (.ae yyT) (.cond (.t 21) (.exit 0) .skip)) (.seq (.ae yyS) (.seq (.seq (.ae yyR) (.seq (.ae yyQ) (.cond (.t 33) (.ae yyP) .skip))) (.seq (.seq (.ae yyO) (.cond (.t 39) (.exit 0) .skip)) (.seq (.ae yyN) (.ae yyM))))))
abbrev HC:ah:=.block 1 [] yyV
abbrev yyX:zR:=[ab 11 1,ab 7 11]
abbrev Ux:aA:=⟨.seq (.ae yk) (.seq (.ae yyX) (.seq (.block 0 QV (.loop Qw HC)) (.seq (.ae P9) .ret))),48,[.tmp 6]⟩
abbrev yyZ:zI:=[.code (.seq (.ae P9) .ret)]
abbrev yza(x0 x1 x2 x7:AV)(h:List Ob)(e:Cx:=cx):an:=aY vz (.code HC::.inLoop Qw HC::.inBlock 0 QV::yyZ) (x0::x1::x2::U::U::U::U::x7::(by(iterate 40 refine U::?_);exact[])) h e
@[simp] theorem Ui:az Tryz.prog vz=some Ux:=by kernel_rfl
@[simp] theorem avZ:au Tryz.prog vz=true:=by kernel_rfl
abbrev yzb:zR:=[ab 3 0,o 4 (.call (.f s8) [.t 3,.c (.str [45])]),o 5 (.cmp .eql (.sc .str) (.t 4) (.c (.str []))),ab 2 5]
abbrev VD:aA:=⟨.seq (.ae jK) (.seq (.ae yzb) .ret),6,[.tmp 2]⟩
@[simp] theorem U6:az Tryz.prog zw=some VD:=by kernel_rfl
@[simp] theorem awy:au Tryz.prog zw=true:=by kernel_rfl
abbrev yzd:zR:=[o 3 (.fI (.func ra) [] [.t 1]),ab 2 3]
abbrev Vw:aA:=⟨.seq (.ae Ry) (.seq (.ae yzd) .ret),4,[.tmp 2]⟩
@[simp] theorem UY:az Tryz.prog sZ=some Vw:=by kernel_rfl
@[simp] theorem awE:au Tryz.prog sZ=true:=by kernel_rfl
abbrev P7:zB:=[O,O,O,I,O,I,O,O,I,I,I,O,O,O,O,O,O,O,O,O,O,O]
abbrev yzj:zR:=[ab 18 5,bE 19 18 1,ab 5 19]
abbrev yzk:zR:=[aM 14 2 3,aW 15 vV 14,ab 16 7,o 17 (.call (.t 15) [.t 16])]
abbrev yzm:ah:=.seq (.ae Q1) (.seq (.ae yzk) (.cond (.t 17) (.ae yzj) .skip))
abbrev Hq:ah:=.seq (.ae GP) (.seq (.cond (.t 11) .skip (.exit 0)) (.seq (.block 1 [] yzm) (.ae Qu)))
abbrev yzp:zR:=[ab 8 0,aQ 9 8,aO 10 0]
abbrev yzr:zR:=[o 3 (.box 2 (.t 1)),aO 4 0]
abbrev WR:aA:=⟨.seq (.ae yzr) (.seq (.ae yJ) (.seq (.seq (.ae yzp) (.block 0 B7 (.loop P7 Hq))) (.seq (.ae IY) .ret))),22,[.tmp 4]⟩
abbrev yzt(x3 x5 x8 x9 x10:AV)(h:List Ob)(e:Cx:=cx):an:=aY td (.code Hq::.inLoop P7 Hq::.inBlock 0 B7::Sy) [U,U,U,x3,U,x5,U,U,x8,x9,x10,U,U,U,U,U,U,U,U,U,U,U] h e
@[simp] theorem V':az Tryz.prog td=some WR:=by kernel_rfl
@[simp] theorem aw2:au Tryz.prog td=true:=by kernel_rfl
abbrev Rg:zR:=[ab 44 6,ab 45 1,o 46 (.append 3 aS 24 (.t 44) (.t 45)),ab 4 46]
abbrev Sl:zB:=O::I::O::O::O::O::I::(by(iterate 25 refine O::?_);exact[I,I,I,O,O,O,O,O,O,O,O,O,O,O,O])
abbrev Qj:zB:=O::I::O::O::O::O::I::(by(iterate 40 refine O::?_);exact[])
abbrev yzx:zR:=[bE 43 34 1,ab 34 43]
abbrev yzy:zR:=[ab 38 6,aM 39 2 8,aW 40 zo 39,o 41 (.lit 3 [.agg [.int .i64 0,.int .i64 0,.int .i64 0]] [(0,.t 40)]),o 42 (.append 3 aS 24 (.t 38) (.t 41)),ab 6 42]
abbrev yzz:zR:=[ba 36 2 32 34,aM 37 2 36,o 8 (.alloc [.int .i64 0,.int .i64 0]),aN 2 8 37]
abbrev yzA:ah:=.seq (.ae yzz) (.ae yzy)
abbrev G_:ah:=.seq (.ae Sd) (.seq (.cond (.t 35) .skip (.exit 0)) (.seq (.block 1 [] yzA) (.ae yzx)))
abbrev yzD:zR:=[ab 32 0,aQ 33 32,aO 34 0]
abbrev yzE:zR:=[ab 27 6,ab 28 5,o 29 (.build [.int .i64 0,.int .i64 0,.int .i64 0] [(0,1,.c (.int .i64 3)),(2,1,.t 28)]),o 30 (.lit 3 [.agg [.int .i64 0,.int .i64 0,.int .i64 0]] [(0,.t 29)]),o 31 (.append 3 aS 24 (.t 27) (.t 30)),ab 6 31]
abbrev yzF:zR:=[ab 25 5,o 26 (.cmp .gtr (.sc .int) (.t 25) (.c (.int .i64 1)))]
abbrev yzG:zR:=[o 6 (.bG 3 aS)]
abbrev yzH:zR:=[ab 19 0,aQ 20 19,ab 21 1,aQ 22 21,o 23 (.min [.t 22,.c (.int .i64 1)]),o 24 (.bJ .add (.t 20) (.t 23)),ab 5 24]
abbrev yzI:zR:=[o 1 (.bG 3 aS)]
abbrev yzJ:zR:=[ab 9 1,aQ 10 9,o 11 (.cmp .eql (.sc .int) (.t 10) (.c (.int .i64 1))),ab 12 11,cO 13 12 1,oy 14 12 (.kK 3 (.t 13) (.c (.int .i64 0))),oy 15 12 (.off 0 (.t 14)),cU 16 12 1 15,oy 17 12 (.cmp .eql (.sc .int) (.t 16) (.c (.int .i64 1))),bT 18 12 17]
abbrev SN:zR:=[o 4 (.bG 3 aS)]
abbrev ZS:aA:=⟨.seq (.ae SN) (.seq (.seq (.ae yzJ) (.cond (.t 18) (.ae yzI) .skip)) (.seq (.ae yzH) (.seq (.ae yzG) (.seq (.seq (.ae yzF) (.cond (.t 26) (.ae yzE) .skip)) (.seq (.seq (.ae yzD) (.block 0 Qj (.loop Sl G_))) (.seq (.ae Rg) .ret)))))),47,[.tmp 4]⟩
abbrev yzL:zI:=[.code (.seq (.ae Rg) .ret)]
abbrev yzM(x1 x6 x32 x33 x34:AV)(h:List Ob)(e:Cx:=cx):an:=aY rn (.code G_::.inLoop Sl G_::.inBlock 0 Qj::yzL) (U::x1::U::U::U::U::x6::(by(iterate 25 refine U::?_);exact[x32,x33,x34,U,U,U,U,U,U,U,U,U,U,U,U])) h e
@[simp] theorem Xd:az Tryz.prog rn=some ZS:=by kernel_rfl
@[simp] theorem axz:au Tryz.prog rn=true:=by kernel_rfl
abbrev HT:zR:=[ab 36 5,ab 4 36]
abbrev IX:zB:=O::I::O::O::O::I::O::O::O::O::O::I::I::I::(by(iterate 23 refine O::?_);exact[])
abbrev Ie:zB:=O::O::O::O::O::I::(by(iterate 31 refine O::?_);exact[])
abbrev SI:zR:=[bE 35 13 1,ab 13 35]
abbrev Q7:zR:=[ab 30 5,ab 31 8,o 32 (.toStr (.t 31)),o 33 (.lit 1 [.str []] [(0,.t 32)]),o 34 (.append 1 aF 16 (.t 30) (.t 33)),ab 5 34]
abbrev RJ:zB:=O::I::O::O::O::I::O::O::I::O::O::I::I::I::O::O::O::O::O::I::I::I::(by(iterate 15 refine O::?_);exact[])
abbrev QN:zB:=O::I::O::O::O::I::O::O::I::O::O::I::I::I::(by(iterate 23 refine O::?_);exact[])
abbrev yzU:zR:=[bE 29 21 1,ab 21 29]
abbrev yzV:zR:=[ab 25 8,o 26 (.gG 2 1 (.t 10) (.c (.int .i64 0))),ai 27 1 26,ba 28 1 25 27,q (.store 1 (.t 28) (.c (.int .u8 45)))]
abbrev yzW:zR:=[ba 23 2 19 21,aM 24 2 23,o 10 (.alloc [.int .i64 0,.int .i64 0]),aN 2 10 24]
abbrev yzX:ah:=.seq (.ae yzW) (.ae yzV)
abbrev yzY:zR:=[cN 22 21 20]
abbrev Hv:ah:=.seq (.ae yzY) (.seq (.cond (.t 22) .skip (.exit 2)) (.seq (.block 3 [] yzX) (.ae yzU)))
abbrev yAa:zR:=[ab 19 1,aQ 20 19,aO 21 0]
abbrev yAb:zR:=[ab 17 7,o 18 (.wV FD (.t 17)),ab 8 18]
abbrev yAd:ah:=.seq (.ae Rb) (.seq (.ae yAb) (.seq (.seq (.ae yAa) (.block 2 QN (.loop RJ Hv))) (.ae Q7)))
abbrev Cb:ah:=.seq (.ae uN) (.seq (.cond (.t 14) .skip (.exit 0)) (.seq (.block 1 [] yAd) (.ae SI)))
abbrev yAh:zR:=[o 5 (.bG 1 aF)]
abbrev Wn:aA:=⟨.seq (.ae Ha) (.seq (.ae yAh) (.seq (.seq (.ae CQ) (.block 0 Ie (.loop IX Cb))) (.seq (.ae HT) .ret))),37,[.tmp 4]⟩
abbrev S7:zI:=[.code (.ae Q7),.inBlock 1 [],.code (.ae SI),.inLoop IX Cb,.inBlock 0 Ie,.code (.seq (.ae HT) .ret)]
abbrev yAk(x1 x5 x8 x11 x12 x13 x19 x20 x21:AV)(h:List Ob)(e:Cx:=cx):an:=aY pW (.code Hv::.inLoop RJ Hv::.inBlock 2 QN::S7) (U::x1::U::U::U::x5::U::U::x8::U::U::x11::x12::x13::U::U::U::U::U::x19::x20::x21::(by(iterate 15 refine U::?_);exact[])) h e
abbrev yAl(x1 x5 x8 x11 x12 x13:AV)(h:List Ob)(e:Cx:=cx):an:=aY pW S7 (U::x1::U::U::U::x5::U::U::x8::U::U::x11::x12::x13::(by(iterate 23 refine U::?_);exact[])) h e
abbrev yAm:zI:=[.code (.seq (.ae HT) .ret)]
abbrev yAn(x1 x5 x11 x12 x13:AV)(h:List Ob)(e:Cx:=cx):an:=aY pW (.code Cb::.inLoop IX Cb::.inBlock 0 Ie::yAm) (U::x1::U::U::U::x5::U::U::U::U::U::x11::x12::x13::(by(iterate 23 refine U::?_);exact[])) h e
@[simp] theorem Vs:az Tryz.prog pW=some Wn:=by kernel_rfl
@[simp] theorem awO:au Tryz.prog pW=true:=by kernel_rfl
abbrev Hi:zR:=[aM 36 2 4,ab 37 5,aN 2 2 36,ab 3 37]
abbrev xM:zB:=I::O::I::O::I::I::O::O::O::O::O::O::O::O::O::I::I::(by(iterate 21 refine O::?_);exact[])
abbrev Ir:zB:=O::O::I::O::I::I::(by(iterate 32 refine O::?_);exact[])
abbrev Rj:zR:=[bE 35 16 1,ab 16 35]
abbrev Q0:zB:=I::O::I::O::I::I::I::O::O::O::O::O::O::O::O::I::I::O::O::I::(by(iterate 18 refine O::?_);exact[])
abbrev yAu:zR:=[aM 33 2 9,ab 34 10,aN 2 4 33,ab 5 34]
abbrev yAv:zR:=[ab 30 10,ab 31 5,o 32 (.cmp .gtr (.sc .int) (.t 30) (.t 31))]
abbrev yAw:zR:=[ab 27 0,aM 28 2 9,cM 29 td 27 28,ab 10 29]
abbrev yAx:zR:=[ab 23 6,ab 24 8,o 25 (.conv .i64 (.t 24)),o 26 (.build [.int .i64 0,.int .i64 0] [(0,1,.t 23),(1,1,.t 25)]),o 9 (.alloc [.int .i64 0,.int .i64 0]),aN 2 9 26]
abbrev yAy:zR:=[bo 22 20 2,ab 8 22]
abbrev yAz:ah:=.seq (.ae yAy) (.seq (.ae yAx) (.seq (.ae yAw) (.seq (.ae yAv) (.cond (.t 32) (.ae yAu) .skip))))
abbrev yAA:zR:=[o 20 (.next (.t 19)),bo 21 20 0]
abbrev Hy:ah:=.seq (.ae yAA) (.seq (.cond (.t 21) .skip (.exit 2)) (.block 3 [] yAz))
abbrev yAC:zR:=[o 19 (.range (.c (.str [49,48])))]
abbrev yAD:zR:=[ab 18 16,ab 6 18]
abbrev yAE:ah:=.seq (.ae yAD) (.seq (.ae yAC) (.block 2 xM (.loop Q0 Hy)))
abbrev CJ:ah:=.seq (.ae Cw) (.seq (.cond (.t 17) .skip (.exit 0)) (.seq (.block 1 [] yAE) (.ae Rj)))
abbrev yAH:zR:=[ab 12 0,o 13 (.kK 1 (.t 12) (.c (.int .i64 0))),ai 14 1 13,o 15 (.ma (.t 14)),aO 16 0]
abbrev yAI:zR:=[o 11 (.build [.int .i64 0,.int .i64 0] []),o 4 (.alloc [.int .i64 0,.int .i64 0]),aN 2 4 11,aO 5 0]
abbrev yAJ:zR:=[o 2 (.alloc [.int .i64 0,.int .i64 0]),aO 3 0]
abbrev YE:aA:=⟨.seq (.ae yAJ) (.seq (.ae yAI) (.seq (.seq (.ae yAH) (.block 0 Ir (.loop xM CJ))) (.seq (.ae Hi) .ret))),38,[.cell 2 true 2,.tmp 3]⟩
abbrev yAK:zI:=[.inBlock 1 [],.code (.ae Rj),.inLoop xM CJ,.inBlock 0 Ir,.code (.seq (.ae Hi) .ret)]
abbrev yAL(x0 x2 x4 x5 x6 x15 x16 x19:AV)(h:List Ob)(e:Cx:=cx):an:=aY tj (.code Hy::.inLoop Q0 Hy::.inBlock 2 xM::yAK) (x0::U::x2::U::x4::x5::x6::U::U::U::U::U::U::U::U::x15::x16::U::U::x19::(by(iterate 18 refine U::?_);exact[])) h e
abbrev yAM:zI:=[.code (.seq (.ae Hi) .ret)]
abbrev yAN(x0 x2 x4 x5 x15 x16:AV)(h:List Ob)(e:Cx:=cx):an:=aY tj (.code CJ::.inLoop xM CJ::.inBlock 0 Ir::yAM) (x0::U::x2::U::x4::x5::U::U::U::U::U::U::U::U::U::x15::x16::(by(iterate 21 refine U::?_);exact[])) h e
@[simp] theorem Wj:az Tryz.prog tj=some YE:=by kernel_rfl
@[simp] theorem axp:au Tryz.prog tj=true:=by kernel_rfl
abbrev yAO:zR:=[ab 3 0,o 4 (.call (.f zg) [.c (.list true 0 []),.t 3]),ab 2 4]
abbrev yAP:zR:=[o 2 (.bG 2 lg)]
abbrev TR:aA:=⟨.seq (.ae yAP) (.seq (.ae yAO) .ret),5,[.tmp 2]⟩
@[simp] theorem TI:az Tryz.prog zj=some TR:=by kernel_rfl
@[simp] theorem avC:au Tryz.prog zj=true:=by kernel_rfl
abbrev yAQ:zR:=[o 3 (.fI (.func oz) [] [.t 1]),ab 2 3]
abbrev yAR:zR:=[o 1 (.box 2 (.t 0)),o 2 (.mv (.c .c_))]
abbrev YQ:aA:=⟨.seq (.ae yAR) (.seq (.ae yAQ) .ret),4,[.tmp 2]⟩
@[simp] theorem XF:az Tryz.prog vV=some YQ:=by kernel_rfl
@[simp] theorem axQ:au Tryz.prog vV=true:=by kernel_rfl
abbrev yAS:zR:=[ai 4 1 1,ab 5 0,o 6 (.call (.t 4) [.t 5]),o 7 (.not (.t 6)),ab 3 7]
abbrev VB:aA:=⟨.seq (.ae xI) (.seq (.ae yAS) .ret),8,[.tmp 3]⟩
@[simp] theorem Va:az Tryz.prog vH=some VB:=by kernel_rfl
@[simp] theorem awF:au Tryz.prog vH=true:=by kernel_rfl
abbrev SJ:zR:=[ab 39 0,ab 40 5,o 41 (.slice 1 (.t 39) none (some (.t 40))),ab 4 41]
abbrev Qm:zR:=[ab 36 0,ab 37 5,o 38 (.slice 1 (.t 36) (some (.t 37)) none),q (.clear 1 (.str []) (.t 38))]
abbrev RW:zB:=I::I::O::O::O::I::I::(by(iterate 35 refine O::?_);exact[])
abbrev RF:zB:=I::O::O::O::O::I::(by(iterate 36 refine O::?_);exact[])
abbrev yAY:zR:=[ab 20 6,bE 21 20 1,ab 6 21]
abbrev yAZ:zR:=[ab 34 5,bE 35 34 1,ab 5 35]
abbrev yBa:zR:=[ab 30 0,ab 31 5,ab 32 7,ba 33 1 30 31,aN 1 33 32]
abbrev yBb:ah:=.seq (.ae yBa) (.ae yAZ)
abbrev yBc:zR:=[ab 26 1,ab 27 7,o 28 (.call (.t 26) [.t 27]),o 29 (.not (.t 28))]
abbrev yBd:zR:=[ab 22 0,ab 23 6,ba 24 1 22 23,ai 25 1 24,ab 7 25]
abbrev yBe:ah:=.seq (.ae yBd) (.seq (.ae yBc) (.cond (.t 29) yBb .skip))
abbrev yBf:zR:=[ab 16 6,ab 17 0,aQ 18 17,cN 19 16 18]
abbrev IN:ah:=.seq (.seq (.ae yBf) (.cond (.t 19) .skip (.exit 0))) (.seq (.block 1 [] yBe) (.ae yAY))
abbrev yBh:zR:=[ab 14 5,bE 15 14 1,ab 6 15]
abbrev yBi:zR:=[ab 13 0,ab 4 13]
abbrev yBj:ah:=.seq (.ae yBi) .ret
abbrev yBk:zR:=[ab 11 5,o 12 (.cmp .eql (.sc .int) (.t 11) (.c (.int .i64 (-1))))]
abbrev yBl:zR:=[ab 8 0,ab 9 1,cM 10 qW 8 9,ab 5 10]
abbrev TG:aA:=⟨.seq (.ae Ha) (.seq (.ae yBl) (.seq (.seq (.ae yBk) (.cond (.t 12) yBj .skip)) (.seq (.seq (.ae yBh) (.block 0 RF (.loop RW IN))) (.seq (.ae Qm) (.seq (.ae SJ) .ret))))),42,[.tmp 4]⟩
abbrev yBn:zI:=[.code (.seq (.ae Qm) (.seq (.ae SJ) .ret))]
abbrev yBo(x0 x1 x5 x6:AV)(h:List Ob)(e:Cx:=cx):an:=aY pT (.code IN::.inLoop RW IN::.inBlock 0 RF::yBn) (x0::x1::U::U::U::x5::x6::(by(iterate 35 refine U::?_);exact[])) h e
@[simp] theorem Jk:az Tryz.prog pT=some TG:=by kernel_rfl
@[simp] theorem avy:au Tryz.prog pT=true:=by kernel_rfl
abbrev yBt:zR:=[ab 31 6,ab 32 8,o 33 (.append 3 aS 24 (.t 31) (.t 32)),ab 6 33]
abbrev yBv:ah:=.seq (.ae C4) (.ae yBt)
abbrev CW:ah:=.seq (.ae uM) (.seq (.cond (.t 28) .skip (.exit 2)) (.seq (.block 3 [] yBv) (.ae Ch)))
abbrev RB:zR:=[ab 23 3,o 24 (.call (.f Dg) [.c (.list true 0 []),.t 23]),ab 6 24]
abbrev yBM:zR:=[o 2 (.bG 3 aS)]
abbrev Tz:aA:=⟨.seq (.ae yBM) (.seq (.ae sy) (.seq (.seq (.ae Cg) (.block 0 qL (.loop qI mI))) (.seq (.ae RB) (.seq (.seq (.ae qM) (.block 2 mE (.loop mG CW))) (.seq (.ae pB) .ret))))),36,[.tmp 2]⟩
abbrev yBO(x6 x25 x26 x27:AV)(h:List Ob)(e:Cx:=cx):an:=aY sO (.code CW::.inLoop mG CW::.inBlock 2 mE::CX) (U::U::U::U::U::U::x6::(by(iterate 18 refine U::?_);exact[x25,x26,x27,U,U,U,U,U,U,U,U])) h e
abbrev yBP:zI:=[.code (.seq (.ae RB) (.seq (.seq (.ae qM) (.block 2 mE (.loop mG CW))) (.seq (.ae pB) .ret)))]
abbrev yBQ(x0 x3 x9 x10 x11:AV)(h:List Ob)(e:Cx:=cx):an:=aY sO (.code mI::.inLoop qI mI::.inBlock 0 qL::yBP) (x0::U::U::x3::U::U::U::U::U::x9::x10::x11::(by(iterate 24 refine U::?_);exact[])) h e
@[simp] theorem Tv:az Tryz.prog sO=some Tz:=by kernel_rfl
@[simp] theorem avu:au Tryz.prog sO=true:=by kernel_rfl
abbrev RP:zR:=[ab 31 8,ab 6 31]
abbrev Qq:zB:=[I,O,O,O,O,O,O,I,I,O,O,O,O,O,O,O,O,O,I,I,I,O,O,O,O,O,O,O,O,O,O,O]
abbrev SX:zB:=O::O::O::O::O::O::O::O::I::(by(iterate 23 refine O::?_);exact[])
abbrev yBU:zR:=[bE 30 20 1,ab 20 30]
abbrev yBV:zR:=[ab 24 0,ab 25 8,ab 26 7,ab 27 10,o 28 (.call (.t 26) [.t 27]),o 29 (.call (.f q9) [.t 24,.t 25,.t 28]),ab 8 29]
abbrev yBW:zR:=[ba 22 1 18 20,ai 23 1 22,ab 10 23]
abbrev yBX:ah:=.seq (.ae yBW) (.ae yBV)
abbrev yBY:zR:=[cN 21 20 19]
abbrev H6:ah:=.seq (.ae yBY) (.seq (.cond (.t 21) .skip (.exit 0)) (.seq (.block 1 [] yBX) (.ae yBU)))
abbrev yCa:zR:=[ab 17 1,o 18 (.slice 1 (.t 17) (some (.c (.int .i64 1))) none),aQ 19 18,aO 20 0]
abbrev yCb:zR:=[ab 12 7,ab 13 1,o 14 (.kK 1 (.t 13) (.c (.int .i64 0))),ai 15 1 14,o 16 (.call (.t 12) [.t 15]),ab 8 16]
abbrev yCc:zR:=[o 11 (.fI (.func vx) [] [.t 5]),ab 7 11]
abbrev yCd:zR:=[o 5 (.box 1 (.t 2)),aO 6 0]
abbrev UH:aA:=⟨.seq (.ae yCd) (.seq (.ae yCc) (.seq (.ae yCb) (.seq (.seq (.ae yCa) (.block 0 SX (.loop Qq H6))) (.seq (.ae RP) .ret)))),32,[.tmp 6]⟩
abbrev yCe:zI:=[.code (.seq (.ae RP) .ret)]
abbrev yCf(x0 x7 x8 x18 x19 x20:AV)(h:List Ob)(e:Cx:=cx):an:=aY sS (.code H6::.inLoop Qq H6::.inBlock 0 SX::yCe) [x0,U,U,U,U,U,U,x7,x8,U,U,U,U,U,U,U,U,U,x18,x19,x20,U,U,U,U,U,U,U,U,U,U,U] h e
@[simp] theorem Un:az Tryz.prog sS=some UH:=by kernel_rfl
@[simp] theorem av4:au Tryz.prog sS=true:=by kernel_rfl
abbrev yCg:zR:=[o 5 (.lit 2 [] []),ab 6 0,o 7 (.append 2 cP 16 (.t 5) (.t 6)),ab 2 7]
abbrev Sb:zR:=[o 2 (.bG 2 cP)]
abbrev yCi:ah:=.seq (.ae Sb) .ret
abbrev T7:aA:=⟨.seq (.ae Sb) (.seq (.seq (.ae B9) (.cond (.t 4) yCi .skip)) (.seq (.ae yCg) .ret)),8,[.tmp 2]⟩
@[simp] theorem TZ:az Tryz.prog zk=some T7:=by kernel_rfl
@[simp] theorem avM:au Tryz.prog zk=true:=by kernel_rfl
abbrev yCl:zR:=[ab 3 0,o 4 (.cmp .leq (.sc .int) (.t 3) (.c (.int .i32 32))),ab 5 4,on 6 5 (.mv (.t 0)),on 7 5 (.cmp .gtr (.sc .int) (.t 6) (.c (.int .i32 126))),o 8 (.pick (.t 5) (.c (.bool true)) (.t 7)),ab 2 8]
abbrev UI:aA:=⟨.seq (.ae jK) (.seq (.ae yCl) .ret),9,[.tmp 2]⟩
@[simp] theorem Uo:az Tryz.prog qZ=some UI:=by kernel_rfl
@[simp] theorem av7:au Tryz.prog qZ=true:=by kernel_rfl
abbrev yCn:zR:=[ab 5 0,ab 6 1,o 7 (.call (.f vD) [.t 5,.t 6,.c (.bool true)]),ab 4 7]
abbrev UO:aA:=⟨.seq (.ae yK) (.seq (.ae yCn) .ret),8,[.tmp 4]⟩
@[simp] theorem Uw:az Tryz.prog zp=some UO:=by kernel_rfl
@[simp] theorem awi:au Tryz.prog zp=true:=by kernel_rfl
abbrev yCq:zR:=[ab 17 0,ab 18 0,o 19 (.cap (.t 18)),o 20 (.slice 1 (.t 17) none (some (.t 19))),ab 21 1,o 22 (.p_ 1 aq 8 (.int .i64 0) (.t 20) (.t 21)),ab 23 0,aQ 24 23,o 25 (.slice 1 (.t 22) none (some (.t 24))),ab 0 25]
abbrev UC:aA:=⟨.seq (.ae H3) (.seq (.seq (.ae Cp) (.cond (.t 6) (.ae CC) .skip)) (.seq (.seq (.ae C0) (.seq (.ae CZ) (.cond (.t 16) (.ae yCq) .skip))) (.seq (.ae B5) .ret))),27,[.tmp 4]⟩
@[simp] theorem Jv:az Tryz.prog Dp=some UC:=by kernel_rfl
@[simp] theorem avX:au Tryz.prog Dp=true:=by kernel_rfl
abbrev Sq:zB:=I::I::O::I::(by(iterate 15 refine O::?_);exact[])
abbrev yCy:zR:=[ab 9 3,o 10 (.bJ .sub (.t 9) (.c (.int .i64 1))),ab 3 10]
abbrev yCz:zR:=[ab 11 0,ab 12 3,ai 13 1 1,ab 14 3,ba 15 2 13 14,aM 16 2 15,o 17 (.call (.t 11) [.t 12,.t 16]),o 18 (.not (.t 17))]
abbrev yCA:ah:=.seq (.ae yCz) (.cond (.t 18) .ret .skip)
abbrev yCB:zR:=[ab 7 3,o 8 (.cmp .geq (.sc .int) (.t 7) (.c (.int .i64 0)))]
abbrev HE:ah:=.seq (.seq (.ae yCB) (.cond (.t 8) .skip (.exit 0))) (.seq (.block 1 [] yCA) (.ae yCy))
abbrev yCD:zR:=[ai 4 1 1,aQ 5 4,o 6 (.bJ .sub (.t 5) (.c (.int .i64 1))),ab 3 6]
abbrev TO:aA:=⟨.seq (.ae yCD) (.block 0 mJ (.loop Sq HE)),19,[]⟩
abbrev yCF(x0 x1 x3:AV)(h:List Ob)(e:Cx:=cx):an:=aY vu (.code HE::.inLoop Sq HE::.inBlock 0 mJ::CE) (x0::x1::U::x3::(by(iterate 15 refine U::?_);exact[])) h e
@[simp] theorem TE:az Tryz.prog vu=some TO:=by kernel_rfl
@[simp] theorem avA:au Tryz.prog vu=true:=by kernel_rfl
abbrev yCG:zR:=[aM 35 2 3,aN 2 2 35]
abbrev yCH:zR:=[al 34 0 3,q (.store 1 (.t 34) (.f vT))]
abbrev yCI:zR:=[al 33 0 3,q (.store 1 (.t 33) (.f v7))]
abbrev yCJ:zR:=[al 32 0 3,q (.store 1 (.t 32) (.f vW))]
abbrev yCK:zR:=[al 31 0 3,q (.store 1 (.t 31) (.f vR))]
abbrev yCL:zR:=[o 30 (.cmp .eql (.sc .int) (.t 13) (.c (.int .i64 9))),ab 28 30]
abbrev yCM:zR:=[o 29 (.cmp .eql (.sc .int) (.t 13) (.c (.int .i64 8))),ab 28 29]
abbrev yCN:zR:=[o 27 (.cmp .eql (.sc .int) (.t 13) (.c (.int .i64 7))),ab 25 27]
abbrev yCO:zR:=[o 26 (.cmp .eql (.sc .int) (.t 13) (.c (.int .i64 6))),ab 25 26]
abbrev yCP:zR:=[o 24 (.cmp .eql (.sc .int) (.t 13) (.c (.int .i64 5))),ab 22 24]
abbrev yCQ:zR:=[o 23 (.cmp .eql (.sc .int) (.t 13) (.c (.int .i64 4))),ab 22 23]
abbrev yCR:zR:=[o 21 (.cmp .eql (.sc .int) (.t 13) (.c (.int .i64 3))),ab 20 21]
abbrev yCS:zR:=[o 19 (.cmp .eql (.sc .int) (.t 13) (.c (.int .i64 2))),ab 18 19]
abbrev yCT:zR:=[o 17 (.cmp .eql (.sc .int) (.t 13) (.c (.int .i64 1))),ab 16 17]
abbrev yCU:zR:=[o 15 (.cmp .eql (.sc .int) (.t 13) (.c (.int .i64 0))),ab 14 15]
abbrev yCV:ah:=.seq (.seq (.seq (.ae yCU) (.cond (.t 14) (.exit 2) .skip)) (.seq (.seq (.ae yCT) (.cond (.t 16) (.exit 3) .skip)) (.seq (.seq (.ae yCS) (.cond (.t 18) (.exit 4) .skip)) (.seq (.seq (.ae yCR) (.cond (.t 20) (.exit 5) .skip)) (.seq (.seq (.seq (.ae yCQ) (.cond (.t 22) .skip (.ae yCP))) (.cond (.t 22) (.exit 6) .skip)) (.seq (.seq (.seq (.ae yCO) (.cond (.t 25) .skip (.ae yCN))) (.cond (.t 25) (.exit 7) .skip)) (.seq (.seq (.ae yCM) (.cond (.t 28) .skip (.ae yCL))) (.cond (.t 28) (.exit 8) .skip)))))))) (.exit 1)
abbrev yCW:ah:=.block 2 [] yCV
abbrev yCX:ah:=.seq (.block 3 [] yCW) (.seq (.ae yCK) (.exit 1))
abbrev yCY:ah:=.block 4 [] yCX
abbrev yCZ:ah:=.block 5 [] yCY
abbrev yDa:ah:=.seq (.block 6 [] yCZ) (.seq (.ae yCJ) (.exit 1))
abbrev yDb:ah:=.seq (.block 7 [] yDa) (.seq (.ae yCI) (.exit 1))
abbrev yDc:ah:=.seq (.block 8 [] yDb) (.seq (.ae yCH) (.exit 1))
abbrev yDd:zR:=[ab 13 0]
abbrev yDe:zR:=[al 12 1 3,q (.store 1 (.t 12) (.c (.bool true)))]
abbrev yDf:zR:=[o 11 (.cmp .eql (.sc .int) (.t 5) (.c (.int .i64 9))),ab 6 11]
abbrev yDg:zR:=[o 10 (.cmp .eql (.sc .int) (.t 5) (.c (.int .i64 7))),ab 6 10]
abbrev yDh:ah:=.seq (.ae yDg) (.cond (.t 6) .skip (.ae yDf))
abbrev yDi:zR:=[o 9 (.cmp .eql (.sc .int) (.t 5) (.c (.int .i64 5))),ab 6 9]
abbrev yDj:ah:=.seq (.ae yDi) (.cond (.t 6) .skip yDh)
abbrev yDk:zR:=[o 8 (.cmp .eql (.sc .int) (.t 5) (.c (.int .i64 3))),ab 6 8]
abbrev yDl:ah:=.seq (.ae yDk) (.cond (.t 6) .skip yDj)
abbrev yDm:zR:=[o 7 (.cmp .eql (.sc .int) (.t 5) (.c (.int .i64 1))),ab 6 7]
abbrev yDn:ah:=.seq (.seq (.ae yDm) (.cond (.t 6) .skip yDl)) (.cond (.t 6) (.ae yDe) .skip)
abbrev yDo:zR:=[ab 5 0]
abbrev yDp:zR:=[o 4 (.build [.c_,.bool false] []),o 3 (.alloc [.c_,.bool false]),aN 2 3 4]
abbrev yDq:zR:=[o 2 (.alloc [.c_,.bool false])]
abbrev adr:aA:=⟨.seq (.ae yDq) (.seq (.ae yDp) (.seq (.seq (.ae yDo) (.block 0 [] yDn)) (.seq (.seq (.ae yDd) (.block 1 [] yDc)) (.seq (.ae yCG) .ret)))),36,[.cell 2 true 2]⟩
@[simp] theorem Zb:az Tryz.prog Aq=some adr:=by kernel_rfl
@[simp] theorem ayD:au Tryz.prog Aq=true:=by kernel_rfl
abbrev yDr:zR:=[al 4 3 1,ai 5 1 4,o 6 (.fI (.func zz) [] [.t 2]),cM 7 pS 5 6,ab 3 7]
abbrev yDs:zR:=[o 2 (.box 1 (.t 0)),lQ 3]
abbrev Xv:aA:=⟨.seq (.ae yDs) (.seq (.ae yDr) .ret),8,[.tmp 3]⟩
@[simp] theorem Wc:az Tryz.prog zK=some Xv:=by kernel_rfl
@[simp] theorem axc:au Tryz.prog zK=true:=by kernel_rfl
abbrev yDt:zR:=[ab 4 0,ai 5 1 1,cM 6 vX 4 5,ab 3 6]
abbrev VI:aA:=⟨.seq (.ae xI) (.seq (.ae yDt) .ret),7,[.tmp 3]⟩
@[simp] theorem Vo:az Tryz.prog zz=some VI:=by kernel_rfl
@[simp] theorem awK:au Tryz.prog zz=true:=by kernel_rfl
abbrev R2:zB:=I::O::O::O::O::O::O::I::I::I::(by(iterate 17 refine O::?_);exact[])
abbrev QD:zB:=(by(iterate 27 refine O::?_);exact[])
abbrev yDy:zR:=[bE 26 9 1,ab 9 26]
abbrev yDB:zR:=[ab 14 0,ab 15 5,o 16 (.r9 (.t 14) (.t 15)),o 17 (.cmp .neq (.sc .int) (.t 16) (.c (.int .u8 45))),ab 18 17,cO 19 18 0,cO 20 18 5,oy 21 18 (.r9 (.t 19) (.t 20)),oy 22 18 (.cmp .eql (.sc .int) (.t 21) (.c (.int .u8 49))),cO 23 18 6,oy 24 18 (.cmp .neq (.sc .bool) (.t 22) (.t 23)),bT 25 18 24]
abbrev yDC:zR:=[ab 11 9,ba 12 1 7 9,ai 13 1 12,ab 5 11,ab 6 13]
abbrev yDD:ah:=.seq (.ae yDC) (.seq (.ae yDB) (.cond (.t 25) lT .skip))
abbrev Io:ah:=.seq (.ae y0) (.seq (.cond (.t 10) .skip (.exit 0)) (.seq (.block 1 [] yDD) (.ae yDy)))
abbrev yDG:zR:=[ab 7 1,aQ 8 7,aO 9 0]
abbrev Y2:aA:=⟨.seq (.ae jM) (.seq (.seq (.ae yDG) (.block 0 QD (.loop R2 Io))) (.seq (.ae sC) .ret)),27,[.tmp 4]⟩
abbrev yDJ(x0 x7 x8 x9:AV)(h:List Ob)(e:Cx:=cx):an:=aY vX (.code Io::.inLoop R2 Io::.inBlock 0 QD::uV) (x0::U::U::U::U::U::U::x7::x8::x9::(by(iterate 17 refine U::?_);exact[])) h e
@[simp] theorem Xm:az Tryz.prog vX=some Y2:=by kernel_rfl
@[simp] theorem axx:au Tryz.prog vX=true:=by kernel_rfl
abbrev Rq:zB:=I::I::O::O::O::I::I::(by(iterate 18 refine O::?_);exact[])
abbrev Td:zB:=(by(iterate 25 refine O::?_);exact[])
abbrev yDM:zR:=[bE 24 6 1,ab 6 24]
abbrev yDN:zR:=[ai 9 1 1,ab 10 3,o 11 (.r9 (.t 9) (.t 10)),o 12 (.cmp .neq (.sc .int) (.t 11) (.c (.int .u8 45))),ab 13 12,cO 14 13 0,cO 15 13 3,cU 16 13 1 1,cO 17 13 3,oy 18 13 (.r9 (.t 16) (.t 17)),oy 19 13 (.conv .i64 (.t 18)),oy 20 13 (.build [.int .i64 0,.int .i64 0] [(0,1,.t 15),(1,1,.t 19)]),oy 21 13 (.call (.t 14) [.t 20]),oy 22 13 (.not (.t 21)),bT 23 13 22]
abbrev yDO:zR:=[ab 8 6,ab 3 8]
abbrev yDP:ah:=.seq (.ae yDO) (.seq (.ae yDN) (.cond (.t 23) .ret .skip))
abbrev yDQ:zR:=[cN 7 6 5]
abbrev Ik:ah:=.seq (.ae yDQ) (.seq (.cond (.t 7) .skip (.exit 0)) (.seq (.block 1 [] yDP) (.ae yDM)))
abbrev yDS:zR:=[ai 4 1 1,o 5 (.ma (.t 4)),aO 6 0]
abbrev U1:aA:=⟨.seq (.ae yDS) (.block 0 Td (.loop Rq Ik)),25,[]⟩
abbrev Ip(x0 x1 x5 x6:AV)(h:List Ob)(e:Cx:=cx):an:=aY ra (.code Ik::.inLoop Rq Ik::.inBlock 0 Td::CE) (x0::x1::U::U::U::x5::x6::(by(iterate 18 refine U::?_);exact[])) h e
@[simp] theorem Dt:az Tryz.prog ra=some U1:=by kernel_rfl
@[simp] theorem awm:au Tryz.prog ra=true:=by kernel_rfl
abbrev yDV:zR:=[aM 15 3 3,aN 3 2 15]
abbrev yDW:zR:=[al 11 1 3,ai 12 1 11,bE 13 12 1,al 14 1 3,aN 1 14 13]
abbrev yDX:zR:=[o 8 (.gG 2 1 (.t 1) (.c (.int .i64 1))),ai 9 1 8,o 10 (.cmp .eql (.sc .int) (.t 9) (.c (.int .i64 48)))]
abbrev yDY:zR:=[o 4 (.gG 2 1 (.t 1) (.c (.int .i64 0))),ai 5 1 4,o 6 (.bJ .mul (.c (.int .i64 2)) (.t 5)),o 7 (.build [.int .i64 0,.int .i64 0,.int .i64 0] [(0,1,.c (.int .i64 2)),(1,1,.t 6)]),o 3 (.alloc [.int .i64 0,.int .i64 0,.int .i64 0]),aN 3 3 7]
abbrev yDZ:zR:=[o 1 (.box 2 (.t 0)),o 2 (.alloc [.int .i64 0,.int .i64 0,.int .i64 0])]
abbrev UM:aA:=⟨.seq (.ae yDZ) (.seq (.ae yDY) (.seq (.seq (.ae yDX) (.cond (.t 10) (.ae yDW) .skip)) (.seq (.ae yDV) .ret))),16,[.cell 2 true 3]⟩
@[simp] theorem Ur:az Tryz.prog zo=some UM:=by kernel_rfl
@[simp] theorem av5:au Tryz.prog zo=true:=by kernel_rfl
abbrev yEa:zR:=[ai 12 1 2,ab 4 12]
abbrev RO:zR:=[o 5 (.alloc [.int .i64 0,.int .i64 0]),aN 2 5 7]
abbrev yEc:zR:=[ai 8 1 2,aM 9 2 5,o 10 (.lit 2 [.agg [.int .i64 0,.int .i64 0]] [(0,.t 9)]),o 11 (.append 2 lg 16 (.t 8) (.t 10)),aN 1 2 11]
abbrev Rf:ah:=.block 1 [] (.ae yEc)
abbrev yEe:ah:=.rangeFunc (.t 6) [7] [O,O,I,O,I,O,O,O,O,O,O,O,O] (.ae RO) Rf
abbrev yEf:zR:=[ab 6 1]
abbrev yEg:zR:=[o 2 (.box 1 (.t 0)),o 4 (.bG 2 lg)]
abbrev Tr:aA:=⟨.seq (.ae yEg) (.seq (.seq (.ae yEf) (.block 0 [] yEe)) (.seq (.ae yEa) .ret)),13,[.tmp 4]⟩
@[simp] theorem Tq:az Tryz.prog zg=some Tr:=by kernel_rfl
@[simp] theorem avs:au Tryz.prog zg=true:=by kernel_rfl
abbrev Qx:zR:=[q (.store 1 (.t 3) (.c (.bool false)))]
abbrev SY:zR:=[o 4 (.alloc [.int .i64 0,.int .i64 0]),aN 2 4 7]
abbrev yEj:zR:=[q (.store 1 (.t 3) (.c (.bool true)))]
abbrev yEk:ah:=.seq (.ae yEj) .ret
abbrev yEl:zR:=[aM 8 2 4,aM 9 2 1,o 10 (.cmp .eql (.jb [.int,.int]) (.t 8) (.t 9))]
abbrev yEm:ah:=.seq (.ae yEl) (.cond (.t 10) yEk .skip)
abbrev S6:ah:=.block 1 [] yEm
abbrev yEo:ah:=.rangeFunc (.t 6) [7] [O,I,O,I,O,O,O,O,O,O,O] (.ae SY) S6
abbrev yEp:zR:=[ab 5 0,aW 6 sZ 5]
abbrev yEq:zR:=[o 3 (.alloc [.bool false])]
abbrev Xp:aA:=⟨.seq (.ae yEq) (.seq (.seq (.ae yEp) (.block 0 [] yEo)) (.seq (.ae Qx) .ret)),11,[.cell 3 false 1]⟩
@[simp] theorem V8:az Tryz.prog oz=some Xp:=by kernel_rfl
@[simp] theorem aw5:au Tryz.prog oz=true:=by kernel_rfl
abbrev yEs:zR:=[ab 17 0,ab 18 0,o 19 (.cap (.t 18)),o 20 (.slice 3 (.t 17) none (some (.t 19))),ab 21 1,o 22 (.p_ 3 aS 24 (.agg [.int .i64 0,.int .i64 0,.int .i64 0]) (.t 20) (.t 21)),ab 23 0,aQ 24 23,o 25 (.slice 3 (.t 22) none (some (.t 24))),ab 0 25]
abbrev TC:aA:=⟨.seq (.ae SN) (.seq (.seq (.ae Cp) (.cond (.t 6) (.ae CC) .skip)) (.seq (.seq (.ae C0) (.seq (.ae CZ) (.cond (.t 16) (.ae yEs) .skip))) (.seq (.ae B5) .ret))),27,[.tmp 4]⟩
@[simp] theorem Tx:az Tryz.prog Dg=some TC:=by kernel_rfl
@[simp] theorem avw:au Tryz.prog Dg=true:=by kernel_rfl
abbrev yEy:zR:=[ab 4 0,ai 5 1 1,o 6 (.bJ .xor (.t 4) (.t 5)),ab 3 6]
abbrev Uj:aA:=⟨.seq (.ae sy) (.seq (.ae yEy) .ret),7,[.tmp 3]⟩
@[simp] theorem Ue:az Tryz.prog vx=some Uj:=by kernel_rfl
@[simp] theorem avU:au Tryz.prog vx=true:=by kernel_rfl
abbrev yEA:zR:=[ab 29 8,ab 6 29]
abbrev yEB:zR:=[ab 25 0,aM 26 5 7,o 27 (.cv (.t 25)),al 28 0 27,aN 5 28 26]
abbrev yEC:zR:=[o 23 (.build [] []),o 24 (.lr DF (.t 23)),q (.panic (.t 24))]
abbrev yED:zR:=[ab 21 9,o 22 (.cmp .neq (.sc .int) (.t 21) (.c (.int .i64 0)))]
abbrev yEE:zR:=[ab 11 0,o 12 (.cv (.t 11)),al 13 0 12,aM 14 5 13,ab 15 1,ab 16 2,o 17 (.call (.f Am) [.t 14,.t 15,.t 16]),ab 10 17,bo 18 10 0,bo 19 10 1,bo 20 10 2,o 7 (.alloc [.int .i64 0,.own 1 aq [],.own 1 aq [],.own 2 cP [],.own 1 aq []]),aN 5 7 18,ab 8 19,ab 9 20]
abbrev UN:aA:=⟨.seq (.ae CU) (.seq (.ae yEE) (.seq (.seq (.ae yED) (.cond (.t 22) (.ae yEC) .skip)) (.seq (.ae yEB) (.seq (.ae yEA) .ret)))),30,[.tmp 6]⟩
@[simp] theorem Uv:az Tryz.prog q9=some UN:=by kernel_rfl
@[simp] theorem awc:au Tryz.prog q9=true:=by kernel_rfl
abbrev RT:zR:=[o 6 (.mv (.c (.int .i64 (-1))))]
abbrev SE:zB:=[O,I,I,O,O,O,O,O,O,O,I,O,O,O,O,O,O,O,O,O,O]
abbrev Rh:zB:=(by(iterate 21 refine O::?_);exact[])
abbrev yEJ:zR:=[ab 20 7,ab 6 20]
abbrev yEK:ah:=.seq (.ae yEJ) .ret
abbrev yEL:zR:=[ab 15 1,ab 16 8,o 17 (.call (.t 15) [.t 16]),ab 18 2,o 19 (.cmp .eql (.sc .bool) (.t 17) (.t 18))]
abbrev yEM:zR:=[bo 13 11 1,bo 14 11 2,ab 7 13,ab 8 14]
abbrev yEN:ah:=.seq (.ae yEM) (.seq (.ae yEL) (.cond (.t 19) yEK .skip))
abbrev yEO:zR:=[o 11 (.next (.t 10)),bo 12 11 0]
abbrev HK:ah:=.seq (.ae yEO) (.seq (.cond (.t 12) .skip (.exit 0)) (.block 1 [] yEN))
abbrev yEQ:zR:=[ab 9 0,o 10 (.range (.t 9))]
abbrev UR:aA:=⟨.seq (.ae CU) (.seq (.seq (.ae yEQ) (.block 0 Rh (.loop SE HK))) (.seq (.ae RT) .ret)),21,[.tmp 6]⟩
abbrev yES:zI:=[.code (.seq (.ae RT) .ret)]
abbrev yET(x1 x2 x10:AV)(h:List Ob)(e:Cx:=cx):an:=aY vD (.code HK::.inLoop SE HK::.inBlock 0 Rh::yES) [U,x1,x2,U,U,U,U,U,U,U,x10,U,U,U,U,U,U,U,U,U,U] h e
@[simp] theorem Uz:az Tryz.prog vD=some UR:=by kernel_rfl
@[simp] theorem awb:au Tryz.prog vD=true:=by kernel_rfl
abbrev Y3:aA:=⟨.seq (.ae jK) (.seq (.ae jK) .ret),3,[.tmp 2]⟩
@[simp] theorem W4:az Tryz.prog vR=some Y3:=by kernel_rfl
@[simp] theorem axy:au Tryz.prog vR=true:=by kernel_rfl
abbrev yEW:zR:=[ab 3 0,aW 4 rh 3,ab 5 0,aQ 6 5,o 7 (.cmp .eql (.sc .int) (.t 4) (.t 6)),ab 2 7]
abbrev Y4:aA:=⟨.seq (.ae jK) (.seq (.ae yEW) .ret),8,[.tmp 2]⟩
@[simp] theorem WY:az Tryz.prog vW=some Y4:=by kernel_rfl
@[simp] theorem axA:au Tryz.prog vW=true:=by kernel_rfl
abbrev S8:zR:=[ab 16 3,ab 2 16]
abbrev QW:zB:=[O,O,O,I,O,O,I,I,I,O,O,O,O,O,O,O,O]
abbrev R0:zB:=O::O::O::I::(by(iterate 13 refine O::?_);exact[])
abbrev yFb:zR:=[bE 15 8 1,ab 8 15]
abbrev yFc:zR:=[ab 13 3,bE 14 13 1,ab 3 14]
abbrev yFd:zR:=[ab 12 5]
abbrev yFe:zR:=[ba 10 1 6 8,ai 11 1 10,ab 5 11]
abbrev yFf:ah:=.seq (.ae yFe) (.seq (.ae yFd) (.cond (.t 12) (.ae yFc) .skip))
abbrev IL:ah:=.seq (.ae C3) (.seq (.cond (.t 9) .skip (.exit 0)) (.seq (.block 1 [] yFf) (.ae yFb)))
abbrev X2:aA:=⟨.seq (.ae xZ) (.seq (.ae sy) (.seq (.seq (.ae y3) (.block 0 R0 (.loop QW IL))) (.seq (.ae S8) .ret))),17,[.tmp 2]⟩
abbrev yFl:zI:=[.code (.seq (.ae S8) .ret)]
abbrev yFm(x3 x6 x7 x8:AV)(h:List Ob)(e:Cx:=cx):an:=aY rh (.code IL::.inLoop QW IL::.inBlock 0 R0::yFl) [U,U,U,x3,U,U,x6,x7,x8,U,U,U,U,U,U,U,U] h e
@[simp] theorem Wi:az Tryz.prog rh=some X2:=by kernel_rfl
@[simp] theorem axr:au Tryz.prog rh=true:=by kernel_rfl
abbrev yFn:zR:=[ab 3 0,aW 4 rh 3,o 5 (.cmp .gtr (.sc .int) (.t 4) (.c (.int .i64 0))),ab 2 5]
abbrev YZ:aA:=⟨.seq (.ae jK) (.seq (.ae yFn) .ret),6,[.tmp 2]⟩
@[simp] theorem WW:az Tryz.prog v7=some YZ:=by kernel_rfl
@[simp] theorem axP:au Tryz.prog v7=true:=by kernel_rfl
abbrev yFp:zR:=[ab 3 0,aW 4 rh 3,o 5 (.bJ .rem (.t 4) (.c (.int .i64 2))),o 6 (.cmp .eql (.sc .int) (.t 5) (.c (.int .i64 1))),ab 2 6]
abbrev YW:aA:=⟨.seq (.ae jK) (.seq (.ae yFp) .ret),7,[.tmp 2]⟩
@[simp] theorem Xe:az Tryz.prog vT=some YW:=by kernel_rfl
@[simp] theorem axv:au Tryz.prog vT=true:=by kernel_rfl
abbrev yFr:zR:=[ab 58 11,o 59 (.cv (.t 58)),al 60 0 59,aM 61 5 60,ab 62 12,aN 5 6 61,ab 7 62,aO 8 0]
abbrev yFs:zR:=[o 57 (.build [.int .i64 0,.list true 0 [],.list true 0 [],.list true 0 [],.list true 0 []] []),aN 5 6 57,aO 7 0,aO 8 8]
abbrev yFt:ah:=.seq (.ae yFs) .ret
abbrev yFu:zR:=[ab 51 11,o 52 (.cv (.t 51)),al 53 0 52,aM 54 5 53,aW 55 oD 54,o 56 (.cmp .eql (.sc .int) (.t 55) (.c (.int .i64 8)))]
abbrev yFv:zR:=[ab 47 11,ab 48 1,ab 49 2,o 50 (.call (.f pV) [.t 47,.t 48,.t 49]),ab 12 50]
abbrev yFw:zR:=[aM 45 5 3,aW 46 rm 45,ab 11 46]
abbrev yFx:zR:=[o 25 (.build [.int .i64 0,.list true 0 [],.list true 0 [],.list true 0 [],.list true 0 []] []),ab 26 9,aN 5 6 25,aO 7 0,ab 8 26]
abbrev yFy:zR:=[o 44 (.build [.int .i64 0,.list true 0 [],.list true 0 [],.list true 0 [],.list true 0 []] []),aN 5 6 44,aO 7 0,aO 8 1]
abbrev yFz:ah:=.seq (.ae yFy) .ret
abbrev yFA:zR:=[ab 28 1,o 29 (.cmp .lss (.sc .int) (.t 28) (.c (.int .i64 0))),ab 30 29,on 31 30 (.mv (.t 2)),on 32 30 (.cmp .lss (.sc .int) (.t 31) (.c (.int .i64 0))),o 33 (.pick (.t 30) (.c (.bool true)) (.t 32)),ab 34 33,on 35 34 (.mv (.t 1)),on 36 34 (.mv (.t 10)),on 37 34 (.cmp .geq (.sc .int) (.t 35) (.t 36)),o 38 (.pick (.t 34) (.c (.bool true)) (.t 37)),ab 39 38,on 40 39 (.mv (.t 2)),on 41 39 (.mv (.t 10)),on 42 39 (.cmp .geq (.sc .int) (.t 40) (.t 41)),o 43 (.pick (.t 39) (.c (.bool true)) (.t 42)),ab 27 43]
abbrev yFB:ah:=.seq (.ae yFx) .ret
abbrev yFC:ah:=.seq (.ae yFA) (.cond (.t 27) yFz .skip)
abbrev yFD:zR:=[ab 23 9,o 24 (.cmp .neq (.sc .int) (.t 23) (.c (.int .i64 0))),ab 22 24]
abbrev yFE:ah:=.seq (.ae yFD) (.cond (.t 22) yFB yFC)
abbrev yFF:zR:=[aM 15 5 3,aW 16 lj 15,al 17 3 3,ai 18 1 17,aQ 19 18,o 20 (.bJ .add (.t 16) (.t 19)),o 21 (.bJ .mul (.c (.int .i64 2)) (.t 20)),ab 10 21]
abbrev yFG:zR:=[aM 13 5 3,aW 14 oD 13,ab 9 14]
abbrev yFH:zR:=[o 3 (.box 5 (.t 0)),o 6 (.alloc [.int .i64 0,.own 1 aq [],.own 1 aq [],.own 2 cP [],.own 1 aq []]),aO 7 0,aO 8 0]
abbrev ac0:aA:=⟨.seq (.ae yFH) (.seq (.ae yFG) (.seq (.aT [O,O,O,I,O,O,O,O] [2,9,9,9,9,9,9,9] yFF) (.seq (.block 0 [] yFE) (.seq (.ae yFw) (.seq (.ae yFv) (.seq (.seq (.ae yFu) (.cond (.t 56) yFt .skip)) (.seq (.ae yFr) .ret))))))),63,[.cell 6 true 5,.tmp 7,.tmp 8]⟩
@[simp] theorem Z4:az Tryz.prog Am=some ac0:=by kernel_rfl
@[simp] theorem ayk:au Tryz.prog Am=true:=by kernel_rfl
abbrev yFI:zR:=[ab 7 0,ab 8 1,ba 9 1 7 8,ai 10 1 9,ab 11 0,ab 12 2,ba 13 1 11 12,ai 14 1 13,cN 15 10 14,ab 6 15]
abbrev Vm:aA:=⟨.seq (.ae yk) (.seq (.aT [O,O,O,O,O,O,O,O,O,O] [11,11,11,11,11,11,11,11,11,11] yFI) .ret),16,[.tmp 6]⟩
@[simp] theorem JE:az Tryz.prog vF=some Vm:=by kernel_rfl
@[simp] theorem aws:au Tryz.prog vF=true:=by kernel_rfl
abbrev yFK:zR:=[ab 25 3,o 26 (.lr aq (.t 25)),ab 2 26]
abbrev yFL:zR:=[ab 14 0,ab 15 0,o 16 (.cv (.t 15)),ai 17 1 16,ab 18 0,o 19 (.cv (.t 18)),ai 20 1 19,aQ 21 20,o 22 (.bJ .sub (.t 21) (.c (.int .i64 1))),o 23 (.slice 1 (.t 17) none (some (.t 22))),o 24 (.cv (.t 14)),aN 1 24 23]
abbrev yFM:zR:=[ab 4 0,o 5 (.cv (.t 4)),ai 6 1 5,ab 7 0,o 8 (.cv (.t 7)),ai 9 1 8,aQ 10 9,o 11 (.bJ .sub (.t 10) (.c (.int .i64 1))),ba 12 1 6 11,ai 13 1 12,ab 3 13]
abbrev Vx:aA:=⟨.seq (.ae QF) (.seq (.aT [O,O,O,O,O,O,O,O,O,O,O] [12,12,12,12,12,12,12,12,12,12,12] yFM) (.seq (.aT [O,O,O,O,O,O,O,O,O,O,O,O] [12,12,12,12,12,12,12,12,12,12,12,13] yFL) (.seq (.ae yFK) .ret))),27,[.tmp 2]⟩
@[simp] theorem U7:az Tryz.prog zy=some Vx:=by kernel_rfl
@[simp] theorem awz:au Tryz.prog zy=true:=by kernel_rfl
abbrev yFO:zR:=[ab 4 0,ab 5 0,o 6 (.cv (.t 5)),ai 7 1 6,ab 8 1,o 9 (.rM (.t 8) aq (.int .i64 0) false),o 10 (.lit 1 [.int .i64 0] [(0,.t 9)]),o 11 (.append 1 aq 8 (.t 7) (.t 10)),o 12 (.cv (.t 4)),aN 1 12 11]
abbrev Vi:aA:=⟨.aT [O,O,O,I,O,O,O,O,O,O] [10,8,8,8,7,7,8,10,10,11] yFO,13,[]⟩
@[simp] theorem JB:az Tryz.prog zu=some Vi:=by kernel_rfl
@[simp] theorem awo:au Tryz.prog zu=true:=by kernel_rfl
abbrev yFP:zR:=[ab 6 0,ab 7 1,ab 8 0,ab 9 2,ab 10 0,ab 11 2,ba 12 1 10 11,ai 13 1 12,ab 14 0,ab 15 1,ba 16 1 14 15,ai 17 1 16,ba 18 1 6 7,aN 1 18 13,ba 19 1 8 9,aN 1 19 17]
abbrev Ve:aA:=⟨.aT ((by(iterate 16 refine O::?_);exact[])) [14,14,16,16,14,14,14,14,14,14,14,14,14,16,16,17] yFP,20,[]⟩
@[simp] theorem JA:az Tryz.prog vG=some Ve:=by kernel_rfl
@[simp] theorem awu:au Tryz.prog vG=true:=by kernel_rfl
abbrev UJ:aA:=⟨.seq (.ae yK) (.seq (.ae yK) .ret),5,[.tmp 4]⟩
@[simp] theorem Uk:az Tryz.prog vB=some UJ:=by kernel_rfl
@[simp] theorem av2:au Tryz.prog vB=true:=by kernel_rfl
abbrev P5:zR:=[ab 38 5,ab 4 38]
abbrev Ta:zB:=I::O::O::O::O::I::O::O::O::O::O::O::O::O::I::I::I::(by(iterate 22 refine O::?_);exact[])
abbrev Qn:zB:=O::O::O::O::O::I::(by(iterate 33 refine O::?_);exact[])
abbrev yFV:zR:=[bE 37 16 1,ab 16 37]
abbrev yFW:zR:=[ab 30 0,ab 31 8,o 32 (.bJ .xor (.t 31) (.c (.int .i64 1))),ab 33 9,o 34 (.bJ .xor (.t 33) (.c (.int .i64 1))),o 35 (.call (.f q9) [.t 30,.t 32,.t 34]),o 36 (.bJ .xor (.t 35) (.c (.int .i64 1))),ab 5 36]
abbrev yFX:zR:=[ab 25 0,ab 26 5,o 27 (.bJ .xor (.t 26) (.c (.int .i64 1))),ab 28 7,o 29 (.call (.f q9) [.t 25,.t 27,.t 28]),ab 9 29]
abbrev yFY:zR:=[ab 20 0,ab 21 5,ab 22 7,o 23 (.bJ .xor (.t 22) (.c (.int .i64 1))),o 24 (.call (.f q9) [.t 20,.t 21,.t 23]),ab 8 24]
abbrev yFZ:zR:=[ba 18 1 14 16,ai 19 1 18,ab 7 19]
abbrev yGa:ah:=.seq (.ae yFZ) (.seq (.ae yFY) (.seq (.ae yFX) (.ae yFW)))
abbrev HG:ah:=.seq (.ae Cw) (.seq (.cond (.t 17) .skip (.exit 0)) (.seq (.block 1 [] yGa) (.ae yFV)))
abbrev yGd:zR:=[ab 13 1,o 14 (.slice 1 (.t 13) (some (.c (.int .i64 1))) none),aQ 15 14,aO 16 0]
abbrev yGe:zR:=[ab 10 1,o 11 (.kK 1 (.t 10) (.c (.int .i64 0))),ai 12 1 11,ab 5 12]
abbrev UQ:aA:=⟨.seq (.ae yK) (.seq (.ae yGe) (.seq (.seq (.ae yGd) (.block 0 Qn (.loop Ta HG))) (.seq (.ae P5) .ret))),39,[.tmp 4]⟩
abbrev yGg:zI:=[.code (.seq (.ae P5) .ret)]
abbrev yGh(x0 x5 x14 x15 x16:AV)(h:List Ob)(e:Cx:=cx):an:=aY sX (.code HG::.inLoop Ta HG::.inBlock 0 Qn::yGg) (x0::U::U::U::U::x5::U::U::U::U::U::U::U::U::x14::x15::x16::(by(iterate 22 refine U::?_);exact[])) h e
@[simp] theorem UA:az Tryz.prog sX=some UQ:=by kernel_rfl
@[simp] theorem awg:au Tryz.prog sX=true:=by kernel_rfl
end Go.Proofs.YtihmomicdpkabaaGreatDoor
