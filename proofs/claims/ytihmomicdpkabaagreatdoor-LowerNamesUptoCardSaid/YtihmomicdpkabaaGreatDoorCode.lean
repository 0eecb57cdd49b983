/- The functions, as the abstract machine has them. Printed by a program. -/
import Derived.Test.YtihmomicdpkabaaGreatDoorAMd
import Derived.Test.YtihmomicdpkabaaGreatDoorChecked
import Derived.KernelRfl
set_option linter.unusedSimpArgs false
set_option linter.unusedVariables false
namespace Go.Proofs.YtihmomicdpkabaaGreatDoor
open Go.AM Go.Proofs
abbrev zR:=List AG
abbrev zB:=List Bool
abbrev zI:=List It
abbrev ab(d i:Nat):AG:=o d (.mv (.t i))
abbrev ai(d k i:Nat):AG:=o d (.load false k (.t i))
abbrev aI(d k i:Nat):AG:=o d (.load true k (.t i))
abbrev al(d k i:Nat):AG:=o d (.off k (.t i))
abbrev aZ(d k i j:Nat):AG:=o d (.g_ k (.t i) (.t j))
abbrev bz(d i:Nat)(n:Int):AG:=o d (.bB .add (.t i) (.c (.int .i64 n)))
abbrev cL(d i j:Nat):AG:=o d (.cmp .lss (.sc .int) (.t i) (.t j))
abbrev bH(d i j:Nat):AG:=o d (.pick (.t i) (.t j) (.c (.bool false)))
abbrev aO(d:Nat)(n:Int):AG:=o d (.mv (.c (.int .i64 n)))
abbrev aN(d i:Nat):AG:=o d (.len (.t i))
abbrev aM(k a x:Nat):AG:=q (.store k (.t a) (.t x))
abbrev bj(d i k:Nat):AG:=o d (.extract (.t i) k)
abbrev cG(d j k i:Nat):AG:=oy d j (.load false k (.t i))
abbrev cn(d j i:Nat):AG:=oy d j (.mv (.t i))
abbrev aT(d:Nat)(f:FuncId)(i:Nat):AG:=o d (.call (.f f) [.t i])
abbrev cB(d:Nat)(f:FuncId)(i j:Nat):AG:=o d (.call (.f f) [.t i,.t j])
abbrev kT(d:Nat):AG:=o d (.mv (.c (.bool false)))
abbrev zg:FuncId:=4
abbrev JE:FuncId:=5
abbrev vT:FuncId:=7
abbrev tm:FuncId:=8
abbrev j9:FuncId:=10
abbrev ta:FuncId:=11
abbrev oA:FuncId:=12
abbrev rm:FuncId:=13
abbrev vJ:FuncId:=14
abbrev DZ:FuncId:=15
abbrev D8:FuncId:=16
abbrev zF:FuncId:=17
abbrev Kv:FuncId:=18
abbrev KG:FuncId:=20
abbrev vY:FuncId:=21
abbrev td:FuncId:=22
abbrev vM:FuncId:=23
abbrev zw:FuncId:=24
abbrev sR:FuncId:=25
abbrev pY:FuncId:=26
abbrev zk:FuncId:=27
abbrev oq:FuncId:=28
abbrev ot:FuncId:=29
abbrev mH:FuncId:=30
abbrev vA:FuncId:=31
abbrev ox:FuncId:=32
abbrev nz:FuncId:=33
abbrev nw:FuncId:=34
abbrev tp:FuncId:=35
abbrev te:FuncId:=36
abbrev mG:FuncId:=37
abbrev p1:FuncId:=38
abbrev ke:FuncId:=39
abbrev y4:FuncId:=40
abbrev zy:FuncId:=41
abbrev za:FuncId:=42
abbrev DA:FuncId:=43
abbrev Dz:FuncId:=44
abbrev vP:FuncId:=45
abbrev DB:FuncId:=46
abbrev Dk:FuncId:=47
abbrev Dd:FuncId:=48
abbrev re:FuncId:=49
abbrev vu:FuncId:=50
abbrev rb:FuncId:=51
abbrev rC:FuncId:=52
abbrev zp:FuncId:=53
abbrev s9:FuncId:=54
abbrev Dv:FuncId:=55
abbrev vG:FuncId:=56
abbrev sU:FuncId:=57
abbrev tq:FuncId:=58
abbrev pS:FuncId:=59
abbrev nu:FuncId:=60
abbrev zf:FuncId:=61
abbrev zo:FuncId:=62
abbrev vH:FuncId:=63
abbrev nA:FuncId:=64
abbrev yD:FuncId:=65
abbrev tu:FuncId:=66
abbrev vL:FuncId:=67
abbrev rB:FuncId:=68
abbrev v8:FuncId:=69
abbrev tz:FuncId:=70
abbrev zr:FuncId:=71
abbrev zq:FuncId:=72
abbrev sQ:FuncId:=73
abbrev pP:FuncId:=74
abbrev zn:FuncId:=75
abbrev Dc:FuncId:=76
abbrev Dy:FuncId:=77
abbrev vv:FuncId:=78
abbrev Dh:FuncId:=79
abbrev zG:FuncId:=80
abbrev y6:FuncId:=81
abbrev Df:FuncId:=82
abbrev zu:FuncId:=83
abbrev pW:FuncId:=84
abbrev nv:FuncId:=85
abbrev mI:FuncId:=86
abbrev vy:FuncId:=87
abbrev s7:FuncId:=88
abbrev y9:FuncId:=89
abbrev zh:FuncId:=90
abbrev s_:FuncId:=91
abbrev y0:FuncId:=92
abbrev ir:FuncId:=93
abbrev sY:FuncId:=94
abbrev sX:FuncId:=95
abbrev rv:FuncId:=96
abbrev y7:FuncId:=97
abbrev rk:FuncId:=98
abbrev vq:FuncId:=99
abbrev zd:FuncId:=100
abbrev zz:FuncId:=101
abbrev z_:FuncId:=102
abbrev tA:FuncId:=103
abbrev vt:FuncId:=104
abbrev ra:FuncId:=105
abbrev ou:FuncId:=106
abbrev pR:FuncId:=107
abbrev Da:FuncId:=108
abbrev DI:FuncId:=109
abbrev De:FuncId:=110
abbrev vB:FuncId:=111
abbrev vx:FuncId:=112
abbrev zi:FuncId:=120
abbrev s6:FuncId:=121
abbrev tc:FuncId:=122
abbrev ru:FuncId:=123
abbrev pT:FuncId:=124
abbrev tj:FuncId:=125
abbrev y3:FuncId:=126
abbrev vR:FuncId:=127
abbrev vF:FuncId:=128
abbrev pQ:FuncId:=129
abbrev sP:FuncId:=130
abbrev sV:FuncId:=131
abbrev y5:FuncId:=132
abbrev rh:FuncId:=133
abbrev y_:FuncId:=134
abbrev Di:FuncId:=135
abbrev vr:FuncId:=136
abbrev Ep:FuncId:=137
abbrev Dx:FuncId:=138
abbrev Ds:FuncId:=139
abbrev DV:FuncId:=140
abbrev rj:FuncId:=145
abbrev y8:FuncId:=146
abbrev yC:FuncId:=147
abbrev ov:FuncId:=148
abbrev C_:FuncId:=149
abbrev vw:FuncId:=150
abbrev ri:FuncId:=151
abbrev vC:FuncId:=152
abbrev DM:FuncId:=153
abbrev DQ:FuncId:=154
abbrev vO:FuncId:=155
abbrev DD:FuncId:=156
abbrev DG:FuncId:=157
abbrev Ai:FuncId:=161
abbrev vE:FuncId:=185
abbrev zj:FuncId:=186
abbrev ze:FuncId:=187
abbrev vD:FuncId:=188
abbrev vz:FuncId:=191
abbrev sW:FuncId:=192
abbrev an:TypeId:=3
abbrev cD:TypeId:=4
abbrev FD:TypeId:=5
abbrev aE:TypeId:=9
abbrev VW:TypeId:=32
abbrev iT:TypeId:=33
abbrev Vc:TypeId:=46
abbrev rG:TypeId:=50
abbrev cM:TypeId:=63
abbrev DC:TypeId:=70
abbrev DP:TypeId:=126
abbrev kc:TypeId:=153
@[simp] theorem awm:lX Tryz.prog kc "Push" =some (ze,none):=by kernel_rfl
@[simp] theorem awt:lX Tryz.prog kc "Len" =some (s7,some (false,1)):=by kernel_rfl
@[simp] theorem awo:lX Tryz.prog kc "Swap" =some (vD,some (false,1)):=by kernel_rfl
@[simp] theorem awz:lX Tryz.prog kc "Pop" =some (zj,none):=by kernel_rfl
@[simp] theorem awq:lX Tryz.prog kc "Less" =some (vE,some (false,1)):=by kernel_rfl
abbrev Dt:TypeId:=154
@[simp] theorem awg:lX Tryz.prog Dt "Len" =some (s7,none):=by kernel_rfl
@[simp] theorem av8:lX Tryz.prog Dt "Swap" =some (vD,none):=by kernel_rfl
@[simp] theorem av5:lX Tryz.prog Dt "Less" =some (vE,none):=by kernel_rfl
abbrev jL:TypeId:=155
abbrev aS:TypeId:=163
abbrev k9:TypeId:=196
abbrev ya:zR:=[ab 118 3,ab 119 118,cn 120 119 8,oy 121 119 (.cmp .eql (.sc .int) (.t 120) (.c (.int .i64 0))),bH 122 119 121,ab 123 122,oy 124 123 (.load true 8 (.t 5)),oy 125 123 (.call (.f rm) [.t 124]),oy 126 123 (.cmp .eql (.sc .int) (.t 125) (.c (.int .i64 0))),bH 127 123 126,ab 128 127,oy 129 128 (.off 0 (.t 5)),oy 130 128 (.load true 5 (.t 129)),oy 131 128 (.call (.f vJ) [.t 130]),bH 132 128 131,ab 133 132,cn 134 133 11,bH 135 133 134,ab 136 135,cn 137 136 12,bH 138 136 137,ab 139 138,oy 140 139 (.off 6 (.t 5)),cG 141 139 1 140,oy 142 139 (.len (.t 141)),oy 143 139 (.off 2 (.t 1)),cG 144 139 1 143,oy 145 139 (.len (.t 144)),oy 146 139 (.cmp .eql (.sc .int) (.t 142) (.t 145)),bH 147 139 146,ab 2 147]
abbrev yd:zR:=[al 113 7 5,ai 114 1 113,al 115 1 1,ai 116 1 115,cB 117 oA 114 116,ab 12 117]
abbrev ye:zR:=[al 108 5 5,ai 109 1 108,al 110 0 1,ai 111 1 110,cB 112 oA 109 111,ab 11 112]
abbrev yf:zB:=O::I::O::I::O::I::O::O::I::O::I::(by(iterate 137 refine O::?_);exact[])
abbrev yg:zB:=O::I::O::I::O::I::O::O::I::(by(iterate 139 refine O::?_);exact[])
abbrev yh:zR:=[ab 64 10,bz 65 64 1,ab 10 65]
abbrev yi:zR:=[kT 2]
abbrev yj:ah:=.seq (.ae yi) .ret
abbrev yk:zR:=[ab 66 10,al 67 6 5,ai 68 1 67,aN 69 68,o 70 (.cmp .geq (.sc .int) (.t 66) (.t 69)),ab 71 70,on 72 71 (.off 6 (.t 5)),on 73 71 (.load false 1 (.t 72)),on 74 71 (.mv (.t 10)),on 75 71 (.g_ 1 (.t 73) (.t 74)),on 76 71 (.load false 1 (.t 75)),on 77 71 (.off 2 (.t 1)),on 78 71 (.load false 1 (.t 77)),on 79 71 (.mv (.t 10)),on 80 71 (.g_ 3 (.t 78) (.t 79)),on 81 71 (.off 0 (.t 80)),on 82 71 (.load false 1 (.t 81)),on 83 71 (.cmp .neq (.sc .str) (.t 76) (.t 82)),o 84 (.pick (.t 71) (.c (.bool true)) (.t 83)),ab 85 84,on 86 85 (.mv (.t 10)),on 87 85 (.off 0 (.t 5)),on 88 85 (.off 2 (.t 87)),on 89 85 (.load false 1 (.t 88)),on 90 85 (.len (.t 89)),on 91 85 (.cmp .geq (.sc .int) (.t 86) (.t 90)),o 92 (.pick (.t 85) (.c (.bool true)) (.t 91)),ab 93 92,on 94 93 (.off 0 (.t 5)),on 95 93 (.off 2 (.t 94)),on 96 93 (.load false 1 (.t 95)),on 97 93 (.mv (.t 10)),on 98 93 (.g_ 1 (.t 96) (.t 97)),on 99 93 (.load false 1 (.t 98)),on 100 93 (.off 2 (.t 1)),on 101 93 (.load false 1 (.t 100)),on 102 93 (.mv (.t 10)),on 103 93 (.g_ 3 (.t 101) (.t 102)),on 104 93 (.off 2 (.t 103)),on 105 93 (.load false 1 (.t 104)),on 106 93 (.cmp .neq (.sc .int) (.t 99) (.t 105)),o 107 (.pick (.t 93) (.c (.bool true)) (.t 106))]
abbrev ym:ah:=.seq (.aQ ((by(iterate 42 refine O::?_);exact[])) [43,43,43,43,43,43,43,43,43,43,43,43,43,43,43,43,43,43,43,43,43,43,43,43,43,43,43,43,43,43,43,43,43,43,43,43,43,43,43,43,43,43] yk) (.cond (.t 107) yj .skip)
abbrev yo:zR:=[ab 59 10,al 60 2 1,ai 61 1 60,aN 62 61,cL 63 59 62]
abbrev yp:ah:=.seq (.seq (.ae yo) (.cond (.t 63) .skip (.exit 0))) (.seq (.block 1 [] ym) (.ae yh))
abbrev yq:zR:=[aO 10 0]
abbrev yr:zR:=[ab 34 3,ab 35 34,cn 36 35 6,cn 37 35 8,oy 38 35 (.cmp .eql (.sc .int) (.t 36) (.t 37)),bH 39 35 38,ab 40 39,cn 41 40 7,cn 42 40 9,oy 43 40 (.cmp .eql (.sc .str) (.t 41) (.t 42)),bH 44 40 43,ab 45 44,oy 46 45 (.off 5 (.t 5)),cG 47 45 1 46,oy 48 45 (.len (.t 47)),oy 49 45 (.off 7 (.t 5)),cG 50 45 1 49,oy 51 45 (.len (.t 50)),oy 52 45 (.bB .add (.t 48) (.t 51)),oy 53 45 (.off 6 (.t 5)),cG 54 45 1 53,oy 55 45 (.len (.t 54)),oy 56 45 (.bB .add (.t 52) (.t 55)),oy 57 45 (.cmp .eql (.sc .int) (.t 56) (.c (.int .i64 0))),bH 58 45 57,ab 2 58]
abbrev yu:ah:=.seq (.ae yr) .ret
abbrev yv:zR:=[ab 32 6,o 33 (.cmp .neq (.sc .int) (.t 32) (.c (.int .i64 0)))]
abbrev yw:zR:=[ab 31 3,ab 2 31]
abbrev yx:ah:=.seq (.ae yw) .ret
abbrev yy:zR:=[ab 29 4,o 30 (.not (.t 29))]
abbrev yz:zR:=[aI 25 4 1,aT 26 ta 25,ab 24 26,bj 27 24 0,bj 28 24 1,ab 8 27,ab 9 28]
abbrev yA:zR:=[aI 19 4 1,aT 20 j9 19,ab 18 20,bj 21 18 0,bj 22 18 1,bj 23 18 2,o 5 (.alloc [.int .i64 0,.own 1 an [],.own 1 an [],.own 2 cM [],.own 1 an [],.own 1 aE [],.own 1 aE [],.own 1 aE []]),aM 8 5 21,ab 6 22,ab 7 23]
abbrev yB:zR:=[aI 16 4 1,aT 17 tm 16,ab 4 17]
abbrev yE:zR:=[ab 14 3,o 15 (.not (.t 14))]
abbrev yF:zR:=[o 13 (.call (.f vT) []),ab 3 13]
abbrev yG:zR:=[o 1 (.box 4 (.t 0)),kT 2]
abbrev U0:aA:=⟨.seq (.ae yG) (.seq (.ae yF) (.seq (.seq (.ae yE) (.cond (.t 15) yj .skip)) (.seq (.ae yB) (.seq (.ae yA) (.seq (.ae yz) (.seq (.seq (.ae yy) (.cond (.t 30) yx .skip)) (.seq (.seq (.ae yv) (.cond (.t 33) yu .skip)) (.seq (.seq (.ae yq) (.block 0 yg (.loop yf yp))) (.seq (.ae ye) (.seq (.ae yd) (.seq (.ae ya) .ret))))))))))),148,[.tmp 2]⟩
abbrev yH:zI:=[.code (.seq (.ae ye) (.seq (.ae yd) (.seq (.ae ya) .ret)))]
abbrev yI(x1 x3 x5 x8 x10:AV)(h:List Ob)(e:Cx:=cx):aq:=bm zg (.code yp::.inLoop yf yp::.inBlock 0 yg::yH) (U::x1::U::x3::U::x5::U::U::x8::U::x10::(by(iterate 137 refine U::?_);exact[])) h e
@[simp] theorem Us:az Tryz.prog zg=some U0:=by kernel_rfl
@[simp] theorem awA:ar Tryz.prog zg=true:=by kernel_rfl
abbrev yJ:zR:=[ab 63 7,ab 64 63,cn 65 64 14,cn 66 64 17,oy 67 64 (.cmp .eql (.sc .int) (.t 65) (.t 66)),bH 68 64 67,ab 69 68,cn 70 69 12,cn 71 69 15,oy 72 69 (.call (.f zF) [.t 70,.t 71]),bH 73 69 72,ab 74 73,cn 75 74 13,cn 76 74 16,oy 77 74 (.call (.f zF) [.t 75,.t 76]),bH 78 74 77,ab 6 78]
abbrev yK:zR:=[al 55 0 9,aI 56 5 55,ab 57 1,ab 58 2,o 59 (.call (.f D8) [.t 56,.t 57,.t 58]),ab 54 59,bj 60 54 0,bj 61 54 1,bj 62 54 2,ab 15 60,ab 16 61,ab 17 62]
abbrev yL:zR:=[aI 47 4 3,ab 48 1,ab 49 2,o 50 (.call (.f DZ) [.t 47,.t 48,.t 49]),ab 46 50,bj 51 46 0,bj 52 46 1,bj 53 46 2,ab 12 51,ab 13 52,ab 14 53]
abbrev yM:zR:=[ab 45 7,ab 6 45]
abbrev yN:ah:=.seq (.ae yM) .ret
abbrev yO:zR:=[ab 29 8,o 30 (.not (.t 29)),ab 31 30,on 32 31 (.mv (.t 10)),on 33 31 (.cmp .neq (.sc .int) (.t 32) (.c (.int .i64 0))),o 34 (.pick (.t 31) (.c (.bool true)) (.t 33)),ab 35 34,on 36 35 (.mv (.t 1)),on 37 35 (.len (.t 36)),on 38 35 (.cmp .gtr (.sc .int) (.t 37) (.c (.int .i64 60))),o 39 (.pick (.t 35) (.c (.bool true)) (.t 38)),ab 40 39,on 41 40 (.mv (.t 2)),on 42 40 (.len (.t 41)),on 43 40 (.cmp .gtr (.sc .int) (.t 42) (.c (.int .i64 60))),o 44 (.pick (.t 40) (.c (.bool true)) (.t 43))]
abbrev yP:zR:=[aI 24 4 3,aT 25 j9 24,ab 23 25,bj 26 23 0,bj 27 23 1,bj 28 23 2,o 9 (.alloc [.int .i64 0,.own 1 an [],.own 1 an [],.own 2 cM [],.own 1 an [],.own 1 aE [],.own 1 aE [],.own 1 aE []]),aM 8 9 26,ab 10 27,ab 11 28]
abbrev yQ:zR:=[aI 21 4 3,aT 22 tm 21,ab 8 22]
abbrev yR:zR:=[kT 6]
abbrev yS:ah:=.seq (.ae yR) .ret
abbrev yT:zR:=[ab 19 7,o 20 (.not (.t 19))]
abbrev yU:zR:=[o 18 (.call (.f vT) []),ab 7 18]
abbrev yV:zR:=[o 3 (.box 4 (.t 0)),kT 6]
abbrev UU:aA:=⟨.seq (.ae yV) (.seq (.ae yU) (.seq (.seq (.ae yT) (.cond (.t 20) yS .skip)) (.seq (.ae yQ) (.seq (.ae yP) (.seq (.seq (.ae yO) (.cond (.t 44) yN .skip)) (.seq (.ae yL) (.seq (.ae yK) (.seq (.ae yJ) .ret)))))))),79,[.tmp 6]⟩
@[simp] theorem awr:az Tryz.prog JE=some UU:=by kernel_rfl
@[simp] theorem awx:ar Tryz.prog JE=true:=by kernel_rfl
abbrev yX:zR:=[ab 41 3,o 42 (.cmp .eql (.sc .int) (.t 41) (.c (.int .i64 0))),ab 43 42,cn 44 43 4,oy 45 43 (.cmp .eql (.sc .str) (.t 44) (.c (.str []))),bH 46 43 45,ab 47 46,oy 48 47 (.off 0 (.t 2)),oy 49 47 (.load true 5 (.t 48)),oy 50 47 (.load true 5 (.t 5)),oy 51 47 (.call (.f vY) [.t 49,.t 50]),bH 52 47 51,ab 53 52,oy 54 53 (.off 6 (.t 2)),cG 55 53 1 54,oy 56 53 (.lit 1 [.str []] [(0,.c (.str [113]))]),oy 57 53 (.call (.f oA) [.t 55,.t 56]),bH 58 53 57,ab 59 58,cn 60 59 7,oy 61 59 (.cmp .eql (.sc .int) (.t 60) (.c (.int .i64 6))),bH 62 59 61,ab 63 62,cn 64 63 8,oy 65 63 (.cmp .eql (.sc .str) (.t 64) (.c (.str [121]))),bH 66 63 65,ab 67 66,oy 68 67 (.load true 8 (.t 2)),oy 69 67 (.call (.f rm) [.t 68]),oy 70 67 (.cmp .eql (.sc .int) (.t 69) (.c (.int .i64 0))),bH 71 67 70,ab 72 71,oy 73 72 (.load true 8 (.t 9)),oy 74 72 (.call (.f rm) [.t 73]),oy 75 72 (.cmp .eql (.sc .int) (.t 74) (.c (.int .i64 5))),bH 76 72 75,ab 77 76,oy 78 77 (.load true 8 (.t 2)),oy 79 77 (.call (.f td) [.t 78,.c (.str [113])]),oy 80 77 (.cmp .eql (.sc .int) (.t 79) (.c (.int .i64 3))),bH 81 77 80,ab 82 81,oy 83 82 (.load true 8 (.t 2)),oy 84 82 (.call (.f td) [.t 83,.c (.str [122])]),oy 85 82 (.cmp .eql (.sc .int) (.t 84) (.c (.int .i64 (-1)))),bH 86 82 85,ab 87 86,oy 88 87 (.load true 8 (.t 2)),oy 89 87 (.load true 8 (.t 2)),oy 90 87 (.call (.f vM) [.t 88,.t 89]),bH 91 87 90,ab 92 91,oy 93 92 (.load true 8 (.t 2)),oy 94 92 (.load true 8 (.t 9)),oy 95 92 (.call (.f vM) [.t 93,.t 94]),oy 96 92 (.not (.t 95)),bH 97 92 96,ab 0 97]
abbrev yY:zR:=[o 39 (.lit 1 [.str []] [(0,.c (.str [97]))]),al 40 7 9,aM 1 40 39]
abbrev yZ:zR:=[aI 38 8 2,o 9 (.alloc [.int .i64 0,.own 1 an [],.own 1 an [],.own 2 cM [],.own 1 an [],.own 1 aE [],.own 1 aE [],.own 1 aE []]),aM 8 9 38]
abbrev yba:zR:=[aI 33 4 1,aT 34 j9 33,ab 32 34,bj 35 32 0,bj 36 32 1,bj 37 32 2,o 6 (.alloc [.int .i64 0,.own 1 an [],.own 1 an [],.own 2 cM [],.own 1 an [],.own 1 aE [],.own 1 aE [],.own 1 aE []]),aM 8 6 35,ab 7 36,ab 8 37]
abbrev ybb:zR:=[o 30 (.lit 1 [.str []] [(0,.c (.str [121]))]),al 31 1 1,aM 1 31 30]
abbrev ybc:zR:=[o 24 (.lit 1 [.int .i64 0] [(0,.c (.int .i64 9))]),o 25 (.lit 1 [.int .i64 0] [(0,.c (.int .i64 1))]),o 26 (.build [.int .i64 0,.int .i64 0] [(0,1,.c (.int .i64 5)),(1,1,.c (.int .i64 3))]),o 27 (.lit 2 [.agg [.int .i64 0,.int .i64 0]] [(0,.t 26)]),o 28 (.lit 1 [.int .i64 0] [(0,.c (.int .i64 9))]),o 29 (.build [.int .i64 0,.list true 0 [],.list true 0 [],.list true 0 [],.list true 0 []] [(0,1,.c (.int .i64 2)),(1,1,.t 24),(2,1,.t 25),(3,1,.t 27),(4,1,.t 28)]),o 5 (.alloc [.int .i64 0,.own 1 an [],.own 1 an [],.own 2 cM [],.own 1 an []]),aM 5 5 29]
abbrev ybd:zR:=[aI 19 4 1,aT 20 j9 19,ab 18 20,bj 21 18 0,bj 22 18 1,bj 23 18 2,o 2 (.alloc [.int .i64 0,.own 1 an [],.own 1 an [],.own 2 cM [],.own 1 an [],.own 1 aE [],.own 1 aE [],.own 1 aE []]),aM 8 2 21,ab 3 22,ab 4 23]
abbrev ybe:zR:=[o 10 (.lit 1 [.str [],.str []] [(0,.c (.str [97])),(1,.c (.str [98]))]),o 11 (.lit 1 [.str []] [(0,.c (.str [122]))]),o 12 (.build [.str [],.str [],.int .i64 0] [(0,1,.c (.str [113])),(1,1,.c (.str [122])),(2,1,.c (.int .i64 1))]),o 13 (.lit 3 [.agg [.str [],.str [],.int .i64 0]] [(0,.t 12)]),o 14 (.lit 1 [.str [],.str []] [(0,.c (.str [97])),(1,.c (.str [98]))]),o 15 (.build [.str [],.int .i64 0,.list true 0 [],.list true 0 [],.bool false] [(0,1,.c (.str [122])),(1,1,.c (.int .i64 6)),(2,1,.t 14)]),o 16 (.lit 5 [.agg [.str [],.int .i64 0,.list true 0 [],.list true 0 [],.bool false]] [(0,.t 15)]),o 17 (.build [.list true 0 [],.list true 0 [],.list true 0 [],.list true 0 []] [(0,1,.t 10),(1,1,.t 11),(2,1,.t 13),(3,1,.t 16)]),o 1 (.alloc [.own 1 aE [],.own 1 aE [],.own 3 Vc [],.own 5 VW []]),aM 4 1 17]
abbrev ybf:zR:=[kT 0]
abbrev Yn:aA:=⟨.seq (.ae ybf) (.seq (.ae ybe) (.seq (.ae ybd) (.seq (.ae ybc) (.seq (.ae ybb) (.seq (.ae yba) (.seq (.ae yZ) (.seq (.ae yY) (.seq (.ae yX) .ret)))))))),98,[.tmp 0]⟩
@[simp] theorem Wv:az Tryz.prog vT=some Yn:=by kernel_rfl
@[simp] theorem ax1:ar Tryz.prog vT=true:=by kernel_rfl
abbrev Q5:zR:=[ab 24 3,ab 25 24,cn 26 25 4,oy 27 25 (.cmp .leq (.sc .int) (.t 26) (.c (.int .i64 40))),bH 28 25 27,ab 29 28,oy 30 29 (.off 3 (.t 1)),cG 31 29 1 30,oy 32 29 (.len (.t 31)),oy 33 29 (.cmp .leq (.sc .int) (.t 32) (.c (.int .i64 16))),bH 34 29 33,ab 2 34]
abbrev P3:zB:=O::I::O::I::I::I::(by(iterate 29 refine O::?_);exact[])
abbrev Q':zB:=O::I::O::I::I::(by(iterate 30 refine O::?_);exact[])
abbrev ybj:zR:=[ab 13 5,bz 14 13 1,ab 5 14]
abbrev ybk:zR:=[ab 15 4,al 16 3 1,ai 17 1 16,ab 18 5,aZ 19 5 17 18,al 20 3 19,ai 21 1 20,aN 22 21,o 23 (.bB .add (.t 15) (.t 22)),ab 4 23]
abbrev ybl:zR:=[ab 8 5,al 9 3 1,ai 10 1 9,aN 11 10,cL 12 8 11]
abbrev HY:ah:=.seq (.seq (.ae ybl) (.cond (.t 12) .skip (.exit 0))) (.seq (.block 1 [] (.ae ybk)) (.ae ybj))
abbrev qF:zR:=[aO 5 0]
abbrev mw:zR:=[aO 4 0]
abbrev ybp:zR:=[aI 6 4 1,aT 7 zw 6,ab 3 7]
abbrev YF:aA:=⟨.seq (.ae yG) (.seq (.ae ybp) (.seq (.ae mw) (.seq (.seq (.ae qF) (.block 0 Q' (.loop P3 HY))) (.seq (.ae Q5) .ret)))),35,[.tmp 2]⟩
abbrev ybr:zI:=[.code (.seq (.ae Q5) .ret)]
abbrev ybs(x1 x3 x4 x5:AV)(h:List Ob)(e:Cx:=cx):aq:=bm tm (.code HY::.inLoop P3 HY::.inBlock 0 Q'::ybr) (U::x1::U::x3::x4::x5::(by(iterate 29 refine U::?_);exact[])) h e
@[simp] theorem Wc:az Tryz.prog tm=some YF:=by kernel_rfl
@[simp] theorem axM:ar Tryz.prog tm=true:=by kernel_rfl
abbrev Co:zR:=[aI 148 8 2,aM 8 2 148,q (.store 1 (.t 3) (.c (.int .i64 0))),q (.store 1 (.t 4) (.c (.str [])))]
abbrev Cq:zR:=[ab 140 7,o 141 (.cr (.t 140)),al 142 0 141,aI 143 5 142,aT 144 ox 143,ab 139 144,bj 145 139 0,bj 146 139 1,al 147 0 2,aM 5 147 145]
abbrev BX:zR:=[ab 124 7,ab 125 7,ab 126 11,ab 127 12,o 128 (.call (.t 126) [.t 127]),ab 129 11,al 130 1 1,ai 131 1 130,o 132 (.call (.t 129) [.t 131]),o 133 (.cr (.t 124)),al 134 0 133,al 135 1 134,aM 1 135 128,o 136 (.cr (.t 125)),al 137 0 136,al 138 4 137,aM 1 138 132]
abbrev Cw:zB:=O::I::I::I::I::O::O::I::I::O::O::I::I::(by(iterate 89 refine O::?_);exact I::I::I::(by(iterate 44 refine O::?_);exact[]))
abbrev CW:zB:=O::I::I::I::I::O::O::I::O::O::O::I::I::(by(iterate 136 refine O::?_);exact[])
abbrev yby:zR:=[bz 123 104 1,ab 104 123]
abbrev ybz:zR:=[ai 113 1 8,al 114 0 19,ai 115 1 114,ab 116 7,aI 117 5 19,ab 118 11,al 119 2 19,ai 120 1 119,o 121 (.call (.t 118) [.t 120]),o 122 (.call (.f vA) [.t 116,.t 117,.t 121]),q (.bG (.sc .str) (.t 113) (.t 115) (.t 122))]
abbrev ybA:zR:=[al 108 3 1,ai 109 1 108,ab 110 18,aZ 111 5 109 110,aI 112 5 111,o 19 (.alloc [.str [],.int .i64 0,.own 1 aE [],.own 1 aE [],.bool false]),aM 5 19 112]
abbrev ybB:zR:=[aZ 106 1 102 104,ai 107 1 106,ab 18 107]
abbrev ybC:ah:=.seq (.ae ybB) (.seq (.ae ybA) (.aQ [I,O,I,O,I,O,O,O,O,O,O] [11,11,11,10,10,9,9,9,10,11,12] ybz))
abbrev ybD:zR:=[cL 105 104 103]
abbrev xJ:ah:=.seq (.ae ybD) (.seq (.cond (.t 105) .skip (.exit 4)) (.seq (.block 5 [] ybC) (.ae yby)))
abbrev Hp:zR:=[ab 102 15,aN 103 102,aO 104 0]
abbrev G5:zR:=[aI 98 4 1,aT 99 mH 98,ab 97 99,bj 100 97 0,bj 101 97 1,ab 15 100,ab 16 101]
abbrev IG:zB:=O::I::I::I::I::O::O::I::I::O::O::I::I::(by(iterate 52 refine O::?_);exact I::I::I::(by(iterate 81 refine O::?_);exact[]))
abbrev Hw:zB:=O::I::I::I::I::O::O::I::I::O::O::I::I::(by(iterate 136 refine O::?_);exact[])
abbrev ybJ:zR:=[bz 96 67 1,ab 67 96]
abbrev ybK:zR:=[ab 91 12,al 92 1 14,ai 93 1 92,o 94 (.lit 1 [.str []] [(0,.t 93)]),o 95 (.append 1 aE 16 (.t 91) (.t 94)),ab 12 95]
abbrev ybL:zR:=[ab 78 7,ab 79 7,o 80 (.cr (.t 79)),al 81 0 80,al 82 2 81,ai 83 1 82,al 84 2 14,ai 85 1 84,o 86 (.lit 1 [.int .i64 0] [(0,.t 85)]),o 87 (.append 1 an 8 (.t 83) (.t 86)),o 88 (.cr (.t 78)),al 89 0 88,al 90 2 89,aM 1 90 87]
abbrev ybM:zR:=[al 71 6 2,ai 72 1 71,al 73 0 14,ai 74 1 73,o 75 (.lit 1 [.str []] [(0,.t 74)]),o 76 (.append 1 aE 16 (.t 72) (.t 75)),al 77 6 2,aM 1 77 76]
abbrev ybN:zR:=[aZ 69 3 65 67,aI 70 3 69,o 14 (.alloc [.str [],.str [],.int .i64 0]),aM 3 14 70]
abbrev ybO:ah:=.seq (.ae ybN) (.seq (.ae ybM) (.seq (.aQ [O,O,O,O,O,I,O,O,O,O,O,O,O,O] [14,10,10,10,10,10,9,9,10,14,14,14,14,15] ybL) (.ae ybK)))
abbrev ybP:zR:=[cL 68 67 66]
abbrev Cp:ah:=.seq (.ae ybP) (.seq (.cond (.t 68) .skip (.exit 2)) (.seq (.block 3 [] ybO) (.ae ybJ)))
abbrev QW:zR:=[al 64 2 1,ai 65 1 64,aN 66 65,aO 67 0]
abbrev P7:zR:=[o 12 (.bE 1 aE)]
abbrev RU:zR:=[o 63 (.fH (.func ot) [] [.t 8]),ab 11 63]
abbrev Sr:zB:=O::I::I::I::I::O::O::I::I::(by(iterate 41 refine O::?_);exact I::I::I::(by(iterate 96 refine O::?_);exact[]))
abbrev Qk:zB:=O::I::I::I::I::O::O::I::I::(by(iterate 140 refine O::?_);exact[])
abbrev ybW:zR:=[bz 62 52 1,ab 52 62]
abbrev ybX:zR:=[ai 57 1 8,ab 58 10,ab 59 9,bz 60 59 1,o 61 (.bB .mul (.c (.int .i64 2)) (.t 60)),q (.bG (.sc .str) (.t 57) (.t 58) (.t 61))]
abbrev ybY:zR:=[ab 54 52,aZ 55 1 50 52,ai 56 1 55,ab 9 54,ab 10 56]
abbrev ybZ:ah:=.seq (.ae ybY) (.ae ybX)
abbrev yca:zR:=[cL 53 52 51]
abbrev HA:ah:=.seq (.ae yca) (.seq (.cond (.t 53) .skip (.exit 0)) (.seq (.block 1 [] ybZ) (.ae ybW)))
abbrev ycc:zR:=[aI 49 4 1,aT 50 pY 49,aN 51 50,aO 52 0]
abbrev ycd:zR:=[o 48 (.mkMap),o 8 (.alloc [.c_]),aM 1 8 48]
abbrev yce:zR:=[al 41 0 1,ai 42 1 41,aT 43 oq 42,al 44 1 1,ai 45 1 44,aT 46 oq 45,o 47 (.build [.int .i64 0,.list true 0 [],.list true 0 [],.list true 0 [],.list true 0 [],.list true 0 [],.list true 0 [],.list true 0 []] [(5,1,.t 43),(7,1,.t 46)]),aM 8 2 47]
abbrev ycf:zR:=[al 31 0 1,ai 32 1 31,aN 33 32,al 34 2 1,ai 35 1 34,aN 36 35,o 37 (.mkSlice 1 an 8 (.int .i64 0) (.t 36) (.t 36)),o 38 (.build [.int .i64 0,.list true 0 [],.list true 0 [],.list true 0 [],.list true 0 []] [(0,1,.t 33),(1,1,.t 37)]),o 39 (.build [.int .i64 0,.list true 0 [],.list true 0 [],.list true 0 [],.list true 0 []] [(0,5,.t 38)]),o 40 (.box 5 (.t 39)),ab 7 40]
abbrev ycg:zR:=[o 30 (.fH (.func zk) [] [.t 2,.t 3,.t 4]),q (.defer (.t 30) [])]
abbrev ych:zR:=[o 27 (.build [.int .i64 0,.list true 0 [],.list true 0 [],.list true 0 [],.list true 0 [],.list true 0 [],.list true 0 [],.list true 0 []] []),ab 28 5,ab 29 6,aM 8 2 27,aM 1 3 28,aM 1 4 29]
abbrev yci:ah:=.seq (.ae ych) .ret
abbrev ycj:zR:=[ab 25 5,o 26 (.cmp .neq (.sc .int) (.t 25) (.c (.int .i64 0)))]
abbrev yck:zR:=[aI 21 4 1,aT 22 ta 21,ab 20 22,bj 23 20 0,bj 24 20 1,ab 5 23,ab 6 24]
abbrev ycl:zR:=[o 1 (.box 4 (.t 0)),o 2 (.alloc [.int .i64 0,.own 1 an [],.own 1 an [],.own 2 cM [],.own 1 an [],.own 1 aE [],.own 1 aE [],.own 1 aE []]),o 3 (.alloc [.int .i64 0]),o 4 (.alloc [.str []])]
abbrev WM:aA:=⟨.seq (.ae ycl) (.seq (.seq (.ae yck) (.seq (.ae ycj) (.cond (.t 26) yci .skip))) (.seq (.ae ycg) (.seq (.aQ [O,I,O,O,O,O,O,O,O,O,O] [10,10,10,7,7,7,10,10,10,12,12] ycf) (.seq (.aQ [O,O,O,O,I,O,O,O] [3,3,6,6,6,8,8,9] yce) (.seq (.ae ycd) (.seq (.seq (.ae ycc) (.block 0 Qk (.loop Sr HA))) (.seq (.ae RU) (.seq (.ae P7) (.seq (.seq (.ae QW) (.block 2 Hw (.loop IG Cp))) (.seq (.ae G5) (.seq (.seq (.ae Hp) (.block 4 CW (.loop Cw xJ))) (.seq (.aQ [O,O,O,O,O,O,O,I,O,O,O,O,O,O,O,O,O] [13,17,5,5,9,9,9,9,13,13,13,13,17,17,17,17,18] BX) (.seq (.ae Cq) (.seq (.ae Co) .ret)))))))))))))),149,[.cell 2 true 8,.cell 3 false 1,.cell 4 false 1]⟩
abbrev R1:zI:=[.code (.seq (.aQ [O,O,O,O,O,O,O,I,O,O,O,O,O,O,O,O,O] [13,17,5,5,9,9,9,9,13,13,13,13,17,17,17,17,18] BX) (.seq (.ae Cq) (.seq (.ae Co) .ret)))]
abbrev ycn(x1 x2 x3 x4 x7 x8 x11 x12 x102 x103 x104:AV)(h:List Ob)(e:Cx:=cx):aq:=bm j9 (.code xJ::.inLoop Cw xJ::.inBlock 4 CW::R1) (U::x1::x2::x3::x4::U::U::x7::x8::U::U::x11::x12::(by(iterate 89 refine U::?_);exact x102::x103::x104::(by(iterate 44 refine U::?_);exact[]))) h e
abbrev yco(x1 x2 x3 x4 x7 x11 x12:AV)(h:List Ob)(e:Cx:=cx):aq:=bm j9 R1 (U::x1::x2::x3::x4::U::U::x7::U::U::U::x11::x12::(by(iterate 136 refine U::?_);exact[])) h e
abbrev Rf:zI:=[.code (.seq (.ae G5) (.seq (.seq (.ae Hp) (.block 4 CW (.loop Cw xJ))) (.seq (.aQ [O,O,O,O,O,O,O,I,O,O,O,O,O,O,O,O,O] [13,17,5,5,9,9,9,9,13,13,13,13,17,17,17,17,18] BX) (.seq (.ae Cq) (.seq (.ae Co) .ret)))))]
abbrev ycq(x1 x2 x3 x4 x7 x8 x11 x12 x65 x66 x67:AV)(h:List Ob)(e:Cx:=cx):aq:=bm j9 (.code Cp::.inLoop IG Cp::.inBlock 2 Hw::Rf) (U::x1::x2::x3::x4::U::U::x7::x8::U::U::x11::x12::(by(iterate 52 refine U::?_);exact x65::x66::x67::(by(iterate 81 refine U::?_);exact[]))) h e
abbrev ycr(x1 x2 x3 x4 x7 x8 x11 x12:AV)(h:List Ob)(e:Cx:=cx):aq:=bm j9 Rf (U::x1::x2::x3::x4::U::U::x7::x8::U::U::x11::x12::(by(iterate 136 refine U::?_);exact[])) h e
abbrev Qw:zI:=[.code (.seq (.ae RU) (.seq (.ae P7) (.seq (.seq (.ae QW) (.block 2 Hw (.loop IG Cp))) (.seq (.ae G5) (.seq (.seq (.ae Hp) (.block 4 CW (.loop Cw xJ))) (.seq (.aQ [O,O,O,O,O,O,O,I,O,O,O,O,O,O,O,O,O] [13,17,5,5,9,9,9,9,13,13,13,13,17,17,17,17,18] BX) (.seq (.ae Cq) (.seq (.ae Co) .ret))))))))]
abbrev yct(x1 x2 x3 x4 x7 x8 x50 x51 x52:AV)(h:List Ob)(e:Cx:=cx):aq:=bm j9 (.code HA::.inLoop Sr HA::.inBlock 0 Qk::Qw) (U::x1::x2::x3::x4::U::U::x7::x8::(by(iterate 41 refine U::?_);exact x50::x51::x52::(by(iterate 96 refine U::?_);exact[]))) h e
abbrev ycu(x1 x2 x3 x4 x7 x8:AV)(h:List Ob)(e:Cx:=cx):aq:=bm j9 Qw (U::x1::x2::x3::x4::U::U::x7::x8::(by(iterate 140 refine U::?_);exact[])) h e
@[simp] theorem VA:az Tryz.prog j9=some WM:=by kernel_rfl
@[simp] theorem awZ:ar Tryz.prog j9=true:=by kernel_rfl
abbrev ycv:zR:=[aO 2 0,o 3 (.mv (.c (.str [])))]
abbrev ycw:zR:=[ab 25 7,o 26 (.g_ 1 (.t 25) (.c (.int .i64 0))),ai 27 1 26,aO 2 7,ab 3 27]
abbrev ycx:ah:=.seq (.aQ [O,O,O,O,O] [6,6,6,6,6] ycw) .ret
abbrev ycy:zR:=[ab 22 7,aN 23 22,o 24 (.cmp .gtr (.sc .int) (.t 23) (.c (.int .i64 0)))]
abbrev ycz:zR:=[aI 18 4 1,aT 19 mH 18,ab 17 19,bj 20 17 0,bj 21 17 1,ab 6 20,ab 7 21]
abbrev ycA:zR:=[ab 15 4,ab 16 5,ab 2 15,ab 3 16]
abbrev ycB:ah:=.seq (.ae ycA) .ret
abbrev ycC:zR:=[ab 13 4,o 14 (.cmp .neq (.sc .int) (.t 13) (.c (.int .i64 0)))]
abbrev ycD:zR:=[aI 9 4 1,aT 10 nz 9,ab 8 10,bj 11 8 0,bj 12 8 1,ab 4 11,ab 5 12]
abbrev ycE:zR:=[o 1 (.box 4 (.t 0)),aO 2 0,o 3 (.mv (.c (.str [])))]
abbrev WH:aA:=⟨.seq (.ae ycE) (.seq (.seq (.ae ycD) (.seq (.ae ycC) (.cond (.t 14) ycB .skip))) (.seq (.seq (.ae ycz) (.seq (.ae ycy) (.cond (.t 24) ycx .skip))) (.seq (.ae ycv) .ret))),28,[.tmp 2,.tmp 3]⟩
@[simp] theorem Vw:az Tryz.prog ta=some WH:=by kernel_rfl
@[simp] theorem awS:ar Tryz.prog ta=true:=by kernel_rfl
abbrev sE:zR:=[o 4 (.mv (.c (.bool true)))]
abbrev Ij:zB:=I::I::O::O::O::I::(by(iterate 20 refine O::?_);exact[])
abbrev pB:zB:=(by(iterate 26 refine O::?_);exact[])
abbrev Ck:zR:=[ab 15 5,bz 16 15 1,ab 5 16]
abbrev jF:zR:=[kT 4]
abbrev lH:ah:=.seq (.ae jF) .ret
abbrev ycL:zR:=[ab 17 0,ab 18 5,aZ 19 1 17 18,ai 20 1 19,ab 21 1,ab 22 5,aZ 23 1 21 22,ai 24 1 23,o 25 (.cmp .neq (.sc .str) (.t 20) (.t 24))]
abbrev ycM:ah:=.seq (.aQ [O,O,O,O,O,O,O,O,O] [10,10,10,10,10,10,10,10,10] ycL) (.cond (.t 25) lH .skip)
abbrev PT:zR:=[ab 11 5,ab 12 0,aN 13 12,cL 14 11 13]
abbrev Ht:ah:=.seq (.seq (.ae PT) (.cond (.t 14) .skip (.exit 0))) (.seq (.block 1 [] ycM) (.ae Ck))
abbrev xv:zR:=[ab 6 0,aN 7 6,ab 8 1,aN 9 8,o 10 (.cmp .neq (.sc .int) (.t 7) (.t 9))]
abbrev Yx:aA:=⟨.seq (.ae jF) (.seq (.seq (.ae xv) (.cond (.t 10) lH .skip)) (.seq (.seq (.ae qF) (.block 0 pB (.loop Ij Ht))) (.seq (.ae sE) .ret))),26,[.tmp 4]⟩
abbrev CC:zI:=[.code (.seq (.ae sE) .ret)]
abbrev ycV(x0 x1 x5:AV)(h:List Ob)(e:Cx:=cx):aq:=bm oA (.code Ht::.inLoop Ij Ht::.inBlock 0 pB::CC) (x0::x1::U::U::U::x5::(by(iterate 20 refine U::?_);exact[])) h e
@[simp] theorem Wf:az Tryz.prog oA=some Yx:=by kernel_rfl
@[simp] theorem axT:ar Tryz.prog oA=true:=by kernel_rfl
abbrev xP:zR:=[aO 2 0]
abbrev Ri:zB:=O::I::(by(iterate 58 refine O::?_);exact I::I::I::(by(iterate 21 refine O::?_);exact[]))
abbrev QI:zB:=(by(iterate 84 refine O::?_);exact[])
abbrev ycZ:zR:=[bz 83 62 1,ab 62 83]
abbrev yda:zR:=[aO 2 5]
abbrev RQ:ah:=.seq (.ae yda) .ret
abbrev ydc:zR:=[ab 70 6,o 71 (.cmp .geq (.sc .int) (.t 70) (.c (.int .i64 0))),ab 72 71,oy 73 72 (.off 0 (.t 1)),oy 74 72 (.off 4 (.t 73)),cG 75 72 1 74,cn 76 72 4,oy 77 72 (.g_ 1 (.t 75) (.t 76)),cG 78 72 1 77,cn 79 72 6,oy 80 72 (.bB .mul (.c (.int .i64 2)) (.t 79)),oy 81 72 (.cmp .neq (.sc .int) (.t 78) (.t 80)),bH 82 72 81]
abbrev ydd:zR:=[aI 67 8 1,ab 68 5,cB 69 td 67 68,ab 6 69]
abbrev yde:zR:=[ab 64 62,aZ 65 1 60 62,ai 66 1 65,ab 4 64,ab 5 66]
abbrev ydf:ah:=.seq (.ae yde) (.seq (.ae ydd) (.seq (.ae ydc) (.cond (.t 82) RQ .skip)))
abbrev P6:zR:=[cL 63 62 61]
abbrev Ib:ah:=.seq (.ae P6) (.seq (.cond (.t 63) .skip (.exit 1)) (.seq (.block 2 [] ydf) (.ae ycZ)))
abbrev ydi:zR:=[al 59 7 1,ai 60 1 59,aN 61 60,aO 62 0]
abbrev ydj:zR:=[ab 13 3,ab 2 13]
abbrev ydk:zR:=[aO 2 1]
abbrev ydl:zR:=[aO 2 4]
abbrev ydo:zR:=[al 56 7 1,ai 57 1 56,aT 58 te 57,ab 48 58]
abbrev ydp:zR:=[al 49 5 1,ai 50 1 49,al 51 6 1,ai 52 1 51,o 53 (.lit 1 [.list true 0 [],.list true 0 []] [(0,.t 50),(1,.t 52)]),aT 54 mG 53,aT 55 te 54,ab 48 55]
abbrev ydq:ah:=.seq (.ae ydl) .ret
abbrev ydr:ah:=.seq (.seq (.ae ydp) (.cond (.t 48) .skip (.ae ydo))) (.cond (.t 48) RQ .skip)
abbrev yds:zR:=[al 45 7 1,ai 46 1 45,aT 47 tp 46,ab 38 47]
abbrev ydt:zR:=[al 42 6 1,ai 43 1 42,aT 44 tp 43,ab 38 44]
abbrev ydu:ah:=.seq (.ae ydt) (.cond (.t 38) .skip (.ae yds))
abbrev ydv:zR:=[al 39 5 1,ai 40 1 39,aT 41 tp 40,ab 38 41]
abbrev Ia:ah:=.seq (.ae ydk) .ret
abbrev ydx:ah:=.seq (.seq (.ae ydv) (.cond (.t 38) .skip ydu)) (.cond (.t 38) ydq ydr)
abbrev ydy:zR:=[al 30 7 1,ai 31 1 30,aN 32 31,al 33 0 1,al 34 4 33,ai 35 1 34,aN 36 35,o 37 (.cmp .neq (.sc .int) (.t 32) (.t 36)),ab 14 37]
abbrev ydz:zR:=[al 22 6 1,ai 23 1 22,aN 24 23,al 25 0 1,al 26 1 25,ai 27 1 26,aN 28 27,o 29 (.cmp .neq (.sc .int) (.t 24) (.t 28)),ab 14 29]
abbrev ydA:ah:=.seq (.ae ydz) (.cond (.t 14) .skip (.ae ydy))
abbrev ydB:zR:=[al 15 5 1,ai 16 1 15,aN 17 16,al 18 0 1,al 19 0 18,ai 20 1 19,o 21 (.cmp .neq (.sc .int) (.t 17) (.t 20)),ab 14 21]
abbrev ydC:ah:=.seq (.ae ydj) .ret
abbrev ydD:ah:=.seq (.seq (.ae ydB) (.cond (.t 14) .skip ydA)) (.cond (.t 14) Ia ydx)
abbrev ydE:zR:=[ab 11 3,o 12 (.cmp .neq (.sc .int) (.t 11) (.c (.int .i64 0))),ab 10 12]
abbrev ydF:ah:=.seq (.ae ydE) (.cond (.t 10) ydC ydD)
abbrev ydG:zR:=[al 7 0 1,aI 8 5 7,aT 9 nw 8,ab 3 9]
abbrev ydH:zR:=[o 1 (.box 8 (.t 0)),aO 2 0]
abbrev WL:aA:=⟨.seq (.ae ydH) (.seq (.ae ydG) (.seq (.block 0 [] ydF) (.seq (.seq (.ae ydi) (.block 1 QI (.loop Ri Ib))) (.seq (.ae xP) .ret)))),84,[.tmp 2]⟩
abbrev Rv:zI:=[.code (.seq (.ae xP) .ret)]
abbrev ydJ(x1 x60 x61 x62:AV)(h:List Ob)(e:Cx:=cx):aq:=bm rm (.code Ib::.inLoop Ri Ib::.inBlock 1 QI::Rv) (U::x1::(by(iterate 58 refine U::?_);exact x60::x61::x62::(by(iterate 21 refine U::?_);exact[]))) h e
@[simp] theorem Vi:az Tryz.prog rm=some WL:=by kernel_rfl
@[simp] theorem awX:ar Tryz.prog rm=true:=by kernel_rfl
abbrev IV:zR:=[o 2 (.mv (.c (.bool true)))]
abbrev Qh:zB:=O::I::O::I::O::O::O::O::O::O::O::O::I::I::I::(by(iterate 42 refine O::?_);exact[])
abbrev Sk:zB:=(by(iterate 57 refine O::?_);exact[])
abbrev ydN:zR:=[bz 56 14 1,ab 14 56]
abbrev ydQ:zR:=[o 19 (.eB 2 1 (.t 5) (.c (.int .i64 0))),ai 20 1 19,o 21 (.eB 2 1 (.t 5) (.c (.int .i64 1))),ai 22 1 21,o 23 (.cmp .leq (.sc .int) (.t 20) (.t 22)),ab 24 23,on 25 24 (.eB 2 1 (.t 5) (.c (.int .i64 1))),on 26 24 (.load false 1 (.t 25)),on 27 24 (.cmp .leq (.sc .int) (.t 26) (.c (.int .i64 1))),o 28 (.pick (.t 24) (.c (.bool true)) (.t 27)),ab 29 28,on 30 29 (.eB 2 1 (.t 5) (.c (.int .i64 0))),on 31 29 (.load false 1 (.t 30)),on 32 29 (.bB .shr (.t 31) (.c (.int .u64 1))),on 33 29 (.eB 2 1 (.t 5) (.c (.int .i64 1))),on 34 29 (.load false 1 (.t 33)),on 35 29 (.bB .shr (.t 34) (.c (.int .u64 1))),on 36 29 (.cmp .eql (.sc .int) (.t 32) (.t 35)),o 37 (.pick (.t 29) (.c (.bool true)) (.t 36)),ab 38 37,on 39 38 (.mv (.t 3)),on 40 38 (.load true 5 (.t 1)),on 41 38 (.call (.f ke) [.t 40]),on 42 38 (.mv (.t 4)),on 43 38 (.bB .add (.t 41) (.t 42)),on 44 38 (.g_ 1 (.t 39) (.t 43)),on 45 38 (.load false 1 (.t 44)),on 46 38 (.not (.t 45)),o 47 (.pick (.t 38) (.c (.bool true)) (.t 46)),ab 48 47,on 49 48 (.off 3 (.t 1)),on 50 48 (.load false 1 (.t 49)),on 51 48 (.mv (.t 4)),on 52 48 (.slice 2 (.t 50) none (some (.t 51))),on 53 48 (.load true 2 (.t 5)),on 54 48 (.call (.f y4) [.t 52,.t 53]),o 55 (.pick (.t 48) (.c (.bool true)) (.t 54))]
abbrev ydR:zR:=[ab 16 14,aZ 17 2 12 14,aI 18 2 17,o 5 (.alloc [.int .i64 0,.int .i64 0]),ab 4 16,aM 2 5 18]
abbrev ydS:ah:=.seq (.ae ydR) (.seq (.aQ ((by(iterate 37 refine O::?_);exact[])) [23,23,23,23,23,23,23,23,23,23,23,23,23,23,23,23,23,23,23,23,36,23,36,36,36,36,36,36,36,36,36,36,36,36,36,38,38] ydQ) (.cond (.t 55) yj .skip))
abbrev Ii:zR:=[cL 15 14 13]
abbrev HC:ah:=.seq (.ae Ii) (.seq (.cond (.t 15) .skip (.exit 0)) (.seq (.block 1 [] ydS) (.ae ydN)))
abbrev ydV:zR:=[al 11 3 1,ai 12 1 11,aN 13 12,aO 14 0]
abbrev ydW:zR:=[aI 9 5 1,aT 10 p1 9,ab 3 10]
abbrev ydZ:zR:=[aI 6 5 1,aT 7 nw 6,o 8 (.cmp .neq (.sc .int) (.t 7) (.c (.int .i64 0)))]
abbrev CM:zR:=[o 1 (.box 5 (.t 0)),kT 2]
abbrev Xq:aA:=⟨.seq (.ae CM) (.seq (.seq (.ae ydZ) (.cond (.t 8) yj .skip)) (.seq (.ae ydW) (.seq (.seq (.ae ydV) (.block 0 Sk (.loop Qh HC))) (.seq (.ae IV) .ret)))),57,[.tmp 2]⟩
abbrev yeb:zI:=[.code (.seq (.ae IV) .ret)]
abbrev yec(x1 x3 x12 x13 x14:AV)(h:List Ob)(e:Cx:=cx):aq:=bm vJ (.code HC::.inLoop Qh HC::.inBlock 0 Sk::yeb) (U::x1::U::x3::U::U::U::U::U::U::U::U::x12::x13::x14::(by(iterate 42 refine U::?_);exact[])) h e
@[simp] theorem VQ:az Tryz.prog vJ=some Xq:=by kernel_rfl
@[simp] theorem axj:ar Tryz.prog vJ=true:=by kernel_rfl
abbrev yed:zR:=[ab 19 9,ab 20 1,ab 21 2,o 22 (.call (.f za) [.t 19,.t 20,.t 21]),bj 23 22 0,bj 24 22 1,bj 25 22 2,ab 6 23,ab 7 24,ab 8 25]
abbrev yee:zR:=[ab 18 10,o 6 (.bE 1 cD),o 7 (.bE 1 cD),ab 8 18]
abbrev yef:ah:=.seq (.ae yee) .ret
abbrev yeg:zR:=[ab 16 10,o 17 (.cmp .neq (.sc .int) (.t 16) (.c (.int .i64 0)))]
abbrev yeh:zR:=[aI 12 4 3,aT 13 zy 12,ab 11 13,bj 14 11 0,bj 15 11 1,ab 9 14,ab 10 15]
abbrev yei:zR:=[o 3 (.box 4 (.t 0)),o 6 (.bE 1 cD),o 7 (.bE 1 cD),aO 8 0]
abbrev X_:aA:=⟨.seq (.ae yei) (.seq (.ae yeh) (.seq (.seq (.ae yeg) (.cond (.t 17) yef .skip)) (.seq (.ae yed) .ret))),26,[.tmp 6,.tmp 7,.tmp 8]⟩
@[simp] theorem ax2:az Tryz.prog DZ=some X_:=by kernel_rfl
@[simp] theorem axB:ar Tryz.prog DZ=true:=by kernel_rfl
abbrev yej:zR:=[ab 23 11,al 24 4 3,ai 25 1 24,o 26 (.call (.t 23) [.t 25]),ab 27 11,al 28 1 3,ai 29 1 28,o 30 (.call (.t 27) [.t 29]),ab 6 26,ab 7 30,aO 8 0]
abbrev yek:zR:=[o 22 (.fH (.func Dz) [] [.t 9]),ab 11 22]
abbrev yel:zR:=[ab 21 10,o 6 (.bE 1 cD),o 7 (.bE 1 cD),ab 8 21]
abbrev yem:ah:=.seq (.ae yel) .ret
abbrev yen:zR:=[ab 19 10,o 20 (.cmp .neq (.sc .int) (.t 19) (.c (.int .i64 0)))]
abbrev yeo:zR:=[aI 13 5 3,ab 14 1,ab 15 2,o 16 (.call (.f DA) [.t 13,.t 14,.t 15]),ab 12 16,bj 17 12 0,bj 18 12 1,o 9 (.alloc [.own 1 cD []]),aM 1 9 17,ab 10 18]
abbrev yep:zR:=[o 3 (.box 5 (.t 0)),o 6 (.bE 1 cD),o 7 (.bE 1 cD),aO 8 0]
abbrev aaZ:aA:=⟨.seq (.ae yep) (.seq (.ae yeo) (.seq (.seq (.ae yen) (.cond (.t 20) yem .skip)) (.seq (.ae yek) (.seq (.aQ [O,O,O,O,O,O,I,O,O,O,O] [4,4,4,8,8,8,8,12,12,12,12] yej) .ret)))),31,[.tmp 6,.tmp 7,.tmp 8]⟩
@[simp] theorem ayl:az Tryz.prog D8=some aaZ:=by kernel_rfl
@[simp] theorem ayw:ar Tryz.prog D8=true:=by kernel_rfl
abbrev yey:zR:=[ab 17 0,ab 18 5,aZ 19 1 17 18,ai 20 1 19,ab 21 1,ab 22 5,aZ 23 1 21 22,ai 24 1 23,o 25 (.cmp .neq (.sc .bool) (.t 20) (.t 24))]
abbrev yez:ah:=.seq (.aQ [O,O,O,O,O,O,O,O,O] [10,10,10,10,10,10,10,10,10] yey) (.cond (.t 25) lH .skip)
abbrev yeB:ah:=.seq (.seq (.ae PT) (.cond (.t 14) .skip (.exit 0))) (.seq (.block 1 [] yez) (.ae Ck))
abbrev Zi:aA:=⟨.seq (.ae jF) (.seq (.seq (.ae xv) (.cond (.t 10) lH .skip)) (.seq (.seq (.ae qF) (.block 0 pB (.loop Ij yeB))) (.seq (.ae sE) .ret))),26,[.tmp 4]⟩
@[simp] theorem ax8:az Tryz.prog zF=some Zi:=by kernel_rfl
@[simp] theorem axO:ar Tryz.prog zF=true:=by kernel_rfl
abbrev IC:zR:=[ab 23 0,aN 24 23,ab 25 1,o 26 (.cmp .leq (.sc .int) (.t 24) (.t 25)),ab 4 26]
abbrev G0:zB:=I::I::O::O::O::I::(by(iterate 21 refine O::?_);exact[])
abbrev Io:zB:=I::I::(by(iterate 25 refine O::?_);exact[])
abbrev yeN:zR:=[ab 17 0,ab 18 5,aZ 19 1 17 18,ai 20 1 19,aN 21 20,o 22 (.cmp .gtr (.sc .int) (.t 21) (.c (.int .i64 60)))]
abbrev yeO:ah:=.seq (.ae yeN) (.cond (.t 22) lH .skip)
abbrev RA:zR:=[ab 6 5,ab 7 0,aN 8 7,cL 9 6 8,ab 10 9,cn 11 10 5,cn 12 10 1,oy 13 10 (.cmp .leq (.sc .int) (.t 11) (.t 12)),bH 14 10 13]
abbrev yeQ:ah:=.seq (.seq (.ae RA) (.cond (.t 14) .skip (.exit 0))) (.seq (.block 1 [] yeO) (.ae Ck))
abbrev aah:aA:=⟨.seq (.ae jF) (.seq (.seq (.ae qF) (.block 0 Io (.loop G0 yeQ))) (.seq (.ae IC) .ret)),27,[.tmp 4]⟩
@[simp] theorem ayn:az Tryz.prog Kv=some aah:=by kernel_rfl
@[simp] theorem ayk:ar Tryz.prog Kv=true:=by kernel_rfl
abbrev yeT:zR:=[ai 48 1 11,ai 49 1 4,aT 50 Dd 49,ab 6 48,ab 7 50,aO 8 0]
abbrev yeU:zR:=[ai 47 1 10,o 6 (.bE 1 rG),o 7 (.bE 1 cD),ab 8 47]
abbrev yeV:ah:=.seq (.aQ [I,O,O,O] [5,3,5,5] yeU) .ret
abbrev yeW:zR:=[ai 45 1 10,o 46 (.cmp .neq (.sc .int) (.t 45) (.c (.int .i64 0)))]
abbrev yeX:zR:=[ab 13 39]
abbrev yeY:zR:=[ab 12 38]
abbrev yeZ:zR:=[ai 40 1 11,ab 41 12,o 42 (.lit 1 [.list true 0 []] [(0,.t 41)]),o 43 (.append 1 rG 24 (.t 40) (.t 42)),ab 44 13,aM 1 11 43,aM 1 4 44]
abbrev yfa:ah:=.seq (.ae yeY) (.ae yeX)
abbrev yfb:ah:=.block 2 [] (.ae yeZ)
abbrev yfc:ah:=.rangeFunc (.t 37) [38,39] (O::O::O::O::I::O::I::I::I::O::O::I::(by(iterate 39 refine O::?_);exact[])) yfa yfb
abbrev yfd:zR:=[ab 34 9,ai 35 1 4,ab 36 2,o 37 (.call (.f Dk) [.t 34,.t 35,.t 36,.t 10])]
abbrev yfe:zR:=[o 11 (.alloc [.own 1 rG []])]
abbrev yff:zR:=[ai 22 1 10,o 6 (.bE 1 rG),o 7 (.bE 1 cD),ab 8 22]
abbrev yfg:zR:=[o 6 (.bE 1 rG),o 7 (.bE 1 cD),aO 8 8]
abbrev yfh:zR:=[o 6 (.bE 1 rG),o 7 (.bE 1 cD),aO 8 11]
abbrev yfi:ah:=.seq (.ae yfh) .ret
abbrev yfj:zR:=[ai 28 1 4,aN 29 28,al 30 2 3,ai 31 1 30,aN 32 31,o 33 (.cmp .neq (.sc .int) (.t 29) (.t 32)),ab 27 33]
abbrev yfk:ah:=.seq (.ae yfg) .ret
abbrev fY:ah:=.seq (.ae yfj) (.cond (.t 27) yfi .skip)
abbrev yfm:zR:=[ab 24 2,aN 25 24,o 26 (.cmp .gtr (.sc .int) (.t 25) (.c (.int .i64 40))),ab 23 26]
abbrev yfn:ah:=.seq (.aQ [I,O,O,O] [5,3,5,5] yff) .ret
abbrev yfo:ah:=.seq (.ae yfm) (.cond (.t 23) yfk fY)
abbrev yfp:zR:=[ai 20 1 10,o 21 (.cmp .neq (.sc .int) (.t 20) (.c (.int .i64 0))),ab 19 21]
abbrev yfq:ah:=.seq (.ae yfp) (.cond (.t 19) yfn yfo)
abbrev yfr:zR:=[aI 15 4 3,aT 16 zy 15,ab 14 16,bj 17 14 0,bj 18 14 1,o 10 (.alloc [.int .i64 0]),ab 9 17,aM 1 10 18]
abbrev yfs:zR:=[o 3 (.box 4 (.t 0)),o 4 (.box 1 (.t 1)),o 6 (.bE 1 rG),o 7 (.bE 1 cD),aO 8 0]
abbrev ZF:aA:=⟨.seq (.ae yfs) (.seq (.ae yfr) (.seq (.block 0 [] yfq) (.seq (.ae yfe) (.seq (.seq (.ae yfd) (.block 1 [] yfc)) (.seq (.seq (.ae yeW) (.cond (.t 46) yeV .skip)) (.seq (.aQ [I,O,O,O,O,O] [7,3,7,7,7,7] yeT) .ret)))))),51,[.tmp 6,.tmp 7,.tmp 8]⟩
@[simp] theorem ayt:az Tryz.prog KG=some ZF:=by kernel_rfl
@[simp] theorem ayf:ar Tryz.prog KG=true:=by kernel_rfl
abbrev yft:zR:=[al 5 0 2,ai 6 1 5,al 7 0 3,ai 8 1 7,o 9 (.cmp .eql (.sc .int) (.t 6) (.t 8)),ab 10 9,oy 11 10 (.off 1 (.t 2)),cG 12 10 1 11,oy 13 10 (.off 1 (.t 3)),cG 14 10 1 13,oy 15 10 (.call (.f re) [.t 12,.t 14]),bH 16 10 15,ab 17 16,oy 18 17 (.off 2 (.t 2)),cG 19 17 1 18,oy 20 17 (.off 2 (.t 3)),cG 21 17 1 20,oy 22 17 (.call (.f re) [.t 19,.t 21]),bH 23 17 22,ab 24 23,oy 25 24 (.off 3 (.t 2)),cG 26 24 1 25,oy 27 24 (.off 3 (.t 3)),cG 28 24 1 27,oy 29 24 (.call (.f vu) [.t 26,.t 28]),bH 30 24 29,ab 31 30,oy 32 31 (.off 4 (.t 2)),cG 33 31 1 32,oy 34 31 (.off 4 (.t 3)),cG 35 31 1 34,oy 36 31 (.call (.f re) [.t 33,.t 35]),bH 37 31 36,ab 4 37]
abbrev yfu:zR:=[o 2 (.box 5 (.t 0)),o 3 (.box 5 (.t 1)),kT 4]
abbrev aa1:aA:=⟨.seq (.ae yfu) (.seq (.ae yft) .ret),38,[.tmp 4]⟩
@[simp] theorem XG:az Tryz.prog vY=some aa1:=by kernel_rfl
@[simp] theorem ayp:ar Tryz.prog vY=true:=by kernel_rfl
abbrev yfv:zR:=[ab 16 5,bz 17 16 1,ab 4 17]
abbrev sy:zR:=[o 4 (.mv (.c (.int .i64 (-1))))]
abbrev yfx:ah:=.seq (.ae sy) .ret
abbrev yfy:zR:=[ab 14 5,o 15 (.cmp .lss (.sc .int) (.t 14) (.c (.int .i64 0)))]
abbrev yfz:zR:=[al 6 5 2,ai 7 1 6,al 8 6 2,ai 9 1 8,o 10 (.lit 1 [.list true 0 [],.list true 0 []] [(0,.t 7),(1,.t 9)]),aT 11 mG 10,ab 12 1,cB 13 sR 11 12,ab 5 13]
abbrev yfA:zR:=[o 2 (.box 8 (.t 0)),aO 4 0]
abbrev WY:aA:=⟨.seq (.ae yfA) (.seq (.ae yfz) (.seq (.seq (.ae yfy) (.cond (.t 15) yfx .skip)) (.seq (.ae yfv) .ret))),18,[.tmp 4]⟩
@[simp] theorem VC:az Tryz.prog td=some WY:=by kernel_rfl
@[simp] theorem awV:ar Tryz.prog td=true:=by kernel_rfl
abbrev yfB:zR:=[al 5 0 2,aI 6 5 5,al 7 0 3,aI 8 5 7,cB 9 vY 6 8,ab 10 9,oy 11 10 (.off 5 (.t 2)),cG 12 10 1 11,oy 13 10 (.off 5 (.t 3)),cG 14 10 1 13,oy 15 10 (.call (.f rb) [.t 12,.t 14]),bH 16 10 15,ab 17 16,oy 18 17 (.off 6 (.t 2)),cG 19 17 1 18,oy 20 17 (.off 6 (.t 3)),cG 21 17 1 20,oy 22 17 (.call (.f rb) [.t 19,.t 21]),bH 23 17 22,ab 24 23,oy 25 24 (.off 7 (.t 2)),cG 26 24 1 25,oy 27 24 (.off 7 (.t 3)),cG 28 24 1 27,oy 29 24 (.call (.f rb) [.t 26,.t 28]),bH 30 24 29,ab 4 30]
abbrev yfC:zR:=[o 2 (.box 8 (.t 0)),o 3 (.box 8 (.t 1)),kT 4]
abbrev Xw:aA:=⟨.seq (.ae yfC) (.seq (.ae yfB) .ret),31,[.tmp 4]⟩
@[simp] theorem VM:az Tryz.prog vM=some Xw:=by kernel_rfl
@[simp] theorem axu:ar Tryz.prog vM=true:=by kernel_rfl
abbrev yfD:zR:=[ab 6 3,ab 7 6,oy 8 7 (.off 3 (.t 1)),cG 9 7 1 8,oy 10 7 (.len (.t 9)),oy 11 7 (.cmp .leq (.sc .int) (.t 10) (.c (.int .i64 24))),bH 12 7 11,ab 13 12,oy 14 13 (.off 0 (.t 1)),cG 15 13 1 14,oy 16 13 (.len (.t 15)),oy 17 13 (.cmp .leq (.sc .int) (.t 16) (.c (.int .i64 24))),bH 18 13 17,ab 19 18,oy 20 19 (.off 2 (.t 1)),cG 21 19 1 20,oy 22 19 (.len (.t 21)),oy 23 19 (.cmp .leq (.sc .int) (.t 22) (.c (.int .i64 24))),bH 24 19 23,ab 2 24]
abbrev yfE:zR:=[aI 4 4 1,aT 5 rC 4,ab 3 5]
abbrev Xx:aA:=⟨.seq (.ae yG) (.seq (.ae yfE) (.seq (.ae yfD) .ret)),25,[.tmp 2]⟩
@[simp] theorem VP:az Tryz.prog zw=some Xx:=by kernel_rfl
@[simp] theorem axm:ar Tryz.prog zw=true:=by kernel_rfl
abbrev qI:zB:=[I,I,O,O,O,O,O,I,I,O,O,O,O,O,O,O,O,O,O]
abbrev kP:zB:=(by(iterate 19 refine O::?_);exact[])
abbrev CF:zR:=[bz 18 8 1,ab 8 18]
abbrev yfK:zR:=[ab 17 5,ab 4 17]
abbrev Cc:ah:=.seq (.ae yfK) .ret
abbrev yfM:zR:=[ab 11 1,ab 12 0,ab 13 5,aZ 14 1 12 13,ai 15 1 14,o 16 (.cmp .eql (.sc .str) (.t 11) (.t 15))]
abbrev Ca:zR:=[ab 10 8,ab 5 10]
abbrev yfO:ah:=.seq (.ae Ca) (.seq (.ae yfM) (.cond (.t 16) Cc .skip))
abbrev xB:zR:=[cL 9 8 7]
abbrev Iz:ah:=.seq (.ae xB) (.seq (.cond (.t 9) .skip (.exit 0)) (.seq (.block 1 [] yfO) (.ae CF)))
abbrev uP:zR:=[ab 6 0,aN 7 6,aO 8 0]
abbrev Tu:aA:=⟨.seq (.ae mw) (.seq (.seq (.ae uP) (.block 0 kP (.loop qI Iz))) (.seq (.ae sy) .ret)),19,[.tmp 4]⟩
abbrev xz:zI:=[.code (.seq (.ae sy) .ret)]
abbrev yfU(x0 x1 x7 x8:AV)(h:List Ob)(e:Cx:=cx):aq:=bm sR (.code Iz::.inLoop qI Iz::.inBlock 0 kP::xz) [x0,x1,U,U,U,U,U,x7,x8,U,U,U,U,U,U,U,U,U,U] h e
@[simp] theorem Tf:az Tryz.prog sR=some Tu:=by kernel_rfl
@[simp] theorem avw:ar Tryz.prog sR=true:=by kernel_rfl
abbrev HT:zR:=[ab 37 3,ab 2 37]
abbrev HH:zB:=O::O::O::I::(by(iterate 21 refine O::?_);exact[I,I,I,O,O,O,O,O,O,O,O,O,O])
abbrev HB:zB:=O::O::O::I::(by(iterate 34 refine O::?_);exact[])
abbrev yfY:zR:=[bz 36 27 1,ab 27 36]
abbrev yfZ:zR:=[ab 31 3,al 32 0 7,ai 33 1 32,o 34 (.lit 1 [.str []] [(0,.t 33)]),o 35 (.append 1 aE 16 (.t 31) (.t 34)),ab 3 35]
abbrev Qf:zR:=[aZ 29 5 25 27,aI 30 5 29,o 7 (.alloc [.str [],.int .i64 0,.own 1 aE [],.own 1 aE [],.bool false]),aM 5 7 30]
abbrev ygb:ah:=.seq (.ae Qf) (.ae yfZ)
abbrev uV:zR:=[cL 28 27 26]
abbrev CT:ah:=.seq (.ae uV) (.seq (.cond (.t 28) .skip (.exit 2)) (.seq (.block 3 [] ygb) (.ae yfY)))
abbrev Cj:zR:=[al 24 3 1,ai 25 1 24,aN 26 25,aO 27 0]
abbrev Sw:zB:=O::I::O::I::O::O::O::O::O::O::O::O::I::I::I::(by(iterate 23 refine O::?_);exact[])
abbrev Sc:zB:=O::I::O::I::(by(iterate 34 refine O::?_);exact[])
abbrev Qu:zR:=[bz 23 14 1,ab 14 23]
abbrev ygi:zR:=[ab 18 3,al 19 0 5,ai 20 1 19,o 21 (.lit 1 [.str []] [(0,.t 20)]),o 22 (.append 1 aE 16 (.t 18) (.t 21)),ab 3 22]
abbrev Qx:zR:=[aZ 16 3 12 14,aI 17 3 16,o 5 (.alloc [.str [],.str [],.int .i64 0]),aM 3 5 17]
abbrev ygk:ah:=.seq (.ae Qx) (.ae ygi)
abbrev Hr:ah:=.seq (.ae Ii) (.seq (.cond (.t 15) .skip (.exit 0)) (.seq (.block 1 [] ygk) (.ae Qu)))
abbrev R2:zR:=[al 11 2 1,ai 12 1 11,aN 13 12,aO 14 0]
abbrev ygo:zR:=[al 8 0 1,ai 9 1 8,aT 10 oq 9,ab 3 10]
abbrev Hh:zR:=[o 1 (.box 4 (.t 0)),o 2 (.bE 1 aE)]
abbrev aas:aA:=⟨.seq (.ae Hh) (.seq (.ae ygo) (.seq (.seq (.ae R2) (.block 0 Sc (.loop Sw Hr))) (.seq (.seq (.ae Cj) (.block 2 HB (.loop HH CT))) (.seq (.ae HT) .ret)))),38,[.tmp 2]⟩
abbrev ygq:zI:=[.code (.seq (.ae HT) .ret)]
abbrev ygr(x3 x25 x26 x27:AV)(h:List Ob)(e:Cx:=cx):aq:=bm pY (.code CT::.inLoop HH CT::.inBlock 2 HB::ygq) (U::U::U::x3::(by(iterate 21 refine U::?_);exact[x25,x26,x27,U,U,U,U,U,U,U,U,U,U])) h e
abbrev ygs:zI:=[.code (.seq (.seq (.ae Cj) (.block 2 HB (.loop HH CT))) (.seq (.ae HT) .ret))]
abbrev ygt(x1 x3 x12 x13 x14:AV)(h:List Ob)(e:Cx:=cx):aq:=bm pY (.code Hr::.inLoop Sw Hr::.inBlock 0 Sc::ygs) (U::x1::U::x3::U::U::U::U::U::U::U::U::x12::x13::x14::(by(iterate 23 refine U::?_);exact[])) h e
@[simp] theorem W0:az Tryz.prog pY=some aas:=by kernel_rfl
@[simp] theorem ayy:ar Tryz.prog pY=true:=by kernel_rfl
abbrev ygu:zR:=[o 11 (.build [.int .i64 0,.list true 0 [],.list true 0 [],.list true 0 [],.list true 0 [],.list true 0 [],.list true 0 [],.list true 0 []] []),aM 8 0 11,q (.store 1 (.t 1) (.c (.int .i64 8))),q (.store 1 (.t 2) (.c (.str [])))]
abbrev ygv:zR:=[ab 10 4]
abbrev ygw:zR:=[o 6 (.recover),o 7 (.rM (.t 6) DC (.agg []) true),ab 5 7,bj 8 5 0,bj 9 5 1,o 3 (.alloc []),aM 0 3 8,ab 4 9]
abbrev Vl:aA:=⟨.seq (.ae ygw) (.seq (.ae ygv) (.cond (.t 10) (.ae ygu) .skip)),12,[]⟩
@[simp] theorem awG:az Tryz.prog zk=some Vl:=by kernel_rfl
@[simp] theorem awD:ar Tryz.prog zk=true:=by kernel_rfl
abbrev ygx:zR:=[o 5 (.lit 1 [] []),ab 6 0,o 7 (.append 1 aE 16 (.t 5) (.t 6)),ab 2 7]
abbrev Is:zR:=[o 2 (.bE 1 aE)]
abbrev ygz:ah:=.seq (.ae Is) .ret
abbrev CN:zR:=[ab 3 0,o 4 (.jq false (.t 3))]
abbrev Tv:aA:=⟨.seq (.ae Is) (.seq (.seq (.ae CN) (.cond (.t 4) ygz .skip)) (.seq (.ae ygx) .ret)),8,[.tmp 2]⟩
@[simp] theorem Th:az Tryz.prog oq=some Tv:=by kernel_rfl
@[simp] theorem avx:ar Tryz.prog oq=true:=by kernel_rfl
abbrev Ho:zR:=[ab 20 4,ab 3 20]
abbrev ID:zB:=[O,I,O,O,I,O,O,I,I,I,O,O,O,O,O,O,O,O,O,O,O]
abbrev Iq:zB:=O::O::O::O::I::(by(iterate 16 refine O::?_);exact[])
abbrev Sm:zR:=[bz 19 9 1,ab 9 19]
abbrev ygG:zR:=[ab 13 4,ai 14 1 1,ab 15 6,o 16 (.lookup (.sc .str) (.int .i64 0) (.t 14) (.t 15) false),o 17 (.lit 1 [.int .i64 0] [(0,.t 16)]),o 18 (.append 1 an 8 (.t 13) (.t 17)),ab 4 18]
abbrev P5:zR:=[aZ 11 1 7 9,ai 12 1 11,ab 6 12]
abbrev ygI:ah:=.seq (.ae P5) (.ae ygG)
abbrev xu:zR:=[cL 10 9 8]
abbrev G2:ah:=.seq (.ae xu) (.seq (.cond (.t 10) .skip (.exit 0)) (.seq (.block 1 [] ygI) (.ae Sm)))
abbrev Ci:zR:=[ab 7 0,aN 8 7,aO 9 0]
abbrev Ig:zR:=[o 4 (.bE 1 an)]
abbrev ygN:zR:=[o 3 (.bE 1 an)]
abbrev Vg:aA:=⟨.seq (.ae ygN) (.seq (.ae Ig) (.seq (.seq (.ae Ci) (.block 0 Iq (.loop ID G2))) (.seq (.ae Ho) .ret))),21,[.tmp 3]⟩
abbrev ygO:zI:=[.code (.seq (.ae Ho) .ret)]
abbrev ygP(x1 x4 x7 x8 x9:AV)(h:List Ob)(e:Cx:=cx):aq:=bm ot (.code G2::.inLoop ID G2::.inBlock 0 Iq::ygO) [U,x1,U,U,x4,U,U,x7,x8,x9,U,U,U,U,U,U,U,U,U,U,U] h e
@[simp] theorem UT:az Tryz.prog ot=some Vg:=by kernel_rfl
@[simp] theorem awF:ar Tryz.prog ot=true:=by kernel_rfl
abbrev Q_:zR:=[ai 52 1 4,ab 53 7,ab 2 52,ab 3 53]
abbrev QM:zB:=O::O::O::O::I::I::O::I::(by(iterate 24 refine O::?_);exact I::I::I::(by(iterate 19 refine O::?_);exact[]))
abbrev PL:zB:=O::O::O::O::I::O::O::I::(by(iterate 46 refine O::?_);exact[])
abbrev ygT:zR:=[bz 51 34 1,ab 34 51]
abbrev ygU:zR:=[ab 46 7,al 47 0 9,ai 48 1 47,o 49 (.lit 1 [.str []] [(0,.t 48)]),o 50 (.append 1 aE 16 (.t 46) (.t 49)),ab 7 50]
abbrev ygV:zR:=[ab 45 11]
abbrev ygW:zR:=[ai 39 1 5,al 40 0 9,ai 41 1 40,o 42 (.lookup (.sc .str) (.int .i64 0) (.t 39) (.t 41) true),ab 38 42,bj 43 38 0,bj 44 38 1,ab 10 43,ab 11 44]
abbrev ygX:zR:=[aZ 36 5 32 34,aI 37 5 36,o 9 (.alloc [.str [],.int .i64 0,.own 1 aE [],.own 1 aE [],.bool false]),aM 5 9 37]
abbrev ygY:ah:=.seq (.ae ygX) (.seq (.ae ygW) (.seq (.ae ygV) (.cond (.t 45) (.ae ygU) .skip)))
abbrev RZ:zR:=[cL 35 34 33]
abbrev Ie:ah:=.seq (.ae RZ) (.seq (.cond (.t 35) .skip (.exit 2)) (.seq (.block 3 [] ygY) (.ae ygT)))
abbrev yhb:zR:=[al 31 3 1,ai 32 1 31,aN 33 32,aO 34 0]
abbrev QY:zR:=[o 7 (.bE 1 aE)]
abbrev HW:zR:=[ab 6 19]
abbrev yhe:zR:=[ai 24 1 5,al 25 3 1,ai 26 1 25,ab 27 6,aZ 28 5 26 27,al 29 0 28,ai 30 1 29,q (.delete (.sc .str) (.t 24) (.t 30))]
abbrev yhf:zR:=[ai 20 1 4,ab 21 6,o 22 (.lit 1 [.int .i64 0] [(0,.t 21)]),o 23 (.append 1 an 8 (.t 20) (.t 22)),aM 1 4 23]
abbrev yhg:ah:=.seq (.ae yhf) (.aQ [O,O,O,O,O,O,O,O] [8,8,8,8,8,8,8,9] yhe)
abbrev HK:ah:=.block 1 [] yhg
abbrev yhi:ah:=.rangeFunc (.t 18) [19] (O::I::I::I::I::I::(by(iterate 48 refine O::?_);exact[])) (.ae HW) HK
abbrev yhj:zR:=[aI 17 4 1,aT 18 Dv 17]
abbrev yhk:zR:=[aI 15 4 1,aT 16 s9 15,o 5 (.alloc [.c_]),aM 1 5 16]
abbrev yhl:zR:=[o 4 (.alloc [.own 1 an []])]
abbrev yhm:zR:=[o 2 (.bE 1 an),o 3 (.bE 1 aE)]
abbrev yhn:ah:=.seq (.ae yhm) .ret
abbrev yho:zR:=[aI 12 4 1,aT 13 zp 12,o 14 (.not (.t 13))]
abbrev yhp:zR:=[o 1 (.box 4 (.t 0)),o 2 (.bE 1 an),o 3 (.bE 1 aE)]
abbrev Xg:aA:=⟨.seq (.ae yhp) (.seq (.seq (.ae yho) (.cond (.t 14) yhn .skip)) (.seq (.ae yhl) (.seq (.ae yhk) (.seq (.seq (.ae yhj) (.block 0 [] yhi)) (.seq (.ae QY) (.seq (.seq (.ae yhb) (.block 2 PL (.loop QM Ie))) (.seq (.ae Q_) .ret))))))),54,[.tmp 2,.tmp 3]⟩
abbrev yhq:zI:=[.code (.seq (.ae Q_) .ret)]
abbrev yhr(x4 x5 x7 x32 x33 x34:AV)(h:List Ob)(e:Cx:=cx):aq:=bm mH (.code Ie::.inLoop QM Ie::.inBlock 2 PL::yhq) (U::U::U::U::x4::x5::U::x7::(by(iterate 24 refine U::?_);exact x32::x33::x34::(by(iterate 19 refine U::?_);exact[]))) h e
@[simp] theorem JU:az Tryz.prog mH=some Xg:=by kernel_rfl
@[simp] theorem axq:ar Tryz.prog mH=true:=by kernel_rfl
abbrev yhs:zR:=[ab 49 11,ab 6 49]
abbrev yht:zR:=[ab 47 11,o 48 (.bB .xor (.t 47) (.c (.int .i64 1))),ab 11 48]
abbrev yhu:zR:=[al 45 4 4,ai 46 1 45]
abbrev yhv:zR:=[ab 39 0,ab 40 9,ab 41 2,o 42 (.call (.f sU) [.t 39,.t 40,.t 41]),ab 38 42,bj 43 38 0,bj 44 38 1,ab 11 43,ab 12 44]
abbrev yhw:zR:=[al 30 3 4,ai 31 1 30,al 32 2 4,ai 33 1 32,aN 34 33,cB 35 vG 31 34,ab 29 35,bj 36 29 0,bj 37 29 1,ab 9 36,ab 10 37]
abbrev yhx:zR:=[al 21 0 7,ai 22 1 21,ab 23 0,ab 24 2,o 25 (.call (.t 22) [.t 23,.t 24]),al 26 1 7,ai 27 1 26,o 28 (.bB .xor (.t 25) (.t 27)),ab 6 28]
abbrev yhy:ah:=.seq (.aQ [O,O,O,O,O,O,I,O,O] [5,5,5,5,10,10,10,10,10] yhx) .ret
abbrev yhz:zR:=[ab 20 8]
abbrev yhA:zR:=[o 14 (.load false 1 (.g 0)),al 15 1 4,ai 16 1 15,o 17 (.lookup (.sc .int) (.agg [.df,.int .i64 0]) (.t 14) (.t 16) true),ab 13 17,bj 18 13 0,bj 19 13 1,o 7 (.alloc [.df,.int .i64 0]),aM 2 7 18,ab 8 19]
abbrev yhB:zR:=[o 4 (.box 5 (.t 1)),aO 6 0]
abbrev T':aA:=⟨.seq (.ae yhB) (.seq (.seq (.ae yhA) (.seq (.ae yhz) (.cond (.t 20) yhy .skip))) (.seq (.ae yhw) (.seq (.ae yhv) (.seq (.seq (.ae yhu) (.cond (.t 46) (.ae yht) .skip)) (.seq (.ae yhs) .ret))))),50,[.tmp 6]⟩
@[simp] theorem Jw:az Tryz.prog vA=some T':=by kernel_rfl
@[simp] theorem avX:ar Tryz.prog vA=true:=by kernel_rfl
abbrev BY:zR:=[ab 92 10,aI 93 5 8,cB 94 zf 92 93,aM 5 2 94,aO 3 0]
abbrev BZ:zB:=O::O::I::O::O::O::O::O::I::I::I::(by(iterate 46 refine O::?_);exact I::I::I::(by(iterate 35 refine O::?_);exact[]))
abbrev CO:zB:=O::O::I::O::O::O::O::O::I::O::I::(by(iterate 84 refine O::?_);exact[])
abbrev yhF:zR:=[bz 91 59 1,ab 59 91]
abbrev yhG:zR:=[ab 81 10,ab 82 10,o 83 (.cr (.t 82)),al 84 6 83,ai 85 1 84,ab 86 13,o 87 (.lit 1 [.int .i64 0] [(0,.t 86)]),o 88 (.append 1 an 8 (.t 85) (.t 87)),o 89 (.cr (.t 81)),al 90 6 89,aM 1 90 88]
abbrev yhH:zR:=[ab 71 10,ab 72 10,o 73 (.eB 2 1 (.t 12) (.c (.int .i64 0))),ai 74 1 73,cB 75 nu 72 74,ab 76 10,o 77 (.eB 2 1 (.t 12) (.c (.int .i64 1))),ai 78 1 77,cB 79 nu 76 78,o 80 (.call (.f pS) [.t 71,.t 75,.t 79]),ab 13 80]
abbrev yhI:zR:=[ab 64 9,aI 65 5 8,aT 66 ke 65,ab 67 11,o 68 (.bB .add (.t 66) (.t 67)),aZ 69 1 64 68,ai 70 1 69]
abbrev yhJ:zR:=[aO 13 0]
abbrev yhK:zR:=[ab 61 59,aZ 62 2 57 59,aI 63 2 62,o 12 (.alloc [.int .i64 0,.int .i64 0]),ab 11 61,aM 2 12 63]
abbrev yhL:ah:=.seq (.ae yhK) (.seq (.ae yhJ) (.seq (.seq (.ae yhI) (.cond (.t 70) (.aQ [O,O,O,O,O,O,O,I,O,O,O] [10,5,5,5,9,9,9,9,10,12,12] yhH) .skip)) (.ae yhG)))
abbrev yhM:zR:=[cL 60 59 58]
abbrev xG:ah:=.seq (.ae yhM) (.seq (.cond (.t 60) .skip (.exit 2)) (.seq (.block 3 [] yhL) (.ae yhF)))
abbrev HJ:zR:=[al 56 3 8,ai 57 1 56,aN 58 57,aO 59 0]
abbrev IY:zR:=[aI 54 5 8,aT 55 tq 54,ab 10 55]
abbrev P2:zR:=[aI 52 5 8,aT 53 p1 52,ab 9 53]
abbrev P1:zR:=[ab 49 5,aI 50 5 1,cB 51 zf 49 50,o 8 (.alloc [.int .i64 0,.own 1 an [],.own 1 an [],.own 2 cM [],.own 1 an []]),aM 5 8 51]
abbrev Sv:zB:=O::I::I::O::O::I::(by(iterate 17 refine O::?_);exact I::I::I::(by(iterate 69 refine O::?_);exact[]))
abbrev Ql:zB:=O::I::I::O::O::I::(by(iterate 89 refine O::?_);exact[])
abbrev yhU:zR:=[bz 48 25 1,ab 25 48]
abbrev yhV:zR:=[ab 29 5,ab 30 5,o 31 (.cr (.t 30)),al 32 6 31,ai 33 1 32,ab 34 5,ab 35 5,o 36 (.eB 2 1 (.t 7) (.c (.int .i64 0))),ai 37 1 36,cB 38 nu 35 37,ab 39 5,o 40 (.eB 2 1 (.t 7) (.c (.int .i64 1))),ai 41 1 40,cB 42 nu 39 41,o 43 (.call (.f pS) [.t 34,.t 38,.t 42]),o 44 (.lit 1 [.int .i64 0] [(0,.t 43)]),o 45 (.append 1 an 8 (.t 33) (.t 44)),o 46 (.cr (.t 29)),al 47 6 46,aM 1 47 45]
abbrev yhW:zR:=[aZ 27 2 23 25,aI 28 2 27,o 7 (.alloc [.int .i64 0,.int .i64 0]),aM 2 7 28]
abbrev yhX:ah:=.seq (.ae yhW) (.aQ [O,O,O,O,I,O,O,O,O,O,O,O,I,O,O,O,O,O,O,O] [20,17,17,17,17,15,10,10,10,14,14,14,14,15,16,17,20,20,20,21] yhV)
abbrev RR:zR:=[cL 26 25 24]
abbrev I3:ah:=.seq (.ae RR) (.seq (.cond (.t 26) .skip (.exit 0)) (.seq (.block 1 [] yhX) (.ae yhU)))
abbrev Su:zR:=[al 22 3 1,ai 23 1 22,aN 24 23,aO 25 0]
abbrev yib:zR:=[aI 20 5 1,aT 21 tq 20,ab 5 21]
abbrev yic:zR:=[o 18 (.build [.int .i64 0,.list true 0 [],.list true 0 [],.list true 0 [],.list true 0 []] []),ab 19 4,aM 5 2 18,ab 3 19]
abbrev yid:ah:=.seq (.ae yic) .ret
abbrev yie:zR:=[ab 16 4,o 17 (.cmp .neq (.sc .int) (.t 16) (.c (.int .i64 0)))]
abbrev yif:zR:=[aI 14 5 1,aT 15 nw 14,ab 4 15]
abbrev yig:zR:=[o 1 (.box 5 (.t 0)),o 2 (.alloc [.int .i64 0,.own 1 an [],.own 1 an [],.own 2 cM [],.own 1 an []]),aO 3 0]
abbrev XF:aA:=⟨.seq (.ae yig) (.seq (.seq (.ae yif) (.seq (.ae yie) (.cond (.t 17) yid .skip))) (.seq (.ae yib) (.seq (.seq (.ae Su) (.block 0 Ql (.loop Sv I3))) (.seq (.ae P1) (.seq (.ae P2) (.seq (.ae IY) (.seq (.seq (.ae HJ) (.block 2 CO (.loop BZ xG))) (.seq (.ae BY) .ret)))))))),95,[.cell 2 true 5,.tmp 3]⟩
abbrev Qi:zI:=[.code (.seq (.ae BY) .ret)]
abbrev yii(x2 x8 x9 x10 x57 x58 x59:AV)(h:List Ob)(e:Cx:=cx):aq:=bm ox (.code xG::.inLoop BZ xG::.inBlock 2 CO::Qi) (U::U::x2::U::U::U::U::U::x8::x9::x10::(by(iterate 46 refine U::?_);exact x57::x58::x59::(by(iterate 35 refine U::?_);exact[]))) h e
abbrev Rr(x2 x8 x10:AV)(h:List Ob)(e:Cx:=cx):aq:=bm ox Qi (U::U::x2::U::U::U::U::U::x8::U::x10::(by(iterate 84 refine U::?_);exact[])) h e
abbrev Ru:zI:=[.code (.seq (.ae P1) (.seq (.ae P2) (.seq (.ae IY) (.seq (.seq (.ae HJ) (.block 2 CO (.loop BZ xG))) (.seq (.ae BY) .ret)))))]
abbrev yil(x1 x2 x5 x23 x24 x25:AV)(h:List Ob)(e:Cx:=cx):aq:=bm ox (.code I3::.inLoop Sv I3::.inBlock 0 Ql::Ru) (U::x1::x2::U::U::x5::(by(iterate 17 refine U::?_);exact x23::x24::x25::(by(iterate 69 refine U::?_);exact[]))) h e
abbrev Ha(x1 x2 x5:AV)(h:List Ob)(e:Cx:=cx):aq:=bm ox Ru (U::x1::x2::U::U::x5::(by(iterate 89 refine U::?_);exact[])) h e
@[simp] theorem VX:az Tryz.prog ox=some XF:=by kernel_rfl
@[simp] theorem axs:ar Tryz.prog ox=true:=by kernel_rfl
abbrev xC:zR:=[q (.store 1 (.t 2) (.c (.int .i64 0))),q (.store 1 (.t 3) (.c (.str [])))]
abbrev xF:zB:=O::O::I::I::O::O::O::I::(by(iterate 84 refine O::?_);exact[I,I,I,O,O,O,O,O,O,O,O,O])
abbrev xx:zB:=O::O::I::I::(by(iterate 100 refine O::?_);exact[])
abbrev yiq:zR:=[bz 103 94 1,ab 94 103]
abbrev yir:zR:=[ab 98 7,ab 99 13,o 100 (.lookup (.sc .str) (.bool false) (.t 98) (.t 99) false),ab 101 13,o 102 (.call (.f nA) [.t 100,.c (.int .i64 6),.t 101])]
abbrev yis:zR:=[aZ 96 1 92 94,ai 97 1 96,ab 13 97]
abbrev yit:ah:=.seq (.ae yis) (.ae yir)
abbrev yiu:zR:=[cL 95 94 93]
abbrev uZ:ah:=.seq (.ae yiu) (.seq (.cond (.t 95) .skip (.exit 6)) (.seq (.block 7 [] yit) (.ae yiq)))
abbrev CU:zR:=[aI 91 4 1,aT 92 tz 91,aN 93 92,aO 94 0]
abbrev CB:zB:=O::I::I::I::O::O::O::I::(by(iterate 71 refine O::?_);exact I::I::I::(by(iterate 22 refine O::?_);exact[]))
abbrev sA:zB:=O::I::I::I::O::O::O::I::(by(iterate 96 refine O::?_);exact[])
abbrev yiz:zR:=[bz 90 81 1,ab 81 90]
abbrev Hv:zR:=[aI 85 5 11,aT 86 v8 85,al 87 0 11,ai 88 1 87,o 89 (.call (.f nA) [.t 86,.c (.int .i64 1),.t 88])]
abbrev yiB:zR:=[aZ 83 5 79 81,aI 84 5 83,o 11 (.alloc [.str [],.int .i64 0,.own 1 aE [],.own 1 aE [],.bool false]),aM 5 11 84]
abbrev yiC:ah:=.seq (.ae yiB) (.aQ [O,O,O,I,O] [2,5,5,5,6] Hv)
abbrev yiD:zR:=[cL 82 81 80]
abbrev xN:ah:=.seq (.ae yiD) (.seq (.cond (.t 82) .skip (.exit 4)) (.seq (.block 5 [] yiC) (.ae yiz)))
abbrev Hl:zR:=[al 78 3 1,ai 79 1 78,aN 80 79,aO 81 0]
abbrev Hj:zB:=O::I::I::I::O::O::O::I::(by(iterate 52 refine O::?_);exact I::I::I::(by(iterate 41 refine O::?_);exact[]))
abbrev yiI:zR:=[bz 77 62 1,ab 62 77]
abbrev yiJ:zR:=[al 66 2 9,ai 67 1 66,o 68 (.cmp .geq (.sc .int) (.t 67) (.c (.int .i64 0))),ab 69 68,oy 70 69 (.off 2 (.t 9)),cG 71 69 1 70,oy 72 69 (.cmp .leq (.sc .int) (.t 71) (.c (.int .i64 2))),bH 73 69 72,al 74 0 9,ai 75 1 74,o 76 (.call (.f nA) [.t 73,.c (.int .i64 1),.t 75])]
abbrev yiK:zR:=[aZ 64 3 60 62,aI 65 3 64,o 9 (.alloc [.str [],.str [],.int .i64 0]),aM 3 9 65]
abbrev yiL:ah:=.seq (.ae yiK) (.ae yiJ)
abbrev B5:ah:=.seq (.ae P6) (.seq (.cond (.t 63) .skip (.exit 2)) (.seq (.block 3 [] yiL) (.ae yiI)))
abbrev Qm:zR:=[al 59 2 1,ai 60 1 59,aN 61 60,aO 62 0]
abbrev P_:zR:=[al 56 1 1,ai 57 1 56,aT 58 rB 57]
abbrev PV:zR:=[aI 53 4 1,aT 54 pY 53,aT 55 rB 54,ab 7 55]
abbrev PM:zB:=O::I::I::I::(by(iterate 38 refine O::?_);exact I::I::I::(by(iterate 59 refine O::?_);exact[]))
abbrev Qy:zB:=O::I::I::I::(by(iterate 100 refine O::?_);exact[])
abbrev yiT:zR:=[bz 52 44 1,ab 44 52]
abbrev yiU:zR:=[ab 48 6,aT 49 vL 48,ab 50 6,o 51 (.call (.f nA) [.t 49,.c (.int .i64 4),.t 50])]
abbrev yiV:zR:=[aZ 46 1 42 44,ai 47 1 46,ab 6 47]
abbrev yiW:ah:=.seq (.ae yiV) (.ae yiU)
abbrev yiX:zR:=[cL 45 44 43]
abbrev G':ah:=.seq (.ae yiX) (.seq (.cond (.t 45) .skip (.exit 0)) (.seq (.block 1 [] yiW) (.ae yiT)))
abbrev yiZ:zR:=[aI 41 4 1,aT 42 tu 41,aN 43 42,aO 44 0]
abbrev yja:zR:=[al 15 0 1,ai 16 1 15,aN 17 16,al 18 2 1,ai 19 1 18,aN 20 19,o 21 (.bB .add (.t 17) (.t 20)),al 22 3 1,ai 23 1 22,aN 24 23,o 25 (.bB .add (.t 21) (.t 24)),o 26 (.cmp .leq (.sc .int) (.t 25) (.c (.int .i64 200))),ab 27 26,oy 28 27 (.off 1 (.t 1)),cG 29 27 1 28,oy 30 27 (.len (.t 29)),oy 31 27 (.cmp .leq (.sc .int) (.t 30) (.c (.int .i64 200))),bH 32 27 31,ab 33 32,oy 34 33 (.off 3 (.t 1)),cG 35 33 1 34,cn 36 33 4,oy 37 33 (.call (.f yD) [.t 35,.t 36]),oy 38 33 (.not (.t 37)),bH 39 33 38,o 40 (.call (.f nA) [.t 39,.c (.int .i64 8),.c (.str [])])]
abbrev yjb:zR:=[o 4 (.mv (.f vH))]
abbrev yjc:zR:=[o 14 (.fH (.func zo) [] [.t 2,.t 3]),q (.defer (.t 14) [])]
abbrev yjd:zR:=[o 1 (.box 4 (.t 0)),o 2 (.alloc [.int .i64 0]),o 3 (.alloc [.str []])]
abbrev YN:aA:=⟨.seq (.ae yjd) (.seq (.ae yjc) (.seq (.ae yjb) (.seq (.ae yja) (.seq (.seq (.ae yiZ) (.block 0 Qy (.loop PM G'))) (.seq (.ae PV) (.seq (.ae P_) (.seq (.seq (.ae Qm) (.block 2 sA (.loop Hj B5))) (.seq (.seq (.ae Hl) (.block 4 sA (.loop CB xN))) (.seq (.seq (.ae CU) (.block 6 xx (.loop xF uZ))) (.seq (.ae xC) .ret)))))))))),104,[.cell 2 false 1,.cell 3 false 1]⟩
abbrev yje:zI:=[.code (.seq (.ae xC) .ret)]
abbrev yjf(x2 x3 x7 x92 x93 x94:AV)(h:List Ob)(e:Cx:=cx):aq:=bm nz (.code uZ::.inLoop xF uZ::.inBlock 6 xx::yje) (U::U::x2::x3::U::U::U::x7::(by(iterate 84 refine U::?_);exact[x92,x93,x94,U,U,U,U,U,U,U,U,U])) h e
abbrev yjg:zI:=[.code (.seq (.seq (.ae CU) (.block 6 xx (.loop xF uZ))) (.seq (.ae xC) .ret))]
abbrev yjh(x1 x2 x3 x7 x79 x80 x81:AV)(h:List Ob)(e:Cx:=cx):aq:=bm nz (.code xN::.inLoop CB xN::.inBlock 4 sA::yjg) (U::x1::x2::x3::U::U::U::x7::(by(iterate 71 refine U::?_);exact x79::x80::x81::(by(iterate 22 refine U::?_);exact[]))) h e
abbrev yji:zI:=[.code (.seq (.seq (.ae Hl) (.block 4 sA (.loop CB xN))) (.seq (.seq (.ae CU) (.block 6 xx (.loop xF uZ))) (.seq (.ae xC) .ret)))]
abbrev yjj(x1 x2 x3 x7 x60 x61 x62:AV)(h:List Ob)(e:Cx:=cx):aq:=bm nz (.code B5::.inLoop Hj B5::.inBlock 2 sA::yji) (U::x1::x2::x3::U::U::U::x7::(by(iterate 52 refine U::?_);exact x60::x61::x62::(by(iterate 41 refine U::?_);exact[]))) h e
abbrev yjk:zI:=[.code (.seq (.ae PV) (.seq (.ae P_) (.seq (.seq (.ae Qm) (.block 2 sA (.loop Hj B5))) (.seq (.seq (.ae Hl) (.block 4 sA (.loop CB xN))) (.seq (.seq (.ae CU) (.block 6 xx (.loop xF uZ))) (.seq (.ae xC) .ret))))))]
abbrev yjl(x1 x2 x3 x42 x43 x44:AV)(h:List Ob)(e:Cx:=cx):aq:=bm nz (.code G'::.inLoop PM G'::.inBlock 0 Qy::yjk) (U::x1::x2::x3::(by(iterate 38 refine U::?_);exact x42::x43::x44::(by(iterate 59 refine U::?_);exact[]))) h e
@[simp] theorem J9:az Tryz.prog nz=some YN:=by kernel_rfl
@[simp] theorem axS:ar Tryz.prog nz=true:=by kernel_rfl
abbrev R5:zB:=O::I::(by(iterate 68 refine O::?_);exact I::I::I::(by(iterate 30 refine O::?_);exact[]))
abbrev QK:zB:=(by(iterate 103 refine O::?_);exact[])
abbrev yjp:zR:=[bz 102 72 1,ab 72 102]
abbrev yjs:zR:=[o 82 (.eB 2 1 (.t 7) (.c (.int .i64 0))),ai 83 1 82,o 84 (.cmp .lss (.sc .int) (.t 83) (.c (.int .i64 0))),ab 85 84,on 86 85 (.eB 2 1 (.t 7) (.c (.int .i64 1))),on 87 85 (.load false 1 (.t 86)),on 88 85 (.cmp .lss (.sc .int) (.t 87) (.c (.int .i64 0))),o 89 (.pick (.t 85) (.c (.bool true)) (.t 88)),ab 90 89,on 91 90 (.eB 2 1 (.t 7) (.c (.int .i64 0))),on 92 90 (.load false 1 (.t 91)),on 93 90 (.mv (.t 8)),on 94 90 (.cmp .geq (.sc .int) (.t 92) (.t 93)),o 95 (.pick (.t 90) (.c (.bool true)) (.t 94)),ab 96 95,on 97 96 (.eB 2 1 (.t 7) (.c (.int .i64 1))),on 98 96 (.load false 1 (.t 97)),on 99 96 (.mv (.t 8)),on 100 96 (.cmp .geq (.sc .int) (.t 98) (.t 99)),o 101 (.pick (.t 96) (.c (.bool true)) (.t 100))]
abbrev yjt:zR:=[aI 77 5 1,aT 78 ke 77,ab 79 6,o 80 (.bB .add (.t 78) (.t 79)),o 81 (.bB .mul (.c (.int .i64 2)) (.t 80)),ab 8 81]
abbrev yju:zR:=[ab 74 72,aZ 75 2 70 72,aI 76 2 75,o 7 (.alloc [.int .i64 0,.int .i64 0]),ab 6 74,aM 2 7 76]
abbrev yjv:ah:=.seq (.ae yju) (.seq (.ae yjt) (.seq (.ae yjs) (.cond (.t 101) Ia .skip)))
abbrev yjw:zR:=[cL 73 72 71]
abbrev Hg:ah:=.seq (.ae yjw) (.seq (.cond (.t 73) .skip (.exit 0)) (.seq (.block 1 [] yjv) (.ae yjp)))
abbrev yjy:zR:=[al 69 3 1,ai 70 1 69,aN 71 70,aO 72 0]
abbrev yjB:zR:=[al 44 2 1,ai 45 1 44,aN 46 45,al 47 1 1,ai 48 1 47,aN 49 48,o 50 (.cmp .neq (.sc .int) (.t 46) (.t 49)),ab 51 50,on 52 51 (.off 2 (.t 1)),on 53 51 (.load false 1 (.t 52)),on 54 51 (.mv (.t 5)),on 55 51 (.call (.f sQ) [.t 53,.t 54]),o 56 (.pick (.t 51) (.c (.bool true)) (.t 55)),ab 57 56,on 58 57 (.off 1 (.t 1)),on 59 57 (.load false 1 (.t 58)),on 60 57 (.mv (.t 4)),on 61 57 (.call (.f sQ) [.t 59,.t 60]),o 62 (.pick (.t 57) (.c (.bool true)) (.t 61)),ab 63 62,on 64 63 (.off 4 (.t 1)),on 65 63 (.load false 1 (.t 64)),on 66 63 (.mv (.t 4)),on 67 63 (.call (.f sQ) [.t 65,.t 66]),o 68 (.pick (.t 63) (.c (.bool true)) (.t 67))]
abbrev yjC:zR:=[o 5 (.mv (.f zq))]
abbrev yjD:zR:=[o 43 (.fH (.func zr) [] [.t 3]),ab 4 43]
abbrev yjE:zR:=[aI 36 5 1,aT 37 ke 36,al 38 3 1,ai 39 1 38,aN 40 39,o 41 (.bB .add (.t 37) (.t 40)),o 42 (.bB .mul (.c (.int .i64 2)) (.t 41)),o 3 (.alloc [.int .i64 0]),aM 1 3 42]
abbrev yjF:zR:=[aO 2 8]
abbrev yjG:ah:=.seq (.ae yjF) .ret
abbrev yjH:zR:=[al 9 0 1,ai 10 1 9,o 11 (.cmp .lss (.sc .int) (.t 10) (.c (.int .i64 0))),ab 12 11,on 13 12 (.off 0 (.t 1)),on 14 12 (.load false 1 (.t 13)),on 15 12 (.cmp .gtr (.sc .int) (.t 14) (.c (.int .i64 4000))),o 16 (.pick (.t 12) (.c (.bool true)) (.t 15)),ab 17 16,on 18 17 (.off 0 (.t 1)),on 19 17 (.load false 1 (.t 18)),on 20 17 (.off 1 (.t 1)),on 21 17 (.load false 1 (.t 20)),on 22 17 (.len (.t 21)),on 23 17 (.bB .add (.t 19) (.t 22)),on 24 17 (.off 3 (.t 1)),on 25 17 (.load false 1 (.t 24)),on 26 17 (.len (.t 25)),on 27 17 (.bB .add (.t 23) (.t 26)),on 28 17 (.cmp .gtr (.sc .int) (.t 27) (.c (.int .i64 4000))),o 29 (.pick (.t 17) (.c (.bool true)) (.t 28)),ab 30 29,on 31 30 (.off 4 (.t 1)),on 32 30 (.load false 1 (.t 31)),on 33 30 (.len (.t 32)),on 34 30 (.cmp .gtr (.sc .int) (.t 33) (.c (.int .i64 4000))),o 35 (.pick (.t 30) (.c (.bool true)) (.t 34))]
abbrev Qe:zR:=[o 1 (.box 5 (.t 0)),aO 2 0]
abbrev Zk:aA:=⟨.seq (.ae Qe) (.seq (.seq (.ae yjH) (.cond (.t 35) yjG .skip)) (.seq (.aQ [I,I,O,I,O,O,O,O,O] [9,9,9,9,9,9,9,9,10] yjE) (.seq (.ae yjD) (.seq (.ae yjC) (.seq (.seq (.ae yjB) (.cond (.t 68) Ia .skip)) (.seq (.seq (.ae yjy) (.block 0 QK (.loop R5 Hg))) (.seq (.ae xP) .ret))))))),103,[.tmp 2]⟩
abbrev yjK(x1 x70 x71 x72:AV)(h:List Ob)(e:Cx:=cx):aq:=bm nw (.code Hg::.inLoop R5 Hg::.inBlock 0 QK::Rv) (U::x1::(by(iterate 68 refine U::?_);exact x70::x71::x72::(by(iterate 30 refine U::?_);exact[]))) h e
@[simp] theorem Wi:az Tryz.prog nw=some Zk:=by kernel_rfl
@[simp] theorem axH:ar Tryz.prog nw=true:=by kernel_rfl
abbrev yjL:zR:=[ab 3 0,o 4 (.call (.f pP) [.t 3,.f zn]),ab 2 4]
abbrev Zq:aA:=⟨.seq (.ae yi) (.seq (.ae yjL) .ret),5,[.tmp 2]⟩
@[simp] theorem Wm:az Tryz.prog tp=some Zq:=by kernel_rfl
@[simp] theorem axW:ar Tryz.prog tp=true:=by kernel_rfl
abbrev RX:zB:=[O,O,O,I,O,O,O,I,I,I,O,O,O,O,O,O,O,O,O]
abbrev yjQ:zR:=[bz 18 9 1,ab 9 18]
abbrev yjR:zR:=[ab 16 3,ab 17 5,q (.bG (.sc .str) (.t 16) (.t 17) (.c (.bool true)))]
abbrev yjT:ah:=.seq (.ae IV) .ret
abbrev yjU:zR:=[ab 13 3,ab 14 5,o 15 (.lookup (.sc .str) (.bool false) (.t 13) (.t 14) false)]
abbrev QZ:zR:=[aZ 11 1 7 9,ai 12 1 11,ab 5 12]
abbrev yjW:ah:=.seq (.ae QZ) (.seq (.seq (.ae yjU) (.cond (.t 15) yjT .skip)) (.ae yjR))
abbrev HR:ah:=.seq (.ae xu) (.seq (.cond (.t 10) .skip (.exit 0)) (.seq (.block 1 [] yjW) (.ae yjQ)))
abbrev HL:zR:=[o 6 (.mkMap),ab 3 6]
abbrev Wl:aA:=⟨.seq (.ae yi) (.seq (.ae HL) (.seq (.seq (.ae Ci) (.block 0 kP (.loop RX HR))) (.seq (.ae yi) .ret))),19,[.tmp 2]⟩
abbrev ykc:zI:=[.code (.seq (.ae yi) .ret)]
abbrev ykd(x3 x7 x8 x9:AV)(h:List Ob)(e:Cx:=cx):aq:=bm te (.code HR::.inLoop RX HR::.inBlock 0 kP::ykc) [U,U,U,x3,U,U,U,x7,x8,x9,U,U,U,U,U,U,U,U,U] h e
@[simp] theorem Vp:az Tryz.prog te=some Wl:=by kernel_rfl
@[simp] theorem awU:ar Tryz.prog te=true:=by kernel_rfl
abbrev qJ:zR:=[ab 35 6,ab 2 35]
abbrev oa:zB:=O::O::O::O::O::O::I::(by(iterate 18 refine O::?_);exact[I,I,I,O,O,O,O,O,O,O,O])
abbrev n8:zB:=O::O::O::O::O::O::I::(by(iterate 29 refine O::?_);exact[])
abbrev Ch:zR:=[bz 34 27 1,ab 27 34]
abbrev yki:zR:=[ab 31 6,ab 32 8,o 33 (.append 1 aE 16 (.t 31) (.t 32)),ab 6 33]
abbrev Cy:zR:=[aZ 29 1 25 27,ai 30 1 29,ab 8 30]
abbrev ykk:ah:=.seq (.ae Cy) (.ae yki)
abbrev CL:ah:=.seq (.ae uV) (.seq (.cond (.t 28) .skip (.exit 2)) (.seq (.block 3 [] ykk) (.ae Ch)))
abbrev sD:zR:=[ab 25 0,aN 26 25,aO 27 0]
abbrev Sp:zR:=[ab 23 3,o 24 (.call (.f Dc) [.c (.list true 0 []),.t 23]),ab 6 24]
abbrev sF:zB:=I::O::O::I::O::O::O::O::O::I::I::I::(by(iterate 24 refine O::?_);exact[])
abbrev sC:zB:=I::O::O::I::(by(iterate 32 refine O::?_);exact[])
abbrev ykr:zR:=[bz 22 11 1,ab 11 22]
abbrev yks:zR:=[o 21 (.lg aE (.c (.str [108,101,110,32,111,117,116,32,111,102,32,114,97,110,103,101]))),q (.panic (.t 21))]
abbrev ykt:zR:=[ab 19 3,o 20 (.cmp .lss (.sc .int) (.t 19) (.c (.int .i64 0)))]
abbrev yku:zR:=[ab 15 3,ab 16 5,aN 17 16,o 18 (.bB .add (.t 15) (.t 17)),ab 3 18]
abbrev ykv:zR:=[aZ 13 1 9 11,ai 14 1 13,ab 5 14]
abbrev ykw:ah:=.seq (.ae ykv) (.seq (.ae yku) (.seq (.ae ykt) (.cond (.t 20) (.ae yks) .skip)))
abbrev ykx:zR:=[cL 12 11 10]
abbrev n4:ah:=.seq (.ae ykx) (.seq (.cond (.t 12) .skip (.exit 0)) (.seq (.block 1 [] ykw) (.ae ykr)))
abbrev CD:zR:=[ab 9 0,aN 10 9,aO 11 0]
abbrev sx:zR:=[aO 3 0]
abbrev Ti:aA:=⟨.seq (.ae Is) (.seq (.ae sx) (.seq (.seq (.ae CD) (.block 0 sC (.loop sF n4))) (.seq (.ae Sp) (.seq (.seq (.ae sD) (.block 2 n8 (.loop oa CL))) (.seq (.ae qJ) .ret))))),36,[.tmp 2]⟩
abbrev He:zI:=[.code (.seq (.ae qJ) .ret)]
abbrev PX(x6 x25 x26 x27:AV)(h:List Ob)(e:Cx:=cx):aq:=bm mG (.code CL::.inLoop oa CL::.inBlock 2 n8::He) (U::U::U::U::U::U::x6::(by(iterate 18 refine U::?_);exact[x25,x26,x27,U,U,U,U,U,U,U,U])) h e
abbrev ykE:zI:=[.code (.seq (.ae Sp) (.seq (.seq (.ae sD) (.block 2 n8 (.loop oa CL))) (.seq (.ae qJ) .ret)))]
abbrev P4(x0 x3 x9 x10 x11:AV)(h:List Ob)(e:Cx:=cx):aq:=bm mG (.code n4::.inLoop sF n4::.inBlock 0 sC::ykE) (x0::U::U::x3::U::U::U::U::U::x9::x10::x11::(by(iterate 24 refine U::?_);exact[])) h e
@[simp] theorem Jq:az Tryz.prog mG=some Ti:=by kernel_rfl
@[simp] theorem avr:ar Tryz.prog mG=true:=by kernel_rfl
abbrev Ik:zR:=[ai 20 1 3,ab 2 20]
abbrev Rt:zR:=[ab 4 15]
abbrev ykI:zR:=[ai 16 1 3,ab 17 4,o 18 (.bB .shr (.t 17) (.c (.int .u64 1))),aZ 19 1 16 18,q (.store 1 (.t 19) (.c (.bool true)))]
abbrev Q9:ah:=.block 1 [] (.ae ykI)
abbrev QL:ah:=.rangeFunc (.t 14) [15] (O::O::I::I::(by(iterate 17 refine O::?_);exact[])) (.ae Rt) Q9
abbrev Q1:zR:=[aI 12 5 1,ai 13 1 3,cB 14 Dy 12 13]
abbrev ykM:zR:=[aI 5 5 1,aT 6 ke 5,al 7 3 1,ai 8 1 7,aN 9 8,o 10 (.bB .add (.t 6) (.t 9)),o 11 (.mkSlice 1 cD 1 (.bool false) (.t 10) (.t 10)),o 3 (.alloc [.own 1 cD []]),aM 1 3 11]
abbrev ykN:zR:=[o 1 (.box 5 (.t 0)),o 2 (.bE 1 cD)]
abbrev abC:aA:=⟨.seq (.ae ykN) (.seq (.fj [[],[0],[],[2],[3],[1,4],[5,5],[],[7,6,1,0,1,2,3,4,5,6,7]] ykM) (.seq (.seq (.ae Q1) (.block 0 [] QL)) (.seq (.ae Ik) .ret))),21,[.tmp 2]⟩
@[simp] theorem Yk:az Tryz.prog p1=some abC:=by kernel_rfl
@[simp] theorem ayD:ar Tryz.prog p1=true:=by kernel_rfl
abbrev ykO:zR:=[al 3 0 1,ai 4 1 3,o 5 (.bB .add (.c (.int .i64 1)) (.t 4)),al 6 1 1,ai 7 1 6,aN 8 7,o 9 (.bB .add (.t 5) (.t 8)),ab 2 9]
abbrev YV:aA:=⟨.seq (.ae Qe) (.seq (.ae ykO) .ret),10,[.tmp 2]⟩
@[simp] theorem J1:az Tryz.prog ke=some YV:=by kernel_rfl
@[simp] theorem ax7:ar Tryz.prog ke=true:=by kernel_rfl
abbrev ykQ:zR:=[ab 5 0,aI 6 2 3,cB 7 vv 5 6,o 8 (.cmp .geq (.sc .int) (.t 7) (.c (.int .i64 0))),ab 4 8]
abbrev ykR:zR:=[o 3 (.box 2 (.t 1)),kT 4]
abbrev Tk:aA:=⟨.seq (.ae ykR) (.seq (.ae ykQ) .ret),9,[.tmp 4]⟩
@[simp] theorem S_:az Tryz.prog y4=some Tk:=by kernel_rfl
@[simp] theorem avu:ar Tryz.prog y4=true:=by kernel_rfl
abbrev ykS:zR:=[aI 14 4 1,aI 15 4 1,aT 16 pY 15,ab 17 4,o 18 (.build [.list true 0 [],.list true 0 [],.list true 0 [],.list true 0 [],.list true 0 [],.list true 0 []] [(0,4,.t 14),(4,1,.t 16),(5,1,.t 17)]),o 19 (.box 6 (.t 18)),ab 2 19,aO 3 0]
abbrev ykT:zR:=[aI 10 4 1,aT 11 mH 10,ab 9 11,bj 12 9 0,bj 13 9 1,ab 4 12,ab 5 13]
abbrev ykU:zR:=[o 2 (.mv (.c .i_)),aO 3 1]
abbrev ykV:ah:=.seq (.ae ykU) .ret
abbrev ykW:zR:=[aI 6 4 1,aT 7 DB 6,o 8 (.not (.t 7))]
abbrev ykX:zR:=[o 1 (.box 4 (.t 0)),o 2 (.mv (.c .i_)),aO 3 0]
abbrev XY:aA:=⟨.seq (.ae ykX) (.seq (.seq (.ae ykW) (.cond (.t 8) ykV .skip)) (.seq (.ae ykT) (.seq (.aQ [I,O,O,O,O,O,O,O] [6,3,6,6,6,9,9,9] ykS) .ret))),20,[.tmp 2,.tmp 3]⟩
@[simp] theorem axp:az Tryz.prog zy=some XY:=by kernel_rfl
@[simp] theorem axl:ar Tryz.prog zy=true:=by kernel_rfl
abbrev ykY:zR:=[ab 42 9,ab 43 0,o 44 (.cr (.t 43)),al 45 0 44,al 46 1 45,ai 47 1 46,cB 48 zG 42 47,ab 49 11,ab 6 48,ab 7 49,aO 8 0]
abbrev ykZ:zB:=I::O::O::O::O::O::O::O::O::I::O::I::(by(iterate 16 refine O::?_);exact I::I::I::(by(iterate 19 refine O::?_);exact[]))
abbrev yla:zB:=I::O::O::O::O::O::O::O::O::I::O::I::(by(iterate 38 refine O::?_);exact[])
abbrev ylb:zR:=[bz 41 30 1,ab 30 41]
abbrev ylc:zR:=[ab 34 11,ab 35 9,al 36 1 13,ai 37 1 36,o 38 (.lookup (.sc .str) (.bool false) (.t 35) (.t 37) false),o 39 (.lit 1 [.bool false] [(0,.t 38)]),o 40 (.append 1 cD 1 (.t 34) (.t 39)),ab 11 40]
abbrev yle:zR:=[aZ 32 3 28 30,aI 33 3 32,o 13 (.alloc [.str [],.str [],.int .i64 0]),aM 3 13 33]
abbrev ylf:ah:=.seq (.ae yle) (.ae ylc)
abbrev ylg:zR:=[cL 31 30 29]
abbrev ylh:ah:=.seq (.ae ylg) (.seq (.cond (.t 31) .skip (.exit 0)) (.seq (.block 1 [] ylf) (.ae ylb)))
abbrev yli:zR:=[ab 24 0,o 25 (.cr (.t 24)),al 26 0 25,al 27 2 26,ai 28 1 27,aN 29 28,aO 30 0]
abbrev ylj:zR:=[o 11 (.bE 1 cD)]
abbrev ylk:zR:=[ab 23 10,o 6 (.bE 1 cD),o 7 (.bE 1 cD),ab 8 23]
abbrev yll:ah:=.seq (.ae ylk) .ret
abbrev ylm:zR:=[ab 21 10,o 22 (.cmp .neq (.sc .int) (.t 21) (.c (.int .i64 0)))]
abbrev yln:zR:=[ab 15 0,ab 16 1,ab 17 2,o 18 (.call (.f Dh) [.t 15,.t 16,.t 17]),ab 14 18,bj 19 14 0,bj 20 14 1,ab 9 19,ab 10 20]
abbrev ylo:zR:=[o 6 (.bE 1 cD),o 7 (.bE 1 cD),aO 8 0]
abbrev Ui:aA:=⟨.seq (.ae ylo) (.seq (.ae yln) (.seq (.seq (.ae ylm) (.cond (.t 22) yll .skip)) (.seq (.ae ylj) (.seq (.seq (.ae yli) (.block 0 yla (.loop ykZ ylh))) (.seq (.ae ykY) .ret))))),50,[.tmp 6,.tmp 7,.tmp 8]⟩
@[simp] theorem av4:az Tryz.prog za=some Ui:=by kernel_rfl
@[simp] theorem awa:ar Tryz.prog za=true:=by kernel_rfl
abbrev ylp:zR:=[ab 56 9,ab 6 56,aO 7 0]
abbrev ylq:zB:=O::O::O::O::O::O::O::O::O::I::(by(iterate 26 refine O::?_);exact I::I::I::(by(iterate 18 refine O::?_);exact[]))
abbrev ylr:zB:=O::O::O::O::O::O::O::O::O::I::(by(iterate 47 refine O::?_);exact[])
abbrev yls:zR:=[bz 55 38 1,ab 38 55]
abbrev ylt:zR:=[ab 42 9,ab 43 9,o 44 (.eB 2 1 (.t 11) (.c (.int .i64 0))),ai 45 1 44,cB 46 vP 43 45,ab 47 46,cn 48 47 9,oy 49 47 (.eB 2 1 (.t 11) (.c (.int .i64 1))),cG 50 47 1 49,oy 51 47 (.call (.f vP) [.t 48,.t 50]),bH 52 47 51,o 53 (.lit 1 [.bool false] [(0,.t 52)]),o 54 (.append 1 cD 1 (.t 42) (.t 53)),ab 9 54]
abbrev ylu:zR:=[aZ 40 2 36 38,aI 41 2 40,o 11 (.alloc [.int .i64 0,.int .i64 0]),aM 2 11 41]
abbrev ylv:ah:=.seq (.ae ylu) (.ae ylt)
abbrev Q8:zR:=[cL 39 38 37]
abbrev ylx:ah:=.seq (.ae Q8) (.seq (.cond (.t 39) .skip (.exit 0)) (.seq (.block 1 [] ylv) (.ae yls)))
abbrev yly:zR:=[al 35 3 3,ai 36 1 35,aN 37 36,aO 38 0]
abbrev ylz:zR:=[o 30 (.lit 1 [.bool false] [(0,.c (.bool false))]),ab 31 2,ab 32 1,o 33 (.lit 1 [.list true 0 [],.list true 0 [],.list true 0 []] [(0,.t 30),(1,.t 31),(2,.t 32)]),aT 34 y6 33,ab 9 34]
abbrev ylA:zR:=[o 6 (.bE 1 cD),aO 7 11]
abbrev ylB:ah:=.seq (.ae ylA) .ret
abbrev ylC:zR:=[ab 17 1,aN 18 17,al 19 1 3,ai 20 1 19,aN 21 20,o 22 (.cmp .neq (.sc .int) (.t 18) (.t 21)),ab 23 22,on 24 23 (.mv (.t 2)),on 25 23 (.len (.t 24)),on 26 23 (.off 0 (.t 3)),on 27 23 (.load false 1 (.t 26)),on 28 23 (.cmp .neq (.sc .int) (.t 25) (.t 27)),o 29 (.pick (.t 23) (.c (.bool true)) (.t 28))]
abbrev ylD:zR:=[ab 16 8,o 6 (.bE 1 cD),ab 7 16]
abbrev ylE:ah:=.seq (.ae ylD) .ret
abbrev ylF:zR:=[ab 14 8,o 15 (.cmp .neq (.sc .int) (.t 14) (.c (.int .i64 0)))]
abbrev ylG:zR:=[aI 12 5 3,aT 13 nw 12,ab 8 13]
abbrev ylH:zR:=[o 3 (.box 5 (.t 0)),o 6 (.bE 1 cD),aO 7 0]
abbrev XM:aA:=⟨.seq (.ae ylH) (.seq (.seq (.ae ylG) (.seq (.ae ylF) (.cond (.t 15) ylE .skip))) (.seq (.seq (.ae ylC) (.cond (.t 29) ylB .skip)) (.seq (.ae ylz) (.seq (.seq (.ae yly) (.block 0 ylr (.loop ylq ylx))) (.seq (.ae ylp) .ret))))),57,[.tmp 6,.tmp 7]⟩
@[simp] theorem axi:az Tryz.prog DA=some XM:=by kernel_rfl
@[simp] theorem axv:ar Tryz.prog DA=true:=by kernel_rfl
abbrev ylM:zR:=[ab 13 4,ai 14 1 1,ab 15 6,cB 16 vP 14 15,o 17 (.lit 1 [.bool false] [(0,.t 16)]),o 18 (.append 1 cD 1 (.t 13) (.t 17)),ab 4 18]
abbrev ylO:ah:=.seq (.ae P5) (.ae ylM)
abbrev ylQ:ah:=.seq (.ae xu) (.seq (.cond (.t 10) .skip (.exit 0)) (.seq (.block 1 [] ylO) (.ae Sm)))
abbrev IK:zR:=[o 4 (.bE 1 cD)]
abbrev ylT:zR:=[o 3 (.bE 1 cD)]
abbrev XL:aA:=⟨.seq (.ae ylT) (.seq (.ae IK) (.seq (.seq (.ae Ci) (.block 0 Iq (.loop ID ylQ))) (.seq (.ae Ho) .ret))),21,[.tmp 3]⟩
@[simp] theorem axb:az Tryz.prog Dz=some XL:=by kernel_rfl
@[simp] theorem axh:ar Tryz.prog Dz=true:=by kernel_rfl
abbrev ylU:zR:=[ab 5 0,ab 6 1,o 7 (.bB .shr (.t 6) (.c (.int .u64 1))),aZ 8 1 5 7,ai 9 1 8,ab 10 1,o 11 (.bB .and (.t 10) (.c (.int .i64 1))),o 12 (.cmp .eql (.sc .int) (.t 11) (.c (.int .i64 1))),o 13 (.cmp .neq (.sc .bool) (.t 9) (.t 12)),ab 4 13]
abbrev Yo:aA:=⟨.seq (.ae jF) (.seq (.ae ylU) .ret),14,[.tmp 4]⟩
@[simp] theorem axV:az Tryz.prog vP=some Yo:=by kernel_rfl
@[simp] theorem ax3:ar Tryz.prog vP=true:=by kernel_rfl
abbrev R0:zR:=[ab 10 3,o 11 (.cmp .eql (.sc .int) (.t 10) (.c (.int .i64 0))),ab 2 11]
abbrev ylX:zR:=[aI 6 4 1,aT 7 ta 6,ab 5 7,bj 8 5 0,bj 9 5 1,ab 3 8,ab 4 9]
abbrev XD:aA:=⟨.seq (.ae yG) (.seq (.ae ylX) (.seq (.ae R0) .ret)),12,[.tmp 2]⟩
@[simp] theorem axo:az Tryz.prog DB=some XD:=by kernel_rfl
@[simp] theorem axd:ar Tryz.prog DB=true:=by kernel_rfl
abbrev ylZ:zR:=[o 9 (.fH (.func Df) [] [.t 6,.t 4,.t 5,.t 7]),ab 8 9]
abbrev yma:zR:=[o 4 (.box 1 (.t 0)),o 5 (.box 1 (.t 1)),o 6 (.box 1 (.t 2)),o 7 (.box 1 (.t 3)),o 8 (.mv (.c .df))]
abbrev T_:aA:=⟨.seq (.ae yma) (.seq (.ae ylZ) .ret),10,[.tmp 8]⟩
@[simp] theorem avW:az Tryz.prog Dk=some T_:=by kernel_rfl
@[simp] theorem av2:ar Tryz.prog Dk=true:=by kernel_rfl
abbrev ymb:zR:=[o 5 (.lit 1 [] []),ab 6 0,o 7 (.append 1 cD 1 (.t 5) (.t 6)),ab 2 7]
abbrev HG:zR:=[o 2 (.bE 1 cD)]
abbrev ymd:ah:=.seq (.ae HG) .ret
abbrev TF:aA:=⟨.seq (.ae HG) (.seq (.seq (.ae CN) (.cond (.t 4) ymd .skip)) (.seq (.ae ymb) .ret)),8,[.tmp 2]⟩
@[simp] theorem avG:az Tryz.prog Dd=some TF:=by kernel_rfl
@[simp] theorem avF:ar Tryz.prog Dd=true:=by kernel_rfl
abbrev uY:zB:=[I,I,O,O,O,O,O,O,O,O,O,O,I,I,O,O,O,O,O,O,O,O,O,O,O,O]
abbrev Iw:zR:=[bz 25 13 1,ab 13 25]
abbrev ymm:zR:=[ab 16 0,ab 17 5,aZ 18 1 16 17,ai 19 1 18,ab 20 1,ab 21 5,aZ 22 1 20 21,ai 23 1 22,o 24 (.cmp .neq (.sc .int) (.t 19) (.t 23))]
abbrev I0:zR:=[ab 15 13,ab 5 15]
abbrev ymo:ah:=.seq (.ae I0) (.seq (.aQ [O,O,O,O,O,O,O,O,O] [10,10,10,10,10,10,10,10,10] ymm) (.cond (.t 24) lH .skip))
abbrev uU:zR:=[cL 14 13 12]
abbrev H3:ah:=.seq (.ae uU) (.seq (.cond (.t 14) .skip (.exit 0)) (.seq (.block 1 [] ymo) (.ae Iw)))
abbrev Cu:zR:=[ab 11 0,aN 12 11,aO 13 0]
abbrev TW:aA:=⟨.seq (.ae jF) (.seq (.seq (.ae xv) (.cond (.t 10) lH .skip)) (.seq (.seq (.ae Cu) (.block 0 pB (.loop uY H3))) (.seq (.ae sE) .ret))),26,[.tmp 4]⟩
abbrev ymx(x0 x1 x12 x13:AV)(h:List Ob)(e:Cx:=cx):aq:=bm re (.code H3::.inLoop uY H3::.inBlock 0 pB::CC) [x0,x1,U,U,U,U,U,U,U,U,U,U,x12,x13,U,U,U,U,U,U,U,U,U,U,U,U] h e
@[simp] theorem TI:az Tryz.prog re=some TW:=by kernel_rfl
@[simp] theorem avM:ar Tryz.prog re=true:=by kernel_rfl
abbrev ymE:zR:=[ab 16 0,ab 17 5,aZ 18 2 16 17,aI 19 2 18,ab 20 1,ab 21 5,aZ 22 2 20 21,aI 23 2 22,o 24 (.cmp .neq (.iE [.int,.int]) (.t 19) (.t 23))]
abbrev ymG:ah:=.seq (.ae I0) (.seq (.aQ [O,O,O,O,O,O,O,O,O] [10,10,10,10,10,10,10,10,10] ymE) (.cond (.t 24) lH .skip))
abbrev Hx:ah:=.seq (.ae uU) (.seq (.cond (.t 14) .skip (.exit 0)) (.seq (.block 1 [] ymG) (.ae Iw)))
abbrev TA:aA:=⟨.seq (.ae jF) (.seq (.seq (.ae xv) (.cond (.t 10) lH .skip)) (.seq (.seq (.ae Cu) (.block 0 pB (.loop uY Hx))) (.seq (.ae sE) .ret))),26,[.tmp 4]⟩
abbrev ymP(x0 x1 x12 x13:AV)(h:List Ob)(e:Cx:=cx):aq:=bm vu (.code Hx::.inLoop uY Hx::.inBlock 0 pB::CC) [x0,x1,U,U,U,U,U,U,U,U,U,U,x12,x13,U,U,U,U,U,U,U,U,U,U,U,U] h e
@[simp] theorem Tt:az Tryz.prog vu=some TA:=by kernel_rfl
@[simp] theorem avB:ar Tryz.prog vu=true:=by kernel_rfl
abbrev ymW:zR:=[ab 16 0,ab 17 5,aZ 18 1 16 17,ai 19 1 18,ab 20 1,ab 21 5,aZ 22 1 20 21,ai 23 1 22,o 24 (.cmp .neq (.sc .str) (.t 19) (.t 23))]
abbrev ymY:ah:=.seq (.ae I0) (.seq (.aQ [O,O,O,O,O,O,O,O,O] [10,10,10,10,10,10,10,10,10] ymW) (.cond (.t 24) lH .skip))
abbrev Hf:ah:=.seq (.ae uU) (.seq (.cond (.t 14) .skip (.exit 0)) (.seq (.block 1 [] ymY) (.ae Iw)))
abbrev Tr:aA:=⟨.seq (.ae jF) (.seq (.seq (.ae xv) (.cond (.t 10) lH .skip)) (.seq (.seq (.ae Cu) (.block 0 pB (.loop uY Hf))) (.seq (.ae sE) .ret))),26,[.tmp 4]⟩
abbrev ynh(x0 x1 x12 x13:AV)(h:List Ob)(e:Cx:=cx):aq:=bm rb (.code Hf::.inLoop uY Hf::.inBlock 0 pB::CC) [x0,x1,U,U,U,U,U,U,U,U,U,U,x12,x13,U,U,U,U,U,U,U,U,U,U,U,U] h e
@[simp] theorem Tg:az Tryz.prog rb=some Tr:=by kernel_rfl
@[simp] theorem avv:ar Tryz.prog rb=true:=by kernel_rfl
abbrev HV:zR:=[ab 62 6,ab 63 62,cn 64 63 7,bH 65 63 64,ab 66 65,oy 67 66 (.off 3 (.t 1)),cG 68 66 1 67,oy 69 66 (.len (.t 68)),oy 70 66 (.cmp .leq (.sc .int) (.t 69) (.c (.int .i64 210))),bH 71 66 70,ab 72 71,oy 73 72 (.off 2 (.t 1)),cG 74 72 1 73,oy 75 72 (.len (.t 74)),oy 76 72 (.cmp .leq (.sc .int) (.t 75) (.c (.int .i64 210))),bH 77 72 76,ab 2 77]
abbrev Ir:zR:=[al 59 1 1,ai 60 1 59,o 61 (.call (.f pW) [.t 60,.c (.int .i64 210)]),ab 7 61]
abbrev H_:zR:=[al 56 0 1,ai 57 1 56,o 58 (.call (.f pW) [.t 57,.c (.int .i64 210)]),ab 6 58]
abbrev IX:zB:=O::I::O::O::O::I::(by(iterate 72 refine O::?_);exact[])
abbrev xK:zB:=O::I::(by(iterate 76 refine O::?_);exact[])
abbrev ynn:zR:=[ab 36 5,bz 37 36 1,ab 5 37]
abbrev ynq:zR:=[al 38 2 1,ai 39 1 38,ab 40 5,aZ 41 3 39 40,al 42 0 41,ai 43 1 42,o 44 (.lS (.t 43)),o 45 (.cmp .gtr (.sc .int) (.t 44) (.c (.int .i64 60))),ab 46 45,on 47 46 (.off 2 (.t 1)),on 48 46 (.load false 1 (.t 47)),on 49 46 (.mv (.t 5)),on 50 46 (.g_ 3 (.t 48) (.t 49)),on 51 46 (.off 1 (.t 50)),on 52 46 (.load false 1 (.t 51)),on 53 46 (.lS (.t 52)),on 54 46 (.cmp .gtr (.sc .int) (.t 53) (.c (.int .i64 60))),o 55 (.pick (.t 46) (.c (.bool true)) (.t 54))]
abbrev ynr:ah:=.seq (.ae ynq) (.cond (.t 55) yj .skip)
abbrev yns:zR:=[ab 27 5,al 28 2 1,ai 29 1 28,aN 30 29,cL 31 27 30,ab 32 31,cn 33 32 5,oy 34 32 (.cmp .leq (.sc .int) (.t 33) (.c (.int .i64 210))),bH 35 32 34]
abbrev Cl:ah:=.seq (.seq (.ae yns) (.cond (.t 35) .skip (.exit 2))) (.seq (.block 3 [] ynr) (.ae ynn))
abbrev Q2:zB:=O::I::O::I::(by(iterate 74 refine O::?_);exact[])
abbrev ynx:zR:=[ab 17 3,bz 18 17 1,ab 3 18]
abbrev ynA:zR:=[ab 25 4,o 26 (.not (.t 25))]
abbrev ynB:zR:=[al 19 3 1,ai 20 1 19,ab 21 3,aZ 22 5 20 21,aI 23 5 22,aT 24 zu 23,ab 4 24]
abbrev ynC:ah:=.seq (.ae ynB) (.seq (.ae ynA) (.cond (.t 26) yj .skip))
abbrev ynD:zR:=[ab 8 3,al 9 3 1,ai 10 1 9,aN 11 10,cL 12 8 11,ab 13 12,cn 14 13 3,oy 15 13 (.cmp .leq (.sc .int) (.t 14) (.c (.int .i64 210))),bH 16 13 15]
abbrev Hn:ah:=.seq (.seq (.ae ynD) (.cond (.t 16) .skip (.exit 0))) (.seq (.block 1 [] ynC) (.ae ynx))
abbrev abN:aA:=⟨.seq (.ae yG) (.seq (.seq (.ae sx) (.block 0 xK (.loop Q2 Hn))) (.seq (.seq (.ae qF) (.block 2 xK (.loop IX Cl))) (.seq (.ae H_) (.seq (.ae Ir) (.seq (.ae HV) .ret))))),78,[.tmp 2]⟩
abbrev RG:zI:=[.code (.seq (.ae H_) (.seq (.ae Ir) (.seq (.ae HV) .ret)))]
abbrev ynI(x1 x5:AV)(h:List Ob)(e:Cx:=cx):aq:=bm rC (.code Cl::.inLoop IX Cl::.inBlock 2 xK::RG) (U::x1::U::U::U::x5::(by(iterate 72 refine U::?_);exact[])) h e
abbrev ynJ(x1:AV)(h:List Ob)(e:Cx:=cx):aq:=bm rC RG (U::x1::(by(iterate 76 refine U::?_);exact[])) h e
abbrev ynK:zI:=[.code (.seq (.seq (.ae qF) (.block 2 xK (.loop IX Cl))) (.seq (.ae H_) (.seq (.ae Ir) (.seq (.ae HV) .ret))))]
abbrev ynL(x1 x3:AV)(h:List Ob)(e:Cx:=cx):aq:=bm rC (.code Hn::.inLoop Q2 Hn::.inBlock 0 xK::ynK) (U::x1::U::x3::(by(iterate 74 refine U::?_);exact[])) h e
@[simp] theorem Zf:az Tryz.prog rC=some abN:=by kernel_rfl
@[simp] theorem ayz:ar Tryz.prog rC=true:=by kernel_rfl
abbrev ynN:zR:=[aI 6 4 1,aT 7 nz 6,ab 5 7,bj 8 5 0,bj 9 5 1,ab 3 8,ab 4 9]
abbrev Wd:aA:=⟨.seq (.ae yG) (.seq (.ae ynN) (.seq (.ae R0) .ret)),12,[.tmp 2]⟩
@[simp] theorem Va:az Tryz.prog zp=some Wd:=by kernel_rfl
@[simp] theorem aw8:ar Tryz.prog zp=true:=by kernel_rfl
abbrev Qz:zR:=[ab 20 3,ab 2 20]
abbrev QU:zB:=[O,O,O,I,O,O,O,O,I,I,I,O,O,O,O,O,O,O,O,O,O]
abbrev Q6:zB:=O::O::O::I::(by(iterate 17 refine O::?_);exact[])
abbrev ynS:zR:=[bz 19 10 1,ab 10 19]
abbrev ynT:zR:=[ab 15 3,al 16 0 5,ai 17 1 16,ab 18 4,q (.bG (.sc .str) (.t 15) (.t 17) (.t 18))]
abbrev ynU:zR:=[ab 12 10,aZ 13 5 8 10,aI 14 5 13,o 5 (.alloc [.str [],.int .i64 0,.own 1 aE [],.own 1 aE [],.bool false]),ab 4 12,aM 5 5 14]
abbrev ynV:ah:=.seq (.ae ynU) (.ae ynT)
abbrev H4:zR:=[cL 11 10 9]
abbrev IM:ah:=.seq (.ae H4) (.seq (.cond (.t 11) .skip (.exit 0)) (.seq (.block 1 [] ynV) (.ae ynS)))
abbrev ynY:zR:=[al 7 3 1,ai 8 1 7,aN 9 8,aO 10 0]
abbrev yoa:zR:=[o 1 (.box 4 (.t 0)),o 2 (.mv (.c .c_))]
abbrev VK:aA:=⟨.seq (.ae yoa) (.seq (.ae HL) (.seq (.seq (.ae ynY) (.block 0 Q6 (.loop QU IM))) (.seq (.ae Qz) .ret))),21,[.tmp 2]⟩
abbrev yob:zI:=[.code (.seq (.ae Qz) .ret)]
abbrev yoc(x3 x8 x9 x10:AV)(h:List Ob)(e:Cx:=cx):aq:=bm s9 (.code IM::.inLoop QU IM::.inBlock 0 Q6::yob) [U,U,U,x3,U,U,U,U,x8,x9,x10,U,U,U,U,U,U,U,U,U,U] h e
@[simp] theorem UW:az Tryz.prog s9=some VK:=by kernel_rfl
@[simp] theorem awK:ar Tryz.prog s9=true:=by kernel_rfl
abbrev yod:zR:=[o 3 (.fH (.func nv) [] [.t 1]),ab 2 3]
abbrev yoe:zR:=[o 1 (.box 4 (.t 0)),o 2 (.mv (.c .df))]
abbrev VI:aA:=⟨.seq (.ae yoe) (.seq (.ae yod) .ret),4,[.tmp 2]⟩
@[simp] theorem U4:az Tryz.prog Dv=some VI:=by kernel_rfl
@[simp] theorem awM:ar Tryz.prog Dv=true:=by kernel_rfl
abbrev QP:zR:=[ab 42 7,aT 43 ir 42,ab 4 43,aO 5 0]
abbrev R9:zB:=O::O::O::O::O::O::O::I::(by(iterate 19 refine O::?_);exact I::I::I::(by(iterate 14 refine O::?_);exact[]))
abbrev PY:zB:=O::O::O::O::O::O::O::I::(by(iterate 36 refine O::?_);exact[])
abbrev yoi:zR:=[bz 41 29 1,ab 29 41]
abbrev yoj:zR:=[ab 37 7,ab 38 9,o 39 (.lit 1 [.str []] [(0,.t 38)]),o 40 (.append 1 aE 16 (.t 37) (.t 39)),ab 7 40]
abbrev yok:zR:=[ab 33 7,ab 34 9,cB 35 y0 33 34,o 36 (.not (.t 35))]
abbrev yol:zR:=[aZ 31 1 27 29,ai 32 1 31,ab 9 32]
abbrev yom:ah:=.seq (.ae yol) (.seq (.ae yok) (.cond (.t 36) (.ae yoj) .skip))
abbrev yon:zR:=[cL 30 29 28]
abbrev II:ah:=.seq (.ae yon) (.seq (.cond (.t 30) .skip (.exit 0)) (.seq (.block 1 [] yom) (.ae yoi)))
abbrev yop:zR:=[ab 27 0,aN 28 27,aO 29 0]
abbrev yor:zR:=[o 4 (.bE 3 aS),aO 5 1]
abbrev yos:ah:=.seq (.ae yor) .ret
abbrev yot:zR:=[ai 11 1 3,o 12 (.cmp .lss (.sc .int) (.t 11) (.c (.int .i64 0))),ab 13 12,on 14 13 (.load false 1 (.t 3)),on 15 13 (.cmp .gtr (.sc .int) (.t 14) (.c (.int .i64 8))),o 16 (.pick (.t 13) (.c (.bool true)) (.t 15)),ab 17 16,on 18 17 (.mv (.t 0)),on 19 17 (.len (.t 18)),on 20 17 (.cmp .gtr (.sc .int) (.t 19) (.c (.int .i64 128))),o 21 (.pick (.t 17) (.c (.bool true)) (.t 20)),ab 22 21,on 23 22 (.mv (.t 0)),on 24 22 (.mv (.t 6)),on 25 22 (.call (.f pP) [.t 23,.t 24]),o 26 (.pick (.t 22) (.c (.bool true)) (.t 25))]
abbrev you:zR:=[o 10 (.fH (.func zh) [] [.t 3]),ab 6 10]
abbrev yov:zR:=[o 3 (.box 1 (.t 1)),o 4 (.bE 3 aS),aO 5 0]
abbrev V_:aA:=⟨.seq (.ae yov) (.seq (.ae you) (.seq (.seq (.ae yot) (.cond (.t 26) yos .skip)) (.seq (.ae QY) (.seq (.seq (.ae yop) (.block 0 PY (.loop R9 II))) (.seq (.ae QP) .ret))))),44,[.tmp 4,.tmp 5]⟩
abbrev yow:zI:=[.code (.seq (.ae QP) .ret)]
abbrev yox(x7 x27 x28 x29:AV)(h:List Ob)(e:Cx:=cx):aq:=bm vG (.code II::.inLoop R9 II::.inBlock 0 PY::yow) (U::U::U::U::U::U::U::x7::(by(iterate 19 refine U::?_);exact x27::x28::x29::(by(iterate 14 refine U::?_);exact[]))) h e
@[simp] theorem U5:az Tryz.prog vG=some V_:=by kernel_rfl
@[simp] theorem awO:ar Tryz.prog vG=true:=by kernel_rfl
abbrev Qn:zR:=[ab 61 0,ab 62 10,cB 63 sX 61 62,ab 64 9,ab 6 63,ab 7 64]
abbrev yoz:zR:=[ab 57 0,ab 58 10,cB 59 sY 57 58,ab 60 9,ab 6 59,ab 7 60]
abbrev Rx:ah:=.seq (.ae yoz) .ret
abbrev Q4:zR:=[al 54 0 8,ai 55 1 54,o 56 (.cmp .eql (.sc .int) (.t 55) (.c (.int .i64 3)))]
abbrev QD:zB:=I::O::I::O::O::O::O::O::I::I::I::(by(iterate 28 refine O::?_);exact I::I::(by(iterate 24 refine O::?_);exact[]))
abbrev Qj:zB:=I::O::O::O::O::O::O::O::I::I::I::(by(iterate 54 refine O::?_);exact[])
abbrev yoE:zR:=[bz 53 40 1,ab 40 53]
abbrev yoF:zR:=[ab 49 10,ab 50 11,o 51 (.lit 1 [.int .i64 0] [(0,.t 50)]),o 52 (.append 1 an 8 (.t 49) (.t 51)),ab 10 52]
abbrev yoG:zR:=[ab 43 0,ab 44 9,ab 45 2,o 46 (.call (.f sU) [.t 43,.t 44,.t 45]),ab 42 46,bj 47 42 0,bj 48 42 1,ab 11 47,ab 9 48]
abbrev yoH:zR:=[aO 11 0]
abbrev yoI:ah:=.seq (.ae yoH) (.seq (.ae yoG) (.ae yoF))
abbrev Qv:zR:=[cL 41 40 39]
abbrev Ih:ah:=.seq (.ae Qv) (.seq (.cond (.t 41) .skip (.exit 1)) (.seq (.block 2 [] yoI) (.ae yoE)))
abbrev yoL:zR:=[al 38 2 8,ai 39 1 38,aO 40 0]
abbrev yoM:zR:=[o 10 (.bE 1 an)]
abbrev yoN:zR:=[al 22 0 8,ai 23 1 22,ab 24 9,ab 6 23,ab 7 24]
abbrev yoO:zR:=[ab 27 2,al 28 1 8,ai 29 1 28,o 30 (.bB .shr (.t 29) (.c (.int .u64 1))),aZ 31 1 27 30,ai 32 1 31,al 33 1 8,ai 34 1 33,o 35 (.bB .and (.t 34) (.c (.int .i64 1))),o 36 (.bB .xor (.t 32) (.t 35)),ab 37 9,ab 6 36,ab 7 37]
abbrev yoP:ah:=.seq (.aQ [O,O,O,O,O,O,O,O,O,O,O,O,O] [14,14,14,14,14,14,14,14,14,14,14,14,14] yoO) .ret
abbrev yoQ:zR:=[o 26 (.cmp .eql (.sc .int) (.t 18) (.c (.int .i64 2))),ab 25 26]
abbrev yoR:ah:=.seq (.ae yoN) .ret
abbrev yoS:ah:=.seq (.ae yoQ) (.cond (.t 25) yoP .skip)
abbrev yoT:zR:=[o 21 (.cmp .eql (.sc .int) (.t 18) (.c (.int .i64 1))),ab 19 21]
abbrev yoU:zR:=[o 20 (.cmp .eql (.sc .int) (.t 18) (.c (.int .i64 0))),ab 19 20]
abbrev yoV:ah:=.seq (.seq (.ae yoU) (.cond (.t 19) .skip (.ae yoT))) (.cond (.t 19) yoR yoS)
abbrev yoW:zR:=[al 17 0 8,ai 18 1 17]
abbrev yoX:zR:=[ab 12 1,o 13 (.g_ 3 (.t 12) (.c (.int .i64 0))),aI 14 3 13,ab 15 1,o 16 (.slice 3 (.t 15) (some (.c (.int .i64 1))) none),o 8 (.alloc [.int .i64 0,.int .i64 0,.int .i64 0]),aM 3 8 14,ab 9 16]
abbrev yoY:zR:=[aO 6 0,o 7 (.bE 3 aS)]
abbrev Ue:aA:=⟨.seq (.ae yoY) (.seq (.aQ [O,O,I,O,I,O,O,O] [7,7,7,9,9,7,9,9] yoX) (.seq (.seq (.ae yoW) (.block 0 [] yoV)) (.seq (.ae yoM) (.seq (.seq (.ae yoL) (.block 1 Qj (.loop QD Ih))) (.seq (.seq (.ae Q4) (.cond (.t 56) Rx .skip)) (.seq (.ae Qn) .ret)))))),65,[.tmp 6,.tmp 7]⟩
abbrev yoZ:zI:=[.code (.seq (.seq (.ae Q4) (.cond (.t 56) Rx .skip)) (.seq (.ae Qn) .ret))]
abbrev ypa(x0 x2 x8 x9 x10 x39 x40:AV)(h:List Ob)(e:Cx:=cx):aq:=bm sU (.code Ih::.inLoop QD Ih::.inBlock 1 Qj::yoZ) (x0::U::x2::U::U::U::U::U::x8::x9::x10::(by(iterate 28 refine U::?_);exact x39::x40::(by(iterate 24 refine U::?_);exact[]))) h e
@[simp] theorem Dj:az Tryz.prog sU=some Ue:=by kernel_rfl
@[simp] theorem avV:ar Tryz.prog sU=true:=by kernel_rfl
abbrev Rq:zB:=O::O::O::I::O::O::O::O::O::O::O::O::O::O::O::I::I::(by(iterate 15 refine O::?_);exact[])
abbrev QH:zB:=O::O::O::I::(by(iterate 28 refine O::?_);exact[])
abbrev ype:zR:=[bz 30 16 1,ab 16 30]
abbrev ypf:zR:=[ab 19 3,ab 20 3,o 21 (.cr (.t 20)),al 22 6 21,ai 23 1 22,ab 24 4,o 25 (.bB .mul (.c (.int .i64 2)) (.t 24)),o 26 (.lit 1 [.int .i64 0] [(0,.t 25)]),o 27 (.append 1 an 8 (.t 23) (.t 26)),o 28 (.cr (.t 19)),al 29 6 28,aM 1 29 27]
abbrev ypg:zR:=[ab 18 16,ab 4 18]
abbrev yph:ah:=.seq (.ae ypg) (.ae ypf)
abbrev B7:zR:=[cL 17 16 15]
abbrev I1:ah:=.seq (.ae B7) (.seq (.cond (.t 17) .skip (.exit 0)) (.seq (.block 1 [] yph) (.ae ype)))
abbrev ypk:zR:=[aI 14 5 1,aT 15 ke 14,aO 16 0]
abbrev ypl:zR:=[al 5 0 1,ai 6 1 5,al 7 1 1,ai 8 1 7,al 9 2 1,ai 10 1 9,aT 11 y7 10,o 12 (.build [.int .i64 0,.list true 0 [],.list true 0 [],.list true 0 [],.list true 0 []] [(0,1,.t 6),(1,1,.t 8),(2,1,.t 11)]),aT 13 rv 12,ab 3 13]
abbrev RT:zR:=[o 1 (.box 5 (.t 0)),o 2 (.mv (.c .i_))]
abbrev YE:aA:=⟨.seq (.ae RT) (.seq (.aQ [O,I,O,I,O,O,O,O,O,O] [9,9,9,9,7,7,9,9,11,11] ypl) (.seq (.seq (.ae ypk) (.block 0 QH (.loop Rq I1))) (.seq (.ae yw) .ret))),32,[.tmp 2]⟩
abbrev RV:zI:=[.code (.seq (.ae yw) .ret)]
abbrev ypo(x3 x15 x16:AV)(h:List Ob)(e:Cx:=cx):aq:=bm tq (.code I1::.inLoop Rq I1::.inBlock 0 QH::RV) (U::U::U::x3::U::U::U::U::U::U::U::U::U::U::U::x15::x16::(by(iterate 15 refine U::?_);exact[])) h e
abbrev ypp(x3:AV)(h:List Ob)(e:Cx:=cx):aq:=bm tq RV (U::U::U::x3::(by(iterate 28 refine U::?_);exact[])) h e
@[simp] theorem J2:az Tryz.prog tq=some YE:=by kernel_rfl
@[simp] theorem axA:ar Tryz.prog tq=true:=by kernel_rfl
abbrev ypq:zR:=[ab 76 10,ab 6 76]
abbrev ypr:zR:=[ab 70 0,o 71 (.cr (.t 70)),al 72 5 71,ai 73 1 72,aI 74 2 7,ab 75 10,q (.bG (.iE [.int,.int]) (.t 73) (.t 74) (.t 75))]
abbrev yps:zR:=[ab 58 0,ab 59 0,o 60 (.cr (.t 59)),al 61 0 60,al 62 3 61,ai 63 1 62,aI 64 2 7,o 65 (.lit 2 [.agg [.int .i64 0,.int .i64 0]] [(0,.t 64)]),o 66 (.append 2 cM 16 (.t 63) (.t 65)),o 67 (.cr (.t 58)),al 68 0 67,al 69 3 68,aM 1 69 66]
abbrev ypt:zR:=[ab 45 0,o 46 (.cr (.t 45)),al 47 0 46,aI 48 5 47,aT 49 ke 48,ab 50 0,o 51 (.cr (.t 50)),al 52 0 51,al 53 3 52,ai 54 1 53,aN 55 54,o 56 (.bB .add (.t 49) (.t 55)),o 57 (.bB .mul (.c (.int .i64 2)) (.t 56)),ab 10 57]
abbrev ypu:zR:=[ab 44 8,ab 6 44]
abbrev ypv:ah:=.seq (.ae ypu) .ret
abbrev ypw:zR:=[ab 43 9]
abbrev ypx:zR:=[ab 35 0,o 36 (.cr (.t 35)),al 37 5 36,ai 38 1 37,aI 39 2 7,o 40 (.lookup (.iE [.int,.int]) (.int .i64 0) (.t 38) (.t 39) true),ab 34 40,bj 41 34 0,bj 42 34 1,ab 8 41,ab 9 42]
abbrev ypy:zR:=[ab 31 1,ab 32 2,o 33 (.build [.int .i64 0,.int .i64 0] [(0,1,.t 31),(1,1,.t 32)]),o 7 (.alloc [.int .i64 0,.int .i64 0]),aM 2 7 33]
abbrev B4:zR:=[aO 6 0]
abbrev ypA:zR:=[ab 30 1,ab 6 30]
abbrev ypB:ah:=.seq (.ae ypA) .ret
abbrev ypC:zR:=[ab 27 1,ab 28 2,o 29 (.cmp .eql (.sc .int) (.t 27) (.t 28)),ab 24 29]
abbrev ypD:zR:=[ab 25 2,o 26 (.cmp .eql (.sc .int) (.t 25) (.c (.int .i64 1))),ab 24 26]
abbrev ypE:ah:=.seq (.ae B4) .ret
abbrev ypF:ah:=.seq (.seq (.ae ypD) (.cond (.t 24) .skip (.ae ypC))) (.cond (.t 24) ypB .skip)
abbrev ypG:zR:=[ab 20 1,o 21 (.bB .xor (.t 20) (.c (.int .i64 1))),ab 22 2,o 23 (.cmp .eql (.sc .int) (.t 21) (.t 22)),ab 17 23]
abbrev ypH:zR:=[ab 18 2,o 19 (.cmp .eql (.sc .int) (.t 18) (.c (.int .i64 0))),ab 17 19]
abbrev ypI:ah:=.seq (.seq (.ae ypH) (.cond (.t 17) .skip (.ae ypG))) (.cond (.t 17) ypE ypF)
abbrev ypJ:zR:=[ab 11 1,ab 12 2,o 13 (.max [.t 11,.t 12]),ab 14 1,ab 15 2,o 16 (.min [.t 14,.t 15]),ab 1 13,ab 2 16]
abbrev UQ:aA:=⟨.seq (.ae B4) (.seq (.ae ypJ) (.seq (.block 0 [] ypI) (.seq (.ae ypy) (.seq (.seq (.aQ [O,O,O,O,O,O,O,O,O,O,O] [12,12,12,12,12,12,12,12,12,12,12] ypx) (.seq (.ae ypw) (.cond (.t 43) ypv .skip))) (.seq (.aQ [O,O,O,O,O,O,O,O,O,I,O,O,O,O] [5,5,5,5,15,15,15,15,15,15,15,15,15,15] ypt) (.seq (.aQ [O,O,O,O,O,I,O,O,O,O,O,O,O] [13,9,9,9,9,9,8,9,13,13,13,13,14] yps) (.seq (.aQ [O,O,O,O,O,O,O] [7,7,7,7,7,7,8] ypr) (.seq (.ae ypq) .ret)))))))),77,[.tmp 6]⟩
@[simp] theorem Dq:az Tryz.prog pS=some UQ:=by kernel_rfl
@[simp] theorem awk:ar Tryz.prog pS=true:=by kernel_rfl
abbrev ypL:zR:=[ab 5 0,o 6 (.cr (.t 5)),al 7 6 6,ai 8 1 7,ab 9 1,o 10 (.bB .shr (.t 9) (.c (.int .u64 1))),aZ 11 1 8 10,ai 12 1 11,ab 13 1,o 14 (.bB .and (.t 13) (.c (.int .i64 1))),o 15 (.bB .xor (.t 12) (.t 14)),ab 4 15]
abbrev UB:aA:=⟨.seq (.ae mw) (.seq (.ae ypL) .ret),16,[.tmp 4]⟩
@[simp] theorem T9:az Tryz.prog nu=some UB:=by kernel_rfl
@[simp] theorem awe:ar Tryz.prog nu=true:=by kernel_rfl
abbrev ypN:zR:=[ab 21 0,o 22 (.cr (.t 21)),al 23 0 22,aI 24 5 23,aM 5 4 24]
abbrev ypO:zR:=[ab 5 0,ab 6 0,ab 7 0,al 8 1 3,ai 9 1 8,cB 10 rk 7 9,ab 11 0,al 12 4 3,ai 13 1 12,cB 14 rk 11 13,o 15 (.cr (.t 5)),al 16 0 15,al 17 1 16,aM 1 17 10,o 18 (.cr (.t 6)),al 19 0 18,al 20 4 19,aM 1 20 14]
abbrev ypP:zR:=[o 3 (.box 5 (.t 1)),o 4 (.alloc [.int .i64 0,.own 1 an [],.own 1 an [],.own 2 cM [],.own 1 an []])]
abbrev UI:aA:=⟨.seq (.ae ypP) (.seq (.aQ [O,O,O,O,O,O,O,O,I,O,O,O,O,O,O,O,O,O] [14,18,6,6,6,10,10,10,10,14,14,14,14,18,18,18,18,19] ypO) (.seq (.ae ypN) .ret)),25,[.cell 4 true 5]⟩
@[simp] theorem JA:az Tryz.prog zf=some UI:=by kernel_rfl
@[simp] theorem awi:ar Tryz.prog zf=true:=by kernel_rfl
abbrev ypQ:zR:=[al 10 0 2,ai 11 1 10,al 12 1 2,ai 13 1 12,aM 1 0 11,aM 1 1 13]
abbrev ypR:zR:=[ab 9 3]
abbrev ypS:zR:=[o 5 (.recover),o 6 (.rM (.t 5) DP (.agg [.int .i64 0,.str []]) true),ab 4 6,bj 7 4 0,bj 8 4 1,o 2 (.alloc [.int .i64 0,.str []]),aM 2 2 7,ab 3 8]
abbrev Wz:aA:=⟨.seq (.ae ypS) (.seq (.ae ypR) (.cond (.t 9) (.aQ [O,O,O,I,O,O] [5,5,6,6,6,7] ypQ) .skip)),14,[]⟩
@[simp] theorem awT:az Tryz.prog zo=some Wz:=by kernel_rfl
@[simp] theorem aw6:ar Tryz.prog zo=true:=by kernel_rfl
abbrev ypT:zR:=[al 3 2 1,ai 4 1 3,aN 5 4,o 6 (.cmp .gtr (.sc .int) (.t 5) (.c (.int .i64 8))),ab 7 6,on 8 7 (.off 3 (.t 1)),on 9 7 (.load false 1 (.t 8)),on 10 7 (.len (.t 9)),on 11 7 (.cmp .gtr (.sc .int) (.t 10) (.c (.int .i64 128))),o 12 (.pick (.t 7) (.c (.bool true)) (.t 11)),ab 2 12]
abbrev Ws:aA:=⟨.seq (.ae CM) (.seq (.ae ypT) .ret),13,[.tmp 2]⟩
@[simp] theorem Vd:az Tryz.prog vH=some Ws:=by kernel_rfl
@[simp] theorem awW:ar Tryz.prog vH=true:=by kernel_rfl
abbrev ypV:zR:=[ab 8 1,ab 9 2,o 10 (.build [.int .i64 0,.str []] [(0,1,.t 8),(1,1,.t 9)]),o 11 (.lg DP (.t 10)),q (.panic (.t 11))]
abbrev ypW:zR:=[ab 6 0,o 7 (.not (.t 6))]
abbrev ZK:aA:=⟨.seq (.ae ypW) (.cond (.t 7) (.ae ypV) .skip),12,[]⟩
@[simp] theorem Ku:az Tryz.prog nA=some ZK:=by kernel_rfl
@[simp] theorem ayv:ar Tryz.prog nA=true:=by kernel_rfl
abbrev ypX:zR:=[ab 5 0,ab 6 1,cB 7 vq 5 6,o 8 (.cmp .geq (.sc .int) (.t 7) (.c (.int .i64 0))),ab 4 8]
abbrev SQ:aA:=⟨.seq (.ae jF) (.seq (.ae ypX) .ret),9,[.tmp 4]⟩
@[simp] theorem SN:az Tryz.prog yD=some SQ:=by kernel_rfl
@[simp] theorem avh:ar Tryz.prog yD=true:=by kernel_rfl
abbrev G7:zR:=[ab 45 3,ab 2 45]
abbrev IZ:zB:=O::O::O::I::(by(iterate 26 refine O::?_);exact I::I::I::(by(iterate 13 refine O::?_);exact[]))
abbrev Im:zB:=O::O::O::I::(by(iterate 42 refine O::?_);exact[])
abbrev yqc:zR:=[bz 44 32 1,ab 32 44]
abbrev yqd:zR:=[ab 36 3,al 37 0 7,ai 38 1 37,o 39 (.lit 1 [.str []] [(0,.t 38)]),o 40 (.append 1 aE 16 (.t 36) (.t 39)),al 41 2 7,ai 42 1 41,o 43 (.append 1 aE 16 (.t 40) (.t 42)),ab 3 43]
abbrev yqe:zR:=[aZ 34 5 30 32,aI 35 5 34,o 7 (.alloc [.str [],.int .i64 0,.own 1 aE [],.own 1 aE [],.bool false]),aM 5 7 35]
abbrev yqf:ah:=.seq (.ae yqe) (.aQ [O,O,O,O,O,O,I,O,O] [5,4,4,5,8,8,8,10,10] yqd)
abbrev yqg:zR:=[cL 33 32 31]
abbrev B6:ah:=.seq (.ae yqg) (.seq (.cond (.t 33) .skip (.exit 2)) (.seq (.block 3 [] yqf) (.ae yqc)))
abbrev Ry:zR:=[al 29 3 1,ai 30 1 29,aN 31 30,aO 32 0]
abbrev QG:zB:=O::I::O::I::O::O::O::O::O::O::O::O::O::O::O::I::I::I::(by(iterate 28 refine O::?_);exact[])
abbrev PI:zB:=O::I::O::I::(by(iterate 42 refine O::?_);exact[])
abbrev yql:zR:=[bz 28 17 1,ab 17 28]
abbrev yqm:zR:=[ab 21 3,al 22 0 5,ai 23 1 22,al 24 1 5,ai 25 1 24,o 26 (.lit 1 [.str [],.str []] [(0,.t 23),(1,.t 25)]),o 27 (.append 1 aE 16 (.t 21) (.t 26)),ab 3 27]
abbrev yqn:zR:=[aZ 19 3 15 17,aI 20 3 19,o 5 (.alloc [.str [],.str [],.int .i64 0]),aM 3 5 20]
abbrev yqo:ah:=.seq (.ae yqn) (.ae yqm)
abbrev yqp:zR:=[cL 18 17 16]
abbrev HD:ah:=.seq (.ae yqp) (.seq (.cond (.t 18) .skip (.exit 0)) (.seq (.block 1 [] yqo) (.ae yql)))
abbrev yqr:zR:=[al 14 2 1,ai 15 1 14,aN 16 15,aO 17 0]
abbrev yqs:zR:=[al 8 0 1,ai 9 1 8,al 10 1 1,ai 11 1 10,o 12 (.lit 1 [.list true 0 [],.list true 0 []] [(0,.t 9),(1,.t 11)]),aT 13 mG 12,ab 3 13]
abbrev abh:aA:=⟨.seq (.ae Hh) (.seq (.ae yqs) (.seq (.seq (.ae yqr) (.block 0 PI (.loop QG HD))) (.seq (.seq (.ae Ry) (.block 2 Im (.loop IZ B6))) (.seq (.ae G7) .ret)))),46,[.tmp 2]⟩
abbrev yqu:zI:=[.code (.seq (.ae G7) .ret)]
abbrev yqv(x3 x30 x31 x32:AV)(h:List Ob)(e:Cx:=cx):aq:=bm tu (.code B6::.inLoop IZ B6::.inBlock 2 Im::yqu) (U::U::U::x3::(by(iterate 26 refine U::?_);exact x30::x31::x32::(by(iterate 13 refine U::?_);exact[]))) h e
abbrev yqw:zI:=[.code (.seq (.seq (.ae Ry) (.block 2 Im (.loop IZ B6))) (.seq (.ae G7) .ret))]
abbrev yqx(x1 x3 x15 x16 x17:AV)(h:List Ob)(e:Cx:=cx):aq:=bm tu (.code HD::.inLoop QG HD::.inBlock 0 PI::yqw) (U::x1::U::x3::U::U::U::U::U::U::U::U::U::U::U::x15::x16::x17::(by(iterate 28 refine U::?_);exact[])) h e
@[simp] theorem Xu:az Tryz.prog tu=some abh:=by kernel_rfl
@[simp] theorem ays:ar Tryz.prog tu=true:=by kernel_rfl
abbrev yqy:zR:=[ab 3 0,aT 4 zd 3,ab 2 4]
abbrev Xa:aA:=⟨.seq (.ae yi) (.seq (.ae yqy) .ret),5,[.tmp 2]⟩
@[simp] theorem VH:az Tryz.prog vL=some Xa:=by kernel_rfl
@[simp] theorem axw:ar Tryz.prog vL=true:=by kernel_rfl
abbrev P0:zR:=[ab 22 3,ab 2 22]
abbrev PN:zB:=O::O::O::I::O::O::O::I::I::I::(by(iterate 13 refine O::?_);exact[])
abbrev R_:zB:=O::O::O::I::(by(iterate 19 refine O::?_);exact[])
abbrev yqD:zR:=[bz 21 9 1,ab 9 21]
abbrev yqE:zR:=[ab 19 3,ab 20 5,q (.bG (.sc .str) (.t 19) (.t 20) (.c (.bool true)))]
abbrev yqF:zR:=[ab 13 3,ab 14 5,o 15 (.lookup (.sc .str) (.bool false) (.t 13) (.t 14) false),o 16 (.not (.t 15)),ab 17 5,o 18 (.call (.f nA) [.t 16,.c (.int .i64 5),.t 17])]
abbrev yqH:ah:=.seq (.ae QZ) (.seq (.ae yqF) (.ae yqE))
abbrev Ic:ah:=.seq (.ae xu) (.seq (.cond (.t 10) .skip (.exit 0)) (.seq (.block 1 [] yqH) (.ae yqD)))
abbrev yqM:zR:=[o 2 (.mv (.c .c_))]
abbrev aaH:aA:=⟨.seq (.ae yqM) (.seq (.ae HL) (.seq (.seq (.ae Ci) (.block 0 R_ (.loop PN Ic))) (.seq (.ae P0) .ret))),23,[.tmp 2]⟩
abbrev yqN:zI:=[.code (.seq (.ae P0) .ret)]
abbrev Qt(x3 x7 x8 x9:AV)(h:List Ob)(e:Cx:=cx):aq:=bm rB (.code Ic::.inLoop PN Ic::.inBlock 0 R_::yqN) (U::U::U::x3::U::U::U::x7::x8::x9::(by(iterate 13 refine U::?_);exact[])) h e
@[simp] theorem Ky:az Tryz.prog rB=some aaH:=by kernel_rfl
@[simp] theorem ayr:ar Tryz.prog rB=true:=by kernel_rfl
abbrev yqP:zR:=[al 18 1 1,ai 19 1 18,al 20 2 1,ai 21 1 20,aN 22 21,cB 23 tA 19 22,ab 24 23,oy 25 24 (.off 3 (.t 1)),cG 26 24 1 25,oy 27 24 (.len (.t 26)),oy 28 24 (.cmp .leq (.sc .int) (.t 27) (.c (.int .i64 128))),bH 29 24 28,ab 30 29,oy 31 30 (.off 3 (.t 1)),cG 32 30 1 31,cn 33 30 3,oy 34 30 (.call (.f pP) [.t 32,.t 33]),oy 35 30 (.not (.t 34)),bH 36 30 35,ab 2 36]
abbrev yqS:zR:=[al 5 1 1,ai 6 1 5,o 7 (.cmp .neq (.sc .int) (.t 6) (.c (.int .i64 10))),ab 8 7,oy 9 8 (.off 3 (.t 1)),cG 10 8 1 9,oy 11 8 (.len (.t 10)),oy 12 8 (.cmp .gtr (.sc .int) (.t 11) (.c (.int .i64 0))),cn 13 8 12,on 14 13 (.off 4 (.t 1)),on 15 13 (.load false 1 (.t 14)),oy 16 8 (.pick (.t 13) (.c (.bool true)) (.t 15)),bH 17 8 16]
abbrev yqT:zR:=[o 4 (.fH (.func zz) [] [.t 1]),ab 3 4]
abbrev abg:aA:=⟨.seq (.ae CM) (.seq (.ae yqT) (.seq (.seq (.ae yqS) (.cond (.t 17) yj .skip)) (.seq (.ae yqP) .ret))),37,[.tmp 2]⟩
@[simp] theorem W5:az Tryz.prog v8=some abg:=by kernel_rfl
@[simp] theorem ayh:ar Tryz.prog v8=true:=by kernel_rfl
abbrev I5:zR:=[ab 36 3,ab 2 36]
abbrev Ip:zB:=O::O::O::I::(by(iterate 21 refine O::?_);exact[I,I,I,O,O,O,O,O,O,O,O,O])
abbrev IF:zB:=O::O::O::I::(by(iterate 33 refine O::?_);exact[])
abbrev yqY:zR:=[bz 35 27 1,ab 27 35]
abbrev yqZ:zR:=[ab 31 3,al 32 2 7,ai 33 1 32,o 34 (.append 1 aE 16 (.t 31) (.t 33)),ab 3 34]
abbrev yrb:ah:=.seq (.ae Qf) (.ae yqZ)
abbrev CG:ah:=.seq (.ae uV) (.seq (.cond (.t 28) .skip (.exit 2)) (.seq (.block 3 [] yrb) (.ae yqY)))
abbrev QS:zB:=O::I::O::I::O::O::O::O::O::O::O::O::I::I::I::(by(iterate 22 refine O::?_);exact[])
abbrev PU:zB:=O::I::O::I::(by(iterate 33 refine O::?_);exact[])
abbrev yri:zR:=[ab 18 3,al 19 1 5,ai 20 1 19,o 21 (.lit 1 [.str []] [(0,.t 20)]),o 22 (.append 1 aE 16 (.t 18) (.t 21)),ab 3 22]
abbrev yrk:ah:=.seq (.ae Qx) (.ae yri)
abbrev HU:ah:=.seq (.ae Ii) (.seq (.cond (.t 15) .skip (.exit 0)) (.seq (.block 1 [] yrk) (.ae Qu)))
abbrev yro:zR:=[al 8 1 1,ai 9 1 8,aT 10 oq 9,ab 3 10]
abbrev ZI:aA:=⟨.seq (.ae Hh) (.seq (.ae yro) (.seq (.seq (.ae R2) (.block 0 PU (.loop QS HU))) (.seq (.seq (.ae Cj) (.block 2 IF (.loop Ip CG))) (.seq (.ae I5) .ret)))),37,[.tmp 2]⟩
abbrev yrq:zI:=[.code (.seq (.ae I5) .ret)]
abbrev yrr(x3 x25 x26 x27:AV)(h:List Ob)(e:Cx:=cx):aq:=bm tz (.code CG::.inLoop Ip CG::.inBlock 2 IF::yrq) (U::U::U::x3::(by(iterate 21 refine U::?_);exact[x25,x26,x27,U,U,U,U,U,U,U,U,U])) h e
abbrev yrs:zI:=[.code (.seq (.seq (.ae Cj) (.block 2 IF (.loop Ip CG))) (.seq (.ae I5) .ret))]
abbrev yrt(x1 x3 x12 x13 x14:AV)(h:List Ob)(e:Cx:=cx):aq:=bm tz (.code HU::.inLoop QS HU::.inBlock 0 PU::yrs) (U::x1::U::x3::U::U::U::U::U::U::U::U::x12::x13::x14::(by(iterate 22 refine U::?_);exact[])) h e
@[simp] theorem XP:az Tryz.prog tz=some ZI:=by kernel_rfl
@[simp] theorem ayx:ar Tryz.prog tz=true:=by kernel_rfl
abbrev yru:zR:=[ab 4 0,o 5 (.cmp .lss (.sc .int) (.t 4) (.c (.int .i64 0))),ab 6 5,on 7 6 (.mv (.t 0)),on 8 6 (.load false 1 (.t 1)),on 9 6 (.cmp .geq (.sc .int) (.t 7) (.t 8)),o 10 (.pick (.t 6) (.c (.bool true)) (.t 9)),ab 3 10]
abbrev xE:zR:=[kT 3]
abbrev Wr:aA:=⟨.seq (.ae xE) (.seq (.ae yru) .ret),11,[.tmp 3]⟩
@[simp] theorem Vt:az Tryz.prog zr=some Wr:=by kernel_rfl
@[simp] theorem awR:ar Tryz.prog zr=true:=by kernel_rfl
abbrev yrw:zR:=[ab 3 0,o 4 (.cmp .lss (.sc .int) (.t 3) (.c (.int .i64 0))),ab 5 4,on 6 5 (.mv (.t 0)),on 7 5 (.cmp .gtr (.sc .int) (.t 6) (.c (.int .i64 2))),o 8 (.pick (.t 5) (.c (.bool true)) (.t 7)),ab 2 8]
abbrev WD:aA:=⟨.seq (.ae yi) (.seq (.ae yrw) .ret),9,[.tmp 2]⟩
@[simp] theorem VB:az Tryz.prog zq=some WD:=by kernel_rfl
@[simp] theorem aw4:ar Tryz.prog zq=true:=by kernel_rfl
abbrev yry:zR:=[ab 5 0,ab 6 1,cB 7 vt 5 6,o 8 (.cmp .geq (.sc .int) (.t 7) (.c (.int .i64 0))),ab 4 8]
abbrev Tm:aA:=⟨.seq (.ae jF) (.seq (.ae yry) .ret),9,[.tmp 4]⟩
@[simp] theorem Td:az Tryz.prog sQ=some Tm:=by kernel_rfl
@[simp] theorem avs:ar Tryz.prog sQ=true:=by kernel_rfl
abbrev yrA:zR:=[ab 5 0,ab 6 1,cB 7 ra 5 6,o 8 (.cmp .geq (.sc .int) (.t 7) (.c (.int .i64 0))),ab 4 8]
abbrev SZ:aA:=⟨.seq (.ae jF) (.seq (.ae yrA) .ret),9,[.tmp 4]⟩
@[simp] theorem SU:az Tryz.prog pP=some SZ:=by kernel_rfl
@[simp] theorem avk:ar Tryz.prog pP=true:=by kernel_rfl
abbrev yrC:zR:=[ab 3 0,aT 4 vL 3,o 5 (.not (.t 4)),ab 2 5]
abbrev Wh:aA:=⟨.seq (.ae yi) (.seq (.ae yrC) .ret),6,[.tmp 2]⟩
@[simp] theorem Vr:az Tryz.prog zn=some Wh:=by kernel_rfl
@[simp] theorem aw2:ar Tryz.prog zn=true:=by kernel_rfl
abbrev B8:zR:=[ab 26 0,ab 4 26]
abbrev yrF:zR:=[ab 17 0,ab 18 0,o 19 (.cap (.t 18)),o 20 (.slice 1 (.t 17) none (some (.t 19))),ab 21 1,o 22 (.p8 1 aE 16 (.str []) (.t 20) (.t 21)),ab 23 0,aN 24 23,o 25 (.slice 1 (.t 22) none (some (.t 24))),ab 0 25]
abbrev B3:zR:=[ab 15 1,o 16 (.cmp .gtr (.sc .int) (.t 15) (.c (.int .i64 0)))]
abbrev Cf:zR:=[ab 8 1,ab 9 0,o 10 (.cap (.t 9)),ab 11 0,aN 12 11,o 13 (.bB .sub (.t 10) (.t 12)),o 14 (.bB .sub (.t 8) (.t 13)),ab 1 14]
abbrev CI:zR:=[o 7 (.lg aE (.c (.str [99,97,110,110,111,116,32,98,101,32,110,101,103,97,116,105,118,101]))),q (.panic (.t 7))]
abbrev B9:zR:=[ab 5 1,o 6 (.cmp .lss (.sc .int) (.t 5) (.c (.int .i64 0)))]
abbrev Iu:zR:=[o 4 (.bE 1 aE)]
abbrev Tw:aA:=⟨.seq (.ae Iu) (.seq (.seq (.ae B9) (.cond (.t 6) (.ae CI) .skip)) (.seq (.seq (.ae Cf) (.seq (.ae B3) (.cond (.t 16) (.ae yrF) .skip))) (.seq (.ae B8) .ret))),27,[.tmp 4]⟩
@[simp] theorem Jr:az Tryz.prog Dc=some Tw:=by kernel_rfl
@[simp] theorem avy:ar Tryz.prog Dc=true:=by kernel_rfl
abbrev yrL:zR:=[o 5 (.fH (.func ou) [] [.t 2,.t 3]),ab 4 5]
abbrev yrM:zR:=[o 2 (.box 5 (.t 0)),o 3 (.box 1 (.t 1)),o 4 (.mv (.c .df))]
abbrev WI:aA:=⟨.seq (.ae yrM) (.seq (.ae yrL) .ret),6,[.tmp 4]⟩
@[simp] theorem Vh:az Tryz.prog Dy=some WI:=by kernel_rfl
@[simp] theorem aw1:ar Tryz.prog Dy=true:=by kernel_rfl
abbrev Re:zB:=[I,O,O,I,O,O,O,I,I,O,O,O,O,O,O,O,O,O,O]
abbrev yrT:zR:=[aI 11 2 3,ab 12 0,ab 13 5,aZ 14 2 12 13,aI 15 2 14,o 16 (.cmp .eql (.iE [.int,.int]) (.t 11) (.t 15))]
abbrev yrV:ah:=.seq (.ae Ca) (.seq (.aQ [O,O,O,O,O,O] [7,7,7,7,7,7] yrT) (.cond (.t 16) Cc .skip))
abbrev H6:ah:=.seq (.ae xB) (.seq (.cond (.t 9) .skip (.exit 0)) (.seq (.block 1 [] yrV) (.ae CF)))
abbrev Rp:zR:=[o 3 (.box 2 (.t 1)),aO 4 0]
abbrev Tz:aA:=⟨.seq (.ae Rp) (.seq (.seq (.ae uP) (.block 0 kP (.loop Re H6))) (.seq (.ae sy) .ret)),19,[.tmp 4]⟩
abbrev ysb(x0 x3 x7 x8:AV)(h:List Ob)(e:Cx:=cx):aq:=bm vv (.code H6::.inLoop Re H6::.inBlock 0 kP::xz) [x0,U,U,x3,U,U,U,x7,x8,U,U,U,U,U,U,U,U,U,U] h e
@[simp] theorem Tn:az Tryz.prog vv=some Tz:=by kernel_rfl
@[simp] theorem avA:ar Tryz.prog vv=true:=by kernel_rfl
abbrev ysc:zR:=[ab 85 8,ab 6 85,aO 7 0]
abbrev ysd:zB:=I::O::O::O::O::O::O::O::I::(by(iterate 49 refine O::?_);exact I::I::I::(by(iterate 25 refine O::?_);exact[]))
abbrev yse:zB:=O::O::O::O::O::O::O::O::I::(by(iterate 77 refine O::?_);exact[])
abbrev ysf:zR:=[bz 84 60 1,ab 60 84]
abbrev ysg:zR:=[ab 73 8,al 74 0 13,ai 75 1 74,aI 76 5 13,ab 77 8,al 78 2 13,ai 79 1 78,cB 80 zG 77 79,cB 81 DI 76 80,ab 72 81,bj 82 72 0,bj 83 72 1,q (.bG (.sc .str) (.t 73) (.t 75) (.t 82))]
abbrev ysh:zR:=[ab 64 0,o 65 (.cr (.t 64)),al 66 0 65,al 67 3 66,ai 68 1 67,ab 69 12,aZ 70 5 68 69,aI 71 5 70,o 13 (.alloc [.str [],.int .i64 0,.own 1 aE [],.own 1 aE [],.bool false]),aM 5 13 71]
abbrev ysi:zR:=[aZ 62 1 58 60,ai 63 1 62,ab 12 63]
abbrev ysj:ah:=.seq (.ae ysi) (.seq (.ae ysh) (.aQ [O,O,I,I,O,O,O,O,O,O,O,O,O] [13,13,13,9,8,8,8,9,13,13,13,14,14] ysg))
abbrev ysk:zR:=[cL 61 60 59]
abbrev ysl:ah:=.seq (.ae ysk) (.seq (.cond (.t 61) .skip (.exit 2)) (.seq (.block 3 [] ysj) (.ae ysf)))
abbrev ysm:zR:=[ab 55 0,o 56 (.cr (.t 55)),al 57 5 56,ai 58 1 57,aN 59 58,aO 60 0]
abbrev ysn:zB:=I::O::O::O::O::O::O::O::I::(by(iterate 29 refine O::?_);exact I::I::I::(by(iterate 45 refine O::?_);exact[]))
abbrev yso:zB:=I::O::O::O::O::O::O::O::I::(by(iterate 77 refine O::?_);exact[])
abbrev ysp:zR:=[bz 54 40 1,ab 40 54]
abbrev ysq:zR:=[ab 45 8,ab 46 0,o 47 (.cr (.t 46)),al 48 4 47,ai 49 1 48,ab 50 9,aZ 51 1 49 50,ai 52 1 51,ab 53 10,q (.bG (.sc .str) (.t 45) (.t 52) (.t 53))]
abbrev ysr:zR:=[ab 42 40,aZ 43 1 38 40,ai 44 1 43,ab 9 42,ab 10 44]
abbrev yss:ah:=.seq (.ae ysr) (.ae ysq)
abbrev ysu:ah:=.seq (.ae Qv) (.seq (.cond (.t 41) .skip (.exit 0)) (.seq (.block 1 [] yss) (.ae ysp)))
abbrev ysv:zR:=[ab 35 2,ab 36 1,o 37 (.lit 1 [.list true 0 [],.list true 0 []] [(0,.t 35),(1,.t 36)]),aT 38 y6 37,aN 39 38,aO 40 0]
abbrev ysw:zR:=[o 34 (.mkMap),ab 8 34]
abbrev ysx:zR:=[o 6 (.mv (.c .c_)),aO 7 11]
abbrev ysy:ah:=.seq (.ae ysx) .ret
abbrev ysz:zR:=[ab 14 1,aN 15 14,ab 16 0,o 17 (.cr (.t 16)),al 18 0 17,al 19 2 18,ai 20 1 19,aN 21 20,o 22 (.cmp .neq (.sc .int) (.t 15) (.t 21)),ab 23 22,on 24 23 (.mv (.t 2)),on 25 23 (.len (.t 24)),on 26 23 (.mv (.t 0)),on 27 23 (.cr (.t 26)),on 28 23 (.off 0 (.t 27)),on 29 23 (.off 0 (.t 28)),on 30 23 (.load false 1 (.t 29)),on 31 23 (.len (.t 30)),on 32 23 (.cmp .neq (.sc .int) (.t 25) (.t 31)),o 33 (.pick (.t 23) (.c (.bool true)) (.t 32))]
abbrev ysA:zR:=[o 6 (.mv (.c .c_)),aO 7 0]
abbrev T8:aA:=⟨.seq (.ae ysA) (.seq (.seq (.ae ysz) (.cond (.t 33) ysy .skip)) (.seq (.ae ysw) (.seq (.seq (.ae ysv) (.block 0 yso (.loop ysn ysu))) (.seq (.seq (.ae ysm) (.block 2 yse (.loop ysd ysl))) (.seq (.ae ysc) .ret))))),86,[.tmp 6,.tmp 7]⟩
@[simp] theorem avR:az Tryz.prog Dh=some T8:=by kernel_rfl
@[simp] theorem avT:ar Tryz.prog Dh=true:=by kernel_rfl
abbrev Iv:zR:=[ab 21 5,ab 4 21]
abbrev ysC:zB:=[I,O,O,O,O,I,O,O,I,I,I,O,O,O,O,O,O,O,O,O,O,O]
abbrev IU:zB:=O::O::O::O::O::I::(by(iterate 16 refine O::?_);exact[])
abbrev QB:zR:=[bz 20 10 1,ab 10 20]
abbrev ysF:zR:=[ab 14 5,ab 15 0,ab 16 7,o 17 (.lookup (.sc .str) (.bool false) (.t 15) (.t 16) false),o 18 (.lit 1 [.bool false] [(0,.t 17)]),o 19 (.append 1 cD 1 (.t 14) (.t 18)),ab 5 19]
abbrev So:zR:=[aZ 12 1 8 10,ai 13 1 12,ab 7 13]
abbrev ysH:ah:=.seq (.ae So) (.ae ysF)
abbrev ysJ:ah:=.seq (.ae H4) (.seq (.cond (.t 11) .skip (.exit 0)) (.seq (.block 1 [] ysH) (.ae QB)))
abbrev ysK:zR:=[ab 8 1,aN 9 8,aO 10 0]
abbrev ysL:zR:=[o 5 (.bE 1 cD)]
abbrev X2:aA:=⟨.seq (.ae IK) (.seq (.ae ysL) (.seq (.seq (.ae ysK) (.block 0 IU (.loop ysC ysJ))) (.seq (.ae Iv) .ret))),22,[.tmp 4]⟩
@[simp] theorem ayb:az Tryz.prog zG=some X2:=by kernel_rfl
@[simp] theorem aya:ar Tryz.prog zG=true:=by kernel_rfl
abbrev ysR:zR:=[ab 31 6,ab 32 8,o 33 (.append 1 cD 1 (.t 31) (.t 32)),ab 6 33]
abbrev ysT:ah:=.seq (.ae Cy) (.ae ysR)
abbrev ysV:ah:=.seq (.ae uV) (.seq (.cond (.t 28) .skip (.exit 2)) (.seq (.block 3 [] ysT) (.ae Ch)))
abbrev ysX:zR:=[ab 23 3,o 24 (.call (.f De) [.c (.list true 0 []),.t 23]),ab 6 24]
abbrev TD:aA:=⟨.seq (.ae HG) (.seq (.ae sx) (.seq (.seq (.ae CD) (.block 0 sC (.loop sF n4))) (.seq (.ae ysX) (.seq (.seq (.ae sD) (.block 2 n8 (.loop oa ysV))) (.seq (.ae qJ) .ret))))),36,[.tmp 2]⟩
@[simp] theorem avE:az Tryz.prog y6=some TD:=by kernel_rfl
@[simp] theorem avD:ar Tryz.prog y6=true:=by kernel_rfl
abbrev ytl:zB:=I::O::I::I::I::O::O::O::O::O::O::I::I::I::(by(iterate 25 refine O::?_);exact[])
abbrev ytm:zB:=(by(iterate 39 refine O::?_);exact[])
abbrev ytn:zR:=[bz 38 13 1,ab 13 38]
abbrev yto:zR:=[ab 37 9,aM 1 3 37]
abbrev ytp:zR:=[ab 28 10,o 29 (.cmp .neq (.sc .int) (.t 28) (.c (.int .i64 0))),ab 30 29,on 31 30 (.mv (.t 0)),on 32 30 (.mv (.t 8)),on 33 30 (.mv (.t 9)),on 34 30 (.call (.t 31) [.t 32,.t 33]),on 35 30 (.not (.t 34)),o 36 (.pick (.t 30) (.c (.bool true)) (.t 35))]
abbrev ytq:zR:=[ai 25 1 4,ab 26 10,o 27 (.cr (.t 25)),aM 1 27 26]
abbrev ytr:zR:=[ai 18 1 2,ai 19 1 3,ab 20 7,o 21 (.call (.f za) [.t 18,.t 19,.t 20]),ab 17 21,bj 22 17 0,bj 23 17 1,bj 24 17 2,ab 8 22,ab 9 23,ab 10 24]
abbrev R8:zR:=[aZ 15 1 11 13,ai 16 1 15,ab 7 16]
abbrev ytt:ah:=.seq (.ae R8) (.seq (.ae ytr) (.seq (.seq (.ae ytq) (.seq (.ae ytp) (.cond (.t 36) .ret .skip))) (.ae yto)))
abbrev ytv:ah:=.seq (.ae uU) (.seq (.cond (.t 14) .skip (.exit 0)) (.seq (.block 1 [] ytt) (.ae ytn)))
abbrev ytw:zR:=[ai 11 1 1,aN 12 11,aO 13 0]
abbrev TQ:aA:=⟨.seq (.ae ytw) (.block 0 ytm (.loop ytl ytv)),39,[]⟩
@[simp] theorem avK:az Tryz.prog Df=some TQ:=by kernel_rfl
@[simp] theorem avO:ar Tryz.prog Df=true:=by kernel_rfl
abbrev ytx:zR:=[ab 11 3,ab 12 11,cn 13 12 4,bH 14 12 13,ab 15 14,oy 16 15 (.off 0 (.t 1)),cG 17 15 1 16,oy 18 15 (.lS (.t 17)),oy 19 15 (.cmp .leq (.sc .int) (.t 18) (.c (.int .i64 60))),bH 20 15 19,ab 2 20]
abbrev yty:zR:=[al 8 3 1,ai 9 1 8,o 10 (.call (.f pW) [.t 9,.c (.int .i64 140)]),ab 4 10]
abbrev ytz:zR:=[al 5 2 1,ai 6 1 5,o 7 (.call (.f pW) [.t 6,.c (.int .i64 12)]),ab 3 7]
abbrev WK:aA:=⟨.seq (.ae CM) (.seq (.ae ytz) (.seq (.ae yty) (.seq (.ae ytx) .ret))),21,[.tmp 2]⟩
@[simp] theorem U':az Tryz.prog zu=some WK:=by kernel_rfl
@[simp] theorem awY:ar Tryz.prog zu=true:=by kernel_rfl
abbrev ytH:zR:=[ab 17 0,ab 18 5,aZ 19 1 17 18,ai 20 1 19,o 21 (.lS (.t 20)),o 22 (.cmp .gtr (.sc .int) (.t 21) (.c (.int .i64 60)))]
abbrev ytI:ah:=.seq (.ae ytH) (.cond (.t 22) lH .skip)
abbrev HX:ah:=.seq (.seq (.ae RA) (.cond (.t 14) .skip (.exit 0))) (.seq (.block 1 [] ytI) (.ae Ck))
abbrev Yv:aA:=⟨.seq (.ae jF) (.seq (.seq (.ae qF) (.block 0 Io (.loop G0 HX))) (.seq (.ae IC) .ret)),27,[.tmp 4]⟩
abbrev ytN:zI:=[.code (.seq (.ae IC) .ret)]
abbrev ytO(x0 x1 x5:AV)(h:List Ob)(e:Cx:=cx):aq:=bm pW (.code HX::.inLoop G0 HX::.inBlock 0 Io::ytN) (x0::x1::U::U::U::x5::(by(iterate 21 refine U::?_);exact[])) h e
@[simp] theorem Wq:az Tryz.prog pW=some Yv:=by kernel_rfl
@[simp] theorem axJ:ar Tryz.prog pW=true:=by kernel_rfl
abbrev qK:zB:=I::O::O::I::I::(by(iterate 69 refine O::?_);exact[])
abbrev Cv:zB:=(by(iterate 74 refine O::?_);exact[])
abbrev R':zB:=I::O::O::I::I::O::I::(by(iterate 42 refine O::?_);exact I::I::I::(by(iterate 22 refine O::?_);exact[]))
abbrev ytT:zR:=[bz 73 51 1,ab 51 73]
abbrev ytU:zR:=[ab 68 4,o 69 (.lg kc (.t 68)),ab 70 8,o 71 (.lg an (.t 70)),cB 72 vy 69 71]
abbrev ytV:zR:=[al 61 0 3,ai 62 1 61,ab 63 8,aZ 64 1 62 63,ai 65 1 64,o 66 (.uq (.t 65)),o 67 (.cmp .eql (.sc .int) (.t 66) (.c (.int .i64 0)))]
abbrev ytW:zR:=[al 55 0 3,ai 56 1 55,ab 57 8,aZ 58 1 56 57,ai 59 1 58,ab 60 6,q (.delete (.sc .int) (.t 59) (.t 60))]
abbrev ytX:zR:=[aZ 53 1 49 51,ai 54 1 53,ab 8 54]
abbrev ytY:ah:=.seq (.ae ytX) (.seq (.ae ytW) (.seq (.ae ytV) (.cond (.t 67) (.ae ytU) .skip)))
abbrev ytZ:zR:=[cL 52 51 50]
abbrev HQ:ah:=.seq (.ae ytZ) (.seq (.cond (.t 52) .skip (.exit 4)) (.seq (.block 5 [] ytY) (.ae ytT)))
abbrev yub:zR:=[al 45 1 3,ai 46 1 45,ab 47 6,aZ 48 1 46 47,ai 49 1 48,aN 50 49,aO 51 0]
abbrev yuc:zR:=[ab 41 0,ab 42 6,o 43 (.call (.t 41) [.t 42]),o 44 (.not (.t 43))]
abbrev yud:zR:=[ab 37 4,o 38 (.lg kc (.t 37)),aT 39 y9 38,o 40 (.rM (.t 39) an (.int .i64 0) false),ab 6 40]
abbrev yue:ah:=.seq (.ae yud) (.seq (.seq (.ae yuc) (.cond (.t 44) .ret .skip)) (.seq (.ae yub) (.block 4 qK (.loop R' HQ))))
abbrev yuf:zR:=[ab 32 4,o 33 (.cr (.t 32)),ai 34 1 33,aT 35 s7 34,o 36 (.cmp .gtr (.sc .int) (.t 35) (.c (.int .i64 0)))]
abbrev xO:ah:=.seq (.seq (.ae yuf) (.cond (.t 36) .skip (.exit 2))) (.block 3 [] yue)
abbrev Qd:zB:=I::O::O::I::I::O::O::O::O::O::O::O::O::O::O::I::I::(by(iterate 57 refine O::?_);exact[])
abbrev yuj:zR:=[bz 31 16 1,ab 16 31]
abbrev yuk:zR:=[ab 26 4,o 27 (.lg kc (.t 26)),ab 28 5,o 29 (.lg an (.t 28)),cB 30 vy 27 29]
abbrev yul:zR:=[al 19 0 3,ai 20 1 19,ab 21 5,aZ 22 1 20 21,ai 23 1 22,o 24 (.uq (.t 23)),o 25 (.cmp .eql (.sc .int) (.t 24) (.c (.int .i64 0)))]
abbrev yum:zR:=[ab 18 16,ab 5 18]
abbrev yun:ah:=.seq (.ae yum) (.seq (.ae yul) (.cond (.t 25) (.ae yuk) .skip))
abbrev HM:ah:=.seq (.ae B7) (.seq (.cond (.t 17) .skip (.exit 0)) (.seq (.block 1 [] yun) (.ae yuj)))
abbrev yuq:zR:=[al 13 3 1,ai 14 1 13,aN 15 14,aO 16 0]
abbrev yur:zR:=[o 11 (.lit 1 [] []),o 12 (.box 1 (.t 11)),ab 4 12]
abbrev yus:zR:=[aI 9 4 1,aT 10 mI 9,o 3 (.alloc [.own 1 jL [],.own 1 iT []]),aM 2 3 10]
abbrev U6:aA:=⟨.seq (.ae yus) (.seq (.ae yur) (.seq (.seq (.ae yuq) (.block 0 qK (.loop Qd HM))) (.block 2 Cv (.loop qK xO)))),74,[]⟩
abbrev Rm:zI:=[.inBlock 3 [],.inLoop qK xO,.inBlock 2 Cv]
abbrev yuu(x0 x3 x4 x6 x49 x50 x51:AV)(h:List Ob)(e:Cx:=cx):aq:=bm nv (.code HQ::.inLoop R' HQ::.inBlock 4 qK::Rm) (x0::U::U::x3::x4::U::x6::(by(iterate 42 refine U::?_);exact x49::x50::x51::(by(iterate 22 refine U::?_);exact[]))) h e
abbrev yuv(x0 x3 x4:AV)(h:List Ob)(e:Cx:=cx):aq:=bm nv Rm (x0::U::U::x3::x4::(by(iterate 69 refine U::?_);exact[])) h e
abbrev CP:zI:=[]
abbrev Sa(x0 x3 x4:AV)(h:List Ob)(e:Cx:=cx):aq:=bm nv (.code xO::.inLoop qK xO::.inBlock 2 Cv::CP) (x0::U::U::x3::x4::(by(iterate 69 refine U::?_);exact[])) h e
abbrev QN:zI:=[.code (.block 2 Cv (.loop qK xO))]
abbrev yuz(x0 x3 x4 x15 x16:AV)(h:List Ob)(e:Cx:=cx):aq:=bm nv (.code HM::.inLoop Qd HM::.inBlock 0 qK::QN) (x0::U::U::x3::x4::U::U::U::U::U::U::U::U::U::U::x15::x16::(by(iterate 57 refine U::?_);exact[])) h e
abbrev yuA(x0 x3 x4:AV)(h:List Ob)(e:Cx:=cx):aq:=bm nv QN (x0::U::U::x3::x4::(by(iterate 69 refine U::?_);exact[])) h e
@[simp] theorem Uq:az Tryz.prog nv=some U6:=by kernel_rfl
@[simp] theorem awC:ar Tryz.prog nv=true:=by kernel_rfl
abbrev IJ:zR:=[aI 79 2 4,aM 2 2 79]
abbrev xD:zB:=O::O::I::I::I::(by(iterate 18 refine O::?_);exact I::I::I::(by(iterate 54 refine O::?_);exact[]))
abbrev G4:zB:=O::O::I::O::I::(by(iterate 75 refine O::?_);exact[])
abbrev Sq:zR:=[bz 78 25 1,ab 25 78]
abbrev Ra:zB:=O::O::I::I::I::I::(by(iterate 17 refine O::?_);exact I::I::I::O::O::O::O::O::O::O::O::O::O::I::I::I::(by(iterate 41 refine O::?_);exact[]))
abbrev yuH:zR:=[bz 77 38 1,ab 38 77]
abbrev yuI:zR:=[al 65 1 4,ai 66 1 65,ab 67 9,al 68 1 4,ai 69 1 68,ab 70 9,aZ 71 1 69 70,ai 72 1 71,ab 73 5,o 74 (.lit 1 [.int .i64 0] [(0,.t 73)]),o 75 (.append 1 an 8 (.t 72) (.t 74)),aZ 76 1 66 67,aM 1 76 75]
abbrev yuJ:zR:=[al 59 0 4,ai 60 1 59,ab 61 5,aZ 62 1 60 61,ai 63 1 62,ab 64 9,q (.bG (.sc .int) (.t 63) (.t 64) (.c (.bool true)))]
abbrev yuK:ah:=.seq (.ae yuJ) (.aQ [O,I,O,O,I,O,O,I,O,O,O,O,O] [13,13,13,11,11,11,11,11,10,11,13,13,14] yuI)
abbrev yuL:zR:=[ab 48 10,ab 49 48,oy 50 49 (.off 0 (.t 4)),cG 51 49 1 50,cn 52 49 5,oy 53 49 (.g_ 1 (.t 51) (.t 52)),cG 54 49 1 53,cn 55 49 9,oy 56 49 (.lookup (.sc .int) (.bool false) (.t 54) (.t 55) false),oy 57 49 (.not (.t 56)),bH 58 49 57]
abbrev yuM:zR:=[ab 43 3,ab 44 8,o 45 (.lookup (.sc .str) (.int .i64 0) (.t 43) (.t 44) true),ab 42 45,bj 46 42 0,bj 47 42 1,ab 9 46,ab 10 47]
abbrev yuN:zR:=[aZ 40 1 36 38,ai 41 1 40,ab 8 41]
abbrev yuO:ah:=.seq (.ae yuN) (.seq (.ae yuM) (.seq (.ae yuL) (.cond (.t 58) yuK .skip)))
abbrev H8:ah:=.seq (.ae Q8) (.seq (.cond (.t 39) .skip (.exit 2)) (.seq (.block 3 [] yuO) (.ae yuH)))
abbrev yuR:zR:=[al 35 2 6,ai 36 1 35,aN 37 36,aO 38 0]
abbrev yuS:zR:=[al 30 0 4,ai 31 1 30,ab 32 5,o 33 (.mkMap),aZ 34 1 31 32,aM 1 34 33]
abbrev yuT:zR:=[ab 27 25,aZ 28 5 23 25,aI 29 5 28,o 6 (.alloc [.str [],.int .i64 0,.own 1 aE [],.own 1 aE [],.bool false]),ab 5 27,aM 5 6 29]
abbrev yuU:ah:=.seq (.ae yuT) (.seq (.ae yuS) (.seq (.ae yuR) (.block 2 xD (.loop Ra H8))))
abbrev CJ:ah:=.seq (.ae RR) (.seq (.cond (.t 26) .skip (.exit 0)) (.seq (.block 1 [] yuU) (.ae Sq)))
abbrev Cn:zR:=[al 13 3 1,ai 14 1 13,aN 15 14,o 16 (.mkSlice 1 jL 8 .c_ (.t 15) (.t 15)),al 17 3 1,ai 18 1 17,aN 19 18,o 20 (.mkSlice 1 iT 24 (.list true 0 []) (.t 19) (.t 19)),o 21 (.build [.list true 0 [],.list true 0 []] [(0,1,.t 16),(1,1,.t 20)]),o 4 (.alloc [.own 1 jL [],.own 1 iT []]),aM 2 4 21]
abbrev yuZ:zR:=[aI 11 4 1,aT 12 s9 11,ab 3 12]
abbrev yva:zR:=[o 1 (.box 4 (.t 0)),o 2 (.alloc [.own 1 jL [],.own 1 iT []])]
abbrev Xl:aA:=⟨.seq (.ae yva) (.seq (.ae yuZ) (.seq (.fj [[],[0],[1],[2,2],[],[4],[5],[6,6],[3,7],[],[9,8,0,1,2,3,4,5,6,7,8,9]] Cn) (.seq (.seq (.ae Su) (.block 0 G4 (.loop xD CJ))) (.seq (.ae IJ) .ret)))),80,[.cell 2 true 2]⟩
abbrev Rh:zI:=[.inBlock 1 [],.code (.ae Sq),.inLoop xD CJ,.inBlock 0 G4,.code (.seq (.ae IJ) .ret)]
abbrev yvc(x2 x3 x4 x5 x23 x24 x25 x36 x37 x38:AV)(h:List Ob)(e:Cx:=cx):aq:=bm mI (.code H8::.inLoop Ra H8::.inBlock 2 xD::Rh) (U::U::x2::x3::x4::x5::(by(iterate 17 refine U::?_);exact x23::x24::x25::U::U::U::U::U::U::U::U::U::U::x36::x37::x38::(by(iterate 41 refine U::?_);exact[]))) h e
abbrev yvd(x2 x3 x4 x23 x24 x25:AV)(h:List Ob)(e:Cx:=cx):aq:=bm mI Rh (U::U::x2::x3::x4::(by(iterate 18 refine U::?_);exact x23::x24::x25::(by(iterate 54 refine U::?_);exact[]))) h e
abbrev yve:zI:=[.code (.seq (.ae IJ) .ret)]
abbrev G9(x2 x3 x4 x23 x24 x25:AV)(h:List Ob)(e:Cx:=cx):aq:=bm mI (.code CJ::.inLoop xD CJ::.inBlock 0 G4::yve) (U::U::x2::x3::x4::(by(iterate 18 refine U::?_);exact x23::x24::x25::(by(iterate 54 refine U::?_);exact[]))) h e
@[simp] theorem V7:az Tryz.prog mI=some Xl:=by kernel_rfl
@[simp] theorem axe:ar Tryz.prog mI=true:=by kernel_rfl
abbrev yvg:zR:=[ab 7 0,ab 8 0,o 9 (.invoke (.t 8) "Len" []),o 10 (.bB .sub (.t 9) (.c (.int .i64 1))),cB 11 vB 7 10]
abbrev yvh:zR:=[ab 4 0,ab 5 1,o 6 (.invoke (.t 4) "Push" [.t 5])]
abbrev T0:aA:=⟨.seq (.ae yvh) (.ae yvg),12,[]⟩
@[simp] theorem TM:az Tryz.prog vy=some T0:=by kernel_rfl
@[simp] theorem avS:ar Tryz.prog vy=true:=by kernel_rfl
abbrev yvi:zR:=[ab 3 0,aN 4 3,ab 2 4]
abbrev U9:aA:=⟨.seq (.ae xP) (.seq (.ae yvi) .ret),5,[.tmp 2]⟩
@[simp] theorem JD:az Tryz.prog s7=some U9:=by kernel_rfl
@[simp] theorem awB:ar Tryz.prog s7=true:=by kernel_rfl
abbrev yvk:zR:=[ab 13 0,o 14 (.invoke (.t 13) "Pop" []),ab 2 14]
abbrev yvl:zR:=[ab 10 0,ab 11 3,o 12 (.call (.f vx) [.t 10,.c (.int .i64 0),.t 11])]
abbrev yvm:zR:=[ab 7 0,ab 8 3,o 9 (.invoke (.t 7) "Swap" [.c (.int .i64 0),.t 8])]
abbrev yvn:zR:=[ab 4 0,o 5 (.invoke (.t 4) "Len" []),o 6 (.bB .sub (.t 5) (.c (.int .i64 1))),ab 3 6]
abbrev Rb:zR:=[o 2 (.mv (.c .eh))]
abbrev Uf:aA:=⟨.seq (.ae Rb) (.seq (.ae yvn) (.seq (.ae yvm) (.seq (.ae yvl) (.seq (.ae yvk) .ret)))),15,[.tmp 2]⟩
@[simp] theorem TT:az Tryz.prog y9=some Uf:=by kernel_rfl
@[simp] theorem avU:ar Tryz.prog y9=true:=by kernel_rfl
abbrev yvp:zR:=[ab 4 0,o 5 (.lS (.t 4)),ai 6 1 1,o 7 (.cmp .neq (.sc .int) (.t 5) (.t 6)),ab 8 7,on 9 8 (.mv (.t 0)),on 10 8 (.call (.f s_) [.t 9,.c (.str [48,49,45])]),on 11 8 (.cmp .neq (.sc .str) (.t 10) (.c (.str []))),o 12 (.pick (.t 8) (.c (.bool true)) (.t 11)),ab 3 12]
abbrev U_:aA:=⟨.seq (.ae xE) (.seq (.ae yvp) .ret),13,[.tmp 3]⟩
@[simp] theorem Uz:az Tryz.prog zh=some U_:=by kernel_rfl
@[simp] theorem awy:ar Tryz.prog zh=true:=by kernel_rfl
@[simp] theorem awL:ar Tryz.prog s_=true:=by kernel_rfl
abbrev yvr:zR:=[ab 5 0,ab 6 1,cB 7 sR 5 6,o 8 (.cmp .geq (.sc .int) (.t 7) (.c (.int .i64 0))),ab 4 8]
abbrev S8:aA:=⟨.seq (.ae jF) (.seq (.ae yvr) .ret),9,[.tmp 4]⟩
@[simp] theorem S3:az Tryz.prog y0=some S8:=by kernel_rfl
@[simp] theorem avp:ar Tryz.prog y0=true:=by kernel_rfl
abbrev BU:zR:=[o 92 (.build [.int .i64 0,.int .i64 0,.int .i64 0] [(0,1,.c (.int .i64 4)),(2,1,.c (.int .i64 2))]),o 93 (.lit 3 [.agg [.int .i64 0,.int .i64 0,.int .i64 0]] [(0,.t 92)]),aI 94 2 6,o 95 (.lit 2 [.agg [.int .i64 0,.int .i64 0]] [(0,.t 94)]),ab 96 13,cB 97 ru 95 96,ab 98 14,o 99 (.lit 1 [.list true 0 [],.list true 0 [],.list true 0 []] [(0,.t 93),(1,.t 97),(2,.t 98)]),aT 100 sP 99,ab 2 100]
abbrev B2:zR:=[ai 87 1 1,aT 88 oq 87,ai 89 1 11,cB 90 pQ 88 89,aT 91 ir 90,ab 14 91]
abbrev xH:zR:=[ai 79 1 1,aT 80 oq 79,ab 81 12,cB 82 pQ 80 81,aI 83 2 6,o 84 (.lit 2 [.agg [.int .i64 0,.int .i64 0]] [(0,.t 83)]),cB 85 pT 82 84,aT 86 ir 85,ab 13 86]
abbrev RS:zR:=[o 78 (.fH (.func vF) [] [.t 11]),ab 12 78]
abbrev Qs:zR:=[aI 76 2 6,aT 77 vR 76,o 11 (.alloc [.df]),aM 1 11 77]
abbrev R7:zR:=[ab 75 8,ab 2 75]
abbrev PO:zB:=O::O::O::O::O::O::O::O::I::(by(iterate 53 refine O::?_);exact I::I::I::(by(iterate 36 refine O::?_);exact[]))
abbrev RE:zB:=O::O::O::O::O::O::O::O::I::(by(iterate 92 refine O::?_);exact[])
abbrev yvB:zR:=[bz 74 64 1,ab 64 74]
abbrev yvC:zR:=[ab 68 8,ab 69 10,aT 70 s6 69,aT 71 y3 70,o 72 (.call (.f ru) [.t 71,.c (.list true 0 [])]),o 73 (.append 3 aS 24 (.t 68) (.t 72)),ab 8 73]
abbrev yvD:zR:=[aZ 66 1 62 64,ai 67 1 66,ab 10 67]
abbrev yvE:ah:=.seq (.ae yvD) (.ae yvC)
abbrev yvF:zR:=[cL 65 64 63]
abbrev IN:ah:=.seq (.ae yvF) (.seq (.cond (.t 65) .skip (.exit 3)) (.seq (.block 4 [] yvE) (.ae yvB)))
abbrev yvH:zR:=[ai 62 1 1,aN 63 62,aO 64 0]
abbrev yvI:zR:=[ai 58 1 1,aN 59 58,o 60 (.build [.int .i64 0,.int .i64 0,.int .i64 0] [(0,1,.c (.int .i64 4)),(2,1,.t 59)]),o 61 (.lit 3 [.agg [.int .i64 0,.int .i64 0,.int .i64 0]] [(0,.t 60)]),ab 8 61]
abbrev yvJ:ah:=.seq (.ae yvI) (.seq (.seq (.ae yvH) (.block 3 RE (.loop PO IN))) (.seq (.ae R7) .ret))
abbrev yvK:zR:=[ab 56 7,o 57 (.cmp .lss (.sc .int) (.t 56) (.c (.int .i64 2)))]
abbrev yvL:zR:=[ai 52 1 1,aT 53 tj 52,ab 51 53,bj 54 51 0,bj 55 51 1,o 6 (.alloc [.int .i64 0,.int .i64 0]),aM 2 6 54,ab 7 55]
abbrev yvM:zR:=[ai 45 1 4,ai 46 1 1,ai 47 1 4,cB 48 pT 46 47,aT 49 ir 48,cB 50 ru 45 49,ab 2 50]
abbrev yvN:ah:=.seq (.aQ [I,O,O,O,O,O,O] [6,4,4,5,6,8,8] yvM) .ret
abbrev yvO:zR:=[ai 42 1 4,aN 43 42,o 44 (.cmp .gtr (.sc .int) (.t 43) (.c (.int .i64 0)))]
abbrev BW:zR:=[o 5 (.alloc [.int .i64 0,.int .i64 0]),aM 2 5 31]
abbrev yvQ:zR:=[ai 38 1 4,aI 39 2 5,o 40 (.lit 2 [.agg [.int .i64 0,.int .i64 0]] [(0,.t 39)]),o 41 (.append 2 k9 16 (.t 38) (.t 40)),aM 1 4 41]
abbrev yvR:zR:=[ai 32 1 1,aI 33 2 5,cB 34 tc 32 33,ai 35 1 1,aN 36 35,o 37 (.cmp .eql (.sc .int) (.t 34) (.t 36))]
abbrev yvS:ah:=.seq (.aQ [O,O,O,I,O,O] [3,3,7,7,7,7] yvR) (.cond (.t 37) (.ae yvQ) .skip)
abbrev Cg:ah:=.block 2 [] yvS
abbrev yvU:ah:=.rangeFunc (.t 30) [31] (O::I::I::O::I::(by(iterate 96 refine O::?_);exact[])) (.ae BW) Cg
abbrev yvV:zR:=[ai 27 1 1,o 28 (.g_ 1 (.t 27) (.c (.int .i64 0))),ai 29 1 28,aT 30 s6 29]
abbrev yvW:zR:=[o 4 (.alloc [.own 2 k9 []])]
abbrev yvX:zR:=[o 19 (.build [.int .i64 0,.int .i64 0,.int .i64 0] [(0,1,.c (.int .i64 0))]),o 20 (.lit 3 [.agg [.int .i64 0,.int .i64 0,.int .i64 0]] [(0,.t 19)]),ab 2 20]
abbrev yvY:zR:=[o 25 (.build [.int .i64 0,.int .i64 0,.int .i64 0] [(0,1,.c (.int .i64 1))]),o 26 (.lit 3 [.agg [.int .i64 0,.int .i64 0,.int .i64 0]] [(0,.t 25)]),ab 2 26]
abbrev yvZ:ah:=.seq (.ae yvY) .ret
abbrev ywa:zR:=[ai 22 1 1,ab 23 3,cB 24 pP 22 23,ab 21 24]
abbrev ywb:ah:=.seq (.ae yvX) .ret
abbrev ywc:ah:=.seq (.ae ywa) (.cond (.t 21) yvZ .skip)
abbrev ywd:zR:=[ai 16 1 1,aN 17 16,o 18 (.cmp .eql (.sc .int) (.t 17) (.c (.int .i64 0))),ab 15 18]
abbrev ywe:ah:=.seq (.ae ywd) (.cond (.t 15) ywb ywc)
abbrev ywf:zR:=[o 3 (.mv (.f zi))]
abbrev ywg:zR:=[o 1 (.box 1 (.t 0)),o 2 (.bE 3 aS)]
abbrev V4:aA:=⟨.seq (.ae ywg) (.seq (.ae ywf) (.seq (.block 0 [] ywe) (.seq (.ae yvW) (.seq (.seq (.ae yvV) (.block 1 [] yvU)) (.seq (.seq (.ae yvO) (.cond (.t 44) yvN .skip)) (.seq (.ae yvL) (.seq (.seq (.ae yvK) (.cond (.t 57) yvJ .skip)) (.seq (.ae Qs) (.seq (.ae RS) (.seq (.aQ [I,I,O,I,O,O,O,O,O] [7,7,7,7,6,7,8,10,10] xH) (.seq (.aQ [O,O,I,O,O,O] [2,4,4,5,7,7] B2) (.seq (.ae BU) .ret)))))))))))),101,[.tmp 2]⟩
abbrev ywh:zI:=[.code (.seq (.ae R7) .ret),.code (.seq (.ae Qs) (.seq (.ae RS) (.seq (.aQ [I,I,O,I,O,O,O,O,O] [7,7,7,7,6,7,8,10,10] xH) (.seq (.aQ [O,O,I,O,O,O] [2,4,4,5,7,7] B2) (.seq (.ae BU) .ret)))))]
abbrev ywi(x8 x62 x63 x64:AV)(h:List Ob)(e:Cx:=cx):aq:=bm ir (.code IN::.inLoop PO IN::.inBlock 3 RE::ywh) (U::U::U::U::U::U::U::U::x8::(by(iterate 53 refine U::?_);exact x62::x63::x64::(by(iterate 36 refine U::?_);exact[]))) h e
@[simp] theorem e_:az Tryz.prog ir=some V4:=by kernel_rfl
@[simp] theorem awP:ar Tryz.prog ir=true:=by kernel_rfl
abbrev ywj:zR:=[ab 5 0,ab 6 1,o 7 (.call (.f sV) [.t 5,.t 6,.c (.int .i64 0)]),ab 4 7]
abbrev Uh:aA:=⟨.seq (.ae mw) (.seq (.ae ywj) .ret),8,[.tmp 4]⟩
@[simp] theorem TZ:az Tryz.prog sY=some Uh:=by kernel_rfl
@[simp] theorem av9:ar Tryz.prog sY=true:=by kernel_rfl
abbrev ywl:zR:=[ab 5 0,ab 6 1,o 7 (.call (.f sV) [.t 5,.t 6,.c (.int .i64 1)]),o 8 (.bB .xor (.t 7) (.c (.int .i64 1))),ab 4 8]
abbrev Uk:aA:=⟨.seq (.ae mw) (.seq (.ae ywl) .ret),9,[.tmp 4]⟩
@[simp] theorem T3:az Tryz.prog sX=some Uk:=by kernel_rfl
@[simp] theorem awd:ar Tryz.prog sX=true:=by kernel_rfl
abbrev RO:zR:=[ab 49 3,ab 2 49]
abbrev R3:zB:=O::I::O::I::(by(iterate 16 refine O::?_);exact I::I::I::(by(iterate 27 refine O::?_);exact[]))
abbrev QR:zB:=O::O::O::I::(by(iterate 46 refine O::?_);exact[])
abbrev ywq:zR:=[bz 48 22 1,ab 22 48]
abbrev ywr:zR:=[ab 38 3,o 39 (.cr (.t 38)),al 40 5 39,ai 41 1 40,aI 42 2 5,aI 43 5 1,aT 44 ke 43,ab 45 4,o 46 (.bB .add (.t 44) (.t 45)),o 47 (.bB .mul (.c (.int .i64 2)) (.t 46)),q (.bG (.iE [.int,.int]) (.t 41) (.t 42) (.t 47))]
abbrev yws:zR:=[ab 36 7,o 37 (.not (.t 36))]
abbrev ywt:zR:=[ab 28 3,o 29 (.cr (.t 28)),al 30 5 29,ai 31 1 30,aI 32 2 5,o 33 (.lookup (.iE [.int,.int]) (.int .i64 0) (.t 31) (.t 32) true),ab 27 33,bj 34 27 0,bj 35 27 1,ab 6 34,ab 7 35]
abbrev ywu:zR:=[ab 24 22,aZ 25 2 20 22,aI 26 2 25,o 5 (.alloc [.int .i64 0,.int .i64 0]),ab 4 24,aM 2 5 26]
abbrev ywv:ah:=.seq (.ae ywu) (.seq (.aQ [O,O,O,O,O,O,O,O,O,O,O] [12,12,12,12,12,12,12,12,12,12,12] ywt) (.seq (.ae yws) (.cond (.t 37) (.aQ [O,O,O,I,I,O,O,O,O,O,O] [11,11,11,11,11,7,11,11,11,11,12] ywr) .skip)))
abbrev yww:zR:=[cL 23 22 21]
abbrev G1:ah:=.seq (.ae yww) (.seq (.cond (.t 23) .skip (.exit 0)) (.seq (.block 1 [] ywv) (.ae ywq)))
abbrev ywy:zR:=[al 19 3 1,ai 20 1 19,aN 21 20,aO 22 0]
abbrev ywz:zR:=[ab 12 3,al 13 3 1,ai 14 1 13,aT 15 y5 14,o 16 (.cr (.t 12)),al 17 0 16,al 18 3 17,aM 1 18 15]
abbrev ywA:zR:=[aI 8 5 1,o 9 (.mkMap),o 10 (.build [.int .i64 0,.list true 0 [],.list true 0 [],.list true 0 [],.list true 0 [],.c_,.list true 0 []] [(0,5,.t 8),(5,1,.t 9)]),o 11 (.box 7 (.t 10)),ab 3 11]
abbrev YL:aA:=⟨.seq (.ae RT) (.seq (.ae ywA) (.seq (.ae ywz) (.seq (.seq (.ae ywy) (.block 0 QR (.loop R3 G1))) (.seq (.ae RO) .ret)))),50,[.tmp 2]⟩
abbrev ywC:zI:=[.code (.seq (.ae RO) .ret)]
abbrev ywD(x1 x3 x20 x21 x22:AV)(h:List Ob)(e:Cx:=cx):aq:=bm rv (.code G1::.inLoop R3 G1::.inBlock 0 QR::ywC) (U::x1::U::x3::(by(iterate 16 refine U::?_);exact x20::x21::x22::(by(iterate 27 refine U::?_);exact[]))) h e
@[simp] theorem J_:az Tryz.prog rv=some YL:=by kernel_rfl
@[simp] theorem axE:ar Tryz.prog rv=true:=by kernel_rfl
abbrev ywE:zR:=[o 5 (.lit 1 [] []),ab 6 0,o 7 (.append 1 an 8 (.t 5) (.t 6)),ab 2 7]
abbrev G6:zR:=[o 2 (.bE 1 an)]
abbrev ywG:ah:=.seq (.ae G6) .ret
abbrev TP:aA:=⟨.seq (.ae G6) (.seq (.seq (.ae CN) (.cond (.t 4) ywG .skip)) (.seq (.ae ywE) .ret)),8,[.tmp 2]⟩
@[simp] theorem TH:az Tryz.prog y7=some TP:=by kernel_rfl
@[simp] theorem avN:ar Tryz.prog y7=true:=by kernel_rfl
abbrev Qr:zR:=[ab 24 5,ab 4 24]
abbrev Rw:zB:=[O,O,O,O,O,I,I,O,O,O,O,I,I,I,O,O,O,O,O,O,O,O,O,O,O]
abbrev Q7:zB:=O::O::O::O::O::I::(by(iterate 19 refine O::?_);exact[])
abbrev ywM:zR:=[bz 23 13 1,ab 13 23]
abbrev ywN:zR:=[ab 17 5,ab 18 6,ab 19 8,o 20 (.call (.t 18) [.t 19]),o 21 (.lit 1 [.int .i64 0] [(0,.t 20)]),o 22 (.append 1 an 8 (.t 17) (.t 21)),ab 5 22]
abbrev ywO:zR:=[aZ 15 1 11 13,ai 16 1 15,ab 8 16]
abbrev ywP:ah:=.seq (.ae ywO) (.ae ywN)
abbrev HF:ah:=.seq (.ae uU) (.seq (.cond (.t 14) .skip (.exit 0)) (.seq (.block 1 [] ywP) (.ae ywM)))
abbrev ywS:zR:=[ab 11 1,aN 12 11,aO 13 0]
abbrev ywT:zR:=[ab 9 0,o 10 (.fH (.func nu) [.t 9] []),ab 6 10]
abbrev ywU:zR:=[o 5 (.bE 1 an)]
abbrev UP:aA:=⟨.seq (.ae Ig) (.seq (.ae ywU) (.seq (.ae ywT) (.seq (.seq (.ae ywS) (.block 0 Q7 (.loop Rw HF))) (.seq (.ae Qr) .ret)))),25,[.tmp 4]⟩
abbrev ywW:zI:=[.code (.seq (.ae Qr) .ret)]
abbrev Rk(x5 x6 x11 x12 x13:AV)(h:List Ob)(e:Cx:=cx):aq:=bm rk (.code HF::.inLoop Rw HF::.inBlock 0 Q7::ywW) [U,U,U,U,U,x5,x6,U,U,U,U,x11,x12,x13,U,U,U,U,U,U,U,U,U,U,U] h e
@[simp] theorem Jy:az Tryz.prog rk=some UP:=by kernel_rfl
@[simp] theorem awj:ar Tryz.prog rk=true:=by kernel_rfl
abbrev yxe:zR:=[ab 11 1,ab 12 0,ab 13 5,aZ 14 5 12 13,aI 15 5 14,o 16 (.call (.t 11) [.t 15])]
abbrev yxg:ah:=.seq (.ae Ca) (.seq (.ae yxe) (.cond (.t 16) Cc .skip))
abbrev Hk:ah:=.seq (.ae xB) (.seq (.cond (.t 9) .skip (.exit 0)) (.seq (.block 1 [] yxg) (.ae CF)))
abbrev SX:aA:=⟨.seq (.ae mw) (.seq (.seq (.ae uP) (.block 0 kP (.loop qI Hk))) (.seq (.ae sy) .ret)),19,[.tmp 4]⟩
abbrev yxm(x0 x1 x7 x8:AV)(h:List Ob)(e:Cx:=cx):aq:=bm vq (.code Hk::.inLoop qI Hk::.inBlock 0 kP::xz) [x0,x1,U,U,U,U,U,x7,x8,U,U,U,U,U,U,U,U,U,U] h e
@[simp] theorem SS:az Tryz.prog vq=some SX:=by kernel_rfl
@[simp] theorem avj:ar Tryz.prog vq=true:=by kernel_rfl
abbrev yxn:zR:=[ab 4 0,o 5 (.cmp .neq (.sc .str) (.t 4) (.c (.str []))),ab 6 5,cn 7 6 0,oy 8 6 (.lS (.t 7)),oy 9 6 (.cmp .leq (.sc .int) (.t 8) (.c (.int .i64 40))),bH 10 6 9,ab 11 10,cn 12 11 0,cn 13 11 3,oy 14 11 (.call (.f y_) [.t 12,.t 13]),oy 15 11 (.cmp .lss (.sc .int) (.t 14) (.c (.int .i64 0))),bH 16 11 15,ab 2 16]
abbrev yxo:zR:=[o 3 (.mv (.f rh))]
abbrev Uw:aA:=⟨.seq (.ae yi) (.seq (.ae yxo) (.seq (.ae yxn) .ret)),17,[.tmp 2]⟩
@[simp] theorem Ub:az Tryz.prog zd=some Uw:=by kernel_rfl
@[simp] theorem awh:ar Tryz.prog zd=true:=by kernel_rfl
abbrev yxq:zR:=[ab 4 0,al 5 2 1,ai 6 1 5,aN 7 6,cB 8 z_ 4 7,o 9 (.not (.t 8)),ab 3 9]
abbrev XN:aA:=⟨.seq (.ae xE) (.seq (.ae yxq) .ret),10,[.tmp 3]⟩
@[simp] theorem VF:az Tryz.prog zz=some XN:=by kernel_rfl
@[simp] theorem axc:ar Tryz.prog zz=true:=by kernel_rfl
abbrev yxs:zR:=[ab 5 0,o 6 (.lS (.t 5)),ab 7 1,o 8 (.cmp .eql (.sc .int) (.t 6) (.t 7)),ab 9 8,cn 10 9 0,oy 11 9 (.call (.f s_) [.t 10,.c (.str [48,49,45])]),oy 12 9 (.cmp .eql (.sc .str) (.t 11) (.c (.str []))),bH 13 9 12,ab 4 13]
abbrev ab1:aA:=⟨.seq (.ae jF) (.seq (.ae yxs) .ret),14,[.tmp 4]⟩
@[simp] theorem Zw:az Tryz.prog z_=some ab1:=by kernel_rfl
@[simp] theorem ayS:ar Tryz.prog z_=true:=by kernel_rfl
abbrev yxu:zR:=[ab 13 6,ab 14 13,cn 15 14 1,oy 16 14 (.eB 2 1 (.t 5) (.c (.int .i64 0))),cG 17 14 1 16,oy 18 14 (.cmp .geq (.sc .int) (.t 15) (.t 17)),bH 19 14 18,ab 20 19,cn 21 20 1,oy 22 20 (.eB 2 1 (.t 5) (.c (.int .i64 1))),cG 23 20 1 22,oy 24 20 (.cmp .leq (.sc .int) (.t 21) (.t 23)),bH 25 20 24,ab 4 25]
abbrev yxv:zR:=[o 8 (.load false 1 (.g 1)),ab 9 0,o 10 (.lookup (.sc .int) (.agg [.int .i64 0,.int .i64 0]) (.t 8) (.t 9) true),ab 7 10,bj 11 7 0,bj 12 7 1,o 5 (.alloc [.int .i64 0,.int .i64 0]),aM 2 5 11,ab 6 12]
abbrev acD:aA:=⟨.seq (.ae jF) (.seq (.ae yxv) (.seq (.ae yxu) .ret)),26,[.tmp 4]⟩
@[simp] theorem LD:az Tryz.prog tA=some acD:=by kernel_rfl
@[simp] theorem ayY:ar Tryz.prog tA=true:=by kernel_rfl
abbrev yxD:zR:=[ab 11 1,ab 12 0,ab 13 5,aZ 14 1 12 13,ai 15 1 14,o 16 (.call (.t 11) [.t 15])]
abbrev yxF:ah:=.seq (.ae Ca) (.seq (.ae yxD) (.cond (.t 16) Cc .skip))
abbrev uR:ah:=.seq (.ae xB) (.seq (.cond (.t 9) .skip (.exit 0)) (.seq (.block 1 [] yxF) (.ae CF)))
abbrev Tx:aA:=⟨.seq (.ae mw) (.seq (.seq (.ae uP) (.block 0 kP (.loop qI uR))) (.seq (.ae sy) .ret)),19,[.tmp 4]⟩
abbrev yxL(x0 x1 x7 x8:AV)(h:List Ob)(e:Cx:=cx):aq:=bm vt (.code uR::.inLoop qI uR::.inBlock 0 kP::xz) [x0,x1,U,U,U,U,U,x7,x8,U,U,U,U,U,U,U,U,U,U] h e
@[simp] theorem Tq:az Tryz.prog vt=some Tx:=by kernel_rfl
@[simp] theorem avz:ar Tryz.prog vt=true:=by kernel_rfl
abbrev S6:aA:=⟨.seq (.ae mw) (.seq (.seq (.ae uP) (.block 0 kP (.loop qI uR))) (.seq (.ae sy) .ret)),19,[.tmp 4]⟩
abbrev RH(x0 x1 x7 x8:AV)(h:List Ob)(e:Cx:=cx):aq:=bm ra (.code uR::.inLoop qI uR::.inBlock 0 kP::xz) [x0,x1,U,U,U,U,U,x7,x8,U,U,U,U,U,U,U,U,U,U] h e
@[simp] theorem Jo:az Tryz.prog ra=some S6:=by kernel_rfl
@[simp] theorem avn:ar Tryz.prog ra=true:=by kernel_rfl
abbrev yyb:zR:=[o 7 (.alloc [.int .i64 0,.int .i64 0]),aM 2 7 28]
abbrev yyc:zR:=[ab 6 27]
abbrev yyd:zR:=[ai 29 1 2,aI 30 5 1,aT 31 ke 30,ab 32 6,o 33 (.bB .add (.t 31) (.t 32)),aZ 34 1 29 33,ai 35 1 34,ab 36 35,cG 37 36 1 3,oy 38 36 (.eB 2 1 (.t 7) (.c (.int .i64 0))),cG 39 36 1 38,oy 40 36 (.call (.t 37) [.t 39]),oy 41 36 (.not (.t 40)),cn 42 36 41,on 43 42 (.load false 1 (.t 3)),on 44 42 (.eB 2 1 (.t 7) (.c (.int .i64 1))),on 45 42 (.load false 1 (.t 44)),on 46 42 (.call (.t 43) [.t 45]),on 47 42 (.not (.t 46)),oy 48 36 (.pick (.t 42) (.c (.bool true)) (.t 47)),bH 49 36 48]
abbrev yye:ah:=.seq (.aQ (I::(by(iterate 20 refine O::?_);exact[])) [12,3,12,12,12,12,12,12,12,12,12,18,18,18,18,18,18,22,22,22,22] yyd) (.cond (.t 49) .ret .skip)
abbrev GZ:ah:=.seq (.ae yyc) (.ae yyb)
abbrev Hq:ah:=.block 3 [] yye
abbrev PZ:ah:=.rangeFunc (.t 26) [27,28] (O::I::I::I::(by(iterate 46 refine O::?_);exact[])) GZ Hq
abbrev Rj:zR:=[al 24 3 1,ai 25 1 24,aT 26 Da 25]
abbrev Rc:zB:=O::I::I::I::O::O::O::O::O::O::O::O::O::I::I::I::(by(iterate 34 refine O::?_);exact[])
abbrev RC:zB:=O::I::I::I::(by(iterate 46 refine O::?_);exact[])
abbrev yyl:zR:=[bz 23 15 1,ab 15 23]
abbrev yym:zR:=[ai 19 1 3,ab 20 5,o 21 (.call (.t 19) [.t 20]),o 22 (.not (.t 21))]
abbrev yyn:zR:=[aZ 17 1 13 15,ai 18 1 17,ab 5 18]
abbrev yyo:ah:=.seq (.ae yyn) (.seq (.ae yym) (.cond (.t 22) .ret .skip))
abbrev yyp:zR:=[cL 16 15 14]
abbrev Hd:ah:=.seq (.ae yyp) (.seq (.cond (.t 16) .skip (.exit 0)) (.seq (.block 1 [] yyo) (.ae yyl)))
abbrev yyr:zR:=[al 8 1 1,ai 9 1 8,al 10 4 1,ai 11 1 10,o 12 (.lit 1 [.list true 0 [],.list true 0 []] [(0,.t 9),(1,.t 11)]),aT 13 pR 12,aN 14 13,aO 15 0]
abbrev yys:zR:=[o 3 (.box 1 (.t 0))]
abbrev Vz:aA:=⟨.seq (.ae yys) (.seq (.seq (.ae yyr) (.block 0 RC (.loop Rc Hd))) (.seq (.ae Rj) (.block 2 [] PZ))),50,[]⟩
abbrev PJ:zI:=[.code (.seq (.ae Rj) (.block 2 [] PZ))]
abbrev yyu(x1 x2 x3 x13 x14 x15:AV)(h:List Ob)(e:Cx:=cx):aq:=bm ou (.code Hd::.inLoop Rc Hd::.inBlock 0 RC::PJ) (U::x1::x2::x3::U::U::U::U::U::U::U::U::U::x13::x14::x15::(by(iterate 34 refine U::?_);exact[])) h e
abbrev IS(x1 x2 x3:AV)(h:List Ob)(e:Cx:=cx):aq:=bm ou PJ (U::x1::x2::x3::(by(iterate 46 refine U::?_);exact[])) h e
@[simp] theorem UL:az Tryz.prog ou=some Vz:=by kernel_rfl
@[simp] theorem awI:ar Tryz.prog ou=true:=by kernel_rfl
abbrev yyA:zR:=[ab 31 6,ab 32 8,o 33 (.append 1 an 8 (.t 31) (.t 32)),ab 6 33]
abbrev yyC:ah:=.seq (.ae Cy) (.ae yyA)
abbrev CA:ah:=.seq (.ae uV) (.seq (.cond (.t 28) .skip (.exit 2)) (.seq (.block 3 [] yyC) (.ae Ch)))
abbrev RP:zR:=[ab 23 3,o 24 (.call (.f Di) [.c (.list true 0 []),.t 23]),ab 6 24]
abbrev TJ:aA:=⟨.seq (.ae G6) (.seq (.ae sx) (.seq (.seq (.ae CD) (.block 0 sC (.loop sF n4))) (.seq (.ae RP) (.seq (.seq (.ae sD) (.block 2 n8 (.loop oa CA))) (.seq (.ae qJ) .ret))))),36,[.tmp 2]⟩
abbrev QV(x6 x25 x26 x27:AV)(h:List Ob)(e:Cx:=cx):aq:=bm pR (.code CA::.inLoop oa CA::.inBlock 2 n8::He) (U::U::U::U::U::U::x6::(by(iterate 18 refine U::?_);exact[x25,x26,x27,U,U,U,U,U,U,U,U])) h e
abbrev yyW:zI:=[.code (.seq (.ae RP) (.seq (.seq (.ae sD) (.block 2 n8 (.loop oa CA))) (.seq (.ae qJ) .ret)))]
abbrev PQ(x0 x3 x9 x10 x11:AV)(h:List Ob)(e:Cx:=cx):aq:=bm pR (.code n4::.inLoop sF n4::.inBlock 0 sC::yyW) (x0::U::U::x3::U::U::U::U::U::x9::x10::x11::(by(iterate 24 refine U::?_);exact[])) h e
@[simp] theorem Jt:az Tryz.prog pR=some TJ:=by kernel_rfl
@[simp] theorem avJ:ar Tryz.prog pR=true:=by kernel_rfl
abbrev yyY:zR:=[o 3 (.fH (.func vr) [] [.t 1]),ab 2 3]
abbrev Qb:zR:=[o 1 (.box 1 (.t 0)),o 2 (.mv (.c .df))]
abbrev Tl:aA:=⟨.seq (.ae Qb) (.seq (.ae yyY) .ret),4,[.tmp 2]⟩
@[simp] theorem S9:az Tryz.prog Da=some Tl:=by kernel_rfl
@[simp] theorem avt:ar Tryz.prog Da=true:=by kernel_rfl
abbrev yza:zR:=[al 29 0 6,ai 30 1 29,ab 31 1,o 32 (.call (.t 30) [.t 31]),al 33 1 6,ai 34 1 33,o 35 (.cmp .neq (.sc .bool) (.t 32) (.t 34)),ab 4 35,aO 5 0]
abbrev yzb:zR:=[o 27 (.fH (.func Dx) [] [.t 2]),al 28 0 6,aM 1 28 27]
abbrev yzc:zR:=[al 24 4 2,ai 25 1 24,al 26 1 6,aM 1 26 25]
abbrev yzd:ah:=.seq (.ae yzc) (.ae yzb)
abbrev yze:zR:=[al 21 1 2,ai 22 1 21,o 23 (.cmp .eql (.sc .int) (.t 22) (.c (.int .i64 10)))]
abbrev yzf:zR:=[al 18 1 2,ai 19 1 18,aT 20 Ep 19,o 6 (.alloc [.df,.bool false]),aM 2 6 20]
abbrev yzg:zR:=[kT 4,aO 5 1]
abbrev yzh:ah:=.seq (.ae yzg) .ret
abbrev yzi:zR:=[aI 7 5 2,aT 8 v8 7,o 9 (.not (.t 8)),ab 10 9,on 11 10 (.mv (.t 1)),on 12 10 (.len (.t 11)),on 13 10 (.off 2 (.t 2)),on 14 10 (.load false 1 (.t 13)),on 15 10 (.len (.t 14)),on 16 10 (.cmp .neq (.sc .int) (.t 12) (.t 15)),o 17 (.pick (.t 10) (.c (.bool true)) (.t 16))]
abbrev yzj:zR:=[o 2 (.box 5 (.t 0)),kT 4,aO 5 0]
abbrev Zt:aA:=⟨.seq (.ae yzj) (.seq (.seq (.ae yzi) (.cond (.t 17) yzh .skip)) (.seq (.ae yzf) (.seq (.seq (.ae yze) (.cond (.t 23) yzd .skip)) (.seq (.aQ [O,O,O,O,O,I,O,O,O] [4,4,4,10,10,10,10,10,10] yza) .ret)))),36,[.tmp 4,.tmp 5]⟩
@[simp] theorem axD:az Tryz.prog DI=some Zt:=by kernel_rfl
@[simp] theorem ax6:ar Tryz.prog DI=true:=by kernel_rfl
abbrev yzl:zR:=[ab 17 0,ab 18 0,o 19 (.cap (.t 18)),o 20 (.slice 1 (.t 17) none (some (.t 19))),ab 21 1,o 22 (.p8 1 cD 1 (.bool false) (.t 20) (.t 21)),ab 23 0,aN 24 23,o 25 (.slice 1 (.t 22) none (some (.t 24))),ab 0 25]
abbrev TK:aA:=⟨.seq (.ae IK) (.seq (.seq (.ae B9) (.cond (.t 6) (.ae CI) .skip)) (.seq (.seq (.ae Cf) (.seq (.ae B3) (.cond (.t 16) (.ae yzl) .skip))) (.seq (.ae B8) .ret))),27,[.tmp 4]⟩
@[simp] theorem avH:az Tryz.prog De=some TK:=by kernel_rfl
@[simp] theorem avI:ar Tryz.prog De=true:=by kernel_rfl
abbrev RN:zB:=I::I::(by(iterate 21 refine O::?_);exact[])
abbrev QX:zB:=(by(iterate 23 refine O::?_);exact[])
abbrev yzt:zR:=[ab 22 4,ab 1 22]
abbrev yzu:zR:=[ab 18 0,ab 19 4,ab 20 1,o 21 (.invoke (.t 18) "Swap" [.t 19,.t 20])]
abbrev yzv:zR:=[ab 8 4,ab 9 1,o 10 (.cmp .eql (.sc .int) (.t 8) (.t 9)),ab 11 10,on 12 11 (.mv (.t 0)),on 13 11 (.mv (.t 1)),on 14 11 (.mv (.t 4)),on 15 11 (.invoke (.t 12) "Less" [.t 13,.t 14]),on 16 11 (.not (.t 15)),o 17 (.pick (.t 11) (.c (.bool true)) (.t 16))]
abbrev yzw:zR:=[ab 5 1,o 6 (.bB .sub (.t 5) (.c (.int .i64 1))),o 7 (.bB .quo (.t 6) (.c (.int .i64 2))),ab 4 7]
abbrev yzx:ah:=.seq (.ae yzw) (.seq (.seq (.ae yzv) (.cond (.t 17) (.exit 0) .skip)) (.seq (.ae yzu) (.ae yzt)))
abbrev IW:ah:=.block 1 [] yzx
abbrev Uo:aA:=⟨.block 0 QX (.loop RN IW),23,[]⟩
abbrev yzA(x0 x1:AV)(h:List Ob)(e:Cx:=cx):aq:=bm vB (.code IW::.inLoop RN IW::.inBlock 0 QX::CP) (x0::x1::(by(iterate 21 refine U::?_);exact[])) h e
@[simp] theorem TX:az Tryz.prog vB=some Uo:=by kernel_rfl
@[simp] theorem awb:ar Tryz.prog vB=true:=by kernel_rfl
abbrev RJ:zR:=[ab 45 7,ab 46 1,o 47 (.cmp .gtr (.sc .int) (.t 45) (.t 46)),ab 6 47]
abbrev P':zB:=I::I::I::O::O::O::O::I::(by(iterate 40 refine O::?_);exact[])
abbrev RD:zB:=O::I::O::O::O::O::O::I::(by(iterate 40 refine O::?_);exact[])
abbrev yzE:zR:=[ab 44 9,ab 7 44]
abbrev yzF:zR:=[ab 40 0,ab 41 7,ab 42 9,o 43 (.invoke (.t 40) "Swap" [.t 41,.t 42])]
abbrev yzG:zR:=[ab 35 0,ab 36 9,ab 37 7,o 38 (.invoke (.t 35) "Less" [.t 36,.t 37]),o 39 (.not (.t 38))]
abbrev yzH:zR:=[ab 34 10,ab 9 34]
abbrev yzI:zR:=[ab 25 10,ab 26 2,cL 27 25 26,ab 28 27,cn 29 28 0,cn 30 28 10,cn 31 28 8,oy 32 28 (.invoke (.t 29) "Less" [.t 30,.t 31]),bH 33 28 32]
abbrev yzJ:zR:=[ab 23 8,bz 24 23 1,ab 10 24]
abbrev yzK:zR:=[ab 22 8,ab 9 22]
abbrev yzL:zR:=[ab 15 8,ab 16 2,o 17 (.cmp .geq (.sc .int) (.t 15) (.t 16)),ab 18 17,on 19 18 (.mv (.t 8)),on 20 18 (.cmp .lss (.sc .int) (.t 19) (.c (.int .i64 0))),o 21 (.pick (.t 18) (.c (.bool true)) (.t 20))]
abbrev yzM:zR:=[ab 12 7,o 13 (.bB .mul (.c (.int .i64 2)) (.t 12)),bz 14 13 1,ab 8 14]
abbrev yzN:ah:=.seq (.ae yzM) (.seq (.seq (.ae yzL) (.cond (.t 21) (.exit 0) .skip)) (.seq (.ae yzK) (.seq (.seq (.ae yzJ) (.seq (.ae yzI) (.cond (.t 33) (.ae yzH) .skip))) (.seq (.seq (.ae yzG) (.cond (.t 39) (.exit 0) .skip)) (.seq (.ae yzF) (.ae yzE))))))
abbrev H9:ah:=.block 1 [] yzN
abbrev yzP:zR:=[ab 11 1,ab 7 11]
abbrev T6:aA:=⟨.seq (.ae yR) (.seq (.ae yzP) (.seq (.block 0 RD (.loop P' H9)) (.seq (.ae RJ) .ret))),48,[.tmp 6]⟩
abbrev yzR:zI:=[.code (.seq (.ae RJ) .ret)]
abbrev yzS(x0 x1 x2 x7:AV)(h:List Ob)(e:Cx:=cx):aq:=bm vx (.code H9::.inLoop P' H9::.inBlock 0 RD::yzR) (x0::x1::x2::U::U::U::U::x7::(by(iterate 40 refine U::?_);exact[])) h e
@[simp] theorem TL:az Tryz.prog vx=some T6:=by kernel_rfl
@[simp] theorem avQ:ar Tryz.prog vx=true:=by kernel_rfl
abbrev yzT:zR:=[ab 3 0,o 4 (.call (.f s_) [.t 3,.c (.str [45])]),o 5 (.cmp .eql (.sc .str) (.t 4) (.c (.str []))),ab 2 5]
abbrev U2:aA:=⟨.seq (.ae yi) (.seq (.ae yzT) .ret),6,[.tmp 2]⟩
@[simp] theorem Ut:az Tryz.prog zi=some U2:=by kernel_rfl
@[simp] theorem aws:ar Tryz.prog zi=true:=by kernel_rfl
abbrev yzV:zR:=[o 3 (.fH (.func rj) [] [.t 1]),ab 2 3]
abbrev U8:aA:=⟨.seq (.ae Qb) (.seq (.ae yzV) .ret),4,[.tmp 2]⟩
@[simp] theorem UD:az Tryz.prog s6=some U8:=by kernel_rfl
@[simp] theorem awu:ar Tryz.prog s6=true:=by kernel_rfl
abbrev P8:zB:=[O,O,O,I,O,I,O,O,I,I,I,O,O,O,O,O,O,O,O,O,O,O]
abbrev yAb:zR:=[ab 18 5,bz 19 18 1,ab 5 19]
abbrev yAc:zR:=[aI 14 2 3,aT 15 vR 14,ab 16 7,o 17 (.call (.t 15) [.t 16])]
abbrev yAe:ah:=.seq (.ae So) (.seq (.ae yAc) (.cond (.t 17) (.ae yAb) .skip))
abbrev I4:ah:=.seq (.ae H4) (.seq (.cond (.t 11) .skip (.exit 0)) (.seq (.block 1 [] yAe) (.ae QB)))
abbrev yAh:zR:=[ab 8 0,aN 9 8,aO 10 0]
abbrev Wx:aA:=⟨.seq (.ae Rp) (.seq (.ae qF) (.seq (.seq (.ae yAh) (.block 0 IU (.loop P8 I4))) (.seq (.ae Iv) .ret))),22,[.tmp 4]⟩
abbrev yAk:zI:=[.code (.seq (.ae Iv) .ret)]
abbrev yAl(x3 x5 x8 x9 x10:AV)(h:List Ob)(e:Cx:=cx):aq:=bm tc (.code I4::.inLoop P8 I4::.inBlock 0 IU::yAk) [U,U,U,x3,U,x5,U,U,x8,x9,x10,U,U,U,U,U,U,U,U,U,U,U] h e
@[simp] theorem Vy:az Tryz.prog tc=some Wx:=by kernel_rfl
@[simp] theorem aw0:ar Tryz.prog tc=true:=by kernel_rfl
abbrev RF:zR:=[ab 44 6,ab 45 1,o 46 (.append 3 aS 24 (.t 44) (.t 45)),ab 4 46]
abbrev QF:zB:=O::I::O::O::O::O::I::(by(iterate 25 refine O::?_);exact[I,I,I,O,O,O,O,O,O,O,O,O,O,O,O])
abbrev Sj:zB:=O::I::O::O::O::O::I::(by(iterate 40 refine O::?_);exact[])
abbrev yAp:zR:=[bz 43 34 1,ab 34 43]
abbrev yAq:zR:=[ab 38 6,aI 39 2 8,aT 40 y8 39,o 41 (.lit 3 [.agg [.int .i64 0,.int .i64 0,.int .i64 0]] [(0,.t 40)]),o 42 (.append 3 aS 24 (.t 38) (.t 41)),ab 6 42]
abbrev yAr:zR:=[aZ 36 2 32 34,aI 37 2 36,o 8 (.alloc [.int .i64 0,.int .i64 0]),aM 2 8 37]
abbrev yAs:ah:=.seq (.ae yAr) (.ae yAq)
abbrev IL:ah:=.seq (.ae RZ) (.seq (.cond (.t 35) .skip (.exit 0)) (.seq (.block 1 [] yAs) (.ae yAp)))
abbrev yAv:zR:=[ab 32 0,aN 33 32,aO 34 0]
abbrev yAw:zR:=[ab 27 6,ab 28 5,o 29 (.build [.int .i64 0,.int .i64 0,.int .i64 0] [(0,1,.c (.int .i64 3)),(2,1,.t 28)]),o 30 (.lit 3 [.agg [.int .i64 0,.int .i64 0,.int .i64 0]] [(0,.t 29)]),o 31 (.append 3 aS 24 (.t 27) (.t 30)),ab 6 31]
abbrev yAx:zR:=[ab 25 5,o 26 (.cmp .gtr (.sc .int) (.t 25) (.c (.int .i64 1)))]
abbrev yAy:zR:=[o 6 (.bE 3 aS)]
abbrev yAz:zR:=[ab 19 0,aN 20 19,ab 21 1,aN 22 21,o 23 (.min [.t 22,.c (.int .i64 1)]),o 24 (.bB .add (.t 20) (.t 23)),ab 5 24]
abbrev yAA:zR:=[o 1 (.bE 3 aS)]
abbrev yAB:zR:=[ab 9 1,aN 10 9,o 11 (.cmp .eql (.sc .int) (.t 10) (.c (.int .i64 1))),ab 12 11,cn 13 12 1,oy 14 12 (.g_ 3 (.t 13) (.c (.int .i64 0))),oy 15 12 (.off 0 (.t 14)),cG 16 12 1 15,oy 17 12 (.cmp .eql (.sc .int) (.t 16) (.c (.int .i64 1))),bH 18 12 17]
abbrev Q3:zR:=[o 4 (.bE 3 aS)]
abbrev Y1:aA:=⟨.seq (.ae Q3) (.seq (.seq (.ae yAB) (.cond (.t 18) (.ae yAA) .skip)) (.seq (.ae yAz) (.seq (.ae yAy) (.seq (.seq (.ae yAx) (.cond (.t 26) (.ae yAw) .skip)) (.seq (.seq (.ae yAv) (.block 0 Sj (.loop QF IL))) (.seq (.ae RF) .ret)))))),47,[.tmp 4]⟩
abbrev yAD:zI:=[.code (.seq (.ae RF) .ret)]
abbrev yAE(x1 x6 x32 x33 x34:AV)(h:List Ob)(e:Cx:=cx):aq:=bm ru (.code IL::.inLoop QF IL::.inBlock 0 Sj::yAD) (U::x1::U::U::U::U::x6::(by(iterate 25 refine U::?_);exact[x32,x33,x34,U,U,U,U,U,U,U,U,U,U,U,U])) h e
@[simp] theorem We:az Tryz.prog ru=some Y1:=by kernel_rfl
@[simp] theorem ax4:ar Tryz.prog ru=true:=by kernel_rfl
abbrev Hc:zR:=[ab 36 5,ab 4 36]
abbrev IP:zB:=O::I::O::O::O::I::O::O::O::O::O::I::I::I::(by(iterate 23 refine O::?_);exact[])
abbrev IH:zB:=O::O::O::O::O::I::(by(iterate 31 refine O::?_);exact[])
abbrev QJ:zR:=[bz 35 13 1,ab 13 35]
abbrev Q0:zR:=[ab 30 5,ab 31 8,o 32 (.toStr (.t 31)),o 33 (.lit 1 [.str []] [(0,.t 32)]),o 34 (.append 1 aE 16 (.t 30) (.t 33)),ab 5 34]
abbrev QE:zB:=O::I::O::O::O::I::O::O::I::O::O::I::I::I::O::O::O::O::O::I::I::I::(by(iterate 15 refine O::?_);exact[])
abbrev Ro:zB:=O::I::O::O::O::I::O::O::I::O::O::I::I::I::(by(iterate 23 refine O::?_);exact[])
abbrev yAM:zR:=[bz 29 21 1,ab 21 29]
abbrev yAN:zR:=[ab 25 8,o 26 (.eB 2 1 (.t 10) (.c (.int .i64 0))),ai 27 1 26,aZ 28 1 25 27,q (.store 1 (.t 28) (.c (.int .u8 45)))]
abbrev yAO:zR:=[aZ 23 2 19 21,aI 24 2 23,o 10 (.alloc [.int .i64 0,.int .i64 0]),aM 2 10 24]
abbrev yAP:ah:=.seq (.ae yAO) (.ae yAN)
abbrev yAQ:zR:=[cL 22 21 20]
abbrev HZ:ah:=.seq (.ae yAQ) (.seq (.cond (.t 22) .skip (.exit 2)) (.seq (.block 3 [] yAP) (.ae yAM)))
abbrev yAS:zR:=[ab 19 1,aN 20 19,aO 21 0]
abbrev yAT:zR:=[ab 17 7,o 18 (.wI FD (.t 17)),ab 8 18]
abbrev yAV:ah:=.seq (.ae R8) (.seq (.ae yAT) (.seq (.seq (.ae yAS) (.block 2 Ro (.loop QE HZ))) (.ae Q0)))
abbrev B1:ah:=.seq (.ae uU) (.seq (.cond (.t 14) .skip (.exit 0)) (.seq (.block 1 [] yAV) (.ae QJ)))
abbrev yAZ:zR:=[o 5 (.bE 1 aE)]
abbrev VT:aA:=⟨.seq (.ae Iu) (.seq (.ae yAZ) (.seq (.seq (.ae Cu) (.block 0 IH (.loop IP B1))) (.seq (.ae Hc) .ret))),37,[.tmp 4]⟩
abbrev RY:zI:=[.code (.ae Q0),.inBlock 1 [],.code (.ae QJ),.inLoop IP B1,.inBlock 0 IH,.code (.seq (.ae Hc) .ret)]
abbrev yBc(x1 x5 x8 x11 x12 x13 x19 x20 x21:AV)(h:List Ob)(e:Cx:=cx):aq:=bm pT (.code HZ::.inLoop QE HZ::.inBlock 2 Ro::RY) (U::x1::U::U::U::x5::U::U::x8::U::U::x11::x12::x13::U::U::U::U::U::x19::x20::x21::(by(iterate 15 refine U::?_);exact[])) h e
abbrev yBd(x1 x5 x8 x11 x12 x13:AV)(h:List Ob)(e:Cx:=cx):aq:=bm pT RY (U::x1::U::U::U::x5::U::U::x8::U::U::x11::x12::x13::(by(iterate 23 refine U::?_);exact[])) h e
abbrev yBe:zI:=[.code (.seq (.ae Hc) .ret)]
abbrev yBf(x1 x5 x11 x12 x13:AV)(h:List Ob)(e:Cx:=cx):aq:=bm pT (.code B1::.inLoop IP B1::.inBlock 0 IH::yBe) (U::x1::U::U::U::x5::U::U::U::U::U::x11::x12::x13::(by(iterate 23 refine U::?_);exact[])) h e
@[simp] theorem U7:az Tryz.prog pT=some VT:=by kernel_rfl
@[simp] theorem awN:ar Tryz.prog pT=true:=by kernel_rfl
abbrev I2:zR:=[aI 36 2 4,ab 37 5,aM 2 2 36,ab 3 37]
abbrev xy:zB:=I::O::I::O::I::I::O::O::O::O::O::O::O::O::O::I::I::(by(iterate 21 refine O::?_);exact[])
abbrev G3:zB:=O::O::I::O::I::I::(by(iterate 32 refine O::?_);exact[])
abbrev Rg:zR:=[bz 35 16 1,ab 16 35]
abbrev QA:zB:=I::O::I::O::I::I::I::O::O::O::O::O::O::O::O::I::I::O::O::I::(by(iterate 18 refine O::?_);exact[])
abbrev yBm:zR:=[aI 33 2 9,ab 34 10,aM 2 4 33,ab 5 34]
abbrev yBn:zR:=[ab 30 10,ab 31 5,o 32 (.cmp .gtr (.sc .int) (.t 30) (.t 31))]
abbrev yBo:zR:=[ab 27 0,aI 28 2 9,cB 29 tc 27 28,ab 10 29]
abbrev yBp:zR:=[ab 23 6,ab 24 8,o 25 (.conv .i64 (.t 24)),o 26 (.build [.int .i64 0,.int .i64 0] [(0,1,.t 23),(1,1,.t 25)]),o 9 (.alloc [.int .i64 0,.int .i64 0]),aM 2 9 26]
abbrev yBq:zR:=[bj 22 20 2,ab 8 22]
abbrev yBr:ah:=.seq (.ae yBq) (.seq (.ae yBp) (.seq (.ae yBo) (.seq (.ae yBn) (.cond (.t 32) (.ae yBm) .skip))))
abbrev yBs:zR:=[o 20 (.next (.t 19)),bj 21 20 0]
abbrev IE:ah:=.seq (.ae yBs) (.seq (.cond (.t 21) .skip (.exit 2)) (.block 3 [] yBr))
abbrev yBu:zR:=[o 19 (.range (.c (.str [49,48])))]
abbrev yBv:zR:=[ab 18 16,ab 6 18]
abbrev yBw:ah:=.seq (.ae yBv) (.seq (.ae yBu) (.block 2 xy (.loop QA IE)))
abbrev CS:ah:=.seq (.ae B7) (.seq (.cond (.t 17) .skip (.exit 0)) (.seq (.block 1 [] yBw) (.ae Rg)))
abbrev yBz:zR:=[ab 12 0,o 13 (.g_ 1 (.t 12) (.c (.int .i64 0))),ai 14 1 13,o 15 (.lS (.t 14)),aO 16 0]
abbrev yBA:zR:=[o 11 (.build [.int .i64 0,.int .i64 0] []),o 4 (.alloc [.int .i64 0,.int .i64 0]),aM 2 4 11,aO 5 0]
abbrev yBB:zR:=[o 2 (.alloc [.int .i64 0,.int .i64 0]),aO 3 0]
abbrev W7:aA:=⟨.seq (.ae yBB) (.seq (.ae yBA) (.seq (.seq (.ae yBz) (.block 0 G3 (.loop xy CS))) (.seq (.ae I2) .ret))),38,[.cell 2 true 2,.tmp 3]⟩
abbrev yBC:zI:=[.inBlock 1 [],.code (.ae Rg),.inLoop xy CS,.inBlock 0 G3,.code (.seq (.ae I2) .ret)]
abbrev yBD(x0 x2 x4 x5 x6 x15 x16 x19:AV)(h:List Ob)(e:Cx:=cx):aq:=bm tj (.code IE::.inLoop QA IE::.inBlock 2 xy::yBC) (x0::U::x2::U::x4::x5::x6::U::U::U::U::U::U::U::U::x15::x16::U::U::x19::(by(iterate 18 refine U::?_);exact[])) h e
abbrev yBE:zI:=[.code (.seq (.ae I2) .ret)]
abbrev yBF(x0 x2 x4 x5 x15 x16:AV)(h:List Ob)(e:Cx:=cx):aq:=bm tj (.code CS::.inLoop xy CS::.inBlock 0 G3::yBE) (x0::U::x2::U::x4::x5::U::U::U::U::U::U::U::U::U::x15::x16::(by(iterate 21 refine U::?_);exact[])) h e
@[simp] theorem Wa:az Tryz.prog tj=some W7:=by kernel_rfl
@[simp] theorem axt:ar Tryz.prog tj=true:=by kernel_rfl
abbrev yBG:zR:=[ab 3 0,o 4 (.call (.f yC) [.c (.list true 0 []),.t 3]),ab 2 4]
abbrev yBH:zR:=[o 2 (.bE 2 k9)]
abbrev Te:aA:=⟨.seq (.ae yBH) (.seq (.ae yBG) .ret),5,[.tmp 2]⟩
@[simp] theorem S7:az Tryz.prog y3=some Te:=by kernel_rfl
@[simp] theorem avq:ar Tryz.prog y3=true:=by kernel_rfl
abbrev yBI:zR:=[o 3 (.fH (.func ov) [] [.t 1]),ab 2 3]
abbrev yBJ:zR:=[o 1 (.box 2 (.t 0)),o 2 (.mv (.c .df))]
abbrev Zr:aA:=⟨.seq (.ae yBJ) (.seq (.ae yBI) .ret),4,[.tmp 2]⟩
@[simp] theorem Wj:az Tryz.prog vR=some Zr:=by kernel_rfl
@[simp] theorem axP:ar Tryz.prog vR=true:=by kernel_rfl
abbrev yBK:zR:=[ai 4 1 1,ab 5 0,o 6 (.call (.t 4) [.t 5]),o 7 (.not (.t 6)),ab 3 7]
abbrev UY:aA:=⟨.seq (.ae xE) (.seq (.ae yBK) .ret),8,[.tmp 3]⟩
@[simp] theorem Ux:az Tryz.prog vF=some UY:=by kernel_rfl
@[simp] theorem aww:ar Tryz.prog vF=true:=by kernel_rfl
abbrev Rz:zR:=[ab 39 0,ab 40 5,o 41 (.slice 1 (.t 39) none (some (.t 40))),ab 4 41]
abbrev QQ:zR:=[ab 36 0,ab 37 5,o 38 (.slice 1 (.t 36) (some (.t 37)) none),q (.clear 1 (.str []) (.t 38))]
abbrev Qa:zB:=I::I::O::O::O::I::I::(by(iterate 35 refine O::?_);exact[])
abbrev PS:zB:=I::O::O::O::O::I::(by(iterate 36 refine O::?_);exact[])
abbrev yBQ:zR:=[ab 20 6,bz 21 20 1,ab 6 21]
abbrev yBR:zR:=[ab 34 5,bz 35 34 1,ab 5 35]
abbrev yBS:zR:=[ab 30 0,ab 31 5,ab 32 7,aZ 33 1 30 31,aM 1 33 32]
abbrev yBT:ah:=.seq (.ae yBS) (.ae yBR)
abbrev yBU:zR:=[ab 26 1,ab 27 7,o 28 (.call (.t 26) [.t 27]),o 29 (.not (.t 28))]
abbrev yBV:zR:=[ab 22 0,ab 23 6,aZ 24 1 22 23,ai 25 1 24,ab 7 25]
abbrev yBW:ah:=.seq (.ae yBV) (.seq (.ae yBU) (.cond (.t 29) yBT .skip))
abbrev yBX:zR:=[ab 16 6,ab 17 0,aN 18 17,cL 19 16 18]
abbrev IT:ah:=.seq (.seq (.ae yBX) (.cond (.t 19) .skip (.exit 0))) (.seq (.block 1 [] yBW) (.ae yBQ))
abbrev yBZ:zR:=[ab 14 5,bz 15 14 1,ab 6 15]
abbrev yCa:zR:=[ab 13 0,ab 4 13]
abbrev yCb:ah:=.seq (.ae yCa) .ret
abbrev yCc:zR:=[ab 11 5,o 12 (.cmp .eql (.sc .int) (.t 11) (.c (.int .i64 (-1))))]
abbrev yCd:zR:=[ab 8 0,ab 9 1,cB 10 ra 8 9,ab 5 10]
abbrev S4:aA:=⟨.seq (.ae Iu) (.seq (.ae yCd) (.seq (.seq (.ae yCc) (.cond (.t 12) yCb .skip)) (.seq (.seq (.ae yBZ) (.block 0 PS (.loop Qa IT))) (.seq (.ae QQ) (.seq (.ae Rz) .ret))))),42,[.tmp 4]⟩
abbrev yCf:zI:=[.code (.seq (.ae QQ) (.seq (.ae Rz) .ret))]
abbrev yCg(x0 x1 x5 x6:AV)(h:List Ob)(e:Cx:=cx):aq:=bm pQ (.code IT::.inLoop Qa IT::.inBlock 0 PS::yCf) (x0::x1::U::U::U::x5::x6::(by(iterate 35 refine U::?_);exact[])) h e
@[simp] theorem Jm:az Tryz.prog pQ=some S4:=by kernel_rfl
@[simp] theorem avm:ar Tryz.prog pQ=true:=by kernel_rfl
abbrev yCl:zR:=[ab 31 6,ab 32 8,o 33 (.append 3 aS 24 (.t 31) (.t 32)),ab 6 33]
abbrev yCn:ah:=.seq (.ae Cy) (.ae yCl)
abbrev CQ:ah:=.seq (.ae uV) (.seq (.cond (.t 28) .skip (.exit 2)) (.seq (.block 3 [] yCn) (.ae Ch)))
abbrev QO:zR:=[ab 23 3,o 24 (.call (.f C_) [.c (.list true 0 []),.t 23]),ab 6 24]
abbrev yCE:zR:=[o 2 (.bE 3 aS)]
abbrev SW:aA:=⟨.seq (.ae yCE) (.seq (.ae sx) (.seq (.seq (.ae CD) (.block 0 sC (.loop sF n4))) (.seq (.ae QO) (.seq (.seq (.ae sD) (.block 2 n8 (.loop oa CQ))) (.seq (.ae qJ) .ret))))),36,[.tmp 2]⟩
abbrev yCG(x6 x25 x26 x27:AV)(h:List Ob)(e:Cx:=cx):aq:=bm sP (.code CQ::.inLoop oa CQ::.inBlock 2 n8::He) (U::U::U::U::U::U::x6::(by(iterate 18 refine U::?_);exact[x25,x26,x27,U,U,U,U,U,U,U,U])) h e
abbrev yCH:zI:=[.code (.seq (.ae QO) (.seq (.seq (.ae sD) (.block 2 n8 (.loop oa CQ))) (.seq (.ae qJ) .ret)))]
abbrev yCI(x0 x3 x9 x10 x11:AV)(h:List Ob)(e:Cx:=cx):aq:=bm sP (.code n4::.inLoop sF n4::.inBlock 0 sC::yCH) (x0::U::U::x3::U::U::U::U::U::x9::x10::x11::(by(iterate 24 refine U::?_);exact[])) h e
@[simp] theorem SO:az Tryz.prog sP=some SW:=by kernel_rfl
@[simp] theorem avi:ar Tryz.prog sP=true:=by kernel_rfl
abbrev Qp:zR:=[ab 31 8,ab 6 31]
abbrev RL:zB:=[I,O,O,O,O,O,O,I,I,O,O,O,O,O,O,O,O,O,I,I,I,O,O,O,O,O,O,O,O,O,O,O]
abbrev Sn:zB:=O::O::O::O::O::O::O::O::I::(by(iterate 23 refine O::?_);exact[])
abbrev yCM:zR:=[bz 30 20 1,ab 20 30]
abbrev yCN:zR:=[ab 24 0,ab 25 8,ab 26 7,ab 27 10,o 28 (.call (.t 26) [.t 27]),o 29 (.call (.f ri) [.t 24,.t 25,.t 28]),ab 8 29]
abbrev yCO:zR:=[aZ 22 1 18 20,ai 23 1 22,ab 10 23]
abbrev yCP:ah:=.seq (.ae yCO) (.ae yCN)
abbrev yCQ:zR:=[cL 21 20 19]
abbrev Il:ah:=.seq (.ae yCQ) (.seq (.cond (.t 21) .skip (.exit 0)) (.seq (.block 1 [] yCP) (.ae yCM)))
abbrev yCS:zR:=[ab 17 1,o 18 (.slice 1 (.t 17) (some (.c (.int .i64 1))) none),aN 19 18,aO 20 0]
abbrev yCT:zR:=[ab 12 7,ab 13 1,o 14 (.g_ 1 (.t 13) (.c (.int .i64 0))),ai 15 1 14,o 16 (.call (.t 12) [.t 15]),ab 8 16]
abbrev yCU:zR:=[o 11 (.fH (.func vw) [] [.t 5]),ab 7 11]
abbrev yCV:zR:=[o 5 (.box 1 (.t 2)),aO 6 0]
abbrev Uc:aA:=⟨.seq (.ae yCV) (.seq (.ae yCU) (.seq (.ae yCT) (.seq (.seq (.ae yCS) (.block 0 Sn (.loop RL Il))) (.seq (.ae Qp) .ret)))),32,[.tmp 6]⟩
abbrev yCW:zI:=[.code (.seq (.ae Qp) .ret)]
abbrev yCX(x0 x7 x8 x18 x19 x20:AV)(h:List Ob)(e:Cx:=cx):aq:=bm sV (.code Il::.inLoop RL Il::.inBlock 0 Sn::yCW) [x0,U,U,U,U,U,U,x7,x8,U,U,U,U,U,U,U,U,U,x18,x19,x20,U,U,U,U,U,U,U,U,U,U,U] h e
@[simp] theorem TU:az Tryz.prog sV=some Uc:=by kernel_rfl
@[simp] theorem avY:ar Tryz.prog sV=true:=by kernel_rfl
abbrev yCY:zR:=[o 5 (.lit 2 [] []),ab 6 0,o 7 (.append 2 cM 16 (.t 5) (.t 6)),ab 2 7]
abbrev Qc:zR:=[o 2 (.bE 2 cM)]
abbrev yDa:ah:=.seq (.ae Qc) .ret
abbrev TB:aA:=⟨.seq (.ae Qc) (.seq (.seq (.ae CN) (.cond (.t 4) yDa .skip)) (.seq (.ae yCY) .ret)),8,[.tmp 2]⟩
@[simp] theorem Ts:az Tryz.prog y5=some TB:=by kernel_rfl
@[simp] theorem avC:ar Tryz.prog y5=true:=by kernel_rfl
abbrev yDd:zR:=[ab 3 0,o 4 (.cmp .leq (.sc .int) (.t 3) (.c (.int .i32 32))),ab 5 4,on 6 5 (.mv (.t 0)),on 7 5 (.cmp .gtr (.sc .int) (.t 6) (.c (.int .i32 126))),o 8 (.pick (.t 5) (.c (.bool true)) (.t 7)),ab 2 8]
abbrev Ua:aA:=⟨.seq (.ae yi) (.seq (.ae yDd) .ret),9,[.tmp 2]⟩
@[simp] theorem TR:az Tryz.prog rh=some Ua:=by kernel_rfl
@[simp] theorem av1:ar Tryz.prog rh=true:=by kernel_rfl
abbrev yDf:zR:=[ab 5 0,ab 6 1,o 7 (.call (.f vC) [.t 5,.t 6,.c (.bool true)]),ab 4 7]
abbrev Ul:aA:=⟨.seq (.ae mw) (.seq (.ae yDf) .ret),8,[.tmp 4]⟩
@[simp] theorem T7:az Tryz.prog y_=some Ul:=by kernel_rfl
@[simp] theorem av3:ar Tryz.prog y_=true:=by kernel_rfl
abbrev yDi:zR:=[ab 17 0,ab 18 0,o 19 (.cap (.t 18)),o 20 (.slice 1 (.t 17) none (some (.t 19))),ab 21 1,o 22 (.p8 1 an 8 (.int .i64 0) (.t 20) (.t 21)),ab 23 0,aN 24 23,o 25 (.slice 1 (.t 22) none (some (.t 24))),ab 0 25]
abbrev T1:aA:=⟨.seq (.ae Ig) (.seq (.seq (.ae B9) (.cond (.t 6) (.ae CI) .skip)) (.seq (.seq (.ae Cf) (.seq (.ae B3) (.cond (.t 16) (.ae yDi) .skip))) (.seq (.ae B8) .ret))),27,[.tmp 4]⟩
@[simp] theorem Jv:az Tryz.prog Di=some T1:=by kernel_rfl
@[simp] theorem avP:ar Tryz.prog Di=true:=by kernel_rfl
abbrev RB:zB:=I::I::O::I::(by(iterate 15 refine O::?_);exact[])
abbrev yDq:zR:=[ab 9 3,o 10 (.bB .sub (.t 9) (.c (.int .i64 1))),ab 3 10]
abbrev yDr:zR:=[ab 11 0,ab 12 3,ai 13 1 1,ab 14 3,aZ 15 2 13 14,aI 16 2 15,o 17 (.call (.t 11) [.t 12,.t 16]),o 18 (.not (.t 17))]
abbrev yDs:ah:=.seq (.ae yDr) (.cond (.t 18) .ret .skip)
abbrev yDt:zR:=[ab 7 3,o 8 (.cmp .geq (.sc .int) (.t 7) (.c (.int .i64 0)))]
abbrev Iy:ah:=.seq (.seq (.ae yDt) (.cond (.t 8) .skip (.exit 0))) (.seq (.block 1 [] yDs) (.ae yDq))
abbrev yDv:zR:=[ai 4 1 1,aN 5 4,o 6 (.bB .sub (.t 5) (.c (.int .i64 1))),ab 3 6]
abbrev Tc:aA:=⟨.seq (.ae yDv) (.block 0 kP (.loop RB Iy)),19,[]⟩
abbrev yDx(x0 x1 x3:AV)(h:List Ob)(e:Cx:=cx):aq:=bm vr (.code Iy::.inLoop RB Iy::.inBlock 0 kP::CP) (x0::x1::U::x3::(by(iterate 15 refine U::?_);exact[])) h e
@[simp] theorem S5:az Tryz.prog vr=some Tc:=by kernel_rfl
@[simp] theorem avo:ar Tryz.prog vr=true:=by kernel_rfl
abbrev yDy:zR:=[aI 35 2 3,aM 2 2 35]
abbrev yDz:zR:=[al 34 0 3,q (.store 1 (.t 34) (.f DG))]
abbrev yDA:zR:=[al 33 0 3,q (.store 1 (.t 33) (.f DD))]
abbrev yDB:zR:=[al 32 0 3,q (.store 1 (.t 32) (.f DQ))]
abbrev yDC:zR:=[al 31 0 3,q (.store 1 (.t 31) (.f DM))]
abbrev yDD:zR:=[o 30 (.cmp .eql (.sc .int) (.t 13) (.c (.int .i64 9))),ab 28 30]
abbrev yDE:zR:=[o 29 (.cmp .eql (.sc .int) (.t 13) (.c (.int .i64 8))),ab 28 29]
abbrev yDF:zR:=[o 27 (.cmp .eql (.sc .int) (.t 13) (.c (.int .i64 7))),ab 25 27]
abbrev yDG:zR:=[o 26 (.cmp .eql (.sc .int) (.t 13) (.c (.int .i64 6))),ab 25 26]
abbrev yDH:zR:=[o 24 (.cmp .eql (.sc .int) (.t 13) (.c (.int .i64 5))),ab 22 24]
abbrev yDI:zR:=[o 23 (.cmp .eql (.sc .int) (.t 13) (.c (.int .i64 4))),ab 22 23]
abbrev yDJ:zR:=[o 21 (.cmp .eql (.sc .int) (.t 13) (.c (.int .i64 3))),ab 20 21]
abbrev yDK:zR:=[o 19 (.cmp .eql (.sc .int) (.t 13) (.c (.int .i64 2))),ab 18 19]
abbrev yDL:zR:=[o 17 (.cmp .eql (.sc .int) (.t 13) (.c (.int .i64 1))),ab 16 17]
abbrev yDM:zR:=[o 15 (.cmp .eql (.sc .int) (.t 13) (.c (.int .i64 0))),ab 14 15]
abbrev yDN:ah:=.seq (.seq (.seq (.ae yDM) (.cond (.t 14) (.exit 2) .skip)) (.seq (.seq (.ae yDL) (.cond (.t 16) (.exit 3) .skip)) (.seq (.seq (.ae yDK) (.cond (.t 18) (.exit 4) .skip)) (.seq (.seq (.ae yDJ) (.cond (.t 20) (.exit 5) .skip)) (.seq (.seq (.seq (.ae yDI) (.cond (.t 22) .skip (.ae yDH))) (.cond (.t 22) (.exit 6) .skip)) (.seq (.seq (.seq (.ae yDG) (.cond (.t 25) .skip (.ae yDF))) (.cond (.t 25) (.exit 7) .skip)) (.seq (.seq (.ae yDE) (.cond (.t 28) .skip (.ae yDD))) (.cond (.t 28) (.exit 8) .skip)))))))) (.exit 1)
abbrev yDO:ah:=.block 2 [] yDN
abbrev yDP:ah:=.seq (.block 3 [] yDO) (.seq (.ae yDC) (.exit 1))
abbrev yDQ:ah:=.block 4 [] yDP
abbrev yDR:ah:=.block 5 [] yDQ
abbrev yDS:ah:=.seq (.block 6 [] yDR) (.seq (.ae yDB) (.exit 1))
abbrev yDT:ah:=.seq (.block 7 [] yDS) (.seq (.ae yDA) (.exit 1))
abbrev yDU:ah:=.seq (.block 8 [] yDT) (.seq (.ae yDz) (.exit 1))
abbrev yDV:zR:=[ab 13 0]
abbrev yDW:zR:=[al 12 1 3,q (.store 1 (.t 12) (.c (.bool true)))]
abbrev yDX:zR:=[o 11 (.cmp .eql (.sc .int) (.t 5) (.c (.int .i64 9))),ab 6 11]
abbrev yDY:zR:=[o 10 (.cmp .eql (.sc .int) (.t 5) (.c (.int .i64 7))),ab 6 10]
abbrev yDZ:ah:=.seq (.ae yDY) (.cond (.t 6) .skip (.ae yDX))
abbrev yEa:zR:=[o 9 (.cmp .eql (.sc .int) (.t 5) (.c (.int .i64 5))),ab 6 9]
abbrev yEb:ah:=.seq (.ae yEa) (.cond (.t 6) .skip yDZ)
abbrev yEc:zR:=[o 8 (.cmp .eql (.sc .int) (.t 5) (.c (.int .i64 3))),ab 6 8]
abbrev yEd:ah:=.seq (.ae yEc) (.cond (.t 6) .skip yEb)
abbrev yEe:zR:=[o 7 (.cmp .eql (.sc .int) (.t 5) (.c (.int .i64 1))),ab 6 7]
abbrev yEf:ah:=.seq (.seq (.ae yEe) (.cond (.t 6) .skip yEd)) (.cond (.t 6) (.ae yDW) .skip)
abbrev yEg:zR:=[ab 5 0]
abbrev yEh:zR:=[o 4 (.build [.df,.bool false] []),o 3 (.alloc [.df,.bool false]),aM 2 3 4]
abbrev yEi:zR:=[o 2 (.alloc [.df,.bool false])]
abbrev aby:aA:=⟨.seq (.ae yEi) (.seq (.ae yEh) (.seq (.seq (.ae yEg) (.block 0 [] yEf)) (.seq (.seq (.ae yDV) (.block 1 [] yDU)) (.seq (.ae yDy) .ret)))),36,[.cell 2 true 2]⟩
@[simp] theorem ayP:az Tryz.prog Ep=some aby:=by kernel_rfl
@[simp] theorem ayV:ar Tryz.prog Ep=true:=by kernel_rfl
abbrev yEj:zR:=[al 4 3 1,ai 5 1 4,o 6 (.fH (.func Ds) [] [.t 2]),cB 7 pP 5 6,ab 3 7]
abbrev yEk:zR:=[o 2 (.box 1 (.t 0)),kT 3]
abbrev WE:aA:=⟨.seq (.ae yEk) (.seq (.ae yEj) .ret),8,[.tmp 3]⟩
@[simp] theorem aw3:az Tryz.prog Dx=some WE:=by kernel_rfl
@[simp] theorem aw5:ar Tryz.prog Dx=true:=by kernel_rfl
abbrev yEl:zR:=[ab 4 0,ai 5 1 1,cB 6 DV 4 5,ab 3 6]
abbrev Ve:aA:=⟨.seq (.ae xE) (.seq (.ae yEl) .ret),7,[.tmp 3]⟩
@[simp] theorem awH:az Tryz.prog Ds=some Ve:=by kernel_rfl
@[simp] theorem awE:ar Tryz.prog Ds=true:=by kernel_rfl
abbrev yEo:zB:=I::O::O::O::O::O::O::I::I::I::(by(iterate 17 refine O::?_);exact[])
abbrev yEp:zB:=(by(iterate 27 refine O::?_);exact[])
abbrev yEq:zR:=[bz 26 9 1,ab 9 26]
abbrev yEt:zR:=[ab 14 0,ab 15 5,o 16 (.sa (.t 14) (.t 15)),o 17 (.cmp .neq (.sc .int) (.t 16) (.c (.int .u8 45))),ab 18 17,cn 19 18 0,cn 20 18 5,oy 21 18 (.sa (.t 19) (.t 20)),oy 22 18 (.cmp .eql (.sc .int) (.t 21) (.c (.int .u8 49))),cn 23 18 6,oy 24 18 (.cmp .neq (.sc .bool) (.t 22) (.t 23)),bH 25 18 24]
abbrev yEu:zR:=[ab 11 9,aZ 12 1 7 9,ai 13 1 12,ab 5 11,ab 6 13]
abbrev yEv:ah:=.seq (.ae yEu) (.seq (.ae yEt) (.cond (.t 25) lH .skip))
abbrev yEx:ah:=.seq (.ae xu) (.seq (.cond (.t 10) .skip (.exit 0)) (.seq (.block 1 [] yEv) (.ae yEq)))
abbrev yEy:zR:=[ab 7 1,aN 8 7,aO 9 0]
abbrev YY:aA:=⟨.seq (.ae jF) (.seq (.seq (.ae yEy) (.block 0 yEp (.loop yEo yEx))) (.seq (.ae sE) .ret)),27,[.tmp 4]⟩
@[simp] theorem ax5:az Tryz.prog DV=some YY:=by kernel_rfl
@[simp] theorem axy:ar Tryz.prog DV=true:=by kernel_rfl
abbrev PW:zB:=I::I::O::O::O::I::I::(by(iterate 18 refine O::?_);exact[])
abbrev Ss:zB:=(by(iterate 25 refine O::?_);exact[])
abbrev yEC:zR:=[bz 24 6 1,ab 6 24]
abbrev yED:zR:=[ai 9 1 1,ab 10 3,o 11 (.sa (.t 9) (.t 10)),o 12 (.cmp .neq (.sc .int) (.t 11) (.c (.int .u8 45))),ab 13 12,cn 14 13 0,cn 15 13 3,cG 16 13 1 1,cn 17 13 3,oy 18 13 (.sa (.t 16) (.t 17)),oy 19 13 (.conv .i64 (.t 18)),oy 20 13 (.build [.int .i64 0,.int .i64 0] [(0,1,.t 15),(1,1,.t 19)]),oy 21 13 (.call (.t 14) [.t 20]),oy 22 13 (.not (.t 21)),bH 23 13 22]
abbrev yEE:zR:=[ab 8 6,ab 3 8]
abbrev yEF:ah:=.seq (.ae yEE) (.seq (.ae yED) (.cond (.t 23) .ret .skip))
abbrev yEG:zR:=[cL 7 6 5]
abbrev Hb:ah:=.seq (.ae yEG) (.seq (.cond (.t 7) .skip (.exit 0)) (.seq (.block 1 [] yEF) (.ae yEC)))
abbrev yEI:zR:=[ai 4 1 1,o 5 (.lS (.t 4)),aO 6 0]
abbrev UG:aA:=⟨.seq (.ae yEI) (.block 0 Ss (.loop PW Hb)),25,[]⟩
abbrev H5(x0 x1 x5 x6:AV)(h:List Ob)(e:Cx:=cx):aq:=bm rj (.code Hb::.inLoop PW Hb::.inBlock 0 Ss::CP) (x0::x1::U::U::U::x5::x6::(by(iterate 18 refine U::?_);exact[])) h e
@[simp] theorem Dm:az Tryz.prog rj=some UG:=by kernel_rfl
@[simp] theorem awf:ar Tryz.prog rj=true:=by kernel_rfl
abbrev yEL:zR:=[aI 15 3 3,aM 3 2 15]
abbrev yEM:zR:=[al 11 1 3,ai 12 1 11,bz 13 12 1,al 14 1 3,aM 1 14 13]
abbrev yEN:zR:=[o 8 (.eB 2 1 (.t 1) (.c (.int .i64 1))),ai 9 1 8,o 10 (.cmp .eql (.sc .int) (.t 9) (.c (.int .i64 48)))]
abbrev yEO:zR:=[o 4 (.eB 2 1 (.t 1) (.c (.int .i64 0))),ai 5 1 4,o 6 (.bB .mul (.c (.int .i64 2)) (.t 5)),o 7 (.build [.int .i64 0,.int .i64 0,.int .i64 0] [(0,1,.c (.int .i64 2)),(1,1,.t 6)]),o 3 (.alloc [.int .i64 0,.int .i64 0,.int .i64 0]),aM 3 3 7]
abbrev yEP:zR:=[o 1 (.box 2 (.t 0)),o 2 (.alloc [.int .i64 0,.int .i64 0,.int .i64 0])]
abbrev Ud:aA:=⟨.seq (.ae yEP) (.seq (.ae yEO) (.seq (.seq (.ae yEN) (.cond (.t 10) (.ae yEM) .skip)) (.seq (.ae yEL) .ret))),16,[.cell 2 true 3]⟩
@[simp] theorem TO:az Tryz.prog y8=some Ud:=by kernel_rfl
@[simp] theorem av0:ar Tryz.prog y8=true:=by kernel_rfl
abbrev yEQ:zR:=[ai 12 1 2,ab 4 12]
abbrev Se:zR:=[o 5 (.alloc [.int .i64 0,.int .i64 0]),aM 2 5 7]
abbrev yES:zR:=[ai 8 1 2,aI 9 2 5,o 10 (.lit 2 [.agg [.int .i64 0,.int .i64 0]] [(0,.t 9)]),o 11 (.append 2 k9 16 (.t 8) (.t 10)),aM 1 2 11]
abbrev Qg:ah:=.block 1 [] (.ae yES)
abbrev yEU:ah:=.rangeFunc (.t 6) [7] [O,O,I,O,I,O,O,O,O,O,O,O,O] (.ae Se) Qg
abbrev yEV:zR:=[ab 6 1]
abbrev yEW:zR:=[o 2 (.box 1 (.t 0)),o 4 (.bE 2 k9)]
abbrev SM:aA:=⟨.seq (.ae yEW) (.seq (.seq (.ae yEV) (.block 0 [] yEU)) (.seq (.ae yEQ) .ret)),13,[.tmp 4]⟩
@[simp] theorem SL:az Tryz.prog yC=some SM:=by kernel_rfl
@[simp] theorem avg:ar Tryz.prog yC=true:=by kernel_rfl
abbrev RM:zR:=[q (.store 1 (.t 3) (.c (.bool false)))]
abbrev R4:zR:=[o 4 (.alloc [.int .i64 0,.int .i64 0]),aM 2 4 7]
abbrev yEZ:zR:=[q (.store 1 (.t 3) (.c (.bool true)))]
abbrev yFa:ah:=.seq (.ae yEZ) .ret
abbrev yFb:zR:=[aI 8 2 4,aI 9 2 1,o 10 (.cmp .eql (.iE [.int,.int]) (.t 8) (.t 9))]
abbrev yFc:ah:=.seq (.ae yFb) (.cond (.t 10) yFa .skip)
abbrev R6:ah:=.block 1 [] yFc
abbrev yFe:ah:=.rangeFunc (.t 6) [7] [O,I,O,I,O,O,O,O,O,O,O] (.ae R4) R6
abbrev yFf:zR:=[ab 5 0,aT 6 s6 5]
abbrev yFg:zR:=[o 3 (.alloc [.bool false])]
abbrev Wg:aA:=⟨.seq (.ae yFg) (.seq (.seq (.ae yFf) (.block 0 [] yFe)) (.seq (.ae RM) .ret)),11,[.cell 3 false 1]⟩
@[simp] theorem Vf:az Tryz.prog ov=some Wg:=by kernel_rfl
@[simp] theorem aw9:ar Tryz.prog ov=true:=by kernel_rfl
abbrev yFi:zR:=[ab 17 0,ab 18 0,o 19 (.cap (.t 18)),o 20 (.slice 3 (.t 17) none (some (.t 19))),ab 21 1,o 22 (.p8 3 aS 24 (.agg [.int .i64 0,.int .i64 0,.int .i64 0]) (.t 20) (.t 21)),ab 23 0,aN 24 23,o 25 (.slice 3 (.t 22) none (some (.t 24))),ab 0 25]
abbrev SY:aA:=⟨.seq (.ae Q3) (.seq (.seq (.ae B9) (.cond (.t 6) (.ae CI) .skip)) (.seq (.seq (.ae Cf) (.seq (.ae B3) (.cond (.t 16) (.ae yFi) .skip))) (.seq (.ae B8) .ret))),27,[.tmp 4]⟩
@[simp] theorem SV:az Tryz.prog C_=some SY:=by kernel_rfl
@[simp] theorem avl:ar Tryz.prog C_=true:=by kernel_rfl
abbrev yFo:zR:=[ab 4 0,ai 5 1 1,o 6 (.bB .xor (.t 4) (.t 5)),ab 3 6]
abbrev TN:aA:=⟨.seq (.ae sx) (.seq (.ae yFo) .ret),7,[.tmp 3]⟩
@[simp] theorem TG:az Tryz.prog vw=some TN:=by kernel_rfl
@[simp] theorem avL:ar Tryz.prog vw=true:=by kernel_rfl
abbrev yFq:zR:=[ab 29 8,ab 6 29]
abbrev yFr:zR:=[ab 25 0,aI 26 5 7,o 27 (.cr (.t 25)),al 28 0 27,aM 5 28 26]
abbrev yFs:zR:=[o 23 (.build [] []),o 24 (.lg DC (.t 23)),q (.panic (.t 24))]
abbrev yFt:zR:=[ab 21 9,o 22 (.cmp .neq (.sc .int) (.t 21) (.c (.int .i64 0)))]
abbrev yFu:zR:=[ab 11 0,o 12 (.cr (.t 11)),al 13 0 12,aI 14 5 13,ab 15 1,ab 16 2,o 17 (.call (.f Ai) [.t 14,.t 15,.t 16]),ab 10 17,bj 18 10 0,bj 19 10 1,bj 20 10 2,o 7 (.alloc [.int .i64 0,.own 1 an [],.own 1 an [],.own 2 cM [],.own 1 an []]),aM 5 7 18,ab 8 19,ab 9 20]
abbrev Up:aA:=⟨.seq (.ae B4) (.seq (.ae yFu) (.seq (.seq (.ae yFt) (.cond (.t 22) (.ae yFs) .skip)) (.seq (.ae yFr) (.seq (.ae yFq) .ret)))),30,[.tmp 6]⟩
@[simp] theorem T4:az Tryz.prog ri=some Up:=by kernel_rfl
@[simp] theorem av7:ar Tryz.prog ri=true:=by kernel_rfl
abbrev QT:zR:=[o 6 (.mv (.c (.int .i64 (-1))))]
abbrev Sb:zB:=[O,I,I,O,O,O,O,O,O,O,I,O,O,O,O,O,O,O,O,O,O]
abbrev Qq:zB:=(by(iterate 21 refine O::?_);exact[])
abbrev yFz:zR:=[ab 20 7,ab 6 20]
abbrev yFA:ah:=.seq (.ae yFz) .ret
abbrev yFB:zR:=[ab 15 1,ab 16 8,o 17 (.call (.t 15) [.t 16]),ab 18 2,o 19 (.cmp .eql (.sc .bool) (.t 17) (.t 18))]
abbrev yFC:zR:=[bj 13 11 1,bj 14 11 2,ab 7 13,ab 8 14]
abbrev yFD:ah:=.seq (.ae yFC) (.seq (.ae yFB) (.cond (.t 19) yFA .skip))
abbrev yFE:zR:=[o 11 (.next (.t 10)),bj 12 11 0]
abbrev Ix:ah:=.seq (.ae yFE) (.seq (.cond (.t 12) .skip (.exit 0)) (.block 1 [] yFD))
abbrev yFG:zR:=[ab 9 0,o 10 (.range (.t 9))]
abbrev Uj:aA:=⟨.seq (.ae B4) (.seq (.seq (.ae yFG) (.block 0 Qq (.loop Sb Ix))) (.seq (.ae QT) .ret)),21,[.tmp 6]⟩
abbrev yFI:zI:=[.code (.seq (.ae QT) .ret)]
abbrev yFJ(x1 x2 x10:AV)(h:List Ob)(e:Cx:=cx):aq:=bm vC (.code Ix::.inLoop Sb Ix::.inBlock 0 Qq::yFI) [U,x1,x2,U,U,U,U,U,U,U,x10,U,U,U,U,U,U,U,U,U,U] h e
@[simp] theorem T5:az Tryz.prog vC=some Uj:=by kernel_rfl
@[simp] theorem awc:ar Tryz.prog vC=true:=by kernel_rfl
abbrev YU:aA:=⟨.seq (.ae yi) (.seq (.ae yi) .ret),3,[.tmp 2]⟩
@[simp] theorem axQ:az Tryz.prog DM=some YU:=by kernel_rfl
@[simp] theorem axz:ar Tryz.prog DM=true:=by kernel_rfl
abbrev yFM:zR:=[ab 3 0,aT 4 vO 3,ab 5 0,aN 6 5,o 7 (.cmp .eql (.sc .int) (.t 4) (.t 6)),ab 2 7]
abbrev Yw:aA:=⟨.seq (.ae yi) (.seq (.ae yFM) .ret),8,[.tmp 2]⟩
@[simp] theorem axK:az Tryz.prog DQ=some Yw:=by kernel_rfl
@[simp] theorem axG:ar Tryz.prog DQ=true:=by kernel_rfl
abbrev yFO:zR:=[ab 16 3,ab 2 16]
abbrev yFP:zB:=[O,O,O,I,O,O,I,I,I,O,O,O,O,O,O,O,O]
abbrev yFQ:zB:=O::O::O::I::(by(iterate 13 refine O::?_);exact[])
abbrev yFR:zR:=[bz 15 8 1,ab 8 15]
abbrev yFS:zR:=[ab 13 3,bz 14 13 1,ab 3 14]
abbrev yFT:zR:=[ab 12 5]
abbrev yFU:zR:=[aZ 10 1 6 8,ai 11 1 10,ab 5 11]
abbrev yFV:ah:=.seq (.ae yFU) (.seq (.ae yFT) (.cond (.t 12) (.ae yFS) .skip))
abbrev yFX:ah:=.seq (.ae xB) (.seq (.cond (.t 9) .skip (.exit 0)) (.seq (.block 1 [] yFV) (.ae yFR)))
abbrev XW:aA:=⟨.seq (.ae xP) (.seq (.ae sx) (.seq (.seq (.ae uP) (.block 0 yFQ (.loop yFP yFX))) (.seq (.ae yFO) .ret))),17,[.tmp 2]⟩
@[simp] theorem axg:az Tryz.prog vO=some XW:=by kernel_rfl
@[simp] theorem axk:ar Tryz.prog vO=true:=by kernel_rfl
abbrev yGb:zR:=[ab 3 0,aT 4 vO 3,o 5 (.cmp .gtr (.sc .int) (.t 4) (.c (.int .i64 0))),ab 2 5]
abbrev Zl:aA:=⟨.seq (.ae yi) (.seq (.ae yGb) .ret),6,[.tmp 2]⟩
@[simp] theorem axN:az Tryz.prog DD=some Zl:=by kernel_rfl
@[simp] theorem axX:ar Tryz.prog DD=true:=by kernel_rfl
abbrev yGd:zR:=[ab 3 0,aT 4 vO 3,o 5 (.bB .rem (.t 4) (.c (.int .i64 2))),o 6 (.cmp .eql (.sc .int) (.t 5) (.c (.int .i64 1))),ab 2 6]
abbrev Yg:aA:=⟨.seq (.ae yi) (.seq (.ae yGd) .ret),7,[.tmp 2]⟩
@[simp] theorem ax9:az Tryz.prog DG=some Yg:=by kernel_rfl
@[simp] theorem axY:ar Tryz.prog DG=true:=by kernel_rfl
abbrev yGf:zR:=[ab 58 11,o 59 (.cr (.t 58)),al 60 0 59,aI 61 5 60,ab 62 12,aM 5 6 61,ab 7 62,aO 8 0]
abbrev yGg:zR:=[o 57 (.build [.int .i64 0,.list true 0 [],.list true 0 [],.list true 0 [],.list true 0 []] []),aM 5 6 57,aO 7 0,aO 8 8]
abbrev yGh:ah:=.seq (.ae yGg) .ret
abbrev yGi:zR:=[ab 51 11,o 52 (.cr (.t 51)),al 53 0 52,aI 54 5 53,aT 55 nw 54,o 56 (.cmp .eql (.sc .int) (.t 55) (.c (.int .i64 8)))]
abbrev yGj:zR:=[ab 47 11,ab 48 1,ab 49 2,o 50 (.call (.f pS) [.t 47,.t 48,.t 49]),ab 12 50]
abbrev yGk:zR:=[aI 45 5 3,aT 46 rv 45,ab 11 46]
abbrev yGl:zR:=[o 25 (.build [.int .i64 0,.list true 0 [],.list true 0 [],.list true 0 [],.list true 0 []] []),ab 26 9,aM 5 6 25,aO 7 0,ab 8 26]
abbrev yGm:zR:=[o 44 (.build [.int .i64 0,.list true 0 [],.list true 0 [],.list true 0 [],.list true 0 []] []),aM 5 6 44,aO 7 0,aO 8 1]
abbrev yGn:ah:=.seq (.ae yGm) .ret
abbrev yGo:zR:=[ab 28 1,o 29 (.cmp .lss (.sc .int) (.t 28) (.c (.int .i64 0))),ab 30 29,on 31 30 (.mv (.t 2)),on 32 30 (.cmp .lss (.sc .int) (.t 31) (.c (.int .i64 0))),o 33 (.pick (.t 30) (.c (.bool true)) (.t 32)),ab 34 33,on 35 34 (.mv (.t 1)),on 36 34 (.mv (.t 10)),on 37 34 (.cmp .geq (.sc .int) (.t 35) (.t 36)),o 38 (.pick (.t 34) (.c (.bool true)) (.t 37)),ab 39 38,on 40 39 (.mv (.t 2)),on 41 39 (.mv (.t 10)),on 42 39 (.cmp .geq (.sc .int) (.t 40) (.t 41)),o 43 (.pick (.t 39) (.c (.bool true)) (.t 42)),ab 27 43]
abbrev yGp:ah:=.seq (.ae yGl) .ret
abbrev yGq:ah:=.seq (.ae yGo) (.cond (.t 27) yGn .skip)
abbrev yGr:zR:=[ab 23 9,o 24 (.cmp .neq (.sc .int) (.t 23) (.c (.int .i64 0))),ab 22 24]
abbrev yGs:ah:=.seq (.ae yGr) (.cond (.t 22) yGp yGq)
abbrev yGt:zR:=[aI 15 5 3,aT 16 ke 15,al 17 3 3,ai 18 1 17,aN 19 18,o 20 (.bB .add (.t 16) (.t 19)),o 21 (.bB .mul (.c (.int .i64 2)) (.t 20)),ab 10 21]
abbrev yGu:zR:=[aI 13 5 3,aT 14 nw 13,ab 9 14]
abbrev yGv:zR:=[o 3 (.box 5 (.t 0)),o 6 (.alloc [.int .i64 0,.own 1 an [],.own 1 an [],.own 2 cM [],.own 1 an []]),aO 7 0,aO 8 0]
abbrev abm:aA:=⟨.seq (.ae yGv) (.seq (.ae yGu) (.seq (.aQ [O,O,O,I,O,O,O,O] [2,9,9,9,9,9,9,9] yGt) (.seq (.block 0 [] yGs) (.seq (.ae yGk) (.seq (.ae yGj) (.seq (.seq (.ae yGi) (.cond (.t 56) yGh .skip)) (.seq (.ae yGf) .ret))))))),63,[.cell 6 true 5,.tmp 7,.tmp 8]⟩
@[simp] theorem Yl:az Tryz.prog Ai=some abm:=by kernel_rfl
@[simp] theorem ayE:ar Tryz.prog Ai=true:=by kernel_rfl
abbrev yGw:zR:=[ab 7 0,ab 8 1,aZ 9 1 7 8,ai 10 1 9,ab 11 0,ab 12 2,aZ 13 1 11 12,ai 14 1 13,cL 15 10 14,ab 6 15]
abbrev UM:aA:=⟨.seq (.ae yR) (.seq (.aQ [O,O,O,O,O,O,O,O,O,O] [11,11,11,11,11,11,11,11,11,11] yGw) .ret),16,[.tmp 6]⟩
@[simp] theorem Jz:az Tryz.prog vE=some UM:=by kernel_rfl
@[simp] theorem awn:ar Tryz.prog vE=true:=by kernel_rfl
abbrev yGy:zR:=[ab 25 3,o 26 (.lg an (.t 25)),ab 2 26]
abbrev yGz:zR:=[ab 14 0,ab 15 0,o 16 (.cr (.t 15)),ai 17 1 16,ab 18 0,o 19 (.cr (.t 18)),ai 20 1 19,aN 21 20,o 22 (.bB .sub (.t 21) (.c (.int .i64 1))),o 23 (.slice 1 (.t 17) none (some (.t 22))),o 24 (.cr (.t 14)),aM 1 24 23]
abbrev yGA:zR:=[ab 4 0,o 5 (.cr (.t 4)),ai 6 1 5,ab 7 0,o 8 (.cr (.t 7)),ai 9 1 8,aN 10 9,o 11 (.bB .sub (.t 10) (.c (.int .i64 1))),aZ 12 1 6 11,ai 13 1 12,ab 3 13]
abbrev UX:aA:=⟨.seq (.ae Rb) (.seq (.aQ [O,O,O,O,O,O,O,O,O,O,O] [12,12,12,12,12,12,12,12,12,12,12] yGA) (.seq (.aQ [O,O,O,O,O,O,O,O,O,O,O,O] [12,12,12,12,12,12,12,12,12,12,12,13] yGz) (.seq (.ae yGy) .ret))),27,[.tmp 2]⟩
@[simp] theorem Uu:az Tryz.prog zj=some UX:=by kernel_rfl
@[simp] theorem awv:ar Tryz.prog zj=true:=by kernel_rfl
abbrev yGC:zR:=[ab 4 0,ab 5 0,o 6 (.cr (.t 5)),ai 7 1 6,ab 8 1,o 9 (.rM (.t 8) an (.int .i64 0) false),o 10 (.lit 1 [.int .i64 0] [(0,.t 9)]),o 11 (.append 1 an 8 (.t 7) (.t 10)),o 12 (.cr (.t 4)),aM 1 12 11]
abbrev US:aA:=⟨.aQ [O,O,O,I,O,O,O,O,O,O] [10,8,8,8,7,7,8,10,10,11] yGC,13,[]⟩
@[simp] theorem JB:az Tryz.prog ze=some US:=by kernel_rfl
@[simp] theorem awl:ar Tryz.prog ze=true:=by kernel_rfl
abbrev yGD:zR:=[ab 6 0,ab 7 1,ab 8 0,ab 9 2,ab 10 0,ab 11 2,aZ 12 1 10 11,ai 13 1 12,ab 14 0,ab 15 1,aZ 16 1 14 15,ai 17 1 16,aZ 18 1 6 7,aM 1 18 13,aZ 19 1 8 9,aM 1 19 17]
abbrev UJ:aA:=⟨.aQ ((by(iterate 16 refine O::?_);exact[])) [14,14,16,16,14,14,14,14,14,14,14,14,14,16,16,17] yGD,20,[]⟩
@[simp] theorem JC:az Tryz.prog vD=some UJ:=by kernel_rfl
@[simp] theorem awp:ar Tryz.prog vD=true:=by kernel_rfl
abbrev Ug:aA:=⟨.seq (.ae mw) (.seq (.ae mw) .ret),5,[.tmp 4]⟩
@[simp] theorem TV:az Tryz.prog vz=some Ug:=by kernel_rfl
@[simp] theorem avZ:ar Tryz.prog vz=true:=by kernel_rfl
abbrev Sl:zR:=[ab 38 5,ab 4 38]
abbrev Qo:zB:=I::O::O::O::O::I::O::O::O::O::O::O::O::O::I::I::I::(by(iterate 22 refine O::?_);exact[])
abbrev Si:zB:=O::O::O::O::O::I::(by(iterate 33 refine O::?_);exact[])
abbrev yGJ:zR:=[bz 37 16 1,ab 16 37]
abbrev yGK:zR:=[ab 30 0,ab 31 8,o 32 (.bB .xor (.t 31) (.c (.int .i64 1))),ab 33 9,o 34 (.bB .xor (.t 33) (.c (.int .i64 1))),o 35 (.call (.f ri) [.t 30,.t 32,.t 34]),o 36 (.bB .xor (.t 35) (.c (.int .i64 1))),ab 5 36]
abbrev yGL:zR:=[ab 25 0,ab 26 5,o 27 (.bB .xor (.t 26) (.c (.int .i64 1))),ab 28 7,o 29 (.call (.f ri) [.t 25,.t 27,.t 28]),ab 9 29]
abbrev yGM:zR:=[ab 20 0,ab 21 5,ab 22 7,o 23 (.bB .xor (.t 22) (.c (.int .i64 1))),o 24 (.call (.f ri) [.t 20,.t 21,.t 23]),ab 8 24]
abbrev yGN:zR:=[aZ 18 1 14 16,ai 19 1 18,ab 7 19]
abbrev yGO:ah:=.seq (.ae yGN) (.seq (.ae yGM) (.seq (.ae yGL) (.ae yGK)))
abbrev Hz:ah:=.seq (.ae B7) (.seq (.cond (.t 17) .skip (.exit 0)) (.seq (.block 1 [] yGO) (.ae yGJ)))
abbrev yGR:zR:=[ab 13 1,o 14 (.slice 1 (.t 13) (some (.c (.int .i64 1))) none),aN 15 14,aO 16 0]
abbrev yGS:zR:=[ab 10 1,o 11 (.g_ 1 (.t 10) (.c (.int .i64 0))),ai 12 1 11,ab 5 12]
abbrev Um:aA:=⟨.seq (.ae mw) (.seq (.ae yGS) (.seq (.seq (.ae yGR) (.block 0 Si (.loop Qo Hz))) (.seq (.ae Sl) .ret))),39,[.tmp 4]⟩
abbrev yGU:zI:=[.code (.seq (.ae Sl) .ret)]
abbrev yGV(x0 x5 x14 x15 x16:AV)(h:List Ob)(e:Cx:=cx):aq:=bm sW (.code Hz::.inLoop Qo Hz::.inBlock 0 Si::yGU) (x0::U::U::U::U::x5::U::U::U::U::U::U::U::U::x14::x15::x16::(by(iterate 22 refine U::?_);exact[])) h e
@[simp] theorem TY:az Tryz.prog sW=some Um:=by kernel_rfl
@[simp] theorem av6:ar Tryz.prog sW=true:=by kernel_rfl
end Go.Proofs.YtihmomicdpkabaaGreatDoor
