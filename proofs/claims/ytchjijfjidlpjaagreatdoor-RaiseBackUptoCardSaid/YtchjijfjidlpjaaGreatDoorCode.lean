/- The functions, as the abstract machine has them. Printed by a program. -/
import Derived.Test.YtchjijfjidlpjaaGreatDoorAMd
import Derived.Test.YtchjijfjidlpjaaGreatDoorChecked
import Derived.KernelRfl
set_option linter.unusedSimpArgs false
set_option linter.unusedVariables false
namespace Go.Proofs.YtchjijfjidlpjaaGreatDoor
open Go.AM Go.Proofs
abbrev zR:=List AG
abbrev zB:=List Bool
abbrev zI:=List It
abbrev ab(d i:Nat):AG:=o d (.mv (.t i))
abbrev ai(d k i:Nat):AG:=o d (.load false k (.t i))
abbrev aN(d k i:Nat):AG:=o d (.load true k (.t i))
abbrev al(d k i:Nat):AG:=o d (.off k (.t i))
abbrev bl(d k i j:Nat):AG:=o d (.jd k (.t i) (.t j))
abbrev bL(d i:Nat)(n:Int):AG:=o d (.bG .add (.t i) (.c (.int .i64 n)))
abbrev cU(d i j:Nat):AG:=o d (.cmp .lss (.sc .int) (.t i) (.t j))
abbrev bX(d i j:Nat):AG:=o d (.pick (.t i) (.t j) (.c (.bool false)))
abbrev bf(d:Nat)(n:Int):AG:=o d (.mv (.c (.int .i64 n)))
abbrev aX(d i:Nat):AG:=o d (.len (.t i))
abbrev aL(k a x:Nat):AG:=q (.store k (.t a) (.t x))
abbrev bC(d i k:Nat):AG:=o d (.extract (.t i) k)
abbrev bQ(d j k i:Nat):AG:=oy d j (.load false k (.t i))
abbrev dH(d j i:Nat):AG:=oy d j (.mv (.t i))
abbrev ba(d:Nat)(f:FuncId)(i:Nat):AG:=o d (.call (.f f) [.t i])
abbrev cX(d:Nat)(f:FuncId)(i j:Nat):AG:=o d (.call (.f f) [.t i,.t j])
abbrev oG(d:Nat):AG:=o d (.mv (.c (.bool false)))
abbrev Fu:FuncId:=6
abbrev BD:FuncId:=9
abbrev BU:FuncId:=10
abbrev me:FuncId:=11
abbrev uY:FuncId:=13
abbrev u9:FuncId:=18
abbrev B4:FuncId:=19
abbrev xW:FuncId:=20
abbrev Bp:FuncId:=21
abbrev o8:FuncId:=22
abbrev yJ:FuncId:=23
abbrev n5:FuncId:=24
abbrev Bw:FuncId:=25
abbrev BT:FuncId:=26
abbrev tv:FuncId:=31
abbrev th:FuncId:=32
abbrev uR:FuncId:=33
abbrev xJ:FuncId:=34
abbrev A':FuncId:=35
abbrev n8:FuncId:=36
abbrev xU:FuncId:=43
abbrev n6:FuncId:=44
abbrev uW:FuncId:=49
abbrev uL:FuncId:=50
abbrev nZ:FuncId:=51
abbrev Bt:FuncId:=52
abbrev uZ:FuncId:=53
abbrev Fy:FuncId:=54
abbrev Bm:FuncId:=55
abbrev pZ:FuncId:=56
abbrev tB:FuncId:=57
abbrev p9:FuncId:=58
abbrev xI:FuncId:=59
abbrev BF:FuncId:=60
abbrev n3:FuncId:=61
abbrev xz:FuncId:=62
abbrev xx:FuncId:=63
abbrev vk:FuncId:=64
abbrev te:FuncId:=71
abbrev xQ:FuncId:=72
abbrev u0:FuncId:=73
abbrev Bu:FuncId:=74
abbrev xT:FuncId:=75
abbrev pa:FuncId:=76
abbrev A6:FuncId:=77
abbrev vm:FuncId:=78
abbrev xX:FuncId:=79
abbrev tz:FuncId:=80
abbrev BH:FuncId:=81
abbrev vo:FuncId:=82
abbrev rK:FuncId:=85
abbrev vg:FuncId:=86
abbrev u6:FuncId:=87
abbrev vd:FuncId:=88
abbrev rG:FuncId:=89
abbrev o6:FuncId:=90
abbrev Bg:FuncId:=91
abbrev tJ:FuncId:=92
abbrev mf:FuncId:=93
abbrev Ff:FuncId:=102
abbrev o7:FuncId:=103
abbrev n7:FuncId:=104
abbrev xG:FuncId:=105
abbrev uU:FuncId:=106
abbrev Ba:FuncId:=107
abbrev xR:FuncId:=108
abbrev uM:FuncId:=109
abbrev s8:FuncId:=110
abbrev xC:FuncId:=111
abbrev FB:FuncId:=117
abbrev xB:FuncId:=118
abbrev xy:FuncId:=119
abbrev Be:FuncId:=120
abbrev BB:FuncId:=121
abbrev B2:FuncId:=122
abbrev vA:FuncId:=123
abbrev sZ:FuncId:=124
abbrev Bv:FuncId:=127
abbrev Bo:FuncId:=128
abbrev uJ:FuncId:=129
abbrev Br:FuncId:=130
abbrev tw:FuncId:=131
abbrev A9:FuncId:=132
abbrev td:FuncId:=133
abbrev FC:FuncId:=134
abbrev xK:FuncId:=138
abbrev xF:FuncId:=139
abbrev Bl:FuncId:=140
abbrev uX:FuncId:=141
abbrev jo:FuncId:=142
abbrev uP:FuncId:=143
abbrev uO:FuncId:=144
abbrev xP:FuncId:=148
abbrev Fz:FuncId:=149
abbrev s_:FuncId:=150
abbrev Bd:FuncId:=151
abbrev s6:FuncId:=152
abbrev xD:FuncId:=153
abbrev A8:FuncId:=154
abbrev p_:FuncId:=155
abbrev rF:FuncId:=156
abbrev Fe:FuncId:=157
abbrev Bk:FuncId:=165
abbrev uS:FuncId:=166
abbrev u7:FuncId:=167
abbrev tm:FuncId:=168
abbrev rH:FuncId:=169
abbrev vc:FuncId:=170
abbrev A7:FuncId:=171
abbrev y3:FuncId:=172
abbrev xO:FuncId:=173
abbrev rE:FuncId:=174
abbrev uI:FuncId:=175
abbrev uN:FuncId:=176
abbrev xL:FuncId:=182
abbrev Fh:FuncId:=183
abbrev xA:FuncId:=184
abbrev tc:FuncId:=189
abbrev Bb:FuncId:=190
abbrev A5:FuncId:=191
abbrev qb:FuncId:=192
abbrev Fc:FuncId:=193
abbrev xE:FuncId:=194
abbrev ta:FuncId:=195
abbrev Ca:FuncId:=205
abbrev Bi:FuncId:=240
abbrev A_:FuncId:=242
abbrev Bc:FuncId:=243
abbrev xN:FuncId:=244
abbrev Bj:FuncId:=245
abbrev Bh:FuncId:=246
abbrev xM:FuncId:=247
abbrev xH:FuncId:=250
abbrev uQ:FuncId:=251
def s9:String:=String.ofList [Char.ofNat 112,Char.ofNat 97,Char.ofNat 116,Char.ofNat 99,Char.ofNat 104,Char.ofNat 98,Char.ofNat 97,Char.ofNat 121,Char.ofNat 47,Char.ofNat 114,Char.ofNat 97,Char.ofNat 105,Char.ofNat 115,Char.ofNat 101,Char.ofNat 46,Char.ofNat 103,Char.ofNat 97,Char.ofNat 116,Char.ofNat 101]
abbrev aq:TypeId:=3
abbrev pk:TypeId:=4
abbrev HZ:TypeId:=5
abbrev au:TypeId:=9
abbrev jK:TypeId:=22
abbrev mX:TypeId:=50
abbrev cT:TypeId:=62
abbrev qc:TypeId:=65
abbrev FE:TypeId:=72
@[simp] theorem axz:jR Tryz.prog FE s9=some (Bi,none):=by kernel_rfl
abbrev xS:TypeId:=90
abbrev n4:TypeId:=xS
abbrev FH:TypeId:=100
abbrev Fs:TypeId:=122
@[simp] theorem axs:jR Tryz.prog Fs s9=some (A_,none):=by kernel_rfl
abbrev Fv:TypeId:=124
@[simp] theorem axv:jR Tryz.prog Fv s9=some (Bc,none):=by kernel_rfl
abbrev F4:TypeId:=130
abbrev lB:TypeId:=163
@[simp] theorem ayk:jR Tryz.prog lB "Push" =some (Bh,none):=by kernel_rfl
@[simp] theorem ayz:jR Tryz.prog lB "Len" =some (uU,some (false,1)):=by kernel_rfl
@[simp] theorem ayo:jR Tryz.prog lB "Swap" =some (xM,some (false,1)):=by kernel_rfl
@[simp] theorem ayw:jR Tryz.prog lB "Pop" =some (Bj,none):=by kernel_rfl
@[simp] theorem ayn:jR Tryz.prog lB "Less" =some (xN,some (false,1)):=by kernel_rfl
abbrev Fw:TypeId:=164
@[simp] theorem ayi:jR Tryz.prog Fw "Len" =some (uU,none):=by kernel_rfl
@[simp] theorem ax9:jR Tryz.prog Fw "Swap" =some (xM,none):=by kernel_rfl
@[simp] theorem ayd:jR Tryz.prog Fw "Less" =some (xN,none):=by kernel_rfl
abbrev aU:TypeId:=210
abbrev mc:TypeId:=238
abbrev ya:zR:=[ab 60 3,ab 61 60,dH 62 61 8,oy 63 61 (.cmp .eql (.sc .int) (.t 62) (.c (.int .i64 0))),bX 64 61 63,ab 65 64,dH 66 65 10,oy 67 65 (.cmp .eql (.sc .int) (.t 66) (.c (.int .i64 0))),bX 68 65 67,ab 69 68,oy 70 69 (.load true 8 (.t 9)),oy 71 69 (.load true 8 (.t 7)),oy 72 69 (.call (.f Bw) [.t 70,.t 71]),bX 73 69 72,ab 74 73,dH 75 74 13,oy 76 74 (.cmp .eql (.sc .int) (.t 75) (.c (.int .i64 0))),bX 77 74 76,ab 78 77,oy 79 78 (.load true 4 (.t 5)),oy 80 78 (.load true 4 (.t 12)),oy 81 78 (.call (.f BT) [.t 79,.t 80]),bX 82 78 81,ab 2 82]
abbrev yd:zR:=[aN 56 8 9,ba 57 me 56,ab 55 57,bC 58 55 0,bC 59 55 1,o 12 (.alloc [.own 1 au [],.own 1 au [],.own 3 mX [],.own 5 qc []]),aL 4 12 58,ab 13 59]
abbrev ye:zR:=[aN 50 4 5,ba 51 n5 50,ab 49 51,bC 52 49 0,bC 53 49 1,bC 54 49 2,o 9 (.alloc [.int .i64 0,.own 1 aq [],.own 1 aq [],.own 2 cT [],.own 1 aq [],.own 1 au [],.own 1 au [],.own 1 au []]),aL 8 9 52,ab 10 53,ab 11 54]
abbrev yf:zR:=[ab 35 3,ab 36 35,dH 37 36 4,oy 38 36 (.not (.t 37)),dH 39 36 38,on 40 39 (.mv (.t 6)),on 41 39 (.mv (.t 8)),on 42 39 (.cmp .eql (.sc .int) (.t 40) (.t 41)),oy 43 36 (.pick (.t 39) (.c (.bool true)) (.t 42)),dH 44 36 43,on 45 44 (.mv (.t 6)),on 46 44 (.cmp .eql (.sc .int) (.t 45) (.c (.int .i64 8))),oy 47 36 (.pick (.t 44) (.c (.bool true)) (.t 46)),bX 48 36 47,ab 2 48]
abbrev yg:aj:=.seq (.ae yf) .ret
abbrev yh:zR:=[ab 29 4,o 30 (.not (.t 29)),ab 31 30,on 32 31 (.mv (.t 6)),on 33 31 (.cmp .neq (.sc .int) (.t 32) (.c (.int .i64 0))),o 34 (.pick (.t 31) (.c (.bool true)) (.t 33))]
abbrev yi:zR:=[aN 25 8 1,ba 26 uY 25,ab 24 26,bC 27 24 0,bC 28 24 1,o 7 (.alloc [.int .i64 0,.own 1 aq [],.own 1 aq [],.own 2 cT [],.own 1 aq [],.own 1 au [],.own 1 au [],.own 1 au []]),aL 8 7 27,ab 8 28]
abbrev yj:zR:=[aN 20 8 1,ba 21 me 20,ab 19 21,bC 22 19 0,bC 23 19 1,o 5 (.alloc [.own 1 au [],.own 1 au [],.own 3 mX [],.own 5 qc []]),aL 4 5 22,ab 6 23]
abbrev yk:zR:=[aN 17 8 1,ba 18 BU 17,ab 4 18]
abbrev ym:zR:=[oG 2]
abbrev yo:aj:=.seq (.ae ym) .ret
abbrev yp:zR:=[ab 15 3,o 16 (.not (.t 15))]
abbrev yq:zR:=[o 14 (.call (.f BD) []),ab 3 14]
abbrev yr:zR:=[o 1 (.box 8 (.t 0)),oG 2]
abbrev YY:aF:=⟨.seq (.ae yr) (.seq (.ae yq) (.seq (.seq (.ae yp) (.cond (.t 16) yo .skip)) (.seq (.ae yk) (.seq (.ae yj) (.seq (.ae yi) (.seq (.seq (.ae yh) (.cond (.t 34) yg .skip)) (.seq (.ae ye) (.seq (.ae yd) (.seq (.ae ya) .ret))))))))),83,[.tmp 2]⟩
@[simp] theorem X3:aE Tryz.prog Fu=some YY:=by kernel_rfl
@[simp] theorem ayD:az Tryz.prog Fu=true:=by kernel_rfl
abbrev yu:zR:=[ab 35 3,o 36 (.cmp .eql (.sc .int) (.t 35) (.c (.int .i64 0))),ab 37 36,oy 38 37 (.off 3 (.t 2)),bQ 39 37 1 38,oy 40 37 (.jd 5 (.t 39) (.c (.int .i64 0))),oy 41 37 (.off 0 (.t 40)),bQ 42 37 1 41,oy 43 37 (.cmp .eql (.sc .str) (.t 42) (.c (.str [110,49]))),bX 44 37 43,ab 45 44,oy 46 45 (.off 3 (.t 2)),bQ 47 45 1 46,oy 48 45 (.jd 5 (.t 47) (.c (.int .i64 0))),oy 49 45 (.off 1 (.t 48)),bQ 50 45 1 49,oy 51 45 (.cmp .eql (.sc .int) (.t 50) (.c (.int .i64 3))),bX 52 45 51,ab 53 52,oy 54 53 (.off 3 (.t 2)),bQ 55 53 1 54,oy 56 53 (.jd 5 (.t 55) (.c (.int .i64 1))),oy 57 53 (.off 1 (.t 56)),bQ 58 53 1 57,oy 59 53 (.cmp .eql (.sc .int) (.t 58) (.c (.int .i64 4))),bX 60 53 59,ab 61 60,oy 62 61 (.off 3 (.t 2)),bQ 63 61 1 62,oy 64 61 (.jd 5 (.t 63) (.c (.int .i64 1))),oy 65 61 (.off 2 (.t 64)),bQ 66 61 1 65,oy 67 61 (.lit 1 [.str [],.str []] [(0,.c (.str [110,49])),(1,.c (.str [97]))]),oy 68 61 (.call (.f yJ) [.t 66,.t 67]),bX 69 61 68,ab 70 69,oy 71 70 (.off 3 (.t 2)),bQ 72 70 1 71,oy 73 70 (.jd 5 (.t 72) (.c (.int .i64 2))),oy 74 70 (.off 0 (.t 73)),bQ 75 70 1 74,oy 76 70 (.cmp .eql (.sc .str) (.t 75) (.c (.str [122]))),bX 77 70 76,ab 78 77,oy 79 78 (.off 3 (.t 2)),bQ 80 78 1 79,oy 81 78 (.jd 5 (.t 80) (.c (.int .i64 2))),oy 82 78 (.off 1 (.t 81)),bQ 83 78 1 82,oy 84 78 (.cmp .eql (.sc .int) (.t 83) (.c (.int .i64 2))),bX 85 78 84,ab 86 85,dH 87 86 5,oy 88 86 (.cmp .eql (.sc .int) (.t 87) (.c (.int .i64 0))),bX 89 86 88,ab 90 89,oy 91 90 (.off 0 (.t 4)),oy 92 90 (.off 3 (.t 91)),bQ 93 90 1 92,oy 94 90 (.len (.t 93)),oy 95 90 (.cmp .eql (.sc .int) (.t 94) (.c (.int .i64 1))),bX 96 90 95,ab 97 96,dH 98 97 7,oy 99 97 (.cmp .eql (.sc .int) (.t 98) (.c (.int .i64 1))),bX 100 97 99,ab 101 100,oy 102 101 (.off 0 (.t 4)),oy 103 101 (.load true 5 (.t 102)),oy 104 101 (.call (.f u9) [.t 103]),oy 105 101 (.cmp .eql (.sc .int) (.t 104) (.c (.int .i64 2))),bX 106 101 105,ab 0 106]
abbrev yv:zR:=[oG 0]
abbrev yw:aj:=.seq (.ae yv) .ret
abbrev yx:zR:=[al 31 3 2,ai 32 1 31,aX 33 32,o 34 (.cmp .neq (.sc .int) (.t 33) (.c (.int .i64 3)))]
abbrev yy:zR:=[aN 27 8 1,ba 28 me 27,ab 26 28,bC 29 26 0,bC 30 26 1,o 6 (.alloc [.own 1 au [],.own 1 au [],.own 3 mX [],.own 5 qc []]),aL 4 6 29,ab 7 30]
abbrev yz:zR:=[al 25 7 1,q (.store 1 (.t 25) (.c (.list true 0 [])))]
abbrev yA:zR:=[aN 21 8 1,ba 22 uY 21,ab 20 22,bC 23 20 0,bC 24 20 1,o 4 (.alloc [.int .i64 0,.own 1 aq [],.own 1 aq [],.own 2 cT [],.own 1 aq [],.own 1 au [],.own 1 au [],.own 1 au []]),aL 8 4 23,ab 5 24]
abbrev yB:zR:=[aN 16 8 1,ba 17 me 16,ab 15 17,bC 18 15 0,bC 19 15 1,o 2 (.alloc [.own 1 au [],.own 1 au [],.own 3 mX [],.own 5 qc []]),aL 4 2 18,ab 3 19]
abbrev yC:zR:=[o 8 (.build [.int .i64 0,.int .i64 0] [(0,1,.c (.int .i64 5)),(1,1,.c (.int .i64 2))]),o 9 (.lit 2 [.agg [.int .i64 0,.int .i64 0]] [(0,.t 8)]),o 10 (.lit 1 [.int .i64 0,.int .i64 0] [(0,.c (.int .i64 6)),(1,.c (.int .i64 2))]),o 11 (.build [.int .i64 0,.list true 0 [],.list true 0 [],.list true 0 [],.list true 0 []] [(0,1,.c (.int .i64 2)),(3,1,.t 9),(4,1,.t 10)]),o 12 (.lit 1 [.str [],.str []] [(0,.c (.str [97])),(1,.c (.str [98]))]),o 13 (.lit 1 [.str [],.str []] [(0,.c (.str [122])),(1,.c (.str [97]))]),o 14 (.build [.int .i64 0,.list true 0 [],.list true 0 [],.list true 0 [],.list true 0 [],.list true 0 [],.list true 0 [],.list true 0 []] [(0,5,.t 11),(5,1,.t 12),(7,1,.t 13)]),o 1 (.alloc [.int .i64 0,.own 1 aq [],.own 1 aq [],.own 2 cT [],.own 1 aq [],.own 1 au [],.own 1 au [],.own 1 au []]),aL 8 1 14]
abbrev abS:aF:=⟨.seq (.ae yv) (.seq (.ae yC) (.seq (.ae yB) (.seq (.ae yA) (.seq (.ae yz) (.seq (.ae yy) (.seq (.seq (.ae yx) (.cond (.t 34) yw .skip)) (.seq (.ae yu) .ret))))))),107,[.tmp 0]⟩
@[simp] theorem ZR:aE Tryz.prog BD=some abS:=by kernel_rfl
@[simp] theorem azG:az Tryz.prog BD=true:=by kernel_rfl
abbrev yE:zR:=[ab 19 3,ab 20 19,dH 21 20 4,bX 22 20 21,ab 23 22,dH 24 23 5,bX 25 23 24,ab 26 25,dH 27 26 6,bX 28 26 27,ab 2 28]
abbrev yF:zR:=[al 16 7 1,ai 17 1 16,o 18 (.call (.f tv) [.t 17,.c (.int .i64 60)]),ab 6 18]
abbrev yG:zR:=[al 13 6 1,ai 14 1 13,o 15 (.call (.f tv) [.t 14,.c (.int .i64 40)]),ab 5 15]
abbrev yH:zR:=[al 10 5 1,ai 11 1 10,o 12 (.call (.f tv) [.t 11,.c (.int .i64 40)]),ab 4 12]
abbrev yI:zR:=[al 7 0 1,aN 8 5 7,ba 9 B4 8,ab 3 9]
abbrev agE:aF:=⟨.seq (.ae yr) (.seq (.ae yI) (.seq (.ae yH) (.seq (.ae yG) (.seq (.ae yF) (.seq (.ae yE) .ret))))),29,[.tmp 2]⟩
@[simp] theorem acB:aE Tryz.prog BU=some agE:=by kernel_rfl
@[simp] theorem aAn:az Tryz.prog BU=true:=by kernel_rfl
abbrev yK:zR:=[ab 136 5,o 137 (.bx (.t 136)),al 138 0 137,aN 139 4 138,aL 4 2 139,bf 3 0]
abbrev yL:zR:=[o 135 (.build [.list true 0 [],.list true 0 [],.list true 0 [],.list true 0 []] []),aL 4 2 135,bf 3 8]
abbrev yM:aj:=.seq (.ae yL) .ret
abbrev yN:zR:=[ab 133 13,o 134 (.cmp .neq (.sc .int) (.t 133) (.c (.int .i64 0)))]
abbrev yO:zR:=[ab 126 5,o 127 (.bx (.t 126)),al 128 0 127,aN 129 4 128,ba 130 n8 129,ab 125 130,bC 131 125 0,bC 132 125 1,ab 13 131,ab 14 132]
abbrev yP:zB:=O::I::I::O::O::I::(by(iterate 93 refine O::?_);exact I::I::I::(by(iterate 38 refine O::?_);exact[]))
abbrev yQ:zB:=O::O::I::O::O::I::(by(iterate 134 refine O::?_);exact[])
abbrev yR:zR:=[bL 124 101 1,ab 101 124]
abbrev yS:zR:=[ab 110 5,o 111 (.bx (.t 110)),al 112 6 111,ai 113 1 112,ab 114 5,ab 115 12,al 116 0 1,al 117 4 116,ai 118 1 117,ab 119 11,bl 120 1 118 119,ai 121 1 120,o 122 (.call (.f A') [.t 114,.t 115,.t 121]),o 123 (.call (.t 113) [.t 122])]
abbrev yT:zR:=[aN 106 8 1,ab 107 12,cX 108 xW 106 107,o 109 (.cmp .lss (.sc .int) (.t 108) (.c (.int .i64 0)))]
abbrev yU:zR:=[ab 103 101,bl 104 1 99 101,ai 105 1 104,ab 11 103,ab 12 105]
abbrev yV:aj:=.seq (.ae yU) (.seq (.ae yT) (.cond (.t 109) (.aP [O,O,O,I,O,O,O,O,O,O,O,O,O,O] [14,14,14,14,13,13,13,13,13,13,13,13,14,15] yS) .skip))
abbrev yX:zR:=[cU 102 101 100]
abbrev yY:aj:=.seq (.ae yX) (.seq (.cond (.t 102) .skip (.exit 4)) (.seq (.block 5 [] yV) (.ae yR)))
abbrev yZ:zR:=[al 98 7 1,ai 99 1 98,aX 100 99,bf 101 0]
abbrev Kr:zB:=O::I::I::O::O::I::(by(iterate 57 refine O::?_);exact I::I::I::(by(iterate 74 refine O::?_);exact[]))
abbrev Aw:zB:=O::I::I::O::O::I::(by(iterate 134 refine O::?_);exact[])
abbrev ybc:zR:=[bL 97 65 1,ab 65 97]
abbrev ybd:zR:=[ab 70 5,ab 71 5,o 72 (.bx (.t 71)),al 73 0 72,al 74 2 73,ai 75 1 74,ab 76 10,ab 77 5,al 78 0 1,al 79 1 78,ai 80 1 79,ab 81 9,bl 82 1 80 81,ai 83 1 82,cX 84 uR 77 83,al 85 0 1,al 86 2 85,ai 87 1 86,ab 88 9,bl 89 1 87 88,ai 90 1 89,o 91 (.build [.str [],.str [],.int .i64 0] [(0,1,.t 76),(1,1,.t 84),(2,1,.t 90)]),o 92 (.lit 3 [.agg [.str [],.str [],.int .i64 0]] [(0,.t 91)]),o 93 (.append 3 mX 40 (.t 75) (.t 92)),o 94 (.bx (.t 70)),al 95 0 94,al 96 2 95,aL 1 96 93]
abbrev ybe:zR:=[ab 67 65,bl 68 1 63 65,ai 69 1 68,ab 9 67,ab 10 69]
abbrev ybf:aj:=.seq (.ae ybe) (.aP [O,O,O,O,O,I,O,O,O,O,O,O,O,O,O,O,O,I,O,O,I,O,O,O,O,O,O,O] [28,24,24,24,24,24,23,15,15,15,15,15,15,15,23,23,23,23,23,23,23,23,24,28,28,28,28,29] ybd)
abbrev ybg:zR:=[cU 66 65 64]
abbrev DZ:aj:=.seq (.ae ybg) (.seq (.cond (.t 66) .skip (.exit 2)) (.seq (.block 3 [] ybf) (.ae ybc)))
abbrev Um:zR:=[al 62 6 1,ai 63 1 62,aX 64 63,bf 65 0]
abbrev VG:zB:=O::I::I::O::O::I::I::(by(iterate 30 refine O::?_);exact I::I::I::(by(iterate 100 refine O::?_);exact[]))
abbrev ybl:zR:=[bL 61 39 1,ab 39 61]
abbrev ybm:zR:=[ab 52 5,ab 53 6,ab 54 7,o 55 (.bG .add (.t 53) (.t 54)),o 56 (.bG .mul (.c (.int .i64 2)) (.t 55)),aN 57 2 8,o 58 (.build [.int .i64 0,.int .i64 0] [(0,2,.t 57)]),o 59 (.j8 FE (.t 58)),o 60 (.call (.f xJ) [.t 52,.t 56,.t 59])]
abbrev ybn:zR:=[ab 48 5,o 49 (.fE 2 1 (.t 8) (.c (.int .i64 1))),ai 50 1 49,cX 51 uR 48 50]
abbrev ybo:zR:=[ab 44 5,o 45 (.fE 2 1 (.t 8) (.c (.int .i64 0))),ai 46 1 45,cX 47 uR 44 46]
abbrev ybp:zR:=[ab 41 39,bl 42 2 37 39,aN 43 2 42,o 8 (.alloc [.int .i64 0,.int .i64 0]),ab 7 41,aL 2 8 43]
abbrev ybq:aj:=.seq (.ae ybp) (.seq (.ae ybo) (.seq (.ae ybn) (.ae ybm)))
abbrev Tn:zR:=[cU 40 39 38]
abbrev Kz:aj:=.seq (.ae Tn) (.seq (.cond (.t 40) .skip (.exit 0)) (.seq (.block 1 [] ybq) (.ae ybl)))
abbrev ybt:zR:=[al 35 0 1,al 36 3 35,ai 37 1 36,aX 38 37,bf 39 0]
abbrev ybu:zR:=[al 26 0 1,al 27 0 26,ai 28 1 27,o 29 (.bG .add (.c (.int .i64 1)) (.t 28)),al 30 0 1,al 31 1 30,ai 32 1 31,aX 33 32,o 34 (.bG .add (.t 29) (.t 33)),ab 6 34]
abbrev ybv:zR:=[aN 24 8 1,ba 25 th 24,ab 5 25]
abbrev ybw:zR:=[o 22 (.build [.list true 0 [],.list true 0 [],.list true 0 [],.list true 0 []] []),ab 23 4,aL 4 2 22,ab 3 23]
abbrev ybx:aj:=.seq (.ae ybw) .ret
abbrev yby:zR:=[ab 20 4,o 21 (.cmp .neq (.sc .int) (.t 20) (.c (.int .i64 0)))]
abbrev ybz:zR:=[aN 16 8 1,ba 17 uY 16,ab 15 17,bC 18 15 0,bC 19 15 1,aL 8 1 18,ab 4 19]
abbrev ybA:zR:=[o 1 (.box 8 (.t 0)),o 2 (.alloc [.own 1 au [],.own 1 au [],.own 3 mX [],.own 5 qc []]),bf 3 0]
abbrev Z9:aF:=⟨.seq (.ae ybA) (.seq (.ae ybz) (.seq (.seq (.ae yby) (.cond (.t 21) ybx .skip)) (.seq (.ae ybv) (.seq (.ae ybu) (.seq (.seq (.ae ybt) (.block 0 Aw (.loop VG Kz))) (.seq (.seq (.ae Um) (.block 2 Aw (.loop Kr DZ))) (.seq (.seq (.ae yZ) (.block 4 yQ (.loop yP yY))) (.seq (.seq (.ae yO) (.seq (.ae yN) (.cond (.t 134) yM .skip))) (.seq (.ae yK) .ret))))))))),140,[.cell 2 true 4,.tmp 3]⟩
abbrev TU:zI:=[.code (.seq (.seq (.ae yO) (.seq (.ae yN) (.cond (.t 134) yM .skip))) (.seq (.ae yK) .ret))]
abbrev ybC(x1 x2 x5 x99 x100 x101:AV)(h:List Ob)(e:Cx:=cx):ar:=bg me (.code yY::.inLoop yP yY::.inBlock 4 yQ::TU) (U::x1::x2::U::U::x5::(by(iterate 93 refine U::?_);exact x99::x100::x101::(by(iterate 38 refine U::?_);exact[]))) h e
abbrev ybD(x2 x5:AV)(h:List Ob)(e:Cx:=cx):ar:=bg me TU (U::U::x2::U::U::x5::(by(iterate 134 refine U::?_);exact[])) h e
abbrev Up:zI:=[.code (.seq (.seq (.ae yZ) (.block 4 yQ (.loop yP yY))) (.seq (.seq (.ae yO) (.seq (.ae yN) (.cond (.t 134) yM .skip))) (.seq (.ae yK) .ret)))]
abbrev ybF(x1 x2 x5 x63 x64 x65:AV)(h:List Ob)(e:Cx:=cx):ar:=bg me (.code DZ::.inLoop Kr DZ::.inBlock 2 Aw::Up) (U::x1::x2::U::U::x5::(by(iterate 57 refine U::?_);exact x63::x64::x65::(by(iterate 74 refine U::?_);exact[]))) h e
abbrev ybG(x1 x2 x5:AV)(h:List Ob)(e:Cx:=cx):ar:=bg me Up (U::x1::x2::U::U::x5::(by(iterate 134 refine U::?_);exact[])) h e
abbrev Ur:zI:=[.code (.seq (.seq (.ae Um) (.block 2 Aw (.loop Kr DZ))) (.seq (.seq (.ae yZ) (.block 4 yQ (.loop yP yY))) (.seq (.seq (.ae yO) (.seq (.ae yN) (.cond (.t 134) yM .skip))) (.seq (.ae yK) .ret))))]
abbrev UJ(x1 x2 x5 x6 x37 x38 x39:AV)(h:List Ob)(e:Cx:=cx):ar:=bg me (.code Kz::.inLoop VG Kz::.inBlock 0 Aw::Ur) (U::x1::x2::U::U::x5::x6::(by(iterate 30 refine U::?_);exact x37::x38::x39::(by(iterate 100 refine U::?_);exact[]))) h e
abbrev ybJ(x1 x2 x5:AV)(h:List Ob)(e:Cx:=cx):ar:=bg me Ur (U::x1::x2::U::U::x5::(by(iterate 134 refine U::?_);exact[])) h e
@[simp] theorem YF:aE Tryz.prog me=some Z9:=by kernel_rfl
@[simp] theorem ay5:az Tryz.prog me=true:=by kernel_rfl
abbrev ybK:zR:=[aN 18 8 1,aL 8 2 18,bf 3 0]
abbrev ybL:zR:=[al 12 0 1,aN 13 5 12,ba 14 n6 13,ab 11 14,bC 15 11 0,bC 16 11 1,al 17 0 1,aL 5 17 15]
abbrev ybM:zR:=[o 9 (.build [.int .i64 0,.list true 0 [],.list true 0 [],.list true 0 [],.list true 0 [],.list true 0 [],.list true 0 [],.list true 0 []] []),ab 10 4,aL 8 2 9,ab 3 10]
abbrev ybN:aj:=.seq (.ae ybM) .ret
abbrev ybO:zR:=[ab 7 4,o 8 (.cmp .neq (.sc .int) (.t 7) (.c (.int .i64 0)))]
abbrev ybP:zR:=[aN 5 8 1,ba 6 xU 5,ab 4 6]
abbrev ybQ:zR:=[o 1 (.box 8 (.t 0)),o 2 (.alloc [.int .i64 0,.own 1 aq [],.own 1 aq [],.own 2 cT [],.own 1 aq [],.own 1 au [],.own 1 au [],.own 1 au []]),bf 3 0]
abbrev Zy:aF:=⟨.seq (.ae ybQ) (.seq (.seq (.ae ybP) (.seq (.ae ybO) (.cond (.t 8) ybN .skip))) (.seq (.ae ybL) (.seq (.ae ybK) .ret))),19,[.cell 2 true 8,.tmp 3]⟩
@[simp] theorem Yx:aE Tryz.prog uY=some Zy:=by kernel_rfl
@[simp] theorem ayN:az Tryz.prog uY=true:=by kernel_rfl
abbrev KE:zR:=[al 47 3 3,ai 48 1 47,aX 49 48,ai 50 1 5,o 51 (.tX (.t 50)),o 52 (.bG .add (.t 49) (.t 51)),ab 2 52]
abbrev J1:zB:=O::O::O::I::O::I::I::(by(iterate 30 refine O::?_);exact I::I::I::(by(iterate 13 refine O::?_);exact[]))
abbrev Ld:zB:=O::O::O::I::O::I::(by(iterate 47 refine O::?_);exact[])
abbrev ybU:zR:=[bL 46 39 1,ab 39 46]
abbrev ybV:zR:=[ab 43 6,ab 44 10,o 45 (.call (.t 43) [.t 44])]
abbrev ybW:zR:=[bl 41 1 37 39,ai 42 1 41,ab 10 42]
abbrev ybX:aj:=.seq (.ae ybW) (.ae ybV)
abbrev D1:aj:=.seq (.ae Tn) (.seq (.cond (.t 40) .skip (.exit 2)) (.seq (.block 3 [] ybX) (.ae ybU)))
abbrev Uc:zR:=[al 36 1 3,ai 37 1 36,aX 38 37,bf 39 0]
abbrev Ua:zB:=O::O::O::I::O::I::I::(by(iterate 14 refine O::?_);exact I::I::I::(by(iterate 29 refine O::?_);exact[]))
abbrev SS:zB:=O::O::O::I::O::I::I::(by(iterate 46 refine O::?_);exact[])
abbrev ycd:zR:=[bL 35 23 1,ab 23 35]
abbrev yce:zR:=[ab 31 6,o 32 (.fE 2 1 (.t 8) (.c (.int .i64 1))),ai 33 1 32,o 34 (.call (.t 31) [.t 33])]
abbrev ycf:zR:=[ab 27 6,o 28 (.fE 2 1 (.t 8) (.c (.int .i64 0))),ai 29 1 28,o 30 (.call (.t 27) [.t 29])]
abbrev ycg:zR:=[bl 25 2 21 23,aN 26 2 25,o 8 (.alloc [.int .i64 0,.int .i64 0]),aL 2 8 26]
abbrev ych:aj:=.seq (.ae ycg) (.seq (.ae ycf) (.ae yce))
abbrev yci:zR:=[cU 24 23 22]
abbrev Ku:aj:=.seq (.ae yci) (.seq (.cond (.t 24) .skip (.exit 0)) (.seq (.block 1 [] ych) (.ae ycd)))
abbrev yck:zR:=[al 20 3 3,ai 21 1 20,aX 22 21,bf 23 0]
abbrev ycl:zR:=[o 19 (.fW (.func uW) [] [.t 5]),ab 6 19]
abbrev ycm:zR:=[o 18 (.mkMap),o 5 (.alloc [.dp]),aL 1 5 18]
abbrev AK:zR:=[bf 2 0]
abbrev yco:aj:=.seq (.ae AK) .ret
abbrev TG:zR:=[ab 16 4,o 17 (.cmp .neq (.sc .int) (.t 16) (.c (.int .i64 0)))]
abbrev ycq:zR:=[aN 12 5 1,ba 13 n6 12,ab 11 13,bC 14 11 0,bC 15 11 1,o 3 (.alloc [.int .i64 0,.own 1 aq [],.own 1 aq [],.own 2 cT [],.own 1 aq []]),aL 5 3 14,ab 4 15]
abbrev KK:zR:=[o 1 (.box 5 (.t 0)),bf 2 0]
abbrev ZE:aF:=⟨.seq (.ae KK) (.seq (.ae ycq) (.seq (.seq (.ae TG) (.cond (.t 17) yco .skip)) (.seq (.ae ycm) (.seq (.ae ycl) (.seq (.seq (.ae yck) (.block 0 SS (.loop Ua Ku))) (.seq (.seq (.ae Uc) (.block 2 Ld (.loop J1 D1))) (.seq (.ae KE) .ret))))))),53,[.tmp 2]⟩
abbrev ycs:zI:=[.code (.seq (.ae KE) .ret)]
abbrev yct(x3 x5 x6 x37 x38 x39:AV)(h:List Ob)(e:Cx:=cx):ar:=bg u9 (.code D1::.inLoop J1 D1::.inBlock 2 Ld::ycs) (U::U::U::x3::U::x5::x6::(by(iterate 30 refine U::?_);exact x37::x38::x39::(by(iterate 13 refine U::?_);exact[]))) h e
abbrev ycu:zI:=[.code (.seq (.seq (.ae Uc) (.block 2 Ld (.loop J1 D1))) (.seq (.ae KE) .ret))]
abbrev ycv(x3 x5 x6 x21 x22 x23:AV)(h:List Ob)(e:Cx:=cx):ar:=bg u9 (.code Ku::.inLoop Ua Ku::.inBlock 0 SS::ycu) (U::U::U::x3::U::x5::x6::(by(iterate 14 refine U::?_);exact x21::x22::x23::(by(iterate 29 refine U::?_);exact[]))) h e
@[simp] theorem YA:aE Tryz.prog u9=some ZE:=by kernel_rfl
@[simp] theorem azb:az Tryz.prog u9=true:=by kernel_rfl
abbrev ycw:zR:=[al 3 0 1,ai 4 1 3,o 5 (.cmp .leq (.sc .int) (.t 4) (.c (.int .i64 100))),ab 6 5,on 7 6 (.off 0 (.t 1)),on 8 6 (.load false 1 (.t 7)),on 9 6 (.cmp .gtr (.sc .int) (.t 8) (.c (.int .i64 4000))),o 10 (.pick (.t 6) (.c (.bool true)) (.t 9)),ab 11 10,oy 12 11 (.off 1 (.t 1)),bQ 13 11 1 12,oy 14 11 (.len (.t 13)),oy 15 11 (.cmp .leq (.sc .int) (.t 14) (.c (.int .i64 40))),bX 16 11 15,ab 17 16,oy 18 17 (.off 2 (.t 1)),bQ 19 17 1 18,oy 20 17 (.len (.t 19)),oy 21 17 (.cmp .leq (.sc .int) (.t 20) (.c (.int .i64 40))),bX 22 17 21,ab 23 22,oy 24 23 (.off 3 (.t 1)),bQ 25 23 1 24,oy 26 23 (.len (.t 25)),oy 27 23 (.cmp .leq (.sc .int) (.t 26) (.c (.int .i64 60))),bX 28 23 27,ab 29 28,oy 30 29 (.off 4 (.t 1)),bQ 31 29 1 30,oy 32 29 (.len (.t 31)),oy 33 29 (.cmp .leq (.sc .int) (.t 32) (.c (.int .i64 60))),bX 34 29 33,ab 2 34]
abbrev KW:zR:=[o 1 (.box 5 (.t 0)),oG 2]
abbrev afF:aF:=⟨.seq (.ae KW) (.seq (.ae ycw) .ret),35,[.tmp 2]⟩
@[simp] theorem ab4:aE Tryz.prog B4=some afF:=by kernel_rfl
@[simp] theorem aAB:az Tryz.prog B4=true:=by kernel_rfl
abbrev ycy:zR:=[ab 16 5,bL 17 16 1,ab 4 17]
abbrev wO:zR:=[o 4 (.mv (.c (.int .i64 (-1))))]
abbrev ycA:aj:=.seq (.ae wO) .ret
abbrev ycB:zR:=[ab 14 5,o 15 (.cmp .lss (.sc .int) (.t 14) (.c (.int .i64 0)))]
abbrev ycC:zR:=[al 6 5 2,ai 7 1 6,al 8 6 2,ai 9 1 8,o 10 (.lit 1 [.list true 0 [],.list true 0 []] [(0,.t 7),(1,.t 9)]),ba 11 nZ 10,ab 12 1,cX 13 uL 11 12,ab 5 13]
abbrev ycD:zR:=[o 2 (.box 8 (.t 0)),bf 4 0]
abbrev ZL:aF:=⟨.seq (.ae ycD) (.seq (.ae ycC) (.seq (.seq (.ae ycB) (.cond (.t 15) ycA .skip)) (.seq (.ae ycy) .ret))),18,[.tmp 4]⟩
@[simp] theorem Y7:aE Tryz.prog xW=some ZL:=by kernel_rfl
@[simp] theorem ayY:az Tryz.prog xW=true:=by kernel_rfl
abbrev ycE:zR:=[bf 2 0,o 3 (.mv (.c (.str [])))]
abbrev ycF:zR:=[ab 25 7,o 26 (.jd 1 (.t 25) (.c (.int .i64 0))),ai 27 1 26,bf 2 7,ab 3 27]
abbrev ycG:aj:=.seq (.aP [O,O,O,O,O] [6,6,6,6,6] ycF) .ret
abbrev ycH:zR:=[ab 22 7,aX 23 22,o 24 (.cmp .gtr (.sc .int) (.t 23) (.c (.int .i64 0)))]
abbrev ycI:zR:=[aN 18 4 1,ba 19 o8 18,ab 17 19,bC 20 17 0,bC 21 17 1,ab 6 20,ab 7 21]
abbrev ycJ:zR:=[ab 15 4,ab 16 5,ab 2 15,ab 3 16]
abbrev ycK:aj:=.seq (.ae ycJ) .ret
abbrev ycL:zR:=[ab 13 4,o 14 (.cmp .neq (.sc .int) (.t 13) (.c (.int .i64 0)))]
abbrev ycM:zR:=[aN 9 4 1,ba 10 n8 9,ab 8 10,bC 11 8 0,bC 12 8 1,ab 4 11,ab 5 12]
abbrev ycN:zR:=[o 1 (.box 4 (.t 0)),bf 2 0,o 3 (.mv (.c (.str [])))]
abbrev aad:aF:=⟨.seq (.ae ycN) (.seq (.seq (.ae ycM) (.seq (.ae ycL) (.cond (.t 14) ycK .skip))) (.seq (.seq (.ae ycI) (.seq (.ae ycH) (.cond (.t 24) ycG .skip))) (.seq (.ae ycE) .ret))),28,[.tmp 2,.tmp 3]⟩
@[simp] theorem YC:aE Tryz.prog Bp=some aad:=by kernel_rfl
@[simp] theorem ay2:az Tryz.prog Bp=true:=by kernel_rfl
abbrev UC:zR:=[ai 52 1 4,ab 53 7,ab 2 52,ab 3 53]
abbrev TM:zB:=O::O::O::O::I::I::O::I::(by(iterate 24 refine O::?_);exact I::I::I::(by(iterate 19 refine O::?_);exact[]))
abbrev TB:zB:=O::O::O::O::I::O::O::I::(by(iterate 46 refine O::?_);exact[])
abbrev ycR:zR:=[bL 51 34 1,ab 34 51]
abbrev ycS:zR:=[ab 46 7,al 47 0 9,ai 48 1 47,o 49 (.lit 1 [.str []] [(0,.t 48)]),o 50 (.append 1 au 16 (.t 46) (.t 49)),ab 7 50]
abbrev ycT:zR:=[ab 45 11]
abbrev ycU:zR:=[ai 39 1 5,al 40 0 9,ai 41 1 40,o 42 (.lookup (.sc .str) (.int .i64 0) (.t 39) (.t 41) true),ab 38 42,bC 43 38 0,bC 44 38 1,ab 10 43,ab 11 44]
abbrev ycV:zR:=[bl 36 5 32 34,aN 37 5 36,o 9 (.alloc [.str [],.int .i64 0,.own 1 au [],.own 1 au [],.bool false]),aL 5 9 37]
abbrev ycW:aj:=.seq (.ae ycV) (.seq (.ae ycU) (.seq (.ae ycT) (.cond (.t 45) (.ae ycS) .skip)))
abbrev TA:zR:=[cU 35 34 33]
abbrev Kf:aj:=.seq (.ae TA) (.seq (.cond (.t 35) .skip (.exit 2)) (.seq (.block 3 [] ycW) (.ae ycR)))
abbrev ycZ:zR:=[al 31 3 1,ai 32 1 31,aX 33 32,bf 34 0]
abbrev Th:zR:=[o 7 (.dP 1 au)]
abbrev Jn:zR:=[ab 6 19]
abbrev ydc:zR:=[ai 24 1 5,al 25 3 1,ai 26 1 25,ab 27 6,bl 28 5 26 27,al 29 0 28,ai 30 1 29,q (.delete (.sc .str) (.t 24) (.t 30))]
abbrev ydd:zR:=[ai 20 1 4,ab 21 6,o 22 (.lit 1 [.int .i64 0] [(0,.t 21)]),o 23 (.append 1 aq 8 (.t 20) (.t 22)),aL 1 4 23]
abbrev yde:aj:=.seq (.ae ydd) (.aP [O,O,O,O,O,O,O,O] [8,8,8,8,8,8,8,9] ydc)
abbrev KZ:aj:=.block 1 [] yde
abbrev ydg:aj:=.rangeFunc (.t 18) [19] (O::I::I::I::I::I::(by(iterate 48 refine O::?_);exact[])) (.ae Jn) KZ
abbrev ydh:zR:=[aN 17 4 1,ba 18 Fy 17]
abbrev ydi:zR:=[aN 15 4 1,ba 16 uZ 15,o 5 (.alloc [.dp]),aL 1 5 16]
abbrev ydj:zR:=[o 4 (.alloc [.own 1 aq []])]
abbrev ydk:zR:=[o 2 (.dP 1 aq),o 3 (.dP 1 au)]
abbrev ydl:aj:=.seq (.ae ydk) .ret
abbrev ydm:zR:=[aN 12 4 1,ba 13 Bt 12,o 14 (.not (.t 13))]
abbrev ydn:zR:=[o 1 (.box 4 (.t 0)),o 2 (.dP 1 aq),o 3 (.dP 1 au)]
abbrev abi:aF:=⟨.seq (.ae ydn) (.seq (.seq (.ae ydm) (.cond (.t 14) ydl .skip)) (.seq (.ae ydj) (.seq (.ae ydi) (.seq (.seq (.ae ydh) (.block 0 [] ydg)) (.seq (.ae Th) (.seq (.seq (.ae ycZ) (.block 2 TB (.loop TM Kf))) (.seq (.ae UC) .ret))))))),54,[.tmp 2,.tmp 3]⟩
abbrev ydo:zI:=[.code (.seq (.ae UC) .ret)]
abbrev ydp(x4 x5 x7 x32 x33 x34:AV)(h:List Ob)(e:Cx:=cx):ar:=bg o8 (.code Kf::.inLoop TM Kf::.inBlock 2 TB::ydo) (U::U::U::U::x4::x5::U::x7::(by(iterate 24 refine U::?_);exact x32::x33::x34::(by(iterate 19 refine U::?_);exact[]))) h e
@[simp] theorem L8:aE Tryz.prog o8=some abi:=by kernel_rfl
@[simp] theorem azh:az Tryz.prog o8=true:=by kernel_rfl
abbrev wJ:zR:=[o 4 (.mv (.c (.bool true)))]
abbrev Ve:zB:=I::I::O::O::O::I::(by(iterate 20 refine O::?_);exact[])
abbrev pL:zB:=(by(iterate 26 refine O::?_);exact[])
abbrev Tq:zR:=[ab 15 5,bL 16 15 1,ab 5 16]
abbrev mP:zR:=[oG 4]
abbrev oM:aj:=.seq (.ae mP) .ret
abbrev ydw:zR:=[ab 17 0,ab 18 5,bl 19 1 17 18,ai 20 1 19,ab 21 1,ab 22 5,bl 23 1 21 22,ai 24 1 23,o 25 (.cmp .neq (.sc .str) (.t 20) (.t 24))]
abbrev ydx:aj:=.seq (.aP [O,O,O,O,O,O,O,O,O] [10,10,10,10,10,10,10,10,10] ydw) (.cond (.t 25) oM .skip)
abbrev ydy:zR:=[ab 11 5,ab 12 0,aX 13 12,cU 14 11 13]
abbrev Jt:aj:=.seq (.seq (.ae ydy) (.cond (.t 14) .skip (.exit 0))) (.seq (.block 1 [] ydx) (.ae Tq))
abbrev KT:zR:=[bf 5 0]
abbrev AE:zR:=[ab 6 0,aX 7 6,ab 8 1,aX 9 8,o 10 (.cmp .neq (.sc .int) (.t 7) (.t 9))]
abbrev abY:aF:=⟨.seq (.ae mP) (.seq (.seq (.ae AE) (.cond (.t 10) oM .skip)) (.seq (.seq (.ae KT) (.block 0 pL (.loop Ve Jt))) (.seq (.ae wJ) .ret))),26,[.tmp 4]⟩
abbrev AL:zI:=[.code (.seq (.ae wJ) .ret)]
abbrev ydG(x0 x1 x5:AV)(h:List Ob)(e:Cx:=cx):ar:=bg yJ (.code Jt::.inLoop Ve Jt::.inBlock 0 pL::AL) (x0::x1::U::U::U::x5::(by(iterate 20 refine U::?_);exact[])) h e
@[simp] theorem ZW:aE Tryz.prog yJ=some abY:=by kernel_rfl
@[simp] theorem azC:az Tryz.prog yJ=true:=by kernel_rfl
abbrev Es:zR:=[aN 148 8 2,aL 8 2 148,q (.store 1 (.t 3) (.c (.int .i64 0))),q (.store 1 (.t 4) (.c (.str [])))]
abbrev DX:zR:=[ab 140 7,o 141 (.bx (.t 140)),al 142 0 141,aN 143 5 142,ba 144 n6 143,ab 139 144,bC 145 139 0,bC 146 139 1,al 147 0 2,aL 5 147 145]
abbrev Eu:zR:=[ab 124 7,ab 125 7,ab 126 11,ab 127 12,o 128 (.call (.t 126) [.t 127]),ab 129 11,al 130 1 1,ai 131 1 130,o 132 (.call (.t 129) [.t 131]),o 133 (.bx (.t 124)),al 134 0 133,al 135 1 134,aL 1 135 128,o 136 (.bx (.t 125)),al 137 0 136,al 138 4 137,aL 1 138 132]
abbrev D':zB:=O::I::I::I::I::O::O::I::I::O::O::I::I::(by(iterate 89 refine O::?_);exact I::I::I::(by(iterate 44 refine O::?_);exact[]))
abbrev Ej:zB:=O::I::I::I::I::O::O::I::O::O::O::I::I::(by(iterate 136 refine O::?_);exact[])
abbrev ydM:zR:=[bL 123 104 1,ab 104 123]
abbrev ydN:zR:=[ai 113 1 8,al 114 0 19,ai 115 1 114,ab 116 7,aN 117 5 19,ab 118 11,al 119 2 19,ai 120 1 119,o 121 (.call (.t 118) [.t 120]),o 122 (.call (.f xI) [.t 116,.t 117,.t 121]),q (.bM (.sc .str) (.t 113) (.t 115) (.t 122))]
abbrev ydO:zR:=[al 108 3 1,ai 109 1 108,ab 110 18,bl 111 5 109 110,aN 112 5 111,o 19 (.alloc [.str [],.int .i64 0,.own 1 au [],.own 1 au [],.bool false]),aL 5 19 112]
abbrev ydP:zR:=[bl 106 1 102 104,ai 107 1 106,ab 18 107]
abbrev ydQ:aj:=.seq (.ae ydP) (.seq (.ae ydO) (.aP [I,O,I,O,I,O,O,O,O,O,O] [11,11,11,10,10,9,9,9,10,11,12] ydN))
abbrev ydR:zR:=[cU 105 104 103]
abbrev Ap:aj:=.seq (.ae ydR) (.seq (.cond (.t 105) .skip (.exit 4)) (.seq (.block 5 [] ydQ) (.ae ydM)))
abbrev KN:zR:=[ab 102 15,aX 103 102,bf 104 0]
abbrev Le:zR:=[aN 98 4 1,ba 99 o8 98,ab 97 99,bC 100 97 0,bC 101 97 1,ab 15 100,ab 16 101]
abbrev K3:zB:=O::I::I::I::I::O::O::I::I::O::O::I::I::(by(iterate 52 refine O::?_);exact I::I::I::(by(iterate 81 refine O::?_);exact[]))
abbrev Kn:zB:=O::I::I::I::I::O::O::I::I::O::O::I::I::(by(iterate 136 refine O::?_);exact[])
abbrev ydX:zR:=[bL 96 67 1,ab 67 96]
abbrev ydY:zR:=[ab 91 12,al 92 1 14,ai 93 1 92,o 94 (.lit 1 [.str []] [(0,.t 93)]),o 95 (.append 1 au 16 (.t 91) (.t 94)),ab 12 95]
abbrev ydZ:zR:=[ab 78 7,ab 79 7,o 80 (.bx (.t 79)),al 81 0 80,al 82 2 81,ai 83 1 82,al 84 2 14,ai 85 1 84,o 86 (.lit 1 [.int .i64 0] [(0,.t 85)]),o 87 (.append 1 aq 8 (.t 83) (.t 86)),o 88 (.bx (.t 78)),al 89 0 88,al 90 2 89,aL 1 90 87]
abbrev yea:zR:=[al 71 6 2,ai 72 1 71,al 73 0 14,ai 74 1 73,o 75 (.lit 1 [.str []] [(0,.t 74)]),o 76 (.append 1 au 16 (.t 72) (.t 75)),al 77 6 2,aL 1 77 76]
abbrev yeb:zR:=[bl 69 3 65 67,aN 70 3 69,o 14 (.alloc [.str [],.str [],.int .i64 0]),aL 3 14 70]
abbrev yec:aj:=.seq (.ae yeb) (.seq (.ae yea) (.seq (.aP [O,O,O,O,O,I,O,O,O,O,O,O,O,O] [14,10,10,10,10,10,9,9,10,14,14,14,14,15] ydZ) (.ae ydY)))
abbrev yed:zR:=[cU 68 67 66]
abbrev Ee:aj:=.seq (.ae yed) (.seq (.cond (.t 68) .skip (.exit 2)) (.seq (.block 3 [] yec) (.ae ydX)))
abbrev UM:zR:=[al 64 2 1,ai 65 1 64,aX 66 65,bf 67 0]
abbrev TI:zR:=[o 12 (.dP 1 au)]
abbrev U0:zR:=[o 63 (.fW (.func p9) [] [.t 8]),ab 11 63]
abbrev U4:zB:=O::I::I::I::I::O::O::I::I::(by(iterate 41 refine O::?_);exact I::I::I::(by(iterate 96 refine O::?_);exact[]))
abbrev Tk:zB:=O::I::I::I::I::O::O::I::I::(by(iterate 140 refine O::?_);exact[])
abbrev yek:zR:=[bL 62 52 1,ab 52 62]
abbrev yel:zR:=[ai 57 1 8,ab 58 10,ab 59 9,bL 60 59 1,o 61 (.bG .mul (.c (.int .i64 2)) (.t 60)),q (.bM (.sc .str) (.t 57) (.t 58) (.t 61))]
abbrev yem:zR:=[ab 54 52,bl 55 1 50 52,ai 56 1 55,ab 9 54,ab 10 56]
abbrev yen:aj:=.seq (.ae yem) (.ae yel)
abbrev yeo:zR:=[cU 53 52 51]
abbrev KC:aj:=.seq (.ae yeo) (.seq (.cond (.t 53) .skip (.exit 0)) (.seq (.block 1 [] yen) (.ae yek)))
abbrev yeq:zR:=[aN 49 4 1,ba 50 tB 49,aX 51 50,bf 52 0]
abbrev yer:zR:=[o 48 (.mkMap),o 8 (.alloc [.dp]),aL 1 8 48]
abbrev yeu:zR:=[al 41 0 1,ai 42 1 41,ba 43 pZ 42,al 44 1 1,ai 45 1 44,ba 46 pZ 45,o 47 (.build [.int .i64 0,.list true 0 [],.list true 0 [],.list true 0 [],.list true 0 [],.list true 0 [],.list true 0 [],.list true 0 []] [(5,1,.t 43),(7,1,.t 46)]),aL 8 2 47]
abbrev yev:zR:=[al 31 0 1,ai 32 1 31,aX 33 32,al 34 2 1,ai 35 1 34,aX 36 35,o 37 (.mkSlice 1 aq 8 (.int .i64 0) (.t 36) (.t 36)),o 38 (.build [.int .i64 0,.list true 0 [],.list true 0 [],.list true 0 [],.list true 0 []] [(0,1,.t 33),(1,1,.t 37)]),o 39 (.build [.int .i64 0,.list true 0 [],.list true 0 [],.list true 0 [],.list true 0 []] [(0,5,.t 38)]),o 40 (.box 5 (.t 39)),ab 7 40]
abbrev yew:zR:=[o 30 (.fW (.func Bm) [] [.t 2,.t 3,.t 4]),q (.defer (.t 30) [])]
abbrev yex:zR:=[o 27 (.build [.int .i64 0,.list true 0 [],.list true 0 [],.list true 0 [],.list true 0 [],.list true 0 [],.list true 0 [],.list true 0 []] []),ab 28 5,ab 29 6,aL 8 2 27,aL 1 3 28,aL 1 4 29]
abbrev yey:aj:=.seq (.ae yex) .ret
abbrev yez:zR:=[ab 25 5,o 26 (.cmp .neq (.sc .int) (.t 25) (.c (.int .i64 0)))]
abbrev yeA:zR:=[aN 21 4 1,ba 22 Bp 21,ab 20 22,bC 23 20 0,bC 24 20 1,ab 5 23,ab 6 24]
abbrev yeB:zR:=[o 1 (.box 4 (.t 0)),o 2 (.alloc [.int .i64 0,.own 1 aq [],.own 1 aq [],.own 2 cT [],.own 1 aq [],.own 1 au [],.own 1 au [],.own 1 au []]),o 3 (.alloc [.int .i64 0]),o 4 (.alloc [.str []])]
abbrev aai:aF:=⟨.seq (.ae yeB) (.seq (.seq (.ae yeA) (.seq (.ae yez) (.cond (.t 26) yey .skip))) (.seq (.ae yew) (.seq (.aP [O,I,O,O,O,O,O,O,O,O,O] [10,10,10,7,7,7,10,10,10,12,12] yev) (.seq (.aP [O,O,O,O,I,O,O,O] [3,3,6,6,6,8,8,9] yeu) (.seq (.ae yer) (.seq (.seq (.ae yeq) (.block 0 Tk (.loop U4 KC))) (.seq (.ae U0) (.seq (.ae TI) (.seq (.seq (.ae UM) (.block 2 Kn (.loop K3 Ee))) (.seq (.ae Le) (.seq (.seq (.ae KN) (.block 4 Ej (.loop D' Ap))) (.seq (.aP [O,O,O,O,O,O,O,I,O,O,O,O,O,O,O,O,O] [13,17,5,5,9,9,9,9,13,13,13,13,17,17,17,17,18] Eu) (.seq (.ae DX) (.seq (.ae Es) .ret)))))))))))))),149,[.cell 2 true 8,.cell 3 false 1,.cell 4 false 1]⟩
abbrev Vo:zI:=[.code (.seq (.aP [O,O,O,O,O,O,O,I,O,O,O,O,O,O,O,O,O] [13,17,5,5,9,9,9,9,13,13,13,13,17,17,17,17,18] Eu) (.seq (.ae DX) (.seq (.ae Es) .ret)))]
abbrev yeD(x1 x2 x3 x4 x7 x8 x11 x12 x102 x103 x104:AV)(h:List Ob)(e:Cx:=cx):ar:=bg n5 (.code Ap::.inLoop D' Ap::.inBlock 4 Ej::Vo) (U::x1::x2::x3::x4::U::U::x7::x8::U::U::x11::x12::(by(iterate 89 refine U::?_);exact x102::x103::x104::(by(iterate 44 refine U::?_);exact[]))) h e
abbrev yeE(x1 x2 x3 x4 x7 x11 x12:AV)(h:List Ob)(e:Cx:=cx):ar:=bg n5 Vo (U::x1::x2::x3::x4::U::U::x7::U::U::U::x11::x12::(by(iterate 136 refine U::?_);exact[])) h e
abbrev T3:zI:=[.code (.seq (.ae Le) (.seq (.seq (.ae KN) (.block 4 Ej (.loop D' Ap))) (.seq (.aP [O,O,O,O,O,O,O,I,O,O,O,O,O,O,O,O,O] [13,17,5,5,9,9,9,9,13,13,13,13,17,17,17,17,18] Eu) (.seq (.ae DX) (.seq (.ae Es) .ret)))))]
abbrev yeG(x1 x2 x3 x4 x7 x8 x11 x12 x65 x66 x67:AV)(h:List Ob)(e:Cx:=cx):ar:=bg n5 (.code Ee::.inLoop K3 Ee::.inBlock 2 Kn::T3) (U::x1::x2::x3::x4::U::U::x7::x8::U::U::x11::x12::(by(iterate 52 refine U::?_);exact x65::x66::x67::(by(iterate 81 refine U::?_);exact[]))) h e
abbrev yeH(x1 x2 x3 x4 x7 x8 x11 x12:AV)(h:List Ob)(e:Cx:=cx):ar:=bg n5 T3 (U::x1::x2::x3::x4::U::U::x7::x8::U::U::x11::x12::(by(iterate 136 refine U::?_);exact[])) h e
abbrev Ug:zI:=[.code (.seq (.ae U0) (.seq (.ae TI) (.seq (.seq (.ae UM) (.block 2 Kn (.loop K3 Ee))) (.seq (.ae Le) (.seq (.seq (.ae KN) (.block 4 Ej (.loop D' Ap))) (.seq (.aP [O,O,O,O,O,O,O,I,O,O,O,O,O,O,O,O,O] [13,17,5,5,9,9,9,9,13,13,13,13,17,17,17,17,18] Eu) (.seq (.ae DX) (.seq (.ae Es) .ret))))))))]
abbrev yeJ(x1 x2 x3 x4 x7 x8 x50 x51 x52:AV)(h:List Ob)(e:Cx:=cx):ar:=bg n5 (.code KC::.inLoop U4 KC::.inBlock 0 Tk::Ug) (U::x1::x2::x3::x4::U::U::x7::x8::(by(iterate 41 refine U::?_);exact x50::x51::x52::(by(iterate 96 refine U::?_);exact[]))) h e
abbrev yeK(x1 x2 x3 x4 x7 x8:AV)(h:List Ob)(e:Cx:=cx):ar:=bg n5 Ug (U::x1::x2::x3::x4::U::U::x7::x8::(by(iterate 140 refine U::?_);exact[])) h e
@[simp] theorem YP:aE Tryz.prog n5=some aai:=by kernel_rfl
@[simp] theorem ay1:az Tryz.prog n5=true:=by kernel_rfl
abbrev yeL:zR:=[al 5 0 2,aN 6 5 5,al 7 0 3,aN 8 5 7,cX 9 BF 6 8,ab 10 9,oy 11 10 (.off 5 (.t 2)),bQ 12 10 1 11,oy 13 10 (.off 5 (.t 3)),bQ 14 10 1 13,oy 15 10 (.call (.f n3) [.t 12,.t 14]),bX 16 10 15,ab 17 16,oy 18 17 (.off 6 (.t 2)),bQ 19 17 1 18,oy 20 17 (.off 6 (.t 3)),bQ 21 17 1 20,oy 22 17 (.call (.f n3) [.t 19,.t 21]),bX 23 17 22,ab 24 23,oy 25 24 (.off 7 (.t 2)),bQ 26 24 1 25,oy 27 24 (.off 7 (.t 3)),bQ 28 24 1 27,oy 29 24 (.call (.f n3) [.t 26,.t 28]),bX 30 24 29,ab 4 30]
abbrev yeM:zR:=[o 2 (.box 8 (.t 0)),o 3 (.box 8 (.t 1)),oG 4]
abbrev aa2:aF:=⟨.seq (.ae yeM) (.seq (.ae yeL) .ret),31,[.tmp 4]⟩
@[simp] theorem Y_:aE Tryz.prog Bw=some aa2:=by kernel_rfl
@[simp] theorem azp:az Tryz.prog Bw=true:=by kernel_rfl
abbrev yeN:zR:=[al 5 0 2,ai 6 1 5,al 7 0 3,ai 8 1 7,cX 9 n3 6 8,ab 10 9,oy 11 10 (.off 1 (.t 2)),bQ 12 10 1 11,oy 13 10 (.off 1 (.t 3)),bQ 14 10 1 13,oy 15 10 (.call (.f n3) [.t 12,.t 14]),bX 16 10 15,ab 17 16,oy 18 17 (.off 2 (.t 2)),bQ 19 17 1 18,oy 20 17 (.off 2 (.t 3)),bQ 21 17 1 20,oy 22 17 (.call (.f xz) [.t 19,.t 21]),bX 23 17 22,ab 24 23,oy 25 24 (.off 3 (.t 2)),bQ 26 24 1 25,oy 27 24 (.off 3 (.t 3)),bQ 28 24 1 27,oy 29 24 (.call (.f xx) [.t 26,.t 28,.f vk]),bX 30 24 29,ab 4 30]
abbrev yeO:zR:=[o 2 (.box 4 (.t 0)),o 3 (.box 4 (.t 1)),oG 4]
abbrev ae1:aF:=⟨.seq (.ae yeO) (.seq (.ae yeN) .ret),31,[.tmp 4]⟩
@[simp] theorem aba:aE Tryz.prog BT=some ae1:=by kernel_rfl
@[simp] theorem azY:az Tryz.prog BT=true:=by kernel_rfl
abbrev VX:zR:=[ab 23 0,aX 24 23,ab 25 1,o 26 (.cmp .leq (.sc .int) (.t 24) (.t 25)),ab 4 26]
abbrev TQ:zB:=I::I::O::O::O::I::(by(iterate 21 refine O::?_);exact[])
abbrev Vz:zB:=I::I::(by(iterate 25 refine O::?_);exact[])
abbrev yeV:zR:=[ab 17 0,ab 18 5,bl 19 1 17 18,ai 20 1 19,o 21 (.qA (.t 20)),o 22 (.cmp .gtr (.sc .int) (.t 21) (.c (.int .i64 60)))]
abbrev yeW:aj:=.seq (.ae yeV) (.cond (.t 22) oM .skip)
abbrev yeX:zR:=[ab 6 5,ab 7 0,aX 8 7,cU 9 6 8,ab 10 9,dH 11 10 5,dH 12 10 1,oy 13 10 (.cmp .leq (.sc .int) (.t 11) (.t 12)),bX 14 10 13]
abbrev Kj:aj:=.seq (.seq (.ae yeX) (.cond (.t 14) .skip (.exit 0))) (.seq (.block 1 [] yeW) (.ae Tq))
abbrev aci:aF:=⟨.seq (.ae mP) (.seq (.seq (.ae KT) (.block 0 Vz (.loop TQ Kj))) (.seq (.ae VX) .ret)),27,[.tmp 4]⟩
abbrev yfb:zI:=[.code (.seq (.ae VX) .ret)]
abbrev yfc(x0 x1 x5:AV)(h:List Ob)(e:Cx:=cx):ar:=bg tv (.code Kj::.inLoop TQ Kj::.inBlock 0 Vz::yfb) (x0::x1::U::U::U::x5::(by(iterate 21 refine U::?_);exact[])) h e
@[simp] theorem ZJ:aE Tryz.prog tv=some aci:=by kernel_rfl
@[simp] theorem azz:az Tryz.prog tv=true:=by kernel_rfl
abbrev Jk:zR:=[ai 91 1 3,ab 2 91]
abbrev JX:zR:=[ai 81 1 3,ai 82 1 3,o 83 (.bx (.t 82)),al 84 4 83,ai 85 1 84,al 86 7 1,ai 87 1 86,o 88 (.append 1 au 16 (.t 85) (.t 87)),o 89 (.bx (.t 81)),al 90 4 89,aL 1 90 88]
abbrev Ar:zB:=O::I::O::I::(by(iterate 42 refine O::?_);exact I::I::I::(by(iterate 43 refine O::?_);exact[]))
abbrev KF:zB:=O::I::O::I::(by(iterate 88 refine O::?_);exact[])
abbrev VA:zR:=[bL 80 48 1,ab 48 80]
abbrev Tg:zB:=O::I::O::I::(by(iterate 42 refine O::?_);exact I::I::I::O::O::O::I::I::I::(by(iterate 37 refine O::?_);exact[]))
abbrev yfk:zR:=[bL 79 54 1,ab 54 79]
abbrev gY:zR:=[ai 68 1 3,o 69 (.bx (.t 68)),al 70 5 69,ai 71 1 70,ai 72 1 3,o 73 (.bx (.t 72)),al 74 4 73,ai 75 1 74,aX 76 75,o 77 (.bG .mul (.c (.int .i64 2)) (.t 76)),ab 78 7,q (.bM (.sc .int) (.t 71) (.t 77) (.t 78))]
abbrev yfm:zR:=[ai 58 1 3,ai 59 1 3,o 60 (.bx (.t 59)),al 61 4 60,ai 62 1 61,ab 63 7,o 64 (.lit 1 [.str []] [(0,.t 63)]),o 65 (.append 1 au 16 (.t 62) (.t 64)),o 66 (.bx (.t 58)),al 67 4 66,aL 1 67 65]
abbrev yfn:zR:=[bl 56 1 52 54,ai 57 1 56,ab 7 57]
abbrev yfo:aj:=.seq (.ae yfn) (.seq (.aP [I,I,O,O,I,O,O,O,O,O,O] [11,8,8,8,8,7,8,11,11,11,12] yfm) (.aP [O,O,O,O,O,O,O,O,O,O,O,O] [12,12,12,12,12,12,12,12,12,12,12,13] gY))
abbrev yfp:zR:=[cU 55 54 53]
abbrev Ky:aj:=.seq (.ae yfp) (.seq (.cond (.t 55) .skip (.exit 2)) (.seq (.block 3 [] yfo) (.ae yfk)))
abbrev yfr:zR:=[ab 52 5,aX 53 52,bf 54 0]
abbrev yfs:zR:=[bl 50 1 46 48,ai 51 1 50,ab 5 51]
abbrev yft:aj:=.seq (.ae yfs) (.seq (.ae yfr) (.block 2 Ar (.loop Tg Ky)))
abbrev yfu:zR:=[cU 49 48 47]
abbrev Ef:aj:=.seq (.ae yfu) (.seq (.cond (.t 49) .skip (.exit 0)) (.seq (.block 1 [] yft) (.ae VA)))
abbrev yfw:zR:=[al 42 5 1,ai 43 1 42,al 44 6 1,ai 45 1 44,o 46 (.lit 1 [.list true 0 [],.list true 0 []] [(0,.t 43),(1,.t 45)]),aX 47 46,bf 48 0]
abbrev yfx:zR:=[ai 39 1 3,o 40 (.bx (.t 39)),al 41 7 40,q (.store 1 (.t 41) (.f xQ))]
abbrev yfy:zR:=[ai 35 1 3,o 36 (.fW (.func te) [] [.t 3]),o 37 (.bx (.t 35)),al 38 6 37,aL 1 38 36]
abbrev yfz:zR:=[ai 11 1 3,ai 12 1 3,ai 13 1 3,o 14 (.bx (.t 13)),al 15 0 14,al 16 0 15,ai 17 1 16,al 18 5 1,ai 19 1 18,o 20 (.append 1 au 16 (.t 17) (.t 19)),ai 21 1 3,o 22 (.bx (.t 21)),al 23 0 22,al 24 1 23,ai 25 1 24,al 26 7 1,ai 27 1 26,o 28 (.append 1 au 16 (.t 25) (.t 27)),o 29 (.bx (.t 11)),al 30 0 29,al 31 0 30,aL 1 31 20,o 32 (.bx (.t 12)),al 33 0 32,al 34 1 33,aL 1 34 28]
abbrev yfA:zR:=[o 8 (.mkMap),o 9 (.build [.list true 0 [],.list true 0 [],.list true 0 [],.list true 0 [],.list true 0 [],.dp,.dS,.dS] [(5,1,.t 8)]),o 10 (.box 8 (.t 9)),o 3 (.alloc [.jT]),aL 1 3 10]
abbrev yfB:zR:=[o 1 (.box 8 (.t 0)),o 2 (.mv (.c .jT))]
abbrev Z':aF:=⟨.seq (.ae yfB) (.seq (.ae yfA) (.seq (.aP [I,I,O,O,O,O,O,O,O,O,I,O,O,O,I,O,I,O,O,O,O,O,O,O,O,O] [22,26,10,10,10,10,10,10,10,18,18,18,18,18,18,18,18,22,22,22,22,26,26,26,26,27] yfz) (.seq (.ae yfy) (.seq (.ae yfx) (.seq (.seq (.ae yfw) (.block 0 KF (.loop Ar Ef))) (.seq (.aP [I,O,O,O,O,O,O,O,O,O,O] [11,8,8,8,8,8,8,11,11,11,12] JX) (.seq (.ae Jk) .ret))))))),92,[.tmp 2]⟩
abbrev Vt:zI:=[.inBlock 1 [],.code (.ae VA),.inLoop Ar Ef,.inBlock 0 KF,.code (.seq (.aP [I,O,O,O,O,O,O,O,O,O,O] [11,8,8,8,8,8,8,11,11,11,12] JX) (.seq (.ae Jk) .ret))]
abbrev yfD(x1 x3 x46 x47 x48 x52 x53 x54:AV)(h:List Ob)(e:Cx:=cx):ar:=bg th (.code Ky::.inLoop Tg Ky::.inBlock 2 Ar::Vt) (U::x1::U::x3::(by(iterate 42 refine U::?_);exact x46::x47::x48::U::U::U::x52::x53::x54::(by(iterate 37 refine U::?_);exact[]))) h e
abbrev yfE(x1 x3 x46 x47 x48:AV)(h:List Ob)(e:Cx:=cx):ar:=bg th Vt (U::x1::U::x3::(by(iterate 42 refine U::?_);exact x46::x47::x48::(by(iterate 43 refine U::?_);exact[]))) h e
abbrev yfF:zI:=[.code (.seq (.aP [I,O,O,O,O,O,O,O,O,O,O] [11,8,8,8,8,8,8,11,11,11,12] JX) (.seq (.ae Jk) .ret))]
abbrev yfG(x1 x3 x46 x47 x48:AV)(h:List Ob)(e:Cx:=cx):ar:=bg th (.code Ef::.inLoop Ar Ef::.inBlock 0 KF::yfF) (U::x1::U::x3::(by(iterate 42 refine U::?_);exact x46::x47::x48::(by(iterate 43 refine U::?_);exact[]))) h e
@[simp] theorem YQ:aE Tryz.prog th=some Z':=by kernel_rfl
@[simp] theorem azf:az Tryz.prog th=true:=by kernel_rfl
abbrev yfH:zR:=[ab 27 0,o 28 (.bx (.t 27)),al 29 5 28,ai 30 1 29,ab 31 1,o 32 (.lookup (.sc .int) (.str []) (.t 30) (.t 31) false),ab 4 32]
abbrev yfI:zR:=[ab 18 0,ab 19 1,ab 20 0,o 21 (.bx (.t 20)),al 22 7 21,ai 23 1 22,ab 24 1,o 25 (.call (.t 23) [.t 24]),o 26 (.call (.f xJ) [.t 18,.t 19,.t 25])]
abbrev yfJ:zR:=[ab 16 6,o 17 (.not (.t 16))]
abbrev yfK:zR:=[ab 8 0,o 9 (.bx (.t 8)),al 10 5 9,ai 11 1 10,ab 12 1,o 13 (.lookup (.sc .int) (.str []) (.t 11) (.t 12) true),ab 7 13,bC 14 7 0,bC 15 7 1,ab 5 14,ab 6 15]
abbrev yfL:zR:=[o 4 (.mv (.c (.str [])))]
abbrev XQ:aF:=⟨.seq (.ae yfL) (.seq (.seq (.ae yfK) (.seq (.ae yfJ) (.cond (.t 17) (.ae yfI) .skip))) (.seq (.ae yfH) .ret)),33,[.tmp 4]⟩
@[simp] theorem Xw:aE Tryz.prog uR=some XQ:=by kernel_rfl
@[simp] theorem aye:az Tryz.prog uR=true:=by kernel_rfl
abbrev yfM:zR:=[ab 40 0,o 41 (.bx (.t 40)),al 42 6 41,ai 43 1 42,aN 44 5 6,o 45 (.call (.t 43) [.t 44])]
abbrev yfN:zR:=[ab 33 0,o 34 (.bx (.t 33)),al 35 5 34,ai 36 1 35,ab 37 1,al 38 0 6,ai 39 1 38,q (.bM (.sc .int) (.t 36) (.t 37) (.t 39))]
abbrev yfO:zR:=[ab 22 0,ab 23 0,o 24 (.bx (.t 23)),al 25 4 24,ai 26 1 25,al 27 0 6,ai 28 1 27,o 29 (.lit 1 [.str []] [(0,.t 28)]),o 30 (.append 1 au 16 (.t 26) (.t 29)),o 31 (.bx (.t 22)),al 32 4 31,aL 1 32 30]
abbrev yfP:zR:=[ab 16 0,o 17 (.bx (.t 16)),al 18 4 17,ai 19 1 18,o 20 (.call (.f u0) [.t 19,.c (.str [110])]),al 21 0 6,aL 1 21 20]
abbrev yfQ:zR:=[ab 7 2,ab 8 0,o 9 (.bx (.t 8)),al 10 5 9,ai 11 1 10,o 12 (.fW (.method s9) [.t 7] []),o 13 (.bx (.t 12)),ab 14 7,o 15 (.invoke (.t 14) s9 [.t 11]),o 6 (.alloc [.str [],.int .i64 0,.own 1 au [],.own 1 au [],.bool false]),aL 5 6 15]
abbrev XI:aF:=⟨.seq (.aP [O,O,O,O,I,O,O,O,I,O,O] [11,11,11,11,11,11,11,11,11,11,12] yfQ) (.seq (.ae yfP) (.seq (.aP [O,O,O,O,I,O,O,O,O,O,O,O] [12,9,9,9,9,8,8,9,12,12,12,13] yfO) (.seq (.aP [O,O,O,O,O,O,O,O] [8,8,8,8,8,8,8,9] yfN) (.aP [O,O,O,O,O,O] [6,6,6,6,6,7] yfM)))),46,[]⟩
@[simp] theorem Fj:aE Tryz.prog xJ=some XI:=by kernel_rfl
@[simp] theorem ax4:az Tryz.prog xJ=true:=by kernel_rfl
abbrev yfR:zR:=[aN 39 5 7,aL 5 6 39]
abbrev yfS:zR:=[ab 37 1,al 38 0 7,aL 1 38 37]
abbrev yfT:zR:=[ab 29 0,o 30 (.bx (.t 29)),al 31 5 30,ai 32 1 31,ab 33 2,o 34 (.lookup (.sc .int) (.str []) (.t 32) (.t 33) false),o 35 (.lit 1 [.str []] [(0,.t 34)]),o 36 (.build [.str [],.int .i64 0,.list true 0 [],.list true 0 [],.bool false] [(1,1,.c (.int .i64 2)),(2,1,.t 35)]),aL 5 7 36]
abbrev yfU:zR:=[ab 22 2,o 23 (.cmp .gtr (.sc .int) (.t 22) (.c (.int .i64 1))),ab 24 23,dH 25 24 2,oy 26 24 (.bG .and (.t 25) (.c (.int .i64 1))),oy 27 24 (.cmp .eql (.sc .int) (.t 26) (.c (.int .i64 0))),bX 28 24 27]
abbrev yfV:zR:=[ab 8 0,o 9 (.bx (.t 8)),al 10 7 9,ai 11 1 10,ab 12 2,o 13 (.call (.t 11) [.t 12]),ab 14 0,o 15 (.bx (.t 14)),al 16 5 15,ai 17 1 16,o 18 (.fW (.method s9) [.t 13] []),o 19 (.bx (.t 18)),ab 20 13,o 21 (.invoke (.t 20) s9 [.t 17]),o 7 (.alloc [.str [],.int .i64 0,.own 1 au [],.own 1 au [],.bool false]),aL 5 7 21]
abbrev yfW:zR:=[o 6 (.alloc [.str [],.int .i64 0,.own 1 au [],.own 1 au [],.bool false])]
abbrev Xf:aF:=⟨.seq (.ae yfW) (.seq (.aP [O,O,O,I,O,I,O,O,O,I,O,O,O,I,O,O] [16,16,16,16,16,16,16,16,16,16,16,16,16,16,16,17] yfV) (.seq (.seq (.ae yfU) (.cond (.t 28) (.ae yfT) .skip)) (.seq (.ae yfS) (.seq (.ae yfR) .ret)))),40,[.cell 6 true 5]⟩
@[simp] theorem W5:aE Tryz.prog A'=some Xf:=by kernel_rfl
@[simp] theorem axT:az Tryz.prog A'=true:=by kernel_rfl
abbrev Ay:zR:=[q (.store 1 (.t 2) (.c (.int .i64 0))),q (.store 1 (.t 3) (.c (.str [])))]
abbrev AA:zB:=O::O::I::I::O::O::O::I::(by(iterate 84 refine O::?_);exact[I,I,I,O,O,O,O,O,O,O,O,O])
abbrev AD:zB:=O::O::I::I::(by(iterate 100 refine O::?_);exact[])
abbrev yga:zR:=[bL 103 94 1,ab 94 103]
abbrev ygb:zR:=[ab 98 7,ab 99 13,o 100 (.lookup (.sc .str) (.bool false) (.t 98) (.t 99) false),ab 101 13,o 102 (.call (.f pa) [.t 100,.c (.int .i64 6),.t 101])]
abbrev ygc:zR:=[bl 96 1 92 94,ai 97 1 96,ab 13 97]
abbrev ygd:aj:=.seq (.ae ygc) (.ae ygb)
abbrev yge:zR:=[cU 95 94 93]
abbrev wM:aj:=.seq (.ae yge) (.seq (.cond (.t 95) .skip (.exit 6)) (.seq (.block 7 [] ygd) (.ae yga)))
abbrev D0:zR:=[aN 91 4 1,ba 92 vo 91,aX 93 92,bf 94 0]
abbrev EJ:zB:=O::I::I::I::O::O::O::I::(by(iterate 71 refine O::?_);exact I::I::I::(by(iterate 22 refine O::?_);exact[]))
abbrev uA:zB:=O::I::I::I::O::O::O::I::(by(iterate 96 refine O::?_);exact[])
abbrev ygj:zR:=[bL 90 81 1,ab 81 90]
abbrev JQ:zR:=[aN 85 5 11,ba 86 BH 85,al 87 0 11,ai 88 1 87,o 89 (.call (.f pa) [.t 86,.c (.int .i64 1),.t 88])]
abbrev ygl:zR:=[bl 83 5 79 81,aN 84 5 83,o 11 (.alloc [.str [],.int .i64 0,.own 1 au [],.own 1 au [],.bool false]),aL 5 11 84]
abbrev ygm:aj:=.seq (.ae ygl) (.aP [O,O,O,I,O] [2,5,5,5,6] JQ)
abbrev ygn:zR:=[cU 82 81 80]
abbrev Az:aj:=.seq (.ae ygn) (.seq (.cond (.t 82) .skip (.exit 4)) (.seq (.block 5 [] ygm) (.ae ygj)))
abbrev J8:zR:=[al 78 3 1,ai 79 1 78,aX 80 79,bf 81 0]
abbrev JI:zB:=O::I::I::I::O::O::O::I::(by(iterate 52 refine O::?_);exact I::I::I::(by(iterate 41 refine O::?_);exact[]))
abbrev ygs:zR:=[bL 77 62 1,ab 62 77]
abbrev ygt:zR:=[al 66 2 9,ai 67 1 66,o 68 (.cmp .geq (.sc .int) (.t 67) (.c (.int .i64 0))),ab 69 68,oy 70 69 (.off 2 (.t 9)),bQ 71 69 1 70,oy 72 69 (.cmp .leq (.sc .int) (.t 71) (.c (.int .i64 2))),bX 73 69 72,al 74 0 9,ai 75 1 74,o 76 (.call (.f pa) [.t 73,.c (.int .i64 1),.t 75])]
abbrev ygu:zR:=[bl 64 3 60 62,aN 65 3 64,o 9 (.alloc [.str [],.str [],.int .i64 0]),aL 3 9 65]
abbrev ygv:aj:=.seq (.ae ygu) (.ae ygt)
abbrev U6:zR:=[cU 63 62 61]
abbrev D5:aj:=.seq (.ae U6) (.seq (.cond (.t 63) .skip (.exit 2)) (.seq (.block 3 [] ygv) (.ae ygs)))
abbrev Vj:zR:=[al 59 2 1,ai 60 1 59,aX 61 60,bf 62 0]
abbrev Te:zR:=[al 56 1 1,ai 57 1 56,ba 58 tz 57]
abbrev TH:zR:=[aN 53 4 1,ba 54 tB 53,ba 55 tz 54,ab 7 55]
abbrev T6:zB:=O::I::I::I::(by(iterate 38 refine O::?_);exact I::I::I::(by(iterate 59 refine O::?_);exact[]))
abbrev TT:zB:=O::I::I::I::(by(iterate 100 refine O::?_);exact[])
abbrev ygD:zR:=[bL 52 44 1,ab 44 52]
abbrev ygE:zR:=[ab 48 6,ba 49 xX 48,ab 50 6,o 51 (.call (.f pa) [.t 49,.c (.int .i64 4),.t 50])]
abbrev ygF:zR:=[bl 46 1 42 44,ai 47 1 46,ab 6 47]
abbrev ygG:aj:=.seq (.ae ygF) (.ae ygE)
abbrev ygH:zR:=[cU 45 44 43]
abbrev Kb:aj:=.seq (.ae ygH) (.seq (.cond (.t 45) .skip (.exit 0)) (.seq (.block 1 [] ygG) (.ae ygD)))
abbrev ygJ:zR:=[aN 41 4 1,ba 42 vm 41,aX 43 42,bf 44 0]
abbrev ygK:zR:=[al 15 0 1,ai 16 1 15,aX 17 16,al 18 2 1,ai 19 1 18,aX 20 19,o 21 (.bG .add (.t 17) (.t 20)),al 22 3 1,ai 23 1 22,aX 24 23,o 25 (.bG .add (.t 21) (.t 24)),o 26 (.cmp .leq (.sc .int) (.t 25) (.c (.int .i64 200))),ab 27 26,oy 28 27 (.off 1 (.t 1)),bQ 29 27 1 28,oy 30 27 (.len (.t 29)),oy 31 27 (.cmp .leq (.sc .int) (.t 30) (.c (.int .i64 200))),bX 32 27 31,ab 33 32,oy 34 33 (.off 3 (.t 1)),bQ 35 33 1 34,dH 36 33 4,oy 37 33 (.call (.f A6) [.t 35,.t 36]),oy 38 33 (.not (.t 37)),bX 39 33 38,o 40 (.call (.f pa) [.t 39,.c (.int .i64 8),.c (.str [])])]
abbrev ygL:zR:=[o 4 (.mv (.f xT))]
abbrev ygM:zR:=[o 14 (.fW (.func Bu) [] [.t 2,.t 3]),q (.defer (.t 14) [])]
abbrev ygN:zR:=[o 1 (.box 4 (.t 0)),o 2 (.alloc [.int .i64 0]),o 3 (.alloc [.str []])]
abbrev acW:aF:=⟨.seq (.ae ygN) (.seq (.ae ygM) (.seq (.ae ygL) (.seq (.ae ygK) (.seq (.seq (.ae ygJ) (.block 0 TT (.loop T6 Kb))) (.seq (.ae TH) (.seq (.ae Te) (.seq (.seq (.ae Vj) (.block 2 uA (.loop JI D5))) (.seq (.seq (.ae J8) (.block 4 uA (.loop EJ Az))) (.seq (.seq (.ae D0) (.block 6 AD (.loop AA wM))) (.seq (.ae Ay) .ret)))))))))),104,[.cell 2 false 1,.cell 3 false 1]⟩
abbrev ygO:zI:=[.code (.seq (.ae Ay) .ret)]
abbrev ygP(x2 x3 x7 x92 x93 x94:AV)(h:List Ob)(e:Cx:=cx):ar:=bg n8 (.code wM::.inLoop AA wM::.inBlock 6 AD::ygO) (U::U::x2::x3::U::U::U::x7::(by(iterate 84 refine U::?_);exact[x92,x93,x94,U,U,U,U,U,U,U,U,U])) h e
abbrev ygQ:zI:=[.code (.seq (.seq (.ae D0) (.block 6 AD (.loop AA wM))) (.seq (.ae Ay) .ret))]
abbrev ygR(x1 x2 x3 x7 x79 x80 x81:AV)(h:List Ob)(e:Cx:=cx):ar:=bg n8 (.code Az::.inLoop EJ Az::.inBlock 4 uA::ygQ) (U::x1::x2::x3::U::U::U::x7::(by(iterate 71 refine U::?_);exact x79::x80::x81::(by(iterate 22 refine U::?_);exact[]))) h e
abbrev ygS:zI:=[.code (.seq (.seq (.ae J8) (.block 4 uA (.loop EJ Az))) (.seq (.seq (.ae D0) (.block 6 AD (.loop AA wM))) (.seq (.ae Ay) .ret)))]
abbrev ygT(x1 x2 x3 x7 x60 x61 x62:AV)(h:List Ob)(e:Cx:=cx):ar:=bg n8 (.code D5::.inLoop JI D5::.inBlock 2 uA::ygS) (U::x1::x2::x3::U::U::U::x7::(by(iterate 52 refine U::?_);exact x60::x61::x62::(by(iterate 41 refine U::?_);exact[]))) h e
abbrev ygU:zI:=[.code (.seq (.ae TH) (.seq (.ae Te) (.seq (.seq (.ae Vj) (.block 2 uA (.loop JI D5))) (.seq (.seq (.ae J8) (.block 4 uA (.loop EJ Az))) (.seq (.seq (.ae D0) (.block 6 AD (.loop AA wM))) (.seq (.ae Ay) .ret))))))]
abbrev ygV(x1 x2 x3 x42 x43 x44:AV)(h:List Ob)(e:Cx:=cx):ar:=bg n8 (.code Kb::.inLoop T6 Kb::.inBlock 0 TT::ygU) (U::x1::x2::x3::(by(iterate 38 refine U::?_);exact x42::x43::x44::(by(iterate 59 refine U::?_);exact[]))) h e
@[simp] theorem MB:aE Tryz.prog n8=some acW:=by kernel_rfl
@[simp] theorem azH:az Tryz.prog n8=true:=by kernel_rfl
abbrev SW:zB:=O::I::(by(iterate 58 refine O::?_);exact I::I::I::(by(iterate 21 refine O::?_);exact[]))
abbrev Vh:zB:=(by(iterate 84 refine O::?_);exact[])
abbrev ygZ:zR:=[bL 83 62 1,ab 62 83]
abbrev yha:zR:=[bf 2 5]
abbrev Vp:aj:=.seq (.ae yha) .ret
abbrev yhc:zR:=[ab 70 6,o 71 (.cmp .geq (.sc .int) (.t 70) (.c (.int .i64 0))),ab 72 71,oy 73 72 (.off 0 (.t 1)),oy 74 72 (.off 4 (.t 73)),bQ 75 72 1 74,dH 76 72 4,oy 77 72 (.jd 1 (.t 75) (.t 76)),bQ 78 72 1 77,dH 79 72 6,oy 80 72 (.bG .mul (.c (.int .i64 2)) (.t 79)),oy 81 72 (.cmp .neq (.sc .int) (.t 78) (.t 80)),bX 82 72 81]
abbrev yhd:zR:=[aN 67 8 1,ab 68 5,cX 69 xW 67 68,ab 6 69]
abbrev yhe:zR:=[ab 64 62,bl 65 1 60 62,ai 66 1 65,ab 4 64,ab 5 66]
abbrev yhf:aj:=.seq (.ae yhe) (.seq (.ae yhd) (.seq (.ae yhc) (.cond (.t 82) Vp .skip)))
abbrev KL:aj:=.seq (.ae U6) (.seq (.cond (.t 63) .skip (.exit 1)) (.seq (.block 2 [] yhf) (.ae ygZ)))
abbrev yhi:zR:=[al 59 7 1,ai 60 1 59,aX 61 60,bf 62 0]
abbrev yhj:zR:=[ab 13 3,ab 2 13]
abbrev yhk:zR:=[bf 2 1]
abbrev yhl:zR:=[bf 2 4]
abbrev yho:zR:=[al 56 7 1,ai 57 1 56,ba 58 u6 57,ab 48 58]
abbrev yhp:zR:=[al 49 5 1,ai 50 1 49,al 51 6 1,ai 52 1 51,o 53 (.lit 1 [.list true 0 [],.list true 0 []] [(0,.t 50),(1,.t 52)]),ba 54 nZ 53,ba 55 u6 54,ab 48 55]
abbrev yhq:aj:=.seq (.ae yhl) .ret
abbrev yhr:aj:=.seq (.seq (.ae yhp) (.cond (.t 48) .skip (.ae yho))) (.cond (.t 48) Vp .skip)
abbrev yhs:zR:=[al 45 7 1,ai 46 1 45,ba 47 vg 46,ab 38 47]
abbrev yht:zR:=[al 42 6 1,ai 43 1 42,ba 44 vg 43,ab 38 44]
abbrev yhu:aj:=.seq (.ae yht) (.cond (.t 38) .skip (.ae yhs))
abbrev yhv:zR:=[al 39 5 1,ai 40 1 39,ba 41 vg 40,ab 38 41]
abbrev Kq:aj:=.seq (.ae yhk) .ret
abbrev yhx:aj:=.seq (.seq (.ae yhv) (.cond (.t 38) .skip yhu)) (.cond (.t 38) yhq yhr)
abbrev yhy:zR:=[al 30 7 1,ai 31 1 30,aX 32 31,al 33 0 1,al 34 4 33,ai 35 1 34,aX 36 35,o 37 (.cmp .neq (.sc .int) (.t 32) (.t 36)),ab 14 37]
abbrev yhz:zR:=[al 22 6 1,ai 23 1 22,aX 24 23,al 25 0 1,al 26 1 25,ai 27 1 26,aX 28 27,o 29 (.cmp .neq (.sc .int) (.t 24) (.t 28)),ab 14 29]
abbrev yhA:aj:=.seq (.ae yhz) (.cond (.t 14) .skip (.ae yhy))
abbrev yhB:zR:=[al 15 5 1,ai 16 1 15,aX 17 16,al 18 0 1,al 19 0 18,ai 20 1 19,o 21 (.cmp .neq (.sc .int) (.t 17) (.t 20)),ab 14 21]
abbrev yhC:aj:=.seq (.ae yhj) .ret
abbrev yhD:aj:=.seq (.seq (.ae yhB) (.cond (.t 14) .skip yhA)) (.cond (.t 14) Kq yhx)
abbrev yhE:zR:=[ab 11 3,o 12 (.cmp .neq (.sc .int) (.t 11) (.c (.int .i64 0))),ab 10 12]
abbrev yhF:aj:=.seq (.ae yhE) (.cond (.t 10) yhC yhD)
abbrev yhG:zR:=[al 7 0 1,aN 8 5 7,ba 9 rK 8,ab 3 9]
abbrev yhH:zR:=[o 1 (.box 8 (.t 0)),bf 2 0]
abbrev ZG:aF:=⟨.seq (.ae yhH) (.seq (.ae yhG) (.seq (.block 0 [] yhF) (.seq (.seq (.ae yhi) (.block 1 Vh (.loop SW KL))) (.seq (.ae AK) .ret)))),84,[.tmp 2]⟩
abbrev Uw:zI:=[.code (.seq (.ae AK) .ret)]
abbrev yhJ(x1 x60 x61 x62:AV)(h:List Ob)(e:Cx:=cx):ar:=bg xU (.code KL::.inLoop SW KL::.inBlock 1 Vh::Uw) (U::x1::(by(iterate 58 refine U::?_);exact x60::x61::x62::(by(iterate 21 refine U::?_);exact[]))) h e
@[simp] theorem YX:aE Tryz.prog xU=some ZG:=by kernel_rfl
@[simp] theorem ay6:az Tryz.prog xU=true:=by kernel_rfl
abbrev Ek:zR:=[ab 92 10,aN 93 5 8,cX 94 Bg 92 93,aL 5 2 94,bf 3 0]
abbrev EL:zB:=O::O::I::O::O::O::O::O::I::I::I::(by(iterate 46 refine O::?_);exact I::I::I::(by(iterate 35 refine O::?_);exact[]))
abbrev D2:zB:=O::O::I::O::O::O::O::O::I::O::I::(by(iterate 84 refine O::?_);exact[])
abbrev yhN:zR:=[bL 91 59 1,ab 59 91]
abbrev yhO:zR:=[ab 81 10,ab 82 10,o 83 (.bx (.t 82)),al 84 6 83,ai 85 1 84,ab 86 13,o 87 (.lit 1 [.int .i64 0] [(0,.t 86)]),o 88 (.append 1 aq 8 (.t 85) (.t 87)),o 89 (.bx (.t 81)),al 90 6 89,aL 1 90 88]
abbrev yhP:zR:=[ab 71 10,ab 72 10,o 73 (.fE 2 1 (.t 12) (.c (.int .i64 0))),ai 74 1 73,cX 75 o6 72 74,ab 76 10,o 77 (.fE 2 1 (.t 12) (.c (.int .i64 1))),ai 78 1 77,cX 79 o6 76 78,o 80 (.call (.f rG) [.t 71,.t 75,.t 79]),ab 13 80]
abbrev yhQ:zR:=[ab 64 9,aN 65 5 8,ba 66 mf 65,ab 67 11,o 68 (.bG .add (.t 66) (.t 67)),bl 69 1 64 68,ai 70 1 69]
abbrev yhR:zR:=[bf 13 0]
abbrev yhS:zR:=[ab 61 59,bl 62 2 57 59,aN 63 2 62,o 12 (.alloc [.int .i64 0,.int .i64 0]),ab 11 61,aL 2 12 63]
abbrev yhT:aj:=.seq (.ae yhS) (.seq (.ae yhR) (.seq (.seq (.ae yhQ) (.cond (.t 70) (.aP [O,O,O,O,O,O,O,I,O,O,O] [10,5,5,5,9,9,9,9,10,12,12] yhP) .skip)) (.ae yhO)))
abbrev yhU:zR:=[cU 60 59 58]
abbrev Au:aj:=.seq (.ae yhU) (.seq (.cond (.t 60) .skip (.exit 2)) (.seq (.block 3 [] yhT) (.ae yhN)))
abbrev Jp:zR:=[al 56 3 8,ai 57 1 56,aX 58 57,bf 59 0]
abbrev Jg:zR:=[aN 54 5 8,ba 55 vd 54,ab 10 55]
abbrev Ub:zR:=[aN 52 5 8,ba 53 tJ 52,ab 9 53]
abbrev Tv:zR:=[ab 49 5,aN 50 5 1,cX 51 Bg 49 50,o 8 (.alloc [.int .i64 0,.own 1 aq [],.own 1 aq [],.own 2 cT [],.own 1 aq []]),aL 5 8 51]
abbrev Tm:zB:=O::I::I::O::O::I::(by(iterate 17 refine O::?_);exact I::I::I::(by(iterate 69 refine O::?_);exact[]))
abbrev Vl:zB:=O::I::I::O::O::I::(by(iterate 89 refine O::?_);exact[])
abbrev yic:zR:=[bL 48 25 1,ab 25 48]
abbrev yid:zR:=[ab 29 5,ab 30 5,o 31 (.bx (.t 30)),al 32 6 31,ai 33 1 32,ab 34 5,ab 35 5,o 36 (.fE 2 1 (.t 7) (.c (.int .i64 0))),ai 37 1 36,cX 38 o6 35 37,ab 39 5,o 40 (.fE 2 1 (.t 7) (.c (.int .i64 1))),ai 41 1 40,cX 42 o6 39 41,o 43 (.call (.f rG) [.t 34,.t 38,.t 42]),o 44 (.lit 1 [.int .i64 0] [(0,.t 43)]),o 45 (.append 1 aq 8 (.t 33) (.t 44)),o 46 (.bx (.t 29)),al 47 6 46,aL 1 47 45]
abbrev yie:zR:=[bl 27 2 23 25,aN 28 2 27,o 7 (.alloc [.int .i64 0,.int .i64 0]),aL 2 7 28]
abbrev yif:aj:=.seq (.ae yie) (.aP [O,O,O,O,I,O,O,O,O,O,O,O,I,O,O,O,O,O,O,O] [20,17,17,17,17,15,10,10,10,14,14,14,14,15,16,17,20,20,20,21] yid)
abbrev Tx:zR:=[cU 26 25 24]
abbrev KP:aj:=.seq (.ae Tx) (.seq (.cond (.t 26) .skip (.exit 0)) (.seq (.block 1 [] yif) (.ae yic)))
abbrev Tc:zR:=[al 22 3 1,ai 23 1 22,aX 24 23,bf 25 0]
abbrev yij:zR:=[aN 20 5 1,ba 21 vd 20,ab 5 21]
abbrev yik:zR:=[o 18 (.build [.int .i64 0,.list true 0 [],.list true 0 [],.list true 0 [],.list true 0 []] []),ab 19 4,aL 5 2 18,ab 3 19]
abbrev yil:aj:=.seq (.ae yik) .ret
abbrev yin:zR:=[aN 14 5 1,ba 15 rK 14,ab 4 15]
abbrev yio:zR:=[o 1 (.box 5 (.t 0)),o 2 (.alloc [.int .i64 0,.own 1 aq [],.own 1 aq [],.own 2 cT [],.own 1 aq []]),bf 3 0]
abbrev aa6:aF:=⟨.seq (.ae yio) (.seq (.seq (.ae yin) (.seq (.ae TG) (.cond (.t 17) yil .skip))) (.seq (.ae yij) (.seq (.seq (.ae Tc) (.block 0 Vl (.loop Tm KP))) (.seq (.ae Tv) (.seq (.ae Ub) (.seq (.ae Jg) (.seq (.seq (.ae Jp) (.block 2 D2 (.loop EL Au))) (.seq (.ae Ek) .ret)))))))),95,[.cell 2 true 5,.tmp 3]⟩
abbrev U5:zI:=[.code (.seq (.ae Ek) .ret)]
abbrev yiq(x2 x8 x9 x10 x57 x58 x59:AV)(h:List Ob)(e:Cx:=cx):ar:=bg n6 (.code Au::.inLoop EL Au::.inBlock 2 D2::U5) (U::U::x2::U::U::U::U::U::x8::x9::x10::(by(iterate 46 refine U::?_);exact x57::x58::x59::(by(iterate 35 refine U::?_);exact[]))) h e
abbrev UB(x2 x8 x10:AV)(h:List Ob)(e:Cx:=cx):ar:=bg n6 U5 (U::U::x2::U::U::U::U::U::x8::U::x10::(by(iterate 84 refine U::?_);exact[])) h e
abbrev U2:zI:=[.code (.seq (.ae Tv) (.seq (.ae Ub) (.seq (.ae Jg) (.seq (.seq (.ae Jp) (.block 2 D2 (.loop EL Au))) (.seq (.ae Ek) .ret)))))]
abbrev yit(x1 x2 x5 x23 x24 x25:AV)(h:List Ob)(e:Cx:=cx):ar:=bg n6 (.code KP::.inLoop Tm KP::.inBlock 0 Vl::U2) (U::x1::x2::U::U::x5::(by(iterate 17 refine U::?_);exact x23::x24::x25::(by(iterate 69 refine U::?_);exact[]))) h e
abbrev J4(x1 x2 x5:AV)(h:List Ob)(e:Cx:=cx):ar:=bg n6 U2 (U::x1::x2::U::U::x5::(by(iterate 89 refine U::?_);exact[])) h e
@[simp] theorem Zv:aE Tryz.prog n6=some aa6:=by kernel_rfl
@[simp] theorem azn:az Tryz.prog n6=true:=by kernel_rfl
abbrev yiv:zR:=[ai 6 1 1,ab 7 0,q (.bM (.sc .int) (.t 6) (.t 7) (.c (.bool true)))]
abbrev yiw:zR:=[ab 3 0,o 4 (.bG .and (.t 3) (.c (.int .i64 1))),o 5 (.cmp .eql (.sc .int) (.t 4) (.c (.int .i64 1)))]
abbrev YR:aF:=⟨.seq (.ae yiw) (.cond (.t 5) (.ae yiv) .skip),8,[]⟩
@[simp] theorem X4:aE Tryz.prog uW=some YR:=by kernel_rfl
@[simp] theorem ayC:az Tryz.prog uW=true:=by kernel_rfl
abbrev sJ:zB:=[I,I,O,O,O,O,O,I,I,O,O,O,O,O,O,O,O,O,O]
abbrev nP:zB:=(by(iterate 19 refine O::?_);exact[])
abbrev Jx:zR:=[bL 18 8 1,ab 8 18]
abbrev yiB:zR:=[ab 17 5,ab 4 17]
abbrev Kp:aj:=.seq (.ae yiB) .ret
abbrev yiD:zR:=[ab 11 1,ab 12 0,ab 13 5,bl 14 1 12 13,ai 15 1 14,o 16 (.cmp .eql (.sc .str) (.t 11) (.t 15))]
abbrev Kc:zR:=[ab 10 8,ab 5 10]
abbrev yiF:aj:=.seq (.ae Kc) (.seq (.ae yiD) (.cond (.t 16) Kp .skip))
abbrev J_:zR:=[cU 9 8 7]
abbrev JG:aj:=.seq (.ae J_) (.seq (.cond (.t 9) .skip (.exit 0)) (.seq (.block 1 [] yiF) (.ae Jx)))
abbrev ED:zR:=[ab 6 0,aX 7 6,bf 8 0]
abbrev oJ:zR:=[bf 4 0]
abbrev WQ:aF:=⟨.seq (.ae oJ) (.seq (.seq (.ae ED) (.block 0 nP (.loop sJ JG))) (.seq (.ae wO) .ret)),19,[.tmp 4]⟩
abbrev Eo:zI:=[.code (.seq (.ae wO) .ret)]
abbrev yiL(x0 x1 x7 x8:AV)(h:List Ob)(e:Cx:=cx):ar:=bg uL (.code JG::.inLoop sJ JG::.inBlock 0 nP::Eo) [x0,x1,U,U,U,U,U,x7,x8,U,U,U,U,U,U,U,U,U,U] h e
@[simp] theorem WD:aE Tryz.prog uL=some WQ:=by kernel_rfl
@[simp] theorem axI:az Tryz.prog uL=true:=by kernel_rfl
abbrev uy:zR:=[ab 35 6,ab 2 35]
abbrev rk:zB:=O::O::O::O::O::O::I::(by(iterate 18 refine O::?_);exact[I,I,I,O,O,O,O,O,O,O,O])
abbrev re:zB:=O::O::O::O::O::O::I::(by(iterate 29 refine O::?_);exact[])
abbrev K_:zR:=[bL 34 27 1,ab 27 34]
abbrev yiQ:zR:=[ab 31 6,ab 32 8,o 33 (.append 1 au 16 (.t 31) (.t 32)),ab 6 33]
abbrev K7:zR:=[bl 29 1 25 27,ai 30 1 29,ab 8 30]
abbrev yiS:aj:=.seq (.ae K7) (.ae yiQ)
abbrev AN:zR:=[cU 28 27 26]
abbrev EC:aj:=.seq (.ae AN) (.seq (.cond (.t 28) .skip (.exit 2)) (.seq (.block 3 [] yiS) (.ae K_)))
abbrev wK:zR:=[ab 25 0,aX 26 25,bf 27 0]
abbrev Vy:zR:=[ab 23 3,o 24 (.call (.f Ff) [.c (.list true 0 []),.t 23]),ab 6 24]
abbrev wV:zB:=I::O::O::I::O::O::O::O::O::I::I::I::(by(iterate 24 refine O::?_);exact[])
abbrev wI:zB:=I::O::O::I::(by(iterate 32 refine O::?_);exact[])
abbrev yiZ:zR:=[bL 22 11 1,ab 11 22]
abbrev yja:zR:=[o 21 (.j8 au (.c (.str [108,101,110,32,111,117,116,32,111,102,32,114,97,110,103,101]))),q (.panic (.t 21))]
abbrev yjb:zR:=[ab 19 3,o 20 (.cmp .lss (.sc .int) (.t 19) (.c (.int .i64 0)))]
abbrev yjc:zR:=[ab 15 3,ab 16 5,aX 17 16,o 18 (.bG .add (.t 15) (.t 17)),ab 3 18]
abbrev yjd:zR:=[bl 13 1 9 11,ai 14 1 13,ab 5 14]
abbrev yje:aj:=.seq (.ae yjd) (.seq (.ae yjc) (.seq (.ae yjb) (.cond (.t 20) (.ae yja) .skip)))
abbrev yjf:zR:=[cU 12 11 10]
abbrev rh:aj:=.seq (.ae yjf) (.seq (.cond (.t 12) .skip (.exit 0)) (.seq (.block 1 [] yje) (.ae yiZ)))
abbrev Kh:zR:=[ab 9 0,aX 10 9,bf 11 0]
abbrev EB:zR:=[bf 3 0]
abbrev KQ:zR:=[o 2 (.dP 1 au)]
abbrev WK:aF:=⟨.seq (.ae KQ) (.seq (.ae EB) (.seq (.seq (.ae Kh) (.block 0 wI (.loop wV rh))) (.seq (.ae Vy) (.seq (.seq (.ae wK) (.block 2 re (.loop rk EC))) (.seq (.ae uy) .ret))))),36,[.tmp 2]⟩
abbrev JL:zI:=[.code (.seq (.ae uy) .ret)]
abbrev Vd(x6 x25 x26 x27:AV)(h:List Ob)(e:Cx:=cx):ar:=bg nZ (.code EC::.inLoop rk EC::.inBlock 2 re::JL) (U::U::U::U::U::U::x6::(by(iterate 18 refine U::?_);exact[x25,x26,x27,U,U,U,U,U,U,U,U])) h e
abbrev yjm:zI:=[.code (.seq (.ae Vy) (.seq (.seq (.ae wK) (.block 2 re (.loop rk EC))) (.seq (.ae uy) .ret)))]
abbrev TP(x0 x3 x9 x10 x11:AV)(h:List Ob)(e:Cx:=cx):ar:=bg nZ (.code rh::.inLoop wV rh::.inBlock 0 wI::yjm) (x0::U::U::x3::U::U::U::U::U::x9::x10::x11::(by(iterate 24 refine U::?_);exact[])) h e
@[simp] theorem LI:aE Tryz.prog nZ=some WK:=by kernel_rfl
@[simp] theorem axE:az Tryz.prog nZ=true:=by kernel_rfl
abbrev yjo:zR:=[ab 10 3,o 11 (.cmp .eql (.sc .int) (.t 10) (.c (.int .i64 0))),ab 2 11]
abbrev yjp:zR:=[aN 6 4 1,ba 7 n8 6,ab 5 7,bC 8 5 0,bC 9 5 1,ab 3 8,ab 4 9]
abbrev yjq:zR:=[o 1 (.box 4 (.t 0)),oG 2]
abbrev aal:aF:=⟨.seq (.ae yjq) (.seq (.ae yjp) (.seq (.ae yjo) .ret)),12,[.tmp 2]⟩
@[simp] theorem YH:aE Tryz.prog Bt=some aal:=by kernel_rfl
@[simp] theorem ayW:az Tryz.prog Bt=true:=by kernel_rfl
abbrev Tj:zR:=[ab 20 3,ab 2 20]
abbrev U3:zB:=[O,O,O,I,O,O,O,O,I,I,I,O,O,O,O,O,O,O,O,O,O]
abbrev T0:zB:=O::O::O::I::(by(iterate 17 refine O::?_);exact[])
abbrev yju:zR:=[bL 19 10 1,ab 10 19]
abbrev yjv:zR:=[ab 15 3,al 16 0 5,ai 17 1 16,ab 18 4,q (.bM (.sc .str) (.t 15) (.t 17) (.t 18))]
abbrev yjw:zR:=[ab 12 10,bl 13 5 8 10,aN 14 5 13,o 5 (.alloc [.str [],.int .i64 0,.own 1 au [],.own 1 au [],.bool false]),ab 4 12,aL 5 5 14]
abbrev yjx:aj:=.seq (.ae yjw) (.ae yjv)
abbrev UY:zR:=[cU 11 10 9]
abbrev K8:aj:=.seq (.ae UY) (.seq (.cond (.t 11) .skip (.exit 0)) (.seq (.block 1 [] yjx) (.ae yju)))
abbrev yjA:zR:=[al 7 3 1,ai 8 1 7,aX 9 8,bf 10 0]
abbrev KI:zR:=[o 6 (.mkMap),ab 3 6]
abbrev yjC:zR:=[o 1 (.box 4 (.t 0)),o 2 (.mv (.c .dp))]
abbrev Zw:aF:=⟨.seq (.ae yjC) (.seq (.ae KI) (.seq (.seq (.ae yjA) (.block 0 T0 (.loop U3 K8))) (.seq (.ae Tj) .ret))),21,[.tmp 2]⟩
abbrev yjD:zI:=[.code (.seq (.ae Tj) .ret)]
abbrev yjE(x3 x8 x9 x10:AV)(h:List Ob)(e:Cx:=cx):ar:=bg uZ (.code K8::.inLoop U3 K8::.inBlock 0 T0::yjD) [U,U,U,x3,U,U,U,U,x8,x9,x10,U,U,U,U,U,U,U,U,U,U] h e
@[simp] theorem Yy:aE Tryz.prog uZ=some Zw:=by kernel_rfl
@[simp] theorem ayL:az Tryz.prog uZ=true:=by kernel_rfl
abbrev yjF:zR:=[o 3 (.fW (.func o7) [] [.t 1]),ab 2 3]
abbrev yjG:zR:=[o 1 (.box 4 (.t 0)),o 2 (.mv (.c .dS))]
abbrev Zd:aF:=⟨.seq (.ae yjG) (.seq (.ae yjF) .ret),4,[.tmp 2]⟩
@[simp] theorem Yl:aE Tryz.prog Fy=some Zd:=by kernel_rfl
@[simp] theorem ayM:az Tryz.prog Fy=true:=by kernel_rfl
abbrev yjH:zR:=[o 11 (.build [.int .i64 0,.list true 0 [],.list true 0 [],.list true 0 [],.list true 0 [],.list true 0 [],.list true 0 [],.list true 0 []] []),aL 8 0 11,q (.store 1 (.t 1) (.c (.int .i64 8))),q (.store 1 (.t 2) (.c (.str [])))]
abbrev yjI:zR:=[ab 10 4]
abbrev yjJ:zR:=[o 6 (.recover),o 7 (.tT (.t 6) FH (.agg []) true),ab 5 7,bC 8 5 0,bC 9 5 1,o 3 (.alloc []),aL 0 3 8,ab 4 9]
abbrev YS:aF:=⟨.seq (.ae yjJ) (.seq (.ae yjI) (.cond (.t 10) (.ae yjH) .skip)),12,[]⟩
@[simp] theorem ayH:aE Tryz.prog Bm=some YS:=by kernel_rfl
@[simp] theorem ayE:az Tryz.prog Bm=true:=by kernel_rfl
abbrev yjK:zR:=[o 5 (.lit 1 [] []),ab 6 0,o 7 (.append 1 au 16 (.t 5) (.t 6)),ab 2 7]
abbrev yjM:aj:=.seq (.ae KQ) .ret
abbrev KJ:zR:=[ab 3 0,o 4 (.km false (.t 3))]
abbrev WO:aF:=⟨.seq (.ae KQ) (.seq (.seq (.ae KJ) (.cond (.t 4) yjM .skip)) (.seq (.ae yjK) .ret)),8,[.tmp 2]⟩
@[simp] theorem WG:aE Tryz.prog pZ=some WO:=by kernel_rfl
@[simp] theorem axH:az Tryz.prog pZ=true:=by kernel_rfl
abbrev K0:zR:=[ab 37 3,ab 2 37]
abbrev K9:zB:=O::O::O::I::(by(iterate 21 refine O::?_);exact[I,I,I,O,O,O,O,O,O,O,O,O,O])
abbrev Lg:zB:=O::O::O::I::(by(iterate 34 refine O::?_);exact[])
abbrev yjS:zR:=[bL 36 27 1,ab 27 36]
abbrev yjT:zR:=[ab 31 3,al 32 0 7,ai 33 1 32,o 34 (.lit 1 [.str []] [(0,.t 33)]),o 35 (.append 1 au 16 (.t 31) (.t 34)),ab 3 35]
abbrev Vs:zR:=[bl 29 5 25 27,aN 30 5 29,o 7 (.alloc [.str [],.int .i64 0,.own 1 au [],.own 1 au [],.bool false]),aL 5 7 30]
abbrev yjV:aj:=.seq (.ae Vs) (.ae yjT)
abbrev D4:aj:=.seq (.ae AN) (.seq (.cond (.t 28) .skip (.exit 2)) (.seq (.block 3 [] yjV) (.ae yjS)))
abbrev Ew:zR:=[al 24 3 1,ai 25 1 24,aX 26 25,bf 27 0]
abbrev Ul:zB:=O::I::O::I::O::O::O::O::O::O::O::O::I::I::I::(by(iterate 23 refine O::?_);exact[])
abbrev Ti:zB:=O::I::O::I::(by(iterate 34 refine O::?_);exact[])
abbrev TW:zR:=[bL 23 14 1,ab 14 23]
abbrev ykc:zR:=[ab 18 3,al 19 0 5,ai 20 1 19,o 21 (.lit 1 [.str []] [(0,.t 20)]),o 22 (.append 1 au 16 (.t 18) (.t 21)),ab 3 22]
abbrev UZ:zR:=[bl 16 3 12 14,aN 17 3 16,o 5 (.alloc [.str [],.str [],.int .i64 0]),aL 3 5 17]
abbrev yke:aj:=.seq (.ae UZ) (.ae ykc)
abbrev S6:zR:=[cU 15 14 13]
abbrev Jj:aj:=.seq (.ae S6) (.seq (.cond (.t 15) .skip (.exit 0)) (.seq (.block 1 [] yke) (.ae TW)))
abbrev Va:zR:=[al 11 2 1,ai 12 1 11,aX 13 12,bf 14 0]
abbrev yki:zR:=[al 8 0 1,ai 9 1 8,ba 10 pZ 9,ab 3 10]
abbrev Ko:zR:=[o 1 (.box 4 (.t 0)),o 2 (.dP 1 au)]
abbrev adQ:aF:=⟨.seq (.ae Ko) (.seq (.ae yki) (.seq (.seq (.ae Va) (.block 0 Ti (.loop Ul Jj))) (.seq (.seq (.ae Ew) (.block 2 Lg (.loop K9 D4))) (.seq (.ae K0) .ret)))),38,[.tmp 2]⟩
abbrev ykk:zI:=[.code (.seq (.ae K0) .ret)]
abbrev ykl(x3 x25 x26 x27:AV)(h:List Ob)(e:Cx:=cx):ar:=bg tB (.code D4::.inLoop K9 D4::.inBlock 2 Lg::ykk) (U::U::U::x3::(by(iterate 21 refine U::?_);exact[x25,x26,x27,U,U,U,U,U,U,U,U,U,U])) h e
abbrev ykm:zI:=[.code (.seq (.seq (.ae Ew) (.block 2 Lg (.loop K9 D4))) (.seq (.ae K0) .ret))]
abbrev ykn(x1 x3 x12 x13 x14:AV)(h:List Ob)(e:Cx:=cx):ar:=bg tB (.code Jj::.inLoop Ul Jj::.inBlock 0 Ti::ykm) (U::x1::U::x3::U::U::U::U::U::U::U::U::x12::x13::x14::(by(iterate 23 refine U::?_);exact[])) h e
@[simp] theorem abd:aE Tryz.prog tB=some adQ:=by kernel_rfl
@[simp] theorem azU:az Tryz.prog tB=true:=by kernel_rfl
abbrev Uq:zR:=[ab 20 4,ab 3 20]
abbrev Uu:zB:=[O,I,O,O,I,O,O,I,I,I,O,O,O,O,O,O,O,O,O,O,O]
abbrev T8:zB:=O::O::O::O::I::(by(iterate 16 refine O::?_);exact[])
abbrev ykr:zR:=[bL 19 9 1,ab 9 19]
abbrev yks:zR:=[ab 13 4,ai 14 1 1,ab 15 6,o 16 (.lookup (.sc .str) (.int .i64 0) (.t 14) (.t 15) false),o 17 (.lit 1 [.int .i64 0] [(0,.t 16)]),o 18 (.append 1 aq 8 (.t 13) (.t 17)),ab 4 18]
abbrev ykt:zR:=[bl 11 1 7 9,ai 12 1 11,ab 6 12]
abbrev yku:aj:=.seq (.ae ykt) (.ae yks)
abbrev JC:zR:=[cU 10 9 8]
abbrev JN:aj:=.seq (.ae JC) (.seq (.cond (.t 10) .skip (.exit 0)) (.seq (.block 1 [] yku) (.ae ykr)))
abbrev K4:zR:=[ab 7 0,aX 8 7,bf 9 0]
abbrev Lm:zR:=[o 4 (.dP 1 aq)]
abbrev ykz:zR:=[o 3 (.dP 1 aq)]
abbrev YU:aF:=⟨.seq (.ae ykz) (.seq (.ae Lm) (.seq (.seq (.ae K4) (.block 0 T8 (.loop Uu JN))) (.seq (.ae Uq) .ret))),21,[.tmp 3]⟩
abbrev ykA:zI:=[.code (.seq (.ae Uq) .ret)]
abbrev ykB(x1 x4 x7 x8 x9:AV)(h:List Ob)(e:Cx:=cx):ar:=bg p9 (.code JN::.inLoop Uu JN::.inBlock 0 T8::ykA) [U,x1,U,U,x4,U,U,x7,x8,x9,U,U,U,U,U,U,U,U,U,U,U] h e
@[simp] theorem X7:aE Tryz.prog p9=some YU:=by kernel_rfl
@[simp] theorem ayF:az Tryz.prog p9=true:=by kernel_rfl
abbrev ykC:zR:=[ab 49 11,ab 6 49]
abbrev ykD:zR:=[ab 47 11,o 48 (.bG .xor (.t 47) (.c (.int .i64 1))),ab 11 48]
abbrev ykE:zR:=[al 45 4 4,ai 46 1 45]
abbrev ykF:zR:=[ab 39 0,ab 40 9,ab 41 2,o 42 (.call (.f uM) [.t 39,.t 40,.t 41]),ab 38 42,bC 43 38 0,bC 44 38 1,ab 11 43,ab 12 44]
abbrev ykG:zR:=[al 30 3 4,ai 31 1 30,al 32 2 4,ai 33 1 32,aX 34 33,cX 35 xR 31 34,ab 29 35,bC 36 29 0,bC 37 29 1,ab 9 36,ab 10 37]
abbrev ykH:zR:=[al 21 0 7,ai 22 1 21,ab 23 0,ab 24 2,o 25 (.call (.t 22) [.t 23,.t 24]),al 26 1 7,ai 27 1 26,o 28 (.bG .xor (.t 25) (.t 27)),ab 6 28]
abbrev ykI:aj:=.seq (.aP [O,O,O,O,O,O,I,O,O] [5,5,5,5,10,10,10,10,10] ykH) .ret
abbrev ykJ:zR:=[ab 20 8]
abbrev ykK:zR:=[o 14 (.load false 1 (.g 0)),al 15 1 4,ai 16 1 15,o 17 (.lookup (.sc .int) (.agg [.dS,.int .i64 0]) (.t 14) (.t 16) true),ab 13 17,bC 18 13 0,bC 19 13 1,o 7 (.alloc [.dS,.int .i64 0]),aL 2 7 18,ab 8 19]
abbrev ykL:zR:=[o 4 (.box 5 (.t 1)),bf 6 0]
abbrev Xz:aF:=⟨.seq (.ae ykL) (.seq (.seq (.ae ykK) (.seq (.ae ykJ) (.cond (.t 20) ykI .skip))) (.seq (.ae ykG) (.seq (.ae ykF) (.seq (.seq (.ae ykE) (.cond (.t 46) (.ae ykD) .skip)) (.seq (.ae ykC) .ret))))),50,[.tmp 6]⟩
@[simp] theorem LO:aE Tryz.prog xI=some Xz:=by kernel_rfl
@[simp] theorem ax0:az Tryz.prog xI=true:=by kernel_rfl
abbrev ykM:zR:=[al 5 0 2,ai 6 1 5,al 7 0 3,ai 8 1 7,o 9 (.cmp .eql (.sc .int) (.t 6) (.t 8)),ab 10 9,oy 11 10 (.off 1 (.t 2)),bQ 12 10 1 11,oy 13 10 (.off 1 (.t 3)),bQ 14 10 1 13,oy 15 10 (.call (.f s8) [.t 12,.t 14]),bX 16 10 15,ab 17 16,oy 18 17 (.off 2 (.t 2)),bQ 19 17 1 18,oy 20 17 (.off 2 (.t 3)),bQ 21 17 1 20,oy 22 17 (.call (.f s8) [.t 19,.t 21]),bX 23 17 22,ab 24 23,oy 25 24 (.off 3 (.t 2)),bQ 26 24 1 25,oy 27 24 (.off 3 (.t 3)),bQ 28 24 1 27,oy 29 24 (.call (.f xC) [.t 26,.t 28]),bX 30 24 29,ab 31 30,oy 32 31 (.off 4 (.t 2)),bQ 33 31 1 32,oy 34 31 (.off 4 (.t 3)),bQ 35 31 1 34,oy 36 31 (.call (.f s8) [.t 33,.t 35]),bX 37 31 36,ab 4 37]
abbrev Vb:zR:=[o 2 (.box 5 (.t 0)),o 3 (.box 5 (.t 1)),oG 4]
abbrev adz:aF:=⟨.seq (.ae Vb) (.seq (.ae ykM) .ret),38,[.tmp 4]⟩
@[simp] theorem aaz:aE Tryz.prog BF=some adz:=by kernel_rfl
@[simp] theorem azT:az Tryz.prog BF=true:=by kernel_rfl
abbrev sI:zB:=[I,I,O,O,O,O,O,O,O,O,O,O,I,I,O,O,O,O,O,O,O,O,O,O,O,O]
abbrev Eg:zR:=[bL 25 13 1,ab 13 25]
abbrev ykU:zR:=[ab 16 0,ab 17 5,bl 18 1 16 17,ai 19 1 18,ab 20 1,ab 21 5,bl 22 1 20 21,ai 23 1 22,o 24 (.cmp .neq (.sc .str) (.t 19) (.t 23))]
abbrev D6:zR:=[ab 15 13,ab 5 15]
abbrev ykW:aj:=.seq (.ae D6) (.seq (.aP [O,O,O,O,O,O,O,O,O] [10,10,10,10,10,10,10,10,10] ykU) (.cond (.t 24) oM .skip))
abbrev wL:zR:=[cU 14 13 12]
abbrev Jy:aj:=.seq (.ae wL) (.seq (.cond (.t 14) .skip (.exit 0)) (.seq (.block 1 [] ykW) (.ae Eg)))
abbrev At:zR:=[ab 11 0,aX 12 11,bf 13 0]
abbrev WM:aF:=⟨.seq (.ae mP) (.seq (.seq (.ae AE) (.cond (.t 10) oM .skip)) (.seq (.seq (.ae At) (.block 0 pL (.loop sI Jy))) (.seq (.ae wJ) .ret))),26,[.tmp 4]⟩
abbrev ylg(x0 x1 x12 x13:AV)(h:List Ob)(e:Cx:=cx):ar:=bg n3 (.code Jy::.inLoop sI Jy::.inBlock 0 pL::AL) [x0,x1,U,U,U,U,U,U,U,U,U,U,x12,x13,U,U,U,U,U,U,U,U,U,U,U,U] h e
@[simp] theorem WC:aE Tryz.prog n3=some WM:=by kernel_rfl
@[simp] theorem axG:az Tryz.prog n3=true:=by kernel_rfl
abbrev yln:zR:=[ab 16 0,ab 17 5,bl 18 3 16 17,aN 19 3 18,ab 20 1,ab 21 5,bl 22 3 20 21,aN 23 3 22,o 24 (.cmp .neq (.jf [.str,.str,.int]) (.t 19) (.t 23))]
abbrev ylp:aj:=.seq (.ae D6) (.seq (.aP [O,O,O,O,O,O,O,O,O] [10,10,10,10,10,10,10,10,10] yln) (.cond (.t 24) oM .skip))
abbrev J0:aj:=.seq (.ae wL) (.seq (.cond (.t 14) .skip (.exit 0)) (.seq (.block 1 [] ylp) (.ae Eg)))
abbrev Wr:aF:=⟨.seq (.ae mP) (.seq (.seq (.ae AE) (.cond (.t 10) oM .skip)) (.seq (.seq (.ae At) (.block 0 pL (.loop sI J0))) (.seq (.ae wJ) .ret))),26,[.tmp 4]⟩
abbrev yly(x0 x1 x12 x13:AV)(h:List Ob)(e:Cx:=cx):ar:=bg xz (.code J0::.inLoop sI J0::.inBlock 0 pL::AL) [x0,x1,U,U,U,U,U,U,U,U,U,U,x12,x13,U,U,U,U,U,U,U,U,U,U,U,U] h e
@[simp] theorem Wn:aE Tryz.prog xz=some Wr:=by kernel_rfl
@[simp] theorem axw:az Tryz.prog xz=true:=by kernel_rfl
abbrev U_:zR:=[o 6 (.mv (.c (.bool true)))]
abbrev Vu:zB:=O::I::I::O::O::O::O::O::O::O::O::O::O::O::O::I::I::I::(by(iterate 14 refine O::?_);exact[])
abbrev T9:zB:=(by(iterate 32 refine O::?_);exact[])
abbrev ylC:zR:=[bL 31 17 1,ab 17 31]
abbrev D3:zR:=[oG 6]
abbrev Ue:aj:=.seq (.ae D3) .ret
abbrev ylF:zR:=[ab 26 2,aN 27 5 8,aN 28 5 9,o 29 (.call (.t 26) [.t 27,.t 28]),o 30 (.not (.t 29))]
abbrev ylG:zR:=[ab 22 1,ab 23 7,bl 24 5 22 23,aN 25 5 24,o 9 (.alloc [.str [],.int .i64 0,.own 1 au [],.own 1 au [],.bool false]),aL 5 9 25]
abbrev ylH:zR:=[ab 19 17,bl 20 5 15 17,aN 21 5 20,o 8 (.alloc [.str [],.int .i64 0,.own 1 au [],.own 1 au [],.bool false]),ab 7 19,aL 5 8 21]
abbrev ylI:aj:=.seq (.ae ylH) (.seq (.ae ylG) (.seq (.ae ylF) (.cond (.t 30) Ue .skip)))
abbrev Tu:zR:=[cU 18 17 16]
abbrev Kl:aj:=.seq (.ae Tu) (.seq (.cond (.t 18) .skip (.exit 0)) (.seq (.block 1 [] ylI) (.ae ylC)))
abbrev ylL:zR:=[ab 15 0,aX 16 15,bf 17 0]
abbrev ylO:zR:=[ab 10 0,aX 11 10,ab 12 1,aX 13 12,o 14 (.cmp .neq (.sc .int) (.t 11) (.t 13))]
abbrev Wb:aF:=⟨.seq (.ae D3) (.seq (.seq (.ae ylO) (.cond (.t 14) Ue .skip)) (.seq (.seq (.ae ylL) (.block 0 T9 (.loop Vu Kl))) (.seq (.ae U_) .ret))),32,[.tmp 6]⟩
abbrev ylQ:zI:=[.code (.seq (.ae U_) .ret)]
abbrev ylR(x1 x2 x15 x16 x17:AV)(h:List Ob)(e:Cx:=cx):ar:=bg xx (.code Kl::.inLoop Vu Kl::.inBlock 0 T9::ylQ) (U::x1::x2::U::U::U::U::U::U::U::U::U::U::U::U::x15::x16::x17::(by(iterate 14 refine U::?_);exact[])) h e
@[simp] theorem Wa:aE Tryz.prog xx=some Wb:=by kernel_rfl
@[simp] theorem axn:az Tryz.prog xx=true:=by kernel_rfl
abbrev ylS:zR:=[al 5 0 2,ai 6 1 5,al 7 0 3,ai 8 1 7,o 9 (.cmp .eql (.sc .str) (.t 6) (.t 8)),ab 10 9,oy 11 10 (.off 1 (.t 2)),bQ 12 10 1 11,oy 13 10 (.off 1 (.t 3)),bQ 14 10 1 13,oy 15 10 (.cmp .eql (.sc .int) (.t 12) (.t 14)),bX 16 10 15,ab 17 16,oy 18 17 (.off 4 (.t 2)),bQ 19 17 1 18,oy 20 17 (.off 4 (.t 3)),bQ 21 17 1 20,oy 22 17 (.cmp .eql (.sc .bool) (.t 19) (.t 21)),bX 23 17 22,ab 24 23,oy 25 24 (.off 2 (.t 2)),bQ 26 24 1 25,oy 27 24 (.off 2 (.t 3)),bQ 28 24 1 27,oy 29 24 (.call (.f n3) [.t 26,.t 28]),bX 30 24 29,ab 31 30,oy 32 31 (.off 3 (.t 2)),bQ 33 31 1 32,oy 34 31 (.off 3 (.t 3)),bQ 35 31 1 34,oy 36 31 (.call (.f n3) [.t 33,.t 35]),bX 37 31 36,ab 4 37]
abbrev aez:aF:=⟨.seq (.ae Vb) (.seq (.ae ylS) .ret),38,[.tmp 4]⟩
@[simp] theorem aaA:aE Tryz.prog vk=some aez:=by kernel_rfl
@[simp] theorem azV:az Tryz.prog vk=true:=by kernel_rfl
abbrev ylU:zR:=[ai 3 1 1,ai 4 1 1,o 5 (.bx (.t 4)),al 6 0 5,al 7 3 6,ai 8 1 7,aN 9 5 2,o 10 (.lit 5 [.agg [.str [],.int .i64 0,.list true 0 [],.list true 0 [],.bool false]] [(0,.t 9)]),o 11 (.append 5 qc 80 (.t 8) (.t 10)),o 12 (.bx (.t 3)),al 13 0 12,al 14 3 13,aL 1 14 11]
abbrev ylV:zR:=[o 2 (.box 5 (.t 0))]
abbrev YM:aF:=⟨.seq (.ae ylV) (.aP [I,I,O,O,O,I,O,O,O,O,O,O,O] [13,9,9,9,9,9,8,9,13,13,13,13,14] ylU),15,[]⟩
@[simp] theorem LY:aE Tryz.prog te=some YM:=by kernel_rfl
@[simp] theorem ayI:az Tryz.prog te=true:=by kernel_rfl
abbrev ylW:zR:=[ab 9 0,o 10 (.build [.int .i64 0] [(0,1,.t 9)]),o 11 (.j8 Fv (.t 10)),ab 2 11]
abbrev ylX:zR:=[ab 5 0,o 6 (.cmp .eql (.sc .int) (.t 5) (.c (.int .i64 1))),o 7 (.build [.bool false] [(0,1,.t 6)]),o 8 (.j8 Fs (.t 7)),ab 2 8]
abbrev ylY:aj:=.seq (.ae ylX) .ret
abbrev ylZ:zR:=[ab 3 0,o 4 (.cmp .lss (.sc .int) (.t 3) (.c (.int .i64 2)))]
abbrev K5:zR:=[o 2 (.mv (.c .eN))]
abbrev YB:aF:=⟨.seq (.ae K5) (.seq (.seq (.ae ylZ) (.cond (.t 4) ylY .skip)) (.seq (.ae ylW) .ret)),12,[.tmp 2]⟩
@[simp] theorem X8:aE Tryz.prog xQ=some YB:=by kernel_rfl
@[simp] theorem ayK:az Tryz.prog xQ=true:=by kernel_rfl
abbrev T5:zR:=[ai 16 1 5,ab 4 16]
abbrev To:zR:=[ab 6 10]
abbrev ymd:zR:=[ab 15 6,aL 1 5 15]
abbrev yme:aj:=.seq (.ae ymd) (.exit 0)
abbrev ymf:zR:=[ai 11 1 2,ab 12 6,cX 13 xB 11 12,o 14 (.not (.t 13))]
abbrev ymg:aj:=.seq (.ae ymf) (.cond (.t 14) yme .skip)
abbrev VH:aj:=.block 1 [] ymg
abbrev ymi:aj:=.rangeFunc (.t 9) [10] [O,O,I,O,I,I,O,O,O,O,O,O,O,O,O,O,O] (.ae To) VH
abbrev ymj:zR:=[ab 8 1,ba 9 FB 8]
abbrev ymk:zR:=[ab 7 1,o 5 (.alloc [.str []]),aL 1 5 7]
abbrev yml:zR:=[o 2 (.box 1 (.t 0)),o 4 (.mv (.c (.str [])))]
abbrev Z0:aF:=⟨.seq (.ae yml) (.seq (.ae ymk) (.seq (.seq (.ae ymj) (.block 0 [] ymi)) (.seq (.ae T5) .ret))),17,[.tmp 4]⟩
@[simp] theorem YJ:aE Tryz.prog u0=some Z0:=by kernel_rfl
@[simp] theorem ay3:az Tryz.prog u0=true:=by kernel_rfl
abbrev ymm:zR:=[al 10 0 2,ai 11 1 10,al 12 1 2,ai 13 1 12,aL 1 0 11,aL 1 1 13]
abbrev ymn:zR:=[ab 9 3]
abbrev ymo:zR:=[o 5 (.recover),o 6 (.tT (.t 5) F4 (.agg [.int .i64 0,.str []]) true),ab 4 6,bC 7 4 0,bC 8 4 1,o 2 (.alloc [.int .i64 0,.str []]),aL 2 2 7,ab 3 8]
abbrev ZY:aF:=⟨.seq (.ae ymo) (.seq (.ae ymn) (.cond (.t 9) (.aP [O,O,O,I,O,O] [5,5,6,6,6,7] ymm) .skip)),14,[]⟩
@[simp] theorem aza:aE Tryz.prog Bu=some ZY:=by kernel_rfl
@[simp] theorem ayX:az Tryz.prog Bu=true:=by kernel_rfl
abbrev ymp:zR:=[al 3 2 1,ai 4 1 3,aX 5 4,o 6 (.cmp .gtr (.sc .int) (.t 5) (.c (.int .i64 8))),ab 7 6,on 8 7 (.off 3 (.t 1)),on 9 7 (.load false 1 (.t 8)),on 10 7 (.len (.t 9)),on 11 7 (.cmp .gtr (.sc .int) (.t 10) (.c (.int .i64 128))),o 12 (.pick (.t 7) (.c (.bool true)) (.t 11)),ab 2 12]
abbrev ZU:aF:=⟨.seq (.ae KW) (.seq (.ae ymp) .ret),13,[.tmp 2]⟩
@[simp] theorem Y2:aE Tryz.prog xT=some ZU:=by kernel_rfl
@[simp] theorem ayU:az Tryz.prog xT=true:=by kernel_rfl
abbrev ymr:zR:=[ab 8 1,ab 9 2,o 10 (.build [.int .i64 0,.str []] [(0,1,.t 8),(1,1,.t 9)]),o 11 (.j8 F4 (.t 10)),q (.panic (.t 11))]
abbrev yms:zR:=[ab 6 0,o 7 (.not (.t 6))]
abbrev aeA:aF:=⟨.seq (.ae yms) (.cond (.t 7) (.ae ymr) .skip),12,[]⟩
@[simp] theorem Nj:aE Tryz.prog pa=some aeA:=by kernel_rfl
@[simp] theorem az0:az Tryz.prog pa=true:=by kernel_rfl
abbrev ymt:zR:=[ab 5 0,ab 6 1,cX 7 xy 5 6,o 8 (.cmp .geq (.sc .int) (.t 7) (.c (.int .i64 0))),ab 4 8]
abbrev Wg:aF:=⟨.seq (.ae mP) (.seq (.ae ymt) .ret),9,[.tmp 4]⟩
@[simp] theorem We:aE Tryz.prog A6=some Wg:=by kernel_rfl
@[simp] theorem axp:az Tryz.prog A6=true:=by kernel_rfl
abbrev Js:zR:=[ab 45 3,ab 2 45]
abbrev KG:zB:=O::O::O::I::(by(iterate 26 refine O::?_);exact I::I::I::(by(iterate 13 refine O::?_);exact[]))
abbrev Kv:zB:=O::O::O::I::(by(iterate 42 refine O::?_);exact[])
abbrev ymy:zR:=[bL 44 32 1,ab 32 44]
abbrev ymz:zR:=[ab 36 3,al 37 0 7,ai 38 1 37,o 39 (.lit 1 [.str []] [(0,.t 38)]),o 40 (.append 1 au 16 (.t 36) (.t 39)),al 41 2 7,ai 42 1 41,o 43 (.append 1 au 16 (.t 40) (.t 42)),ab 3 43]
abbrev ymA:zR:=[bl 34 5 30 32,aN 35 5 34,o 7 (.alloc [.str [],.int .i64 0,.own 1 au [],.own 1 au [],.bool false]),aL 5 7 35]
abbrev ymB:aj:=.seq (.ae ymA) (.aP [O,O,O,O,O,O,I,O,O] [5,4,4,5,8,8,8,10,10] ymz)
abbrev ymC:zR:=[cU 33 32 31]
abbrev DY:aj:=.seq (.ae ymC) (.seq (.cond (.t 33) .skip (.exit 2)) (.seq (.block 3 [] ymB) (.ae ymy)))
abbrev VN:zR:=[al 29 3 1,ai 30 1 29,aX 31 30,bf 32 0]
abbrev VP:zB:=O::I::O::I::O::O::O::O::O::O::O::O::O::O::O::I::I::I::(by(iterate 28 refine O::?_);exact[])
abbrev VY:zB:=O::I::O::I::(by(iterate 42 refine O::?_);exact[])
abbrev ymH:zR:=[bL 28 17 1,ab 17 28]
abbrev ymI:zR:=[ab 21 3,al 22 0 5,ai 23 1 22,al 24 1 5,ai 25 1 24,o 26 (.lit 1 [.str [],.str []] [(0,.t 23),(1,.t 25)]),o 27 (.append 1 au 16 (.t 21) (.t 26)),ab 3 27]
abbrev ymJ:zR:=[bl 19 3 15 17,aN 20 3 19,o 5 (.alloc [.str [],.str [],.int .i64 0]),aL 3 5 20]
abbrev ymK:aj:=.seq (.ae ymJ) (.ae ymI)
abbrev Lf:aj:=.seq (.ae Tu) (.seq (.cond (.t 18) .skip (.exit 0)) (.seq (.block 1 [] ymK) (.ae ymH)))
abbrev ymN:zR:=[al 14 2 1,ai 15 1 14,aX 16 15,bf 17 0]
abbrev ymO:zR:=[al 8 0 1,ai 9 1 8,al 10 1 1,ai 11 1 10,o 12 (.lit 1 [.list true 0 [],.list true 0 []] [(0,.t 9),(1,.t 11)]),ba 13 nZ 12,ab 3 13]
abbrev ado:aF:=⟨.seq (.ae Ko) (.seq (.ae ymO) (.seq (.seq (.ae ymN) (.block 0 VY (.loop VP Lf))) (.seq (.seq (.ae VN) (.block 2 Kv (.loop KG DY))) (.seq (.ae Js) .ret)))),46,[.tmp 2]⟩
abbrev ymQ:zI:=[.code (.seq (.ae Js) .ret)]
abbrev ymR(x3 x30 x31 x32:AV)(h:List Ob)(e:Cx:=cx):ar:=bg vm (.code DY::.inLoop KG DY::.inBlock 2 Kv::ymQ) (U::U::U::x3::(by(iterate 26 refine U::?_);exact x30::x31::x32::(by(iterate 13 refine U::?_);exact[]))) h e
abbrev ymS:zI:=[.code (.seq (.seq (.ae VN) (.block 2 Kv (.loop KG DY))) (.seq (.ae Js) .ret))]
abbrev ymT(x1 x3 x15 x16 x17:AV)(h:List Ob)(e:Cx:=cx):ar:=bg vm (.code Lf::.inLoop VP Lf::.inBlock 0 VY::ymS) (U::x1::U::x3::U::U::U::U::U::U::U::U::U::U::U::x15::x16::x17::(by(iterate 28 refine U::?_);exact[])) h e
@[simp] theorem aay:aE Tryz.prog vm=some ado:=by kernel_rfl
@[simp] theorem az1:az Tryz.prog vm=true:=by kernel_rfl
abbrev ymU:zR:=[ab 3 0,ba 4 Be 3,ab 2 4]
abbrev abg:aF:=⟨.seq (.ae ym) (.seq (.ae ymU) .ret),5,[.tmp 2]⟩
@[simp] theorem Zl:aE Tryz.prog xX=some abg:=by kernel_rfl
@[simp] theorem azj:az Tryz.prog xX=true:=by kernel_rfl
abbrev T':zR:=[ab 22 3,ab 2 22]
abbrev Tl:zB:=O::O::O::I::O::O::O::I::I::I::(by(iterate 13 refine O::?_);exact[])
abbrev Uh:zB:=O::O::O::I::(by(iterate 19 refine O::?_);exact[])
abbrev ymZ:zR:=[bL 21 9 1,ab 9 21]
abbrev yna:zR:=[ab 19 3,ab 20 5,q (.bM (.sc .str) (.t 19) (.t 20) (.c (.bool true)))]
abbrev ynb:zR:=[ab 13 3,ab 14 5,o 15 (.lookup (.sc .str) (.bool false) (.t 13) (.t 14) false),o 16 (.not (.t 15)),ab 17 5,o 18 (.call (.f pa) [.t 16,.c (.int .i64 5),.t 17])]
abbrev S8:zR:=[bl 11 1 7 9,ai 12 1 11,ab 5 12]
abbrev ynd:aj:=.seq (.ae S8) (.seq (.ae ynb) (.ae yna))
abbrev J3:aj:=.seq (.ae JC) (.seq (.cond (.t 10) .skip (.exit 0)) (.seq (.block 1 [] ynd) (.ae ymZ)))
abbrev yni:zR:=[o 2 (.mv (.c .dp))]
abbrev aes:aF:=⟨.seq (.ae yni) (.seq (.ae KI) (.seq (.seq (.ae K4) (.block 0 Uh (.loop Tl J3))) (.seq (.ae T') .ret))),23,[.tmp 2]⟩
abbrev ynj:zI:=[.code (.seq (.ae T') .ret)]
abbrev UN(x3 x7 x8 x9:AV)(h:List Ob)(e:Cx:=cx):ar:=bg tz (.code J3::.inLoop Tl J3::.inBlock 0 Uh::ynj) (U::U::U::x3::U::U::U::x7::x8::x9::(by(iterate 13 refine U::?_);exact[])) h e
@[simp] theorem M_:aE Tryz.prog tz=some aes:=by kernel_rfl
@[simp] theorem azZ:az Tryz.prog tz=true:=by kernel_rfl
abbrev ynl:zR:=[al 18 1 1,ai 19 1 18,al 20 2 1,ai 21 1 20,aX 22 21,cX 23 vA 19 22,ab 24 23,oy 25 24 (.off 3 (.t 1)),bQ 26 24 1 25,oy 27 24 (.len (.t 26)),oy 28 24 (.cmp .leq (.sc .int) (.t 27) (.c (.int .i64 128))),bX 29 24 28,ab 30 29,oy 31 30 (.off 3 (.t 1)),bQ 32 30 1 31,dH 33 30 3,oy 34 30 (.call (.f sZ) [.t 32,.t 33]),oy 35 30 (.not (.t 34)),bX 36 30 35,ab 2 36]
abbrev yno:zR:=[al 5 1 1,ai 6 1 5,o 7 (.cmp .neq (.sc .int) (.t 6) (.c (.int .i64 10))),ab 8 7,oy 9 8 (.off 3 (.t 1)),bQ 10 8 1 9,oy 11 8 (.len (.t 10)),oy 12 8 (.cmp .gtr (.sc .int) (.t 11) (.c (.int .i64 0))),dH 13 8 12,on 14 13 (.off 4 (.t 1)),on 15 13 (.load false 1 (.t 14)),oy 16 8 (.pick (.t 13) (.c (.bool true)) (.t 15)),bX 17 8 16]
abbrev ynp:zR:=[o 4 (.fW (.func BB) [] [.t 1]),ab 3 4]
abbrev adJ:aF:=⟨.seq (.ae KW) (.seq (.ae ynp) (.seq (.seq (.ae yno) (.cond (.t 17) yo .skip)) (.seq (.ae ynl) .ret))),37,[.tmp 2]⟩
@[simp] theorem abh:aE Tryz.prog BH=some adJ:=by kernel_rfl
@[simp] theorem azS:az Tryz.prog BH=true:=by kernel_rfl
abbrev K2:zR:=[ab 36 3,ab 2 36]
abbrev KS:zB:=O::O::O::I::(by(iterate 21 refine O::?_);exact[I,I,I,O,O,O,O,O,O,O,O,O])
abbrev Jo:zB:=O::O::O::I::(by(iterate 33 refine O::?_);exact[])
abbrev ynu:zR:=[bL 35 27 1,ab 27 35]
abbrev ynv:zR:=[ab 31 3,al 32 2 7,ai 33 1 32,o 34 (.append 1 au 16 (.t 31) (.t 33)),ab 3 34]
abbrev ynx:aj:=.seq (.ae Vs) (.ae ynv)
abbrev Ed:aj:=.seq (.ae AN) (.seq (.cond (.t 28) .skip (.exit 2)) (.seq (.block 3 [] ynx) (.ae ynu)))
abbrev VQ:zB:=O::I::O::I::O::O::O::O::O::O::O::O::I::I::I::(by(iterate 22 refine O::?_);exact[])
abbrev UA:zB:=O::I::O::I::(by(iterate 33 refine O::?_);exact[])
abbrev ynE:zR:=[ab 18 3,al 19 1 5,ai 20 1 19,o 21 (.lit 1 [.str []] [(0,.t 20)]),o 22 (.append 1 au 16 (.t 18) (.t 21)),ab 3 22]
abbrev ynG:aj:=.seq (.ae UZ) (.ae ynE)
abbrev JY:aj:=.seq (.ae S6) (.seq (.cond (.t 15) .skip (.exit 0)) (.seq (.block 1 [] ynG) (.ae TW)))
abbrev ynK:zR:=[al 8 1 1,ai 9 1 8,ba 10 pZ 9,ab 3 10]
abbrev aeF:aF:=⟨.seq (.ae Ko) (.seq (.ae ynK) (.seq (.seq (.ae Va) (.block 0 UA (.loop VQ JY))) (.seq (.seq (.ae Ew) (.block 2 Jo (.loop KS Ed))) (.seq (.ae K2) .ret)))),37,[.tmp 2]⟩
abbrev ynM:zI:=[.code (.seq (.ae K2) .ret)]
abbrev ynN(x3 x25 x26 x27:AV)(h:List Ob)(e:Cx:=cx):ar:=bg vo (.code Ed::.inLoop KS Ed::.inBlock 2 Jo::ynM) (U::U::U::x3::(by(iterate 21 refine U::?_);exact[x25,x26,x27,U,U,U,U,U,U,U,U,U])) h e
abbrev ynO:zI:=[.code (.seq (.seq (.ae Ew) (.block 2 Jo (.loop KS Ed))) (.seq (.ae K2) .ret))]
abbrev ynP(x1 x3 x12 x13 x14:AV)(h:List Ob)(e:Cx:=cx):ar:=bg vo (.code JY::.inLoop VQ JY::.inBlock 0 UA::ynO) (U::x1::U::x3::U::U::U::U::U::U::U::U::x12::x13::x14::(by(iterate 22 refine U::?_);exact[])) h e
@[simp] theorem aap:aE Tryz.prog vo=some aeF:=by kernel_rfl
@[simp] theorem az2:az Tryz.prog vo=true:=by kernel_rfl
abbrev TF:zB:=O::I::(by(iterate 68 refine O::?_);exact I::I::I::(by(iterate 30 refine O::?_);exact[]))
abbrev Vm:zB:=(by(iterate 103 refine O::?_);exact[])
abbrev ynT:zR:=[bL 102 72 1,ab 72 102]
abbrev ynW:zR:=[o 82 (.fE 2 1 (.t 7) (.c (.int .i64 0))),ai 83 1 82,o 84 (.cmp .lss (.sc .int) (.t 83) (.c (.int .i64 0))),ab 85 84,on 86 85 (.fE 2 1 (.t 7) (.c (.int .i64 1))),on 87 85 (.load false 1 (.t 86)),on 88 85 (.cmp .lss (.sc .int) (.t 87) (.c (.int .i64 0))),o 89 (.pick (.t 85) (.c (.bool true)) (.t 88)),ab 90 89,on 91 90 (.fE 2 1 (.t 7) (.c (.int .i64 0))),on 92 90 (.load false 1 (.t 91)),on 93 90 (.mv (.t 8)),on 94 90 (.cmp .geq (.sc .int) (.t 92) (.t 93)),o 95 (.pick (.t 90) (.c (.bool true)) (.t 94)),ab 96 95,on 97 96 (.fE 2 1 (.t 7) (.c (.int .i64 1))),on 98 96 (.load false 1 (.t 97)),on 99 96 (.mv (.t 8)),on 100 96 (.cmp .geq (.sc .int) (.t 98) (.t 99)),o 101 (.pick (.t 96) (.c (.bool true)) (.t 100))]
abbrev ynX:zR:=[aN 77 5 1,ba 78 mf 77,ab 79 6,o 80 (.bG .add (.t 78) (.t 79)),o 81 (.bG .mul (.c (.int .i64 2)) (.t 80)),ab 8 81]
abbrev ynY:zR:=[ab 74 72,bl 75 2 70 72,aN 76 2 75,o 7 (.alloc [.int .i64 0,.int .i64 0]),ab 6 74,aL 2 7 76]
abbrev ynZ:aj:=.seq (.ae ynY) (.seq (.ae ynX) (.seq (.ae ynW) (.cond (.t 101) Kq .skip)))
abbrev yoa:zR:=[cU 73 72 71]
abbrev Kt:aj:=.seq (.ae yoa) (.seq (.cond (.t 73) .skip (.exit 0)) (.seq (.block 1 [] ynZ) (.ae ynT)))
abbrev yoc:zR:=[al 69 3 1,ai 70 1 69,aX 71 70,bf 72 0]
abbrev yof:zR:=[al 44 2 1,ai 45 1 44,aX 46 45,al 47 1 1,ai 48 1 47,aX 49 48,o 50 (.cmp .neq (.sc .int) (.t 46) (.t 49)),ab 51 50,on 52 51 (.off 2 (.t 1)),on 53 51 (.load false 1 (.t 52)),on 54 51 (.mv (.t 5)),on 55 51 (.call (.f uJ) [.t 53,.t 54]),o 56 (.pick (.t 51) (.c (.bool true)) (.t 55)),ab 57 56,on 58 57 (.off 1 (.t 1)),on 59 57 (.load false 1 (.t 58)),on 60 57 (.mv (.t 4)),on 61 57 (.call (.f uJ) [.t 59,.t 60]),o 62 (.pick (.t 57) (.c (.bool true)) (.t 61)),ab 63 62,on 64 63 (.off 4 (.t 1)),on 65 63 (.load false 1 (.t 64)),on 66 63 (.mv (.t 4)),on 67 63 (.call (.f uJ) [.t 65,.t 66]),o 68 (.pick (.t 63) (.c (.bool true)) (.t 67))]
abbrev yog:zR:=[o 5 (.mv (.f Bo))]
abbrev yoh:zR:=[o 43 (.fW (.func Bv) [] [.t 3]),ab 4 43]
abbrev yoi:zR:=[aN 36 5 1,ba 37 mf 36,al 38 3 1,ai 39 1 38,aX 40 39,o 41 (.bG .add (.t 37) (.t 40)),o 42 (.bG .mul (.c (.int .i64 2)) (.t 41)),o 3 (.alloc [.int .i64 0]),aL 1 3 42]
abbrev yoj:zR:=[bf 2 8]
abbrev yok:aj:=.seq (.ae yoj) .ret
abbrev yol:zR:=[al 9 0 1,ai 10 1 9,o 11 (.cmp .lss (.sc .int) (.t 10) (.c (.int .i64 0))),ab 12 11,on 13 12 (.off 0 (.t 1)),on 14 12 (.load false 1 (.t 13)),on 15 12 (.cmp .gtr (.sc .int) (.t 14) (.c (.int .i64 4000))),o 16 (.pick (.t 12) (.c (.bool true)) (.t 15)),ab 17 16,on 18 17 (.off 0 (.t 1)),on 19 17 (.load false 1 (.t 18)),on 20 17 (.off 1 (.t 1)),on 21 17 (.load false 1 (.t 20)),on 22 17 (.len (.t 21)),on 23 17 (.bG .add (.t 19) (.t 22)),on 24 17 (.off 3 (.t 1)),on 25 17 (.load false 1 (.t 24)),on 26 17 (.len (.t 25)),on 27 17 (.bG .add (.t 23) (.t 26)),on 28 17 (.cmp .gtr (.sc .int) (.t 27) (.c (.int .i64 4000))),o 29 (.pick (.t 17) (.c (.bool true)) (.t 28)),ab 30 29,on 31 30 (.off 4 (.t 1)),on 32 30 (.load false 1 (.t 31)),on 33 30 (.len (.t 32)),on 34 30 (.cmp .gtr (.sc .int) (.t 33) (.c (.int .i64 4000))),o 35 (.pick (.t 30) (.c (.bool true)) (.t 34))]
abbrev ab8:aF:=⟨.seq (.ae KK) (.seq (.seq (.ae yol) (.cond (.t 35) yok .skip)) (.seq (.aP [I,I,O,I,O,O,O,O,O] [9,9,9,9,9,9,9,9,10] yoi) (.seq (.ae yoh) (.seq (.ae yog) (.seq (.seq (.ae yof) (.cond (.t 68) Kq .skip)) (.seq (.seq (.ae yoc) (.block 0 Vm (.loop TF Kt))) (.seq (.ae AK) .ret))))))),103,[.tmp 2]⟩
abbrev yoo(x1 x70 x71 x72:AV)(h:List Ob)(e:Cx:=cx):ar:=bg rK (.code Kt::.inLoop TF Kt::.inBlock 0 Vm::Uw) (U::x1::(by(iterate 68 refine U::?_);exact x70::x71::x72::(by(iterate 30 refine U::?_);exact[]))) h e
@[simp] theorem Z5:aE Tryz.prog rK=some ab8:=by kernel_rfl
@[simp] theorem azw:az Tryz.prog rK=true:=by kernel_rfl
abbrev yop:zR:=[ab 3 0,o 4 (.call (.f sZ) [.t 3,.f Br]),ab 2 4]
abbrev ac3:aF:=⟨.seq (.ae ym) (.seq (.ae yop) .ret),5,[.tmp 2]⟩
@[simp] theorem ZF:aE Tryz.prog vg=some ac3:=by kernel_rfl
@[simp] theorem azy:az Tryz.prog vg=true:=by kernel_rfl
abbrev VM:zB:=[O,O,O,I,O,O,O,I,I,I,O,O,O,O,O,O,O,O,O]
abbrev you:zR:=[bL 18 9 1,ab 9 18]
abbrev yov:zR:=[ab 16 3,ab 17 5,q (.bM (.sc .str) (.t 16) (.t 17) (.c (.bool true)))]
abbrev yow:zR:=[o 2 (.mv (.c (.bool true)))]
abbrev yox:aj:=.seq (.ae yow) .ret
abbrev yoy:zR:=[ab 13 3,ab 14 5,o 15 (.lookup (.sc .str) (.bool false) (.t 13) (.t 14) false)]
abbrev yoA:aj:=.seq (.ae S8) (.seq (.seq (.ae yoy) (.cond (.t 15) yox .skip)) (.ae yov))
abbrev KY:aj:=.seq (.ae JC) (.seq (.cond (.t 10) .skip (.exit 0)) (.seq (.block 1 [] yoA) (.ae you)))
abbrev Z7:aF:=⟨.seq (.ae ym) (.seq (.ae KI) (.seq (.seq (.ae K4) (.block 0 nP (.loop VM KY))) (.seq (.ae ym) .ret))),19,[.tmp 2]⟩
abbrev yoG:zI:=[.code (.seq (.ae ym) .ret)]
abbrev yoH(x3 x7 x8 x9:AV)(h:List Ob)(e:Cx:=cx):ar:=bg u6 (.code KY::.inLoop VM KY::.inBlock 0 nP::yoG) [U,U,U,x3,U,U,U,x7,x8,x9,U,U,U,U,U,U,U,U,U] h e
@[simp] theorem YW:aE Tryz.prog u6=some Z7:=by kernel_rfl
@[simp] theorem ayV:az Tryz.prog u6=true:=by kernel_rfl
abbrev Td:zR:=[ab 31 3,ab 2 31]
abbrev Ts:zB:=O::O::O::I::O::O::O::O::O::O::O::O::O::O::O::I::I::(by(iterate 15 refine O::?_);exact[])
abbrev SY:zB:=O::O::O::I::(by(iterate 28 refine O::?_);exact[])
abbrev yoL:zR:=[bL 30 16 1,ab 16 30]
abbrev yoM:zR:=[ab 19 3,ab 20 3,o 21 (.bx (.t 20)),al 22 6 21,ai 23 1 22,ab 24 4,o 25 (.bG .mul (.c (.int .i64 2)) (.t 24)),o 26 (.lit 1 [.int .i64 0] [(0,.t 25)]),o 27 (.append 1 aq 8 (.t 23) (.t 26)),o 28 (.bx (.t 19)),al 29 6 28,aL 1 29 27]
abbrev yoN:zR:=[ab 18 16,ab 4 18]
abbrev yoO:aj:=.seq (.ae yoN) (.ae yoM)
abbrev D_:zR:=[cU 17 16 15]
abbrev JB:aj:=.seq (.ae D_) (.seq (.cond (.t 17) .skip (.exit 0)) (.seq (.block 1 [] yoO) (.ae yoL)))
abbrev yoR:zR:=[aN 14 5 1,ba 15 mf 14,bf 16 0]
abbrev yoS:zR:=[al 5 0 1,ai 6 1 5,al 7 1 1,ai 8 1 7,al 9 2 1,ai 10 1 9,ba 11 A9 10,o 12 (.build [.int .i64 0,.list true 0 [],.list true 0 [],.list true 0 [],.list true 0 []] [(0,1,.t 6),(1,1,.t 8),(2,1,.t 11)]),ba 13 tw 12,ab 3 13]
abbrev S3:zR:=[o 1 (.box 5 (.t 0)),o 2 (.mv (.c .jT))]
abbrev abH:aF:=⟨.seq (.ae S3) (.seq (.aP [O,I,O,I,O,O,O,O,O,O] [9,9,9,9,7,7,9,9,11,11] yoS) (.seq (.seq (.ae yoR) (.block 0 SY (.loop Ts JB))) (.seq (.ae Td) .ret))),32,[.tmp 2]⟩
abbrev SO:zI:=[.code (.seq (.ae Td) .ret)]
abbrev yoV(x3 x15 x16:AV)(h:List Ob)(e:Cx:=cx):ar:=bg vd (.code JB::.inLoop Ts JB::.inBlock 0 SY::SO) (U::U::U::x3::U::U::U::U::U::U::U::U::U::U::U::x15::x16::(by(iterate 15 refine U::?_);exact[])) h e
abbrev yoW(x3:AV)(h:List Ob)(e:Cx:=cx):ar:=bg vd SO (U::U::U::x3::(by(iterate 28 refine U::?_);exact[])) h e
@[simp] theorem Mg:aE Tryz.prog vd=some abH:=by kernel_rfl
@[simp] theorem azL:az Tryz.prog vd=true:=by kernel_rfl
abbrev yoX:zR:=[ab 76 10,ab 6 76]
abbrev yoY:zR:=[ab 70 0,o 71 (.bx (.t 70)),al 72 5 71,ai 73 1 72,aN 74 2 7,ab 75 10,q (.bM (.jf [.int,.int]) (.t 73) (.t 74) (.t 75))]
abbrev yoZ:zR:=[ab 58 0,ab 59 0,o 60 (.bx (.t 59)),al 61 0 60,al 62 3 61,ai 63 1 62,aN 64 2 7,o 65 (.lit 2 [.agg [.int .i64 0,.int .i64 0]] [(0,.t 64)]),o 66 (.append 2 cT 16 (.t 63) (.t 65)),o 67 (.bx (.t 58)),al 68 0 67,al 69 3 68,aL 1 69 66]
abbrev ypa:zR:=[ab 45 0,o 46 (.bx (.t 45)),al 47 0 46,aN 48 5 47,ba 49 mf 48,ab 50 0,o 51 (.bx (.t 50)),al 52 0 51,al 53 3 52,ai 54 1 53,aX 55 54,o 56 (.bG .add (.t 49) (.t 55)),o 57 (.bG .mul (.c (.int .i64 2)) (.t 56)),ab 10 57]
abbrev ypb:zR:=[ab 44 8,ab 6 44]
abbrev ypc:aj:=.seq (.ae ypb) .ret
abbrev ypd:zR:=[ab 43 9]
abbrev ype:zR:=[ab 35 0,o 36 (.bx (.t 35)),al 37 5 36,ai 38 1 37,aN 39 2 7,o 40 (.lookup (.jf [.int,.int]) (.int .i64 0) (.t 38) (.t 39) true),ab 34 40,bC 41 34 0,bC 42 34 1,ab 8 41,ab 9 42]
abbrev ypf:zR:=[ab 31 1,ab 32 2,o 33 (.build [.int .i64 0,.int .i64 0] [(0,1,.t 31),(1,1,.t 32)]),o 7 (.alloc [.int .i64 0,.int .i64 0]),aL 2 7 33]
abbrev EP:zR:=[bf 6 0]
abbrev yph:zR:=[ab 30 1,ab 6 30]
abbrev ypi:aj:=.seq (.ae yph) .ret
abbrev ypj:zR:=[ab 27 1,ab 28 2,o 29 (.cmp .eql (.sc .int) (.t 27) (.t 28)),ab 24 29]
abbrev ypk:zR:=[ab 25 2,o 26 (.cmp .eql (.sc .int) (.t 25) (.c (.int .i64 1))),ab 24 26]
abbrev ypl:aj:=.seq (.ae EP) .ret
abbrev ypm:aj:=.seq (.seq (.ae ypk) (.cond (.t 24) .skip (.ae ypj))) (.cond (.t 24) ypi .skip)
abbrev ypn:zR:=[ab 20 1,o 21 (.bG .xor (.t 20) (.c (.int .i64 1))),ab 22 2,o 23 (.cmp .eql (.sc .int) (.t 21) (.t 22)),ab 17 23]
abbrev ypo:zR:=[ab 18 2,o 19 (.cmp .eql (.sc .int) (.t 18) (.c (.int .i64 0))),ab 17 19]
abbrev ypp:aj:=.seq (.seq (.ae ypo) (.cond (.t 17) .skip (.ae ypn))) (.cond (.t 17) ypl ypm)
abbrev ypq:zR:=[ab 11 1,ab 12 2,o 13 (.max [.t 11,.t 12]),ab 14 1,ab 15 2,o 16 (.min [.t 14,.t 15]),ab 1 13,ab 2 16]
abbrev Yg:aF:=⟨.seq (.ae EP) (.seq (.ae ypq) (.seq (.block 0 [] ypp) (.seq (.ae ypf) (.seq (.seq (.aP [O,O,O,O,O,O,O,O,O,O,O] [12,12,12,12,12,12,12,12,12,12,12] ype) (.seq (.ae ypd) (.cond (.t 43) ypc .skip))) (.seq (.aP [O,O,O,O,O,O,O,O,O,I,O,O,O,O] [5,5,5,5,15,15,15,15,15,15,15,15,15,15] ypa) (.seq (.aP [O,O,O,O,O,I,O,O,O,O,O,O,O] [13,9,9,9,9,9,8,9,13,13,13,13,14] yoZ) (.seq (.aP [O,O,O,O,O,O,O] [7,7,7,7,7,7,8] yoY) (.seq (.ae yoX) .ret)))))))),77,[.tmp 6]⟩
@[simp] theorem Fp:aE Tryz.prog rG=some Yg:=by kernel_rfl
@[simp] theorem ayq:az Tryz.prog rG=true:=by kernel_rfl
abbrev yps:zR:=[ab 5 0,o 6 (.bx (.t 5)),al 7 6 6,ai 8 1 7,ab 9 1,o 10 (.bG .shr (.t 9) (.c (.int .u64 1))),bl 11 1 8 10,ai 12 1 11,ab 13 1,o 14 (.bG .and (.t 13) (.c (.int .i64 1))),o 15 (.bG .xor (.t 12) (.t 14)),ab 4 15]
abbrev XO:aF:=⟨.seq (.ae oJ) (.seq (.ae yps) .ret),16,[.tmp 4]⟩
@[simp] theorem Xt:aE Tryz.prog o6=some XO:=by kernel_rfl
@[simp] theorem ayg:az Tryz.prog o6=true:=by kernel_rfl
abbrev ypu:zR:=[ab 21 0,o 22 (.bx (.t 21)),al 23 0 22,aN 24 5 23,aL 5 4 24]
abbrev ypv:zR:=[ab 5 0,ab 6 0,ab 7 0,al 8 1 3,ai 9 1 8,cX 10 td 7 9,ab 11 0,al 12 4 3,ai 13 1 12,cX 14 td 11 13,o 15 (.bx (.t 5)),al 16 0 15,al 17 1 16,aL 1 17 10,o 18 (.bx (.t 6)),al 19 0 18,al 20 4 19,aL 1 20 14]
abbrev ypw:zR:=[o 3 (.box 5 (.t 1)),o 4 (.alloc [.int .i64 0,.own 1 aq [],.own 1 aq [],.own 2 cT [],.own 1 aq []])]
abbrev Yf:aF:=⟨.seq (.ae ypw) (.seq (.aP [O,O,O,O,O,O,O,O,I,O,O,O,O,O,O,O,O,O] [14,18,6,6,6,10,10,10,10,14,14,14,14,18,18,18,18,19] ypv) (.seq (.ae ypu) .ret)),25,[.cell 4 true 5]⟩
@[simp] theorem LW:aE Tryz.prog Bg=some Yf:=by kernel_rfl
@[simp] theorem ays:az Tryz.prog Bg=true:=by kernel_rfl
abbrev JO:zR:=[ai 20 1 3,ab 2 20]
abbrev U':zR:=[ab 4 15]
abbrev ypz:zR:=[ai 16 1 3,ab 17 4,o 18 (.bG .shr (.t 17) (.c (.int .u64 1))),bl 19 1 16 18,q (.store 1 (.t 19) (.c (.bool true)))]
abbrev Un:aj:=.block 1 [] (.ae ypz)
abbrev TV:aj:=.rangeFunc (.t 14) [15] (O::O::I::I::(by(iterate 17 refine O::?_);exact[])) (.ae U') Un
abbrev Ui:zR:=[aN 12 5 1,ai 13 1 3,cX 14 FC 12 13]
abbrev ypD:zR:=[aN 5 5 1,ba 6 mf 5,al 7 3 1,ai 8 1 7,aX 9 8,o 10 (.bG .add (.t 6) (.t 9)),o 11 (.mkSlice 1 pk 1 (.bool false) (.t 10) (.t 10)),o 3 (.alloc [.own 1 pk []]),aL 1 3 11]
abbrev ypE:zR:=[o 1 (.box 5 (.t 0)),o 2 (.dP 1 pk)]
abbrev agf:aF:=⟨.seq (.ae ypE) (.seq (.gm [[],[0],[],[2],[3],[1,4],[5,5],[],[7,6,1,0,1,2,3,4,5,6,7]] ypD) (.seq (.seq (.ae Ui) (.block 0 [] TV)) (.seq (.ae JO) .ret))),21,[.tmp 2]⟩
@[simp] theorem acw:aE Tryz.prog tJ=some agf:=by kernel_rfl
@[simp] theorem aAy:az Tryz.prog tJ=true:=by kernel_rfl
abbrev ypF:zR:=[al 3 0 1,ai 4 1 3,o 5 (.bG .add (.c (.int .i64 1)) (.t 4)),al 6 1 1,ai 7 1 6,aX 8 7,o 9 (.bG .add (.t 5) (.t 8)),ab 2 9]
abbrev abw:aF:=⟨.seq (.ae KK) (.seq (.ae ypF) .ret),10,[.tmp 2]⟩
@[simp] theorem Mx:aE Tryz.prog mf=some abw:=by kernel_rfl
@[simp] theorem azA:az Tryz.prog mf=true:=by kernel_rfl
abbrev JV:zR:=[ab 26 0,ab 4 26]
abbrev ypI:zR:=[ab 17 0,ab 18 0,o 19 (.cap (.t 18)),o 20 (.slice 1 (.t 17) none (some (.t 19))),ab 21 1,o 22 (.tS 1 au 16 (.str []) (.t 20) (.t 21)),ab 23 0,aX 24 23,o 25 (.slice 1 (.t 22) none (some (.t 24))),ab 0 25]
abbrev JM:zR:=[ab 15 1,o 16 (.cmp .gtr (.sc .int) (.t 15) (.c (.int .i64 0)))]
abbrev Jz:zR:=[ab 8 1,ab 9 0,o 10 (.cap (.t 9)),ab 11 0,aX 12 11,o 13 (.bG .sub (.t 10) (.t 12)),o 14 (.bG .sub (.t 8) (.t 13)),ab 1 14]
abbrev JH:zR:=[o 7 (.j8 au (.c (.str [99,97,110,110,111,116,32,98,101,32,110,101,103,97,116,105,118,101]))),q (.panic (.t 7))]
abbrev Ji:zR:=[ab 5 1,o 6 (.cmp .lss (.sc .int) (.t 5) (.c (.int .i64 0)))]
abbrev JJ:zR:=[o 4 (.dP 1 au)]
abbrev WT:aF:=⟨.seq (.ae JJ) (.seq (.seq (.ae Ji) (.cond (.t 6) (.ae JH) .skip)) (.seq (.seq (.ae Jz) (.seq (.ae JM) (.cond (.t 16) (.ae ypI) .skip))) (.seq (.ae JV) .ret))),27,[.tmp 4]⟩
@[simp] theorem LJ:aE Tryz.prog Ff=some WT:=by kernel_rfl
@[simp] theorem axJ:az Tryz.prog Ff=true:=by kernel_rfl
abbrev sE:zB:=I::O::O::I::I::(by(iterate 69 refine O::?_);exact[])
abbrev Ea:zB:=(by(iterate 74 refine O::?_);exact[])
abbrev VD:zB:=I::O::O::I::I::O::I::(by(iterate 42 refine O::?_);exact I::I::I::(by(iterate 22 refine O::?_);exact[]))
abbrev ypS:zR:=[bL 73 51 1,ab 51 73]
abbrev ypT:zR:=[ab 68 4,o 69 (.j8 lB (.t 68)),ab 70 8,o 71 (.j8 aq (.t 70)),cX 72 xG 69 71]
abbrev ypU:zR:=[al 61 0 3,ai 62 1 61,ab 63 8,bl 64 1 62 63,ai 65 1 64,o 66 (.tX (.t 65)),o 67 (.cmp .eql (.sc .int) (.t 66) (.c (.int .i64 0)))]
abbrev ypV:zR:=[al 55 0 3,ai 56 1 55,ab 57 8,bl 58 1 56 57,ai 59 1 58,ab 60 6,q (.delete (.sc .int) (.t 59) (.t 60))]
abbrev ypW:zR:=[bl 53 1 49 51,ai 54 1 53,ab 8 54]
abbrev ypX:aj:=.seq (.ae ypW) (.seq (.ae ypV) (.seq (.ae ypU) (.cond (.t 67) (.ae ypT) .skip)))
abbrev ypY:zR:=[cU 52 51 50]
abbrev KV:aj:=.seq (.ae ypY) (.seq (.cond (.t 52) .skip (.exit 4)) (.seq (.block 5 [] ypX) (.ae ypS)))
abbrev yqa:zR:=[al 45 1 3,ai 46 1 45,ab 47 6,bl 48 1 46 47,ai 49 1 48,aX 50 49,bf 51 0]
abbrev yqb:zR:=[ab 41 0,ab 42 6,o 43 (.call (.t 41) [.t 42]),o 44 (.not (.t 43))]
abbrev yqc:zR:=[ab 37 4,o 38 (.j8 lB (.t 37)),ba 39 Ba 38,o 40 (.tT (.t 39) aq (.int .i64 0) false),ab 6 40]
abbrev yqd:aj:=.seq (.ae yqc) (.seq (.seq (.ae yqb) (.cond (.t 44) .ret .skip)) (.seq (.ae yqa) (.block 4 sE (.loop VD KV))))
abbrev yqe:zR:=[ab 32 4,o 33 (.bx (.t 32)),ai 34 1 33,ba 35 uU 34,o 36 (.cmp .gtr (.sc .int) (.t 35) (.c (.int .i64 0)))]
abbrev Aq:aj:=.seq (.seq (.ae yqe) (.cond (.t 36) .skip (.exit 2))) (.block 3 [] yqd)
abbrev TO:zB:=I::O::O::I::I::O::O::O::O::O::O::O::O::O::O::I::I::(by(iterate 57 refine O::?_);exact[])
abbrev yqi:zR:=[bL 31 16 1,ab 16 31]
abbrev yqj:zR:=[ab 26 4,o 27 (.j8 lB (.t 26)),ab 28 5,o 29 (.j8 aq (.t 28)),cX 30 xG 27 29]
abbrev yqk:zR:=[al 19 0 3,ai 20 1 19,ab 21 5,bl 22 1 20 21,ai 23 1 22,o 24 (.tX (.t 23)),o 25 (.cmp .eql (.sc .int) (.t 24) (.c (.int .i64 0)))]
abbrev yql:zR:=[ab 18 16,ab 5 18]
abbrev yqm:aj:=.seq (.ae yql) (.seq (.ae yqk) (.cond (.t 25) (.ae yqj) .skip))
abbrev Ju:aj:=.seq (.ae D_) (.seq (.cond (.t 17) .skip (.exit 0)) (.seq (.block 1 [] yqm) (.ae yqi)))
abbrev yqp:zR:=[al 13 3 1,ai 14 1 13,aX 15 14,bf 16 0]
abbrev yqq:zR:=[o 11 (.lit 1 [] []),o 12 (.box 1 (.t 11)),ab 4 12]
abbrev yqr:zR:=[aN 9 4 1,ba 10 n7 9,o 3 (.alloc [.own 1 xS [],.own 1 jK []]),aL 2 3 10]
abbrev Ys:aF:=⟨.seq (.ae yqr) (.seq (.ae yqq) (.seq (.seq (.ae yqp) (.block 0 sE (.loop TO Ju))) (.block 2 Ea (.loop sE Aq)))),74,[]⟩
abbrev TL:zI:=[.inBlock 3 [],.inLoop sE Aq,.inBlock 2 Ea]
abbrev yqt(x0 x3 x4 x6 x49 x50 x51:AV)(h:List Ob)(e:Cx:=cx):ar:=bg o7 (.code KV::.inLoop VD KV::.inBlock 4 sE::TL) (x0::U::U::x3::x4::U::x6::(by(iterate 42 refine U::?_);exact x49::x50::x51::(by(iterate 22 refine U::?_);exact[]))) h e
abbrev yqu(x0 x3 x4:AV)(h:List Ob)(e:Cx:=cx):ar:=bg o7 TL (x0::U::U::x3::x4::(by(iterate 69 refine U::?_);exact[])) h e
abbrev AQ:zI:=[]
abbrev Tp(x0 x3 x4:AV)(h:List Ob)(e:Cx:=cx):ar:=bg o7 (.code Aq::.inLoop sE Aq::.inBlock 2 Ea::AQ) (x0::U::U::x3::x4::(by(iterate 69 refine U::?_);exact[])) h e
abbrev UK:zI:=[.code (.block 2 Ea (.loop sE Aq))]
abbrev yqy(x0 x3 x4 x15 x16:AV)(h:List Ob)(e:Cx:=cx):ar:=bg o7 (.code Ju::.inLoop TO Ju::.inBlock 0 sE::UK) (x0::U::U::x3::x4::U::U::U::U::U::U::U::U::U::U::x15::x16::(by(iterate 57 refine U::?_);exact[])) h e
abbrev yqz(x0 x3 x4:AV)(h:List Ob)(e:Cx:=cx):ar:=bg o7 UK (x0::U::U::x3::x4::(by(iterate 69 refine U::?_);exact[])) h e
@[simp] theorem XN:aE Tryz.prog o7=some Ys:=by kernel_rfl
@[simp] theorem ayt:az Tryz.prog o7=true:=by kernel_rfl
abbrev Jl:zR:=[aN 79 2 4,aL 2 2 79]
abbrev AI:zB:=O::O::I::I::I::(by(iterate 18 refine O::?_);exact I::I::I::(by(iterate 54 refine O::?_);exact[]))
abbrev Lk:zB:=O::O::I::O::I::(by(iterate 75 refine O::?_);exact[])
abbrev TJ:zR:=[bL 78 25 1,ab 25 78]
abbrev UT:zB:=O::O::I::I::I::I::(by(iterate 17 refine O::?_);exact I::I::I::O::O::O::O::O::O::O::O::O::O::I::I::I::(by(iterate 41 refine O::?_);exact[]))
abbrev yqG:zR:=[bL 77 38 1,ab 38 77]
abbrev yqH:zR:=[al 65 1 4,ai 66 1 65,ab 67 9,al 68 1 4,ai 69 1 68,ab 70 9,bl 71 1 69 70,ai 72 1 71,ab 73 5,o 74 (.lit 1 [.int .i64 0] [(0,.t 73)]),o 75 (.append 1 aq 8 (.t 72) (.t 74)),bl 76 1 66 67,aL 1 76 75]
abbrev yqI:zR:=[al 59 0 4,ai 60 1 59,ab 61 5,bl 62 1 60 61,ai 63 1 62,ab 64 9,q (.bM (.sc .int) (.t 63) (.t 64) (.c (.bool true)))]
abbrev yqJ:aj:=.seq (.ae yqI) (.aP [O,I,O,O,I,O,O,I,O,O,O,O,O] [13,13,13,11,11,11,11,11,10,11,13,13,14] yqH)
abbrev yqK:zR:=[ab 48 10,ab 49 48,oy 50 49 (.off 0 (.t 4)),bQ 51 49 1 50,dH 52 49 5,oy 53 49 (.jd 1 (.t 51) (.t 52)),bQ 54 49 1 53,dH 55 49 9,oy 56 49 (.lookup (.sc .int) (.bool false) (.t 54) (.t 55) false),oy 57 49 (.not (.t 56)),bX 58 49 57]
abbrev yqL:zR:=[ab 43 3,ab 44 8,o 45 (.lookup (.sc .str) (.int .i64 0) (.t 43) (.t 44) true),ab 42 45,bC 46 42 0,bC 47 42 1,ab 9 46,ab 10 47]
abbrev yqM:zR:=[bl 40 1 36 38,ai 41 1 40,ab 8 41]
abbrev yqN:aj:=.seq (.ae yqM) (.seq (.ae yqL) (.seq (.ae yqK) (.cond (.t 58) yqJ .skip)))
abbrev yqO:zR:=[cU 39 38 37]
abbrev KO:aj:=.seq (.ae yqO) (.seq (.cond (.t 39) .skip (.exit 2)) (.seq (.block 3 [] yqN) (.ae yqG)))
abbrev yqQ:zR:=[al 35 2 6,ai 36 1 35,aX 37 36,bf 38 0]
abbrev yqR:zR:=[al 30 0 4,ai 31 1 30,ab 32 5,o 33 (.mkMap),bl 34 1 31 32,aL 1 34 33]
abbrev yqS:zR:=[ab 27 25,bl 28 5 23 25,aN 29 5 28,o 6 (.alloc [.str [],.int .i64 0,.own 1 au [],.own 1 au [],.bool false]),ab 5 27,aL 5 6 29]
abbrev yqT:aj:=.seq (.ae yqS) (.seq (.ae yqR) (.seq (.ae yqQ) (.block 2 AI (.loop UT KO))))
abbrev EO:aj:=.seq (.ae Tx) (.seq (.cond (.t 26) .skip (.exit 0)) (.seq (.block 1 [] yqT) (.ae TJ)))
abbrev Em:zR:=[al 13 3 1,ai 14 1 13,aX 15 14,o 16 (.mkSlice 1 xS 8 .dp (.t 15) (.t 15)),al 17 3 1,ai 18 1 17,aX 19 18,o 20 (.mkSlice 1 jK 24 (.list true 0 []) (.t 19) (.t 19)),o 21 (.build [.list true 0 [],.list true 0 []] [(0,1,.t 16),(1,1,.t 20)]),o 4 (.alloc [.own 1 xS [],.own 1 jK []]),aL 2 4 21]
abbrev yqY:zR:=[aN 11 4 1,ba 12 uZ 11,ab 3 12]
abbrev yqZ:zR:=[o 1 (.box 4 (.t 0)),o 2 (.alloc [.own 1 xS [],.own 1 jK []])]
abbrev aa5:aF:=⟨.seq (.ae yqZ) (.seq (.ae yqY) (.seq (.gm [[],[0],[1],[2,2],[],[4],[5],[6,6],[3,7],[],[9,8,0,1,2,3,4,5,6,7,8,9]] Em) (.seq (.seq (.ae Tc) (.block 0 Lk (.loop AI EO))) (.seq (.ae Jl) .ret)))),80,[.cell 2 true 2]⟩
abbrev Uf:zI:=[.inBlock 1 [],.code (.ae TJ),.inLoop AI EO,.inBlock 0 Lk,.code (.seq (.ae Jl) .ret)]
abbrev yrb(x2 x3 x4 x5 x23 x24 x25 x36 x37 x38:AV)(h:List Ob)(e:Cx:=cx):ar:=bg n7 (.code KO::.inLoop UT KO::.inBlock 2 AI::Uf) (U::U::x2::x3::x4::x5::(by(iterate 17 refine U::?_);exact x23::x24::x25::U::U::U::U::U::U::U::U::U::U::x36::x37::x38::(by(iterate 41 refine U::?_);exact[]))) h e
abbrev yrc(x2 x3 x4 x23 x24 x25:AV)(h:List Ob)(e:Cx:=cx):ar:=bg n7 Uf (U::U::x2::x3::x4::(by(iterate 18 refine U::?_);exact x23::x24::x25::(by(iterate 54 refine U::?_);exact[]))) h e
abbrev yrd:zI:=[.code (.seq (.ae Jl) .ret)]
abbrev KU(x2 x3 x4 x23 x24 x25:AV)(h:List Ob)(e:Cx:=cx):ar:=bg n7 (.code EO::.inLoop AI EO::.inBlock 0 Lk::yrd) (U::U::x2::x3::x4::(by(iterate 18 refine U::?_);exact x23::x24::x25::(by(iterate 54 refine U::?_);exact[]))) h e
@[simp] theorem Zr:aE Tryz.prog n7=some aa5:=by kernel_rfl
@[simp] theorem azk:az Tryz.prog n7=true:=by kernel_rfl
abbrev yrf:zR:=[ab 7 0,ab 8 0,o 9 (.invoke (.t 8) "Len" []),o 10 (.bG .sub (.t 9) (.c (.int .i64 1))),cX 11 xK 7 10]
abbrev yrg:zR:=[ab 4 0,ab 5 1,o 6 (.invoke (.t 4) "Push" [.t 5])]
abbrev Xg:aF:=⟨.seq (.ae yrg) (.ae yrf),12,[]⟩
@[simp] theorem W2:aE Tryz.prog xG=some Xg:=by kernel_rfl
@[simp] theorem axU:az Tryz.prog xG=true:=by kernel_rfl
abbrev yrh:zR:=[ab 3 0,aX 4 3,ab 2 4]
abbrev Yt:aF:=⟨.seq (.ae AK) (.seq (.ae yrh) .ret),5,[.tmp 2]⟩
@[simp] theorem LX:aE Tryz.prog uU=some Yt:=by kernel_rfl
@[simp] theorem ayB:az Tryz.prog uU=true:=by kernel_rfl
abbrev yrj:zR:=[ab 13 0,o 14 (.invoke (.t 13) "Pop" []),ab 2 14]
abbrev yrk:zR:=[ab 10 0,ab 11 3,o 12 (.call (.f xF) [.t 10,.c (.int .i64 0),.t 11])]
abbrev yrl:zR:=[ab 7 0,ab 8 3,o 9 (.invoke (.t 7) "Swap" [.c (.int .i64 0),.t 8])]
abbrev yrm:zR:=[ab 4 0,o 5 (.invoke (.t 4) "Len" []),o 6 (.bG .sub (.t 5) (.c (.int .i64 1))),ab 3 6]
abbrev Xy:aF:=⟨.seq (.ae K5) (.seq (.ae yrm) (.seq (.ae yrl) (.seq (.ae yrk) (.seq (.ae yrj) .ret)))),15,[.tmp 2]⟩
@[simp] theorem W7:aE Tryz.prog Ba=some Xy:=by kernel_rfl
@[simp] theorem axY:az Tryz.prog Ba=true:=by kernel_rfl
abbrev Tb:zR:=[ab 42 7,ba 43 jo 42,ab 4 43,bf 5 0]
abbrev Vr:zB:=O::O::O::O::O::O::O::I::(by(iterate 19 refine O::?_);exact I::I::I::(by(iterate 14 refine O::?_);exact[]))
abbrev T1:zB:=O::O::O::O::O::O::O::I::(by(iterate 36 refine O::?_);exact[])
abbrev yrr:zR:=[bL 41 29 1,ab 29 41]
abbrev yrs:zR:=[ab 37 7,ab 38 9,o 39 (.lit 1 [.str []] [(0,.t 38)]),o 40 (.append 1 au 16 (.t 37) (.t 39)),ab 7 40]
abbrev yrt:zR:=[ab 33 7,ab 34 9,cX 35 xB 33 34,o 36 (.not (.t 35))]
abbrev yru:zR:=[bl 31 1 27 29,ai 32 1 31,ab 9 32]
abbrev yrv:aj:=.seq (.ae yru) (.seq (.ae yrt) (.cond (.t 36) (.ae yrs) .skip))
abbrev yrw:zR:=[cU 30 29 28]
abbrev Kk:aj:=.seq (.ae yrw) (.seq (.cond (.t 30) .skip (.exit 0)) (.seq (.block 1 [] yrv) (.ae yrr)))
abbrev yry:zR:=[ab 27 0,aX 28 27,bf 29 0]
abbrev yrA:zR:=[o 4 (.dP 3 aU),bf 5 1]
abbrev yrB:aj:=.seq (.ae yrA) .ret
abbrev yrC:zR:=[ai 11 1 3,o 12 (.cmp .lss (.sc .int) (.t 11) (.c (.int .i64 0))),ab 13 12,on 14 13 (.load false 1 (.t 3)),on 15 13 (.cmp .gtr (.sc .int) (.t 14) (.c (.int .i64 8))),o 16 (.pick (.t 13) (.c (.bool true)) (.t 15)),ab 17 16,on 18 17 (.mv (.t 0)),on 19 17 (.len (.t 18)),on 20 17 (.cmp .gtr (.sc .int) (.t 19) (.c (.int .i64 128))),o 21 (.pick (.t 17) (.c (.bool true)) (.t 20)),ab 22 21,on 23 22 (.mv (.t 0)),on 24 22 (.mv (.t 6)),on 25 22 (.call (.f sZ) [.t 23,.t 24]),o 26 (.pick (.t 22) (.c (.bool true)) (.t 25))]
abbrev yrD:zR:=[o 10 (.fW (.func Bl) [] [.t 3]),ab 6 10]
abbrev yrE:zR:=[o 3 (.box 1 (.t 1)),o 4 (.dP 3 aU),bf 5 0]
abbrev Ze:aF:=⟨.seq (.ae yrE) (.seq (.ae yrD) (.seq (.seq (.ae yrC) (.cond (.t 26) yrB .skip)) (.seq (.ae Th) (.seq (.seq (.ae yry) (.block 0 T1 (.loop Vr Kk))) (.seq (.ae Tb) .ret))))),44,[.tmp 4,.tmp 5]⟩
abbrev yrF:zI:=[.code (.seq (.ae Tb) .ret)]
abbrev yrG(x7 x27 x28 x29:AV)(h:List Ob)(e:Cx:=cx):ar:=bg xR (.code Kk::.inLoop Vr Kk::.inBlock 0 T1::yrF) (U::U::U::U::U::U::U::x7::(by(iterate 19 refine U::?_);exact x27::x28::x29::(by(iterate 14 refine U::?_);exact[]))) h e
@[simp] theorem Yr:aE Tryz.prog xR=some Ze:=by kernel_rfl
@[simp] theorem ayQ:az Tryz.prog xR=true:=by kernel_rfl
abbrev UG:zR:=[ab 61 0,ab 62 10,cX 63 uO 61 62,ab 64 9,ab 6 63,ab 7 64]
abbrev yrI:zR:=[ab 57 0,ab 58 10,cX 59 uP 57 58,ab 60 9,ab 6 59,ab 7 60]
abbrev SQ:aj:=.seq (.ae yrI) .ret
abbrev VI:zR:=[al 54 0 8,ai 55 1 54,o 56 (.cmp .eql (.sc .int) (.t 55) (.c (.int .i64 3)))]
abbrev Vq:zB:=I::O::I::O::O::O::O::O::I::I::I::(by(iterate 28 refine O::?_);exact I::I::(by(iterate 24 refine O::?_);exact[]))
abbrev UH:zB:=I::O::O::O::O::O::O::O::I::I::I::(by(iterate 54 refine O::?_);exact[])
abbrev yrN:zR:=[bL 53 40 1,ab 40 53]
abbrev yrO:zR:=[ab 49 10,ab 50 11,o 51 (.lit 1 [.int .i64 0] [(0,.t 50)]),o 52 (.append 1 aq 8 (.t 49) (.t 51)),ab 10 52]
abbrev yrP:zR:=[ab 43 0,ab 44 9,ab 45 2,o 46 (.call (.f uM) [.t 43,.t 44,.t 45]),ab 42 46,bC 47 42 0,bC 48 42 1,ab 11 47,ab 9 48]
abbrev yrQ:zR:=[bf 11 0]
abbrev yrR:aj:=.seq (.ae yrQ) (.seq (.ae yrP) (.ae yrO))
abbrev yrS:zR:=[cU 41 40 39]
abbrev Ll:aj:=.seq (.ae yrS) (.seq (.cond (.t 41) .skip (.exit 1)) (.seq (.block 2 [] yrR) (.ae yrN)))
abbrev yrU:zR:=[al 38 2 8,ai 39 1 38,bf 40 0]
abbrev yrV:zR:=[o 10 (.dP 1 aq)]
abbrev yrW:zR:=[al 22 0 8,ai 23 1 22,ab 24 9,ab 6 23,ab 7 24]
abbrev yrX:zR:=[ab 27 2,al 28 1 8,ai 29 1 28,o 30 (.bG .shr (.t 29) (.c (.int .u64 1))),bl 31 1 27 30,ai 32 1 31,al 33 1 8,ai 34 1 33,o 35 (.bG .and (.t 34) (.c (.int .i64 1))),o 36 (.bG .xor (.t 32) (.t 35)),ab 37 9,ab 6 36,ab 7 37]
abbrev yrY:aj:=.seq (.aP [O,O,O,O,O,O,O,O,O,O,O,O,O] [14,14,14,14,14,14,14,14,14,14,14,14,14] yrX) .ret
abbrev yrZ:zR:=[o 26 (.cmp .eql (.sc .int) (.t 18) (.c (.int .i64 2))),ab 25 26]
abbrev ysa:aj:=.seq (.ae yrW) .ret
abbrev ysb:aj:=.seq (.ae yrZ) (.cond (.t 25) yrY .skip)
abbrev ysc:zR:=[o 21 (.cmp .eql (.sc .int) (.t 18) (.c (.int .i64 1))),ab 19 21]
abbrev ysd:zR:=[o 20 (.cmp .eql (.sc .int) (.t 18) (.c (.int .i64 0))),ab 19 20]
abbrev yse:aj:=.seq (.seq (.ae ysd) (.cond (.t 19) .skip (.ae ysc))) (.cond (.t 19) ysa ysb)
abbrev ysf:zR:=[al 17 0 8,ai 18 1 17]
abbrev ysg:zR:=[ab 12 1,o 13 (.jd 3 (.t 12) (.c (.int .i64 0))),aN 14 3 13,ab 15 1,o 16 (.slice 3 (.t 15) (some (.c (.int .i64 1))) none),o 8 (.alloc [.int .i64 0,.int .i64 0,.int .i64 0]),aL 3 8 14,ab 9 16]
abbrev ysh:zR:=[bf 6 0,o 7 (.dP 3 aU)]
abbrev Xs:aF:=⟨.seq (.ae ysh) (.seq (.aP [O,O,I,O,I,O,O,O] [7,7,7,9,9,7,9,9] ysg) (.seq (.seq (.ae ysf) (.block 0 [] yse)) (.seq (.ae yrV) (.seq (.seq (.ae yrU) (.block 1 UH (.loop Vq Ll))) (.seq (.seq (.ae VI) (.cond (.t 56) SQ .skip)) (.seq (.ae UG) .ret)))))),65,[.tmp 6,.tmp 7]⟩
abbrev ysi:zI:=[.code (.seq (.seq (.ae VI) (.cond (.t 56) SQ .skip)) (.seq (.ae UG) .ret))]
abbrev ysj(x0 x2 x8 x9 x10 x39 x40:AV)(h:List Ob)(e:Cx:=cx):ar:=bg uM (.code Ll::.inLoop Vq Ll::.inBlock 1 UH::ysi) (x0::U::x2::U::U::U::U::U::x8::x9::x10::(by(iterate 28 refine U::?_);exact x39::x40::(by(iterate 24 refine U::?_);exact[]))) h e
@[simp] theorem Fi:aE Tryz.prog uM=some Xs:=by kernel_rfl
@[simp] theorem axW:az Tryz.prog uM=true:=by kernel_rfl
abbrev ysq:zR:=[ab 16 0,ab 17 5,bl 18 1 16 17,ai 19 1 18,ab 20 1,ab 21 5,bl 22 1 20 21,ai 23 1 22,o 24 (.cmp .neq (.sc .int) (.t 19) (.t 23))]
abbrev yss:aj:=.seq (.ae D6) (.seq (.aP [O,O,O,O,O,O,O,O,O] [10,10,10,10,10,10,10,10,10] ysq) (.cond (.t 24) oM .skip))
abbrev Ki:aj:=.seq (.ae wL) (.seq (.cond (.t 14) .skip (.exit 0)) (.seq (.block 1 [] yss) (.ae Eg)))
abbrev Xc:aF:=⟨.seq (.ae mP) (.seq (.seq (.ae AE) (.cond (.t 10) oM .skip)) (.seq (.seq (.ae At) (.block 0 pL (.loop sI Ki))) (.seq (.ae wJ) .ret))),26,[.tmp 4]⟩
abbrev ysB(x0 x1 x12 x13:AV)(h:List Ob)(e:Cx:=cx):ar:=bg s8 (.code Ki::.inLoop sI Ki::.inBlock 0 pL::AL) [x0,x1,U,U,U,U,U,U,U,U,U,U,x12,x13,U,U,U,U,U,U,U,U,U,U,U,U] h e
@[simp] theorem W0:aE Tryz.prog s8=some Xc:=by kernel_rfl
@[simp] theorem axQ:az Tryz.prog s8=true:=by kernel_rfl
abbrev ysI:zR:=[ab 16 0,ab 17 5,bl 18 2 16 17,aN 19 2 18,ab 20 1,ab 21 5,bl 22 2 20 21,aN 23 2 22,o 24 (.cmp .neq (.jf [.int,.int]) (.t 19) (.t 23))]
abbrev ysK:aj:=.seq (.ae D6) (.seq (.aP [O,O,O,O,O,O,O,O,O] [10,10,10,10,10,10,10,10,10] ysI) (.cond (.t 24) oM .skip))
abbrev JF:aj:=.seq (.ae wL) (.seq (.cond (.t 14) .skip (.exit 0)) (.seq (.block 1 [] ysK) (.ae Eg)))
abbrev WV:aF:=⟨.seq (.ae mP) (.seq (.seq (.ae AE) (.cond (.t 10) oM .skip)) (.seq (.seq (.ae At) (.block 0 pL (.loop sI JF))) (.seq (.ae wJ) .ret))),26,[.tmp 4]⟩
abbrev ysT(x0 x1 x12 x13:AV)(h:List Ob)(e:Cx:=cx):ar:=bg xC (.code JF::.inLoop sI JF::.inBlock 0 pL::AL) [x0,x1,U,U,U,U,U,U,U,U,U,U,x12,x13,U,U,U,U,U,U,U,U,U,U,U,U] h e
@[simp] theorem WL:aE Tryz.prog xC=some WV:=by kernel_rfl
@[simp] theorem axK:az Tryz.prog xC=true:=by kernel_rfl
abbrev ysU:zR:=[o 3 (.fW (.func xP) [] [.t 1]),ab 2 3]
abbrev Km:zR:=[o 1 (.box 1 (.t 0)),o 2 (.mv (.c .dS))]
abbrev ZK:aF:=⟨.seq (.ae Km) (.seq (.ae ysU) .ret),4,[.tmp 2]⟩
@[simp] theorem YG:aE Tryz.prog FB=some ZK:=by kernel_rfl
@[simp] theorem ay9:az Tryz.prog FB=true:=by kernel_rfl
abbrev ysW:zR:=[ab 5 0,ab 6 1,cX 7 uL 5 6,o 8 (.cmp .geq (.sc .int) (.t 7) (.c (.int .i64 0))),ab 4 8]
abbrev Wx:aF:=⟨.seq (.ae mP) (.seq (.ae ysW) .ret),9,[.tmp 4]⟩
@[simp] theorem Wu:aE Tryz.prog xB=some Wx:=by kernel_rfl
@[simp] theorem axB:az Tryz.prog xB=true:=by kernel_rfl
abbrev yte:zR:=[ab 11 1,ab 12 0,ab 13 5,bl 14 5 12 13,aN 15 5 14,o 16 (.call (.t 11) [.t 15])]
abbrev ytg:aj:=.seq (.ae Kc) (.seq (.ae yte) (.cond (.t 16) Kp .skip))
abbrev JK:aj:=.seq (.ae J_) (.seq (.cond (.t 9) .skip (.exit 0)) (.seq (.block 1 [] ytg) (.ae Jx)))
abbrev Wo:aF:=⟨.seq (.ae oJ) (.seq (.seq (.ae ED) (.block 0 nP (.loop sJ JK))) (.seq (.ae wO) .ret)),19,[.tmp 4]⟩
abbrev ytm(x0 x1 x7 x8:AV)(h:List Ob)(e:Cx:=cx):ar:=bg xy (.code JK::.inLoop sJ JK::.inBlock 0 nP::Eo) [x0,x1,U,U,U,U,U,x7,x8,U,U,U,U,U,U,U,U,U,U] h e
@[simp] theorem Wi:aE Tryz.prog xy=some Wo:=by kernel_rfl
@[simp] theorem axr:az Tryz.prog xy=true:=by kernel_rfl
abbrev ytn:zR:=[ab 4 0,o 5 (.cmp .neq (.sc .str) (.t 4) (.c (.str []))),ab 6 5,dH 7 6 0,oy 8 6 (.qA (.t 7)),oy 9 6 (.cmp .leq (.sc .int) (.t 8) (.c (.int .i64 40))),bX 10 6 9,ab 11 10,dH 12 11 0,dH 13 11 3,oy 14 11 (.call (.f Bd) [.t 12,.t 13]),oy 15 11 (.cmp .lss (.sc .int) (.t 14) (.c (.int .i64 0))),bX 16 11 15,ab 2 16]
abbrev yto:zR:=[o 3 (.mv (.f s_))]
abbrev XU:aF:=⟨.seq (.ae ym) (.seq (.ae yto) (.seq (.ae ytn) .ret)),17,[.tmp 2]⟩
@[simp] theorem Xr:aE Tryz.prog Be=some XU:=by kernel_rfl
@[simp] theorem ayf:az Tryz.prog Be=true:=by kernel_rfl
abbrev ytq:zR:=[ab 4 0,al 5 2 1,ai 6 1 5,aX 7 6,cX 8 B2 4 7,o 9 (.not (.t 8)),ab 3 9]
abbrev Ex:zR:=[oG 3]
abbrev aaC:aF:=⟨.seq (.ae Ex) (.seq (.ae ytq) .ret),10,[.tmp 3]⟩
@[simp] theorem Zu:aE Tryz.prog BB=some aaC:=by kernel_rfl
@[simp] theorem azl:az Tryz.prog BB=true:=by kernel_rfl
abbrev yts:zR:=[ab 5 0,o 6 (.qA (.t 5)),ab 7 1,o 8 (.cmp .eql (.sc .int) (.t 6) (.t 7)),ab 9 8,dH 10 9 0,oy 11 9 (.call (.f uX) [.t 10,.c (.str [48,49,45])]),oy 12 9 (.cmp .eql (.sc .str) (.t 11) (.c (.str []))),bX 13 9 12,ab 4 13]
abbrev ago:aF:=⟨.seq (.ae mP) (.seq (.ae yts) .ret),14,[.tmp 4]⟩
@[simp] theorem acr:aE Tryz.prog B2=some ago:=by kernel_rfl
@[simp] theorem az4:az Tryz.prog B2=true:=by kernel_rfl
abbrev ytu:zR:=[ab 13 6,ab 14 13,dH 15 14 1,oy 16 14 (.fE 2 1 (.t 5) (.c (.int .i64 0))),bQ 17 14 1 16,oy 18 14 (.cmp .geq (.sc .int) (.t 15) (.t 17)),bX 19 14 18,ab 20 19,dH 21 20 1,oy 22 20 (.fE 2 1 (.t 5) (.c (.int .i64 1))),bQ 23 20 1 22,oy 24 20 (.cmp .leq (.sc .int) (.t 21) (.t 23)),bX 25 20 24,ab 4 25]
abbrev ytv:zR:=[o 8 (.load false 1 (.g 1)),ab 9 0,o 10 (.lookup (.sc .int) (.agg [.int .i64 0,.int .i64 0]) (.t 8) (.t 9) true),ab 7 10,bC 11 7 0,bC 12 7 1,o 5 (.alloc [.int .i64 0,.int .i64 0]),aL 2 5 11,ab 6 12]
abbrev afo:aF:=⟨.seq (.ae mP) (.seq (.ae ytv) (.seq (.ae ytu) .ret)),26,[.tmp 4]⟩
@[simp] theorem Nt:aE Tryz.prog vA=some afo:=by kernel_rfl
@[simp] theorem aAc:az Tryz.prog vA=true:=by kernel_rfl
abbrev ytx:zR:=[ab 5 0,ab 6 1,cX 7 s6 5 6,o 8 (.cmp .geq (.sc .int) (.t 7) (.c (.int .i64 0))),ab 4 8]
abbrev Wq:aF:=⟨.seq (.ae mP) (.seq (.ae ytx) .ret),9,[.tmp 4]⟩
@[simp] theorem Wk:aE Tryz.prog sZ=some Wq:=by kernel_rfl
@[simp] theorem axu:az Tryz.prog sZ=true:=by kernel_rfl
abbrev ytz:zR:=[ab 4 0,o 5 (.cmp .lss (.sc .int) (.t 4) (.c (.int .i64 0))),ab 6 5,on 7 6 (.mv (.t 0)),on 8 6 (.load false 1 (.t 1)),on 9 6 (.cmp .geq (.sc .int) (.t 7) (.t 8)),o 10 (.pick (.t 6) (.c (.bool true)) (.t 9)),ab 3 10]
abbrev ZV:aF:=⟨.seq (.ae Ex) (.seq (.ae ytz) .ret),11,[.tmp 3]⟩
@[simp] theorem Yz:aE Tryz.prog Bv=some ZV:=by kernel_rfl
@[simp] theorem azg:az Tryz.prog Bv=true:=by kernel_rfl
abbrev ytB:zR:=[ab 3 0,o 4 (.cmp .lss (.sc .int) (.t 3) (.c (.int .i64 0))),ab 5 4,on 6 5 (.mv (.t 0)),on 7 5 (.cmp .gtr (.sc .int) (.t 6) (.c (.int .i64 2))),o 8 (.pick (.t 5) (.c (.bool true)) (.t 7)),ab 2 8]
abbrev aab:aF:=⟨.seq (.ae ym) (.seq (.ae ytB) .ret),9,[.tmp 2]⟩
@[simp] theorem YN:aE Tryz.prog Bo=some aab:=by kernel_rfl
@[simp] theorem ay0:az Tryz.prog Bo=true:=by kernel_rfl
abbrev ytD:zR:=[ab 5 0,ab 6 1,cX 7 xD 5 6,o 8 (.cmp .geq (.sc .int) (.t 7) (.c (.int .i64 0))),ab 4 8]
abbrev WI:aF:=⟨.seq (.ae mP) (.seq (.ae ytD) .ret),9,[.tmp 4]⟩
@[simp] theorem WA:aE Tryz.prog uJ=some WI:=by kernel_rfl
@[simp] theorem axD:az Tryz.prog uJ=true:=by kernel_rfl
abbrev ytF:zR:=[ab 3 0,ba 4 xX 3,o 5 (.not (.t 4)),ab 2 5]
abbrev ZM:aF:=⟨.seq (.ae ym) (.seq (.ae ytF) .ret),6,[.tmp 2]⟩
@[simp] theorem YD:aE Tryz.prog Br=some ZM:=by kernel_rfl
@[simp] theorem azc:az Tryz.prog Br=true:=by kernel_rfl
abbrev SU:zR:=[ab 49 3,ab 2 49]
abbrev Tw:zB:=O::I::O::I::(by(iterate 16 refine O::?_);exact I::I::I::(by(iterate 27 refine O::?_);exact[]))
abbrev Us:zB:=O::O::O::I::(by(iterate 46 refine O::?_);exact[])
abbrev ytK:zR:=[bL 48 22 1,ab 22 48]
abbrev ytL:zR:=[ab 38 3,o 39 (.bx (.t 38)),al 40 5 39,ai 41 1 40,aN 42 2 5,aN 43 5 1,ba 44 mf 43,ab 45 4,o 46 (.bG .add (.t 44) (.t 45)),o 47 (.bG .mul (.c (.int .i64 2)) (.t 46)),q (.bM (.jf [.int,.int]) (.t 41) (.t 42) (.t 47))]
abbrev ytM:zR:=[ab 36 7,o 37 (.not (.t 36))]
abbrev ytN:zR:=[ab 28 3,o 29 (.bx (.t 28)),al 30 5 29,ai 31 1 30,aN 32 2 5,o 33 (.lookup (.jf [.int,.int]) (.int .i64 0) (.t 31) (.t 32) true),ab 27 33,bC 34 27 0,bC 35 27 1,ab 6 34,ab 7 35]
abbrev ytO:zR:=[ab 24 22,bl 25 2 20 22,aN 26 2 25,o 5 (.alloc [.int .i64 0,.int .i64 0]),ab 4 24,aL 2 5 26]
abbrev ytP:aj:=.seq (.ae ytO) (.seq (.aP [O,O,O,O,O,O,O,O,O,O,O] [12,12,12,12,12,12,12,12,12,12,12] ytN) (.seq (.ae ytM) (.cond (.t 37) (.aP [O,O,O,I,I,O,O,O,O,O,O] [11,11,11,11,11,7,11,11,11,11,12] ytL) .skip)))
abbrev ytQ:zR:=[cU 23 22 21]
abbrev KX:aj:=.seq (.ae ytQ) (.seq (.cond (.t 23) .skip (.exit 0)) (.seq (.block 1 [] ytP) (.ae ytK)))
abbrev ytS:zR:=[al 19 3 1,ai 20 1 19,aX 21 20,bf 22 0]
abbrev ytT:zR:=[ab 12 3,al 13 3 1,ai 14 1 13,ba 15 A8 14,o 16 (.bx (.t 12)),al 17 0 16,al 18 3 17,aL 1 18 15]
abbrev ytU:zR:=[aN 8 5 1,o 9 (.mkMap),o 10 (.build [.int .i64 0,.list true 0 [],.list true 0 [],.list true 0 [],.list true 0 [],.dp,.list true 0 []] [(0,5,.t 8),(5,1,.t 9)]),o 11 (.box 7 (.t 10)),ab 3 11]
abbrev acj:aF:=⟨.seq (.ae S3) (.seq (.ae ytU) (.seq (.ae ytT) (.seq (.seq (.ae ytS) (.block 0 Us (.loop Tw KX))) (.seq (.ae SU) .ret)))),50,[.tmp 2]⟩
abbrev ytW:zI:=[.code (.seq (.ae SU) .ret)]
abbrev ytX(x1 x3 x20 x21 x22:AV)(h:List Ob)(e:Cx:=cx):ar:=bg tw (.code KX::.inLoop Tw KX::.inBlock 0 Us::ytW) (U::x1::U::x3::(by(iterate 16 refine U::?_);exact x20::x21::x22::(by(iterate 27 refine U::?_);exact[]))) h e
@[simp] theorem Mm:aE Tryz.prog tw=some acj:=by kernel_rfl
@[simp] theorem azN:az Tryz.prog tw=true:=by kernel_rfl
abbrev ytY:zR:=[o 5 (.lit 1 [] []),ab 6 0,o 7 (.append 1 aq 8 (.t 5) (.t 6)),ab 2 7]
abbrev JD:zR:=[o 2 (.dP 1 aq)]
abbrev yua:aj:=.seq (.ae JD) .ret
abbrev W9:aF:=⟨.seq (.ae JD) (.seq (.seq (.ae KJ) (.cond (.t 4) yua .skip)) (.seq (.ae ytY) .ret)),8,[.tmp 2]⟩
@[simp] theorem WZ:aE Tryz.prog A9=some W9:=by kernel_rfl
@[simp] theorem axO:az Tryz.prog A9=true:=by kernel_rfl
abbrev Vf:zR:=[ab 24 5,ab 4 24]
abbrev Vg:zB:=[O,O,O,O,O,I,I,O,O,O,O,I,I,I,O,O,O,O,O,O,O,O,O,O,O]
abbrev VF:zB:=O::O::O::O::O::I::(by(iterate 19 refine O::?_);exact[])
abbrev yug:zR:=[bL 23 13 1,ab 13 23]
abbrev yuh:zR:=[ab 17 5,ab 18 6,ab 19 8,o 20 (.call (.t 18) [.t 19]),o 21 (.lit 1 [.int .i64 0] [(0,.t 20)]),o 22 (.append 1 aq 8 (.t 17) (.t 21)),ab 5 22]
abbrev yui:zR:=[bl 15 1 11 13,ai 16 1 15,ab 8 16]
abbrev yuj:aj:=.seq (.ae yui) (.ae yuh)
abbrev JW:aj:=.seq (.ae wL) (.seq (.cond (.t 14) .skip (.exit 0)) (.seq (.block 1 [] yuj) (.ae yug)))
abbrev yum:zR:=[ab 11 1,aX 12 11,bf 13 0]
abbrev yun:zR:=[ab 9 0,o 10 (.fW (.func o6) [.t 9] []),ab 6 10]
abbrev yuo:zR:=[o 5 (.dP 1 aq)]
abbrev X9:aF:=⟨.seq (.ae Lm) (.seq (.ae yuo) (.seq (.ae yun) (.seq (.seq (.ae yum) (.block 0 VF (.loop Vg JW))) (.seq (.ae Vf) .ret)))),25,[.tmp 4]⟩
abbrev yuq:zI:=[.code (.seq (.ae Vf) .ret)]
abbrev Ta(x5 x6 x11 x12 x13:AV)(h:List Ob)(e:Cx:=cx):ar:=bg td (.code JW::.inLoop Vg JW::.inBlock 0 VF::yuq) [U,U,U,U,U,x5,x6,U,U,U,U,x11,x12,x13,U,U,U,U,U,U,U,U,U,U,U] h e
@[simp] theorem LV:aE Tryz.prog td=some X9:=by kernel_rfl
@[simp] theorem aym:az Tryz.prog td=true:=by kernel_rfl
abbrev yus:zR:=[o 5 (.fW (.func p_) [] [.t 2,.t 3]),ab 4 5]
abbrev yut:zR:=[o 2 (.box 5 (.t 0)),o 3 (.box 1 (.t 1)),o 4 (.mv (.c .dS))]
abbrev Z6:aF:=⟨.seq (.ae yut) (.seq (.ae yus) .ret),6,[.tmp 4]⟩
@[simp] theorem Y8:aE Tryz.prog FC=some Z6:=by kernel_rfl
@[simp] theorem ay8:az Tryz.prog FC=true:=by kernel_rfl
abbrev VZ:zB:=I::I::(by(iterate 21 refine O::?_);exact[])
abbrev SV:zB:=(by(iterate 23 refine O::?_);exact[])
abbrev yuw:zR:=[ab 22 4,ab 1 22]
abbrev yux:zR:=[ab 18 0,ab 19 4,ab 20 1,o 21 (.invoke (.t 18) "Swap" [.t 19,.t 20])]
abbrev yuy:zR:=[ab 8 4,ab 9 1,o 10 (.cmp .eql (.sc .int) (.t 8) (.t 9)),ab 11 10,on 12 11 (.mv (.t 0)),on 13 11 (.mv (.t 1)),on 14 11 (.mv (.t 4)),on 15 11 (.invoke (.t 12) "Less" [.t 13,.t 14]),on 16 11 (.not (.t 15)),o 17 (.pick (.t 11) (.c (.bool true)) (.t 16))]
abbrev yuz:zR:=[ab 5 1,o 6 (.bG .sub (.t 5) (.c (.int .i64 1))),o 7 (.bG .quo (.t 6) (.c (.int .i64 2))),ab 4 7]
abbrev yuA:aj:=.seq (.ae yuz) (.seq (.seq (.ae yuy) (.cond (.t 17) (.exit 0) .skip)) (.seq (.ae yux) (.ae yuw)))
abbrev Ks:aj:=.block 1 [] yuA
abbrev XG:aF:=⟨.block 0 SV (.loop VZ Ks),23,[]⟩
abbrev yuD(x0 x1:AV)(h:List Ob)(e:Cx:=cx):ar:=bg xK (.code Ks::.inLoop VZ Ks::.inBlock 0 SV::AQ) (x0::x1::(by(iterate 21 refine U::?_);exact[])) h e
@[simp] theorem Xo:aE Tryz.prog xK=some XG:=by kernel_rfl
@[simp] theorem ayc:az Tryz.prog xK=true:=by kernel_rfl
abbrev UQ:zR:=[ab 45 7,ab 46 1,o 47 (.cmp .gtr (.sc .int) (.t 45) (.t 46)),ab 6 47]
abbrev Vv:zB:=I::I::I::O::O::O::O::I::(by(iterate 40 refine O::?_);exact[])
abbrev VW:zB:=O::I::O::O::O::O::O::I::(by(iterate 40 refine O::?_);exact[])
abbrev yuH:zR:=[ab 44 9,ab 7 44]
abbrev yuI:zR:=[ab 40 0,ab 41 7,ab 42 9,o 43 (.invoke (.t 40) "Swap" [.t 41,.t 42])]
abbrev yuJ:zR:=[ab 35 0,ab 36 9,ab 37 7,o 38 (.invoke (.t 35) "Less" [.t 36,.t 37]),o 39 (.not (.t 38))]
abbrev yuK:zR:=[ab 34 10,ab 9 34]
abbrev yuL:zR:=[ab 25 10,ab 26 2,cU 27 25 26,ab 28 27,dH 29 28 0,dH 30 28 10,dH 31 28 8,oy 32 28 (.invoke (.t 29) "Less" [.t 30,.t 31]),bX 33 28 32]
abbrev yuM:zR:=[ab 23 8,bL 24 23 1,ab 10 24]
abbrev yuN:zR:=[ab 22 8,ab 9 22]
abbrev yuO:zR:=[ab 15 8,ab 16 2,o 17 (.cmp .geq (.sc .int) (.t 15) (.t 16)),ab 18 17,on 19 18 (.mv (.t 8)),on 20 18 (.cmp .lss (.sc .int) (.t 19) (.c (.int .i64 0))),o 21 (.pick (.t 18) (.c (.bool true)) (.t 20))]
abbrev yuP:zR:=[ab 12 7,o 13 (.bG .mul (.c (.int .i64 2)) (.t 12)),bL 14 13 1,ab 8 14]
abbrev yuQ:aj:=.seq (.ae yuP) (.seq (.seq (.ae yuO) (.cond (.t 21) (.exit 0) .skip)) (.seq (.ae yuN) (.seq (.seq (.ae yuM) (.seq (.ae yuL) (.cond (.t 33) (.ae yuK) .skip))) (.seq (.seq (.ae yuJ) (.cond (.t 39) (.exit 0) .skip)) (.seq (.ae yuI) (.ae yuH))))))
abbrev Kw:aj:=.block 1 [] yuQ
abbrev yuS:zR:=[ab 11 1,ab 7 11]
abbrev Xh:aF:=⟨.seq (.ae D3) (.seq (.ae yuS) (.seq (.block 0 VW (.loop Vv Kw)) (.seq (.ae UQ) .ret))),48,[.tmp 6]⟩
abbrev yuU:zI:=[.code (.seq (.ae UQ) .ret)]
abbrev yuV(x0 x1 x2 x7:AV)(h:List Ob)(e:Cx:=cx):ar:=bg xF (.code Kw::.inLoop Vv Kw::.inBlock 0 VW::yuU) (x0::x1::x2::U::U::U::U::x7::(by(iterate 40 refine U::?_);exact[])) h e
@[simp] theorem W4:aE Tryz.prog xF=some Xh:=by kernel_rfl
@[simp] theorem axV:az Tryz.prog xF=true:=by kernel_rfl
abbrev yuW:zR:=[ab 4 0,o 5 (.qA (.t 4)),ai 6 1 1,o 7 (.cmp .neq (.sc .int) (.t 5) (.t 6)),ab 8 7,on 9 8 (.mv (.t 0)),on 10 8 (.call (.f uX) [.t 9,.c (.str [48,49,45])]),on 11 8 (.cmp .neq (.sc .str) (.t 10) (.c (.str []))),o 12 (.pick (.t 8) (.c (.bool true)) (.t 11)),ab 3 12]
abbrev Yn:aF:=⟨.seq (.ae Ex) (.seq (.ae yuW) .ret),13,[.tmp 3]⟩
@[simp] theorem XW:aE Tryz.prog Bl=some Yn:=by kernel_rfl
@[simp] theorem ayx:az Tryz.prog Bl=true:=by kernel_rfl
@[simp] theorem ayP:az Tryz.prog uX=true:=by kernel_rfl
abbrev Ev:zR:=[o 92 (.build [.int .i64 0,.int .i64 0,.int .i64 0] [(0,1,.c (.int .i64 4)),(2,1,.c (.int .i64 2))]),o 93 (.lit 3 [.agg [.int .i64 0,.int .i64 0,.int .i64 0]] [(0,.t 92)]),aN 94 2 6,o 95 (.lit 2 [.agg [.int .i64 0,.int .i64 0]] [(0,.t 94)]),ab 96 13,cX 97 tm 95 96,ab 98 14,o 99 (.lit 1 [.list true 0 [],.list true 0 [],.list true 0 []] [(0,.t 93),(1,.t 97),(2,.t 98)]),ba 100 uI 99,ab 2 100]
abbrev D9:zR:=[ai 87 1 1,ba 88 pZ 87,ai 89 1 11,cX 90 rE 88 89,ba 91 jo 90,ab 14 91]
abbrev As:zR:=[ai 79 1 1,ba 80 pZ 79,ab 81 12,cX 82 rE 80 81,aN 83 2 6,o 84 (.lit 2 [.agg [.int .i64 0,.int .i64 0]] [(0,.t 83)]),cX 85 rH 82 84,ba 86 jo 85,ab 13 86]
abbrev Uk:zR:=[o 78 (.fW (.func xO) [] [.t 11]),ab 12 78]
abbrev Uv:zR:=[aN 76 2 6,ba 77 y3 76,o 11 (.alloc [.dS]),aL 1 11 77]
abbrev VV:zR:=[ab 75 8,ab 2 75]
abbrev US:zB:=O::O::O::O::O::O::O::O::I::(by(iterate 53 refine O::?_);exact I::I::I::(by(iterate 36 refine O::?_);exact[]))
abbrev TZ:zB:=O::O::O::O::O::O::O::O::I::(by(iterate 92 refine O::?_);exact[])
abbrev yvg:zR:=[bL 74 64 1,ab 64 74]
abbrev yvh:zR:=[ab 68 8,ab 69 10,ba 70 uS 69,ba 71 A7 70,o 72 (.call (.f tm) [.t 71,.c (.list true 0 [])]),o 73 (.append 3 aU 24 (.t 68) (.t 72)),ab 8 73]
abbrev yvi:zR:=[bl 66 1 62 64,ai 67 1 66,ab 10 67]
abbrev yvj:aj:=.seq (.ae yvi) (.ae yvh)
abbrev yvk:zR:=[cU 65 64 63]
abbrev Jf:aj:=.seq (.ae yvk) (.seq (.cond (.t 65) .skip (.exit 3)) (.seq (.block 4 [] yvj) (.ae yvg)))
abbrev yvm:zR:=[ai 62 1 1,aX 63 62,bf 64 0]
abbrev yvn:zR:=[ai 58 1 1,aX 59 58,o 60 (.build [.int .i64 0,.int .i64 0,.int .i64 0] [(0,1,.c (.int .i64 4)),(2,1,.t 59)]),o 61 (.lit 3 [.agg [.int .i64 0,.int .i64 0,.int .i64 0]] [(0,.t 60)]),ab 8 61]
abbrev yvo:aj:=.seq (.ae yvn) (.seq (.seq (.ae yvm) (.block 3 TZ (.loop US Jf))) (.seq (.ae VV) .ret))
abbrev yvp:zR:=[ab 56 7,o 57 (.cmp .lss (.sc .int) (.t 56) (.c (.int .i64 2)))]
abbrev yvq:zR:=[ai 52 1 1,ba 53 vc 52,ab 51 53,bC 54 51 0,bC 55 51 1,o 6 (.alloc [.int .i64 0,.int .i64 0]),aL 2 6 54,ab 7 55]
abbrev yvr:zR:=[ai 45 1 4,ai 46 1 1,ai 47 1 4,cX 48 rH 46 47,ba 49 jo 48,cX 50 tm 45 49,ab 2 50]
abbrev yvs:aj:=.seq (.aP [I,O,O,O,O,O,O] [6,4,4,5,6,8,8] yvr) .ret
abbrev yvt:zR:=[ai 42 1 4,aX 43 42,o 44 (.cmp .gtr (.sc .int) (.t 43) (.c (.int .i64 0)))]
abbrev EM:zR:=[o 5 (.alloc [.int .i64 0,.int .i64 0]),aL 2 5 31]
abbrev yvv:zR:=[ai 38 1 4,aN 39 2 5,o 40 (.lit 2 [.agg [.int .i64 0,.int .i64 0]] [(0,.t 39)]),o 41 (.append 2 mc 16 (.t 38) (.t 40)),aL 1 4 41]
abbrev yvw:zR:=[ai 32 1 1,aN 33 2 5,cX 34 u7 32 33,ai 35 1 1,aX 36 35,o 37 (.cmp .eql (.sc .int) (.t 34) (.t 36))]
abbrev yvx:aj:=.seq (.aP [O,O,O,I,O,O] [3,3,7,7,7,7] yvw) (.cond (.t 37) (.ae yvv) .skip)
abbrev EI:aj:=.block 2 [] yvx
abbrev yvz:aj:=.rangeFunc (.t 30) [31] (O::I::I::O::I::(by(iterate 96 refine O::?_);exact[])) (.ae EM) EI
abbrev yvA:zR:=[ai 27 1 1,o 28 (.jd 1 (.t 27) (.c (.int .i64 0))),ai 29 1 28,ba 30 uS 29]
abbrev yvB:zR:=[o 4 (.alloc [.own 2 mc []])]
abbrev yvC:zR:=[o 19 (.build [.int .i64 0,.int .i64 0,.int .i64 0] [(0,1,.c (.int .i64 0))]),o 20 (.lit 3 [.agg [.int .i64 0,.int .i64 0,.int .i64 0]] [(0,.t 19)]),ab 2 20]
abbrev yvD:zR:=[o 25 (.build [.int .i64 0,.int .i64 0,.int .i64 0] [(0,1,.c (.int .i64 1))]),o 26 (.lit 3 [.agg [.int .i64 0,.int .i64 0,.int .i64 0]] [(0,.t 25)]),ab 2 26]
abbrev yvE:aj:=.seq (.ae yvD) .ret
abbrev yvF:zR:=[ai 22 1 1,ab 23 3,cX 24 sZ 22 23,ab 21 24]
abbrev yvG:aj:=.seq (.ae yvC) .ret
abbrev yvH:aj:=.seq (.ae yvF) (.cond (.t 21) yvE .skip)
abbrev yvI:zR:=[ai 16 1 1,aX 17 16,o 18 (.cmp .eql (.sc .int) (.t 17) (.c (.int .i64 0))),ab 15 18]
abbrev yvJ:aj:=.seq (.ae yvI) (.cond (.t 15) yvG yvH)
abbrev yvK:zR:=[o 3 (.mv (.f Bk))]
abbrev yvL:zR:=[o 1 (.box 1 (.t 0)),o 2 (.dP 3 aU)]
abbrev Zs:aF:=⟨.seq (.ae yvL) (.seq (.ae yvK) (.seq (.block 0 [] yvJ) (.seq (.ae yvB) (.seq (.seq (.ae yvA) (.block 1 [] yvz)) (.seq (.seq (.ae yvt) (.cond (.t 44) yvs .skip)) (.seq (.ae yvq) (.seq (.seq (.ae yvp) (.cond (.t 57) yvo .skip)) (.seq (.ae Uv) (.seq (.ae Uk) (.seq (.aP [I,I,O,I,O,O,O,O,O] [7,7,7,7,6,7,8,10,10] As) (.seq (.aP [O,O,I,O,O,O] [2,4,4,5,7,7] D9) (.seq (.ae Ev) .ret)))))))))))),101,[.tmp 2]⟩
abbrev yvM:zI:=[.code (.seq (.ae VV) .ret),.code (.seq (.ae Uv) (.seq (.ae Uk) (.seq (.aP [I,I,O,I,O,O,O,O,O] [7,7,7,7,6,7,8,10,10] As) (.seq (.aP [O,O,I,O,O,O] [2,4,4,5,7,7] D9) (.seq (.ae Ev) .ret)))))]
abbrev yvN(x8 x62 x63 x64:AV)(h:List Ob)(e:Cx:=cx):ar:=bg jo (.code Jf::.inLoop US Jf::.inBlock 3 TZ::yvM) (U::U::U::U::U::U::U::U::x8::(by(iterate 53 refine U::?_);exact x62::x63::x64::(by(iterate 36 refine U::?_);exact[]))) h e
@[simp] theorem fU:aE Tryz.prog jo=some Zs:=by kernel_rfl
@[simp] theorem ayT:az Tryz.prog jo=true:=by kernel_rfl
abbrev yvO:zR:=[ab 5 0,ab 6 1,o 7 (.call (.f uN) [.t 5,.t 6,.c (.int .i64 0)]),ab 4 7]
abbrev XB:aF:=⟨.seq (.ae oJ) (.seq (.ae yvO) .ret),8,[.tmp 4]⟩
@[simp] theorem Xj:aE Tryz.prog uP=some XB:=by kernel_rfl
@[simp] theorem ax6:az Tryz.prog uP=true:=by kernel_rfl
abbrev yvQ:zR:=[ab 5 0,ab 6 1,o 7 (.call (.f uN) [.t 5,.t 6,.c (.int .i64 1)]),o 8 (.bG .xor (.t 7) (.c (.int .i64 1))),ab 4 8]
abbrev XE:aF:=⟨.seq (.ae oJ) (.seq (.ae yvQ) .ret),9,[.tmp 4]⟩
@[simp] theorem Xm:aE Tryz.prog uO=some XE:=by kernel_rfl
@[simp] theorem ax5:az Tryz.prog uO=true:=by kernel_rfl
abbrev VB:zB:=[I,I,O,I,O,O,O,O,O,O,O,O]
abbrev T4:zB:=[O,O,O,O,O,O,O,O,O,O,O,O]
abbrev yvU:zR:=[ab 10 3,bL 11 10 1,ab 3 11]
abbrev yvV:zR:=[ab 4 0,ai 5 1 1,ab 6 3,ba 7 Fz 6,o 8 (.concat (.t 5) (.t 7)),o 9 (.call (.t 4) [.t 8])]
abbrev Jv:aj:=.seq (.seq (.aP [O,I,O,O,O,O] [6,6,4,6,6,7] yvV) (.cond (.t 9) .skip (.exit 0))) (.seq (.block 1 [] .skip) (.ae yvU))
abbrev yvX:zR:=[bf 3 1]
abbrev YK:aF:=⟨.seq (.ae yvX) (.block 0 T4 (.loop VB Jv)),12,[]⟩
abbrev VR(x0 x1 x3:AV)(h:List Ob)(e:Cx:=cx):ar:=bg xP (.code Jv::.inLoop VB Jv::.inBlock 0 T4::AQ) [x0,x1,U,x3,U,U,U,U,U,U,U,U] h e
@[simp] theorem Ye:aE Tryz.prog xP=some YK:=by kernel_rfl
@[simp] theorem ayJ:az Tryz.prog xP=true:=by kernel_rfl
@[simp] theorem ayR:az Tryz.prog Fz=true:=by kernel_rfl
abbrev ywa:zR:=[ab 3 0,o 4 (.cmp .leq (.sc .int) (.t 3) (.c (.int .i32 32))),ab 5 4,on 6 5 (.mv (.t 0)),on 7 5 (.cmp .gtr (.sc .int) (.t 6) (.c (.int .i32 126))),o 8 (.pick (.t 5) (.c (.bool true)) (.t 7)),ab 2 8]
abbrev Xx:aF:=⟨.seq (.ae ym) (.seq (.ae ywa) .ret),9,[.tmp 2]⟩
@[simp] theorem Xb:aE Tryz.prog s_=some Xx:=by kernel_rfl
@[simp] theorem axZ:az Tryz.prog s_=true:=by kernel_rfl
abbrev ywc:zR:=[ab 5 0,ab 6 1,o 7 (.call (.f xL) [.t 5,.t 6,.c (.bool true)]),ab 4 7]
abbrev XF:aF:=⟨.seq (.ae oJ) (.seq (.ae ywc) .ret),8,[.tmp 4]⟩
@[simp] theorem Xe:aE Tryz.prog Bd=some XF:=by kernel_rfl
@[simp] theorem ayb:az Tryz.prog Bd=true:=by kernel_rfl
abbrev ywk:zR:=[ab 11 1,ab 12 0,ab 13 5,bl 14 1 12 13,ai 15 1 14,o 16 (.call (.t 11) [.t 15])]
abbrev ywm:aj:=.seq (.ae Kc) (.seq (.ae ywk) (.cond (.t 16) Kp .skip))
abbrev wN:aj:=.seq (.ae J_) (.seq (.cond (.t 9) .skip (.exit 0)) (.seq (.block 1 [] ywm) (.ae Jx)))
abbrev Wv:aF:=⟨.seq (.ae oJ) (.seq (.seq (.ae ED) (.block 0 nP (.loop sJ wN))) (.seq (.ae wO) .ret)),19,[.tmp 4]⟩
abbrev UO(x0 x1 x7 x8:AV)(h:List Ob)(e:Cx:=cx):ar:=bg s6 (.code wN::.inLoop sJ wN::.inBlock 0 nP::Eo) [x0,x1,U,U,U,U,U,x7,x8,U,U,U,U,U,U,U,U,U,U] h e
@[simp] theorem LG:aE Tryz.prog s6=some Wv:=by kernel_rfl
@[simp] theorem axy:az Tryz.prog s6=true:=by kernel_rfl
abbrev WW:aF:=⟨.seq (.ae oJ) (.seq (.seq (.ae ED) (.block 0 nP (.loop sJ wN))) (.seq (.ae wO) .ret)),19,[.tmp 4]⟩
abbrev ywH(x0 x1 x7 x8:AV)(h:List Ob)(e:Cx:=cx):ar:=bg xD (.code wN::.inLoop sJ wN::.inBlock 0 nP::Eo) [x0,x1,U,U,U,U,U,x7,x8,U,U,U,U,U,U,U,U,U,U] h e
@[simp] theorem WR:aE Tryz.prog xD=some WW:=by kernel_rfl
@[simp] theorem axL:az Tryz.prog xD=true:=by kernel_rfl
abbrev ywI:zR:=[o 5 (.lit 2 [] []),ab 6 0,o 7 (.append 2 cT 16 (.t 5) (.t 6)),ab 2 7]
abbrev S9:zR:=[o 2 (.dP 2 cT)]
abbrev ywK:aj:=.seq (.ae S9) .ret
abbrev WU:aF:=⟨.seq (.ae S9) (.seq (.seq (.ae KJ) (.cond (.t 4) ywK .skip)) (.seq (.ae ywI) .ret)),8,[.tmp 2]⟩
@[simp] theorem WS:aE Tryz.prog A8=some WU:=by kernel_rfl
@[simp] theorem axM:az Tryz.prog A8=true:=by kernel_rfl
abbrev ywN:zR:=[o 7 (.alloc [.int .i64 0,.int .i64 0]),aL 2 7 28]
abbrev ywO:zR:=[ab 6 27]
abbrev ywP:zR:=[ai 29 1 2,aN 30 5 1,ba 31 mf 30,ab 32 6,o 33 (.bG .add (.t 31) (.t 32)),bl 34 1 29 33,ai 35 1 34,ab 36 35,bQ 37 36 1 3,oy 38 36 (.fE 2 1 (.t 7) (.c (.int .i64 0))),bQ 39 36 1 38,oy 40 36 (.call (.t 37) [.t 39]),oy 41 36 (.not (.t 40)),dH 42 36 41,on 43 42 (.load false 1 (.t 3)),on 44 42 (.fE 2 1 (.t 7) (.c (.int .i64 1))),on 45 42 (.load false 1 (.t 44)),on 46 42 (.call (.t 43) [.t 45]),on 47 42 (.not (.t 46)),oy 48 36 (.pick (.t 42) (.c (.bool true)) (.t 47)),bX 49 36 48]
abbrev ywQ:aj:=.seq (.aP (I::(by(iterate 20 refine O::?_);exact[])) [12,3,12,12,12,12,12,12,12,12,12,18,18,18,18,18,18,22,22,22,22] ywP) (.cond (.t 49) .ret .skip)
abbrev JZ:aj:=.seq (.ae ywO) (.ae ywN)
abbrev K6:aj:=.block 3 [] ywQ
abbrev UD:aj:=.rangeFunc (.t 26) [27,28] (O::I::I::I::(by(iterate 46 refine O::?_);exact[])) JZ K6
abbrev Tf:zR:=[al 24 3 1,ai 25 1 24,ba 26 Fe 25]
abbrev SP:zB:=O::I::I::I::O::O::O::O::O::O::O::O::O::I::I::I::(by(iterate 34 refine O::?_);exact[])
abbrev VT:zB:=O::I::I::I::(by(iterate 46 refine O::?_);exact[])
abbrev ywX:zR:=[bL 23 15 1,ab 15 23]
abbrev ywY:zR:=[ai 19 1 3,ab 20 5,o 21 (.call (.t 19) [.t 20]),o 22 (.not (.t 21))]
abbrev ywZ:zR:=[bl 17 1 13 15,ai 18 1 17,ab 5 18]
abbrev yxa:aj:=.seq (.ae ywZ) (.seq (.ae ywY) (.cond (.t 22) .ret .skip))
abbrev yxb:zR:=[cU 16 15 14]
abbrev J':aj:=.seq (.ae yxb) (.seq (.cond (.t 16) .skip (.exit 0)) (.seq (.block 1 [] yxa) (.ae ywX)))
abbrev yxd:zR:=[al 8 1 1,ai 9 1 8,al 10 4 1,ai 11 1 10,o 12 (.lit 1 [.list true 0 [],.list true 0 []] [(0,.t 9),(1,.t 11)]),ba 13 rF 12,aX 14 13,bf 15 0]
abbrev yxe:zR:=[o 3 (.box 1 (.t 0))]
abbrev YO:aF:=⟨.seq (.ae yxe) (.seq (.seq (.ae yxd) (.block 0 VT (.loop SP J'))) (.seq (.ae Tf) (.block 2 [] UD))),50,[]⟩
abbrev Ut:zI:=[.code (.seq (.ae Tf) (.block 2 [] UD))]
abbrev yxg(x1 x2 x3 x13 x14 x15:AV)(h:List Ob)(e:Cx:=cx):ar:=bg p_ (.code J'::.inLoop SP J'::.inBlock 0 VT::Ut) (U::x1::x2::x3::U::U::U::U::U::U::U::U::U::x13::x14::x15::(by(iterate 34 refine U::?_);exact[])) h e
abbrev KB(x1 x2 x3:AV)(h:List Ob)(e:Cx:=cx):ar:=bg p_ Ut (U::x1::x2::x3::(by(iterate 46 refine U::?_);exact[])) h e
@[simp] theorem Yi:aE Tryz.prog p_=some YO:=by kernel_rfl
@[simp] theorem ayG:az Tryz.prog p_=true:=by kernel_rfl
abbrev yxm:zR:=[ab 31 6,ab 32 8,o 33 (.append 1 aq 8 (.t 31) (.t 32)),ab 6 33]
abbrev yxo:aj:=.seq (.ae K7) (.ae yxm)
abbrev El:aj:=.seq (.ae AN) (.seq (.cond (.t 28) .skip (.exit 2)) (.seq (.block 3 [] yxo) (.ae K_)))
abbrev Ud:zR:=[ab 23 3,o 24 (.call (.f Fh) [.c (.list true 0 []),.t 23]),ab 6 24]
abbrev W3:aF:=⟨.seq (.ae JD) (.seq (.ae EB) (.seq (.seq (.ae Kh) (.block 0 wI (.loop wV rh))) (.seq (.ae Ud) (.seq (.seq (.ae wK) (.block 2 re (.loop rk El))) (.seq (.ae uy) .ret))))),36,[.tmp 2]⟩
abbrev Uz(x6 x25 x26 x27:AV)(h:List Ob)(e:Cx:=cx):ar:=bg rF (.code El::.inLoop rk El::.inBlock 2 re::JL) (U::U::U::U::U::U::x6::(by(iterate 18 refine U::?_);exact[x25,x26,x27,U,U,U,U,U,U,U,U])) h e
abbrev yxI:zI:=[.code (.seq (.ae Ud) (.seq (.seq (.ae wK) (.block 2 re (.loop rk El))) (.seq (.ae uy) .ret)))]
abbrev VS(x0 x3 x9 x10 x11:AV)(h:List Ob)(e:Cx:=cx):ar:=bg rF (.code rh::.inLoop wV rh::.inBlock 0 wI::yxI) (x0::U::U::x3::U::U::U::U::U::x9::x10::x11::(by(iterate 24 refine U::?_);exact[])) h e
@[simp] theorem LL:aE Tryz.prog rF=some W3:=by kernel_rfl
@[simp] theorem axN:az Tryz.prog rF=true:=by kernel_rfl
abbrev yxK:zR:=[o 3 (.fW (.func xA) [] [.t 1]),ab 2 3]
abbrev WJ:aF:=⟨.seq (.ae Km) (.seq (.ae yxK) .ret),4,[.tmp 2]⟩
@[simp] theorem Wz:aE Tryz.prog Fe=some WJ:=by kernel_rfl
@[simp] theorem axF:az Tryz.prog Fe=true:=by kernel_rfl
abbrev yxM:zR:=[ab 3 0,o 4 (.call (.f uX) [.t 3,.c (.str [45])]),o 5 (.cmp .eql (.sc .str) (.t 4) (.c (.str []))),ab 2 5]
abbrev Ym:aF:=⟨.seq (.ae ym) (.seq (.ae yxM) .ret),6,[.tmp 2]⟩
@[simp] theorem XP:aE Tryz.prog Bk=some Ym:=by kernel_rfl
@[simp] theorem ayv:az Tryz.prog Bk=true:=by kernel_rfl
abbrev yxO:zR:=[o 3 (.fW (.func tc) [] [.t 1]),ab 2 3]
abbrev Yk:aF:=⟨.seq (.ae Km) (.seq (.ae yxO) .ret),4,[.tmp 2]⟩
@[simp] theorem XX:aE Tryz.prog uS=some Yk:=by kernel_rfl
@[simp] theorem ayA:az Tryz.prog uS=true:=by kernel_rfl
abbrev SX:zR:=[ab 21 5,ab 4 21]
abbrev VJ:zB:=[O,O,O,I,O,I,O,O,I,I,I,O,O,O,O,O,O,O,O,O,O,O]
abbrev S5:zB:=O::O::O::O::O::I::(by(iterate 16 refine O::?_);exact[])
abbrev yxT:zR:=[bL 20 10 1,ab 10 20]
abbrev yxU:zR:=[ab 18 5,bL 19 18 1,ab 5 19]
abbrev yxV:zR:=[aN 14 2 3,ba 15 y3 14,ab 16 7,o 17 (.call (.t 15) [.t 16])]
abbrev yxW:zR:=[bl 12 1 8 10,ai 13 1 12,ab 7 13]
abbrev yxX:aj:=.seq (.ae yxW) (.seq (.ae yxV) (.cond (.t 17) (.ae yxU) .skip))
abbrev Ka:aj:=.seq (.ae UY) (.seq (.cond (.t 11) .skip (.exit 0)) (.seq (.block 1 [] yxX) (.ae yxT)))
abbrev yya:zR:=[ab 8 0,aX 9 8,bf 10 0]
abbrev yyc:zR:=[o 3 (.box 2 (.t 1)),bf 4 0]
abbrev aae:aF:=⟨.seq (.ae yyc) (.seq (.ae KT) (.seq (.seq (.ae yya) (.block 0 S5 (.loop VJ Ka))) (.seq (.ae SX) .ret))),22,[.tmp 4]⟩
abbrev yyd:zI:=[.code (.seq (.ae SX) .ret)]
abbrev yye(x3 x5 x8 x9 x10:AV)(h:List Ob)(e:Cx:=cx):ar:=bg u7 (.code Ka::.inLoop VJ Ka::.inBlock 0 S5::yyd) [U,U,U,x3,U,x5,U,U,x8,x9,x10,U,U,U,U,U,U,U,U,U,U,U] h e
@[simp] theorem YZ:aE Tryz.prog u7=some aae:=by kernel_rfl
@[simp] theorem azd:az Tryz.prog u7=true:=by kernel_rfl
abbrev TD:zR:=[ab 44 6,ab 45 1,o 46 (.append 3 aU 24 (.t 44) (.t 45)),ab 4 46]
abbrev UF:zB:=O::I::O::O::O::O::I::(by(iterate 25 refine O::?_);exact[I,I,I,O,O,O,O,O,O,O,O,O,O,O,O])
abbrev VC:zB:=O::I::O::O::O::O::I::(by(iterate 40 refine O::?_);exact[])
abbrev yyi:zR:=[bL 43 34 1,ab 34 43]
abbrev yyj:zR:=[ab 38 6,aN 39 2 8,ba 40 Bb 39,o 41 (.lit 3 [.agg [.int .i64 0,.int .i64 0,.int .i64 0]] [(0,.t 40)]),o 42 (.append 3 aU 24 (.t 38) (.t 41)),ab 6 42]
abbrev yyk:zR:=[bl 36 2 32 34,aN 37 2 36,o 8 (.alloc [.int .i64 0,.int .i64 0]),aL 2 8 37]
abbrev yyl:aj:=.seq (.ae yyk) (.ae yyj)
abbrev Jq:aj:=.seq (.ae TA) (.seq (.cond (.t 35) .skip (.exit 0)) (.seq (.block 1 [] yyl) (.ae yyi)))
abbrev yyo:zR:=[ab 32 0,aX 33 32,bf 34 0]
abbrev yyp:zR:=[ab 27 6,ab 28 5,o 29 (.build [.int .i64 0,.int .i64 0,.int .i64 0] [(0,1,.c (.int .i64 3)),(2,1,.t 28)]),o 30 (.lit 3 [.agg [.int .i64 0,.int .i64 0,.int .i64 0]] [(0,.t 29)]),o 31 (.append 3 aU 24 (.t 27) (.t 30)),ab 6 31]
abbrev yyq:zR:=[ab 25 5,o 26 (.cmp .gtr (.sc .int) (.t 25) (.c (.int .i64 1)))]
abbrev yyr:zR:=[o 6 (.dP 3 aU)]
abbrev yys:zR:=[ab 19 0,aX 20 19,ab 21 1,aX 22 21,o 23 (.min [.t 22,.c (.int .i64 1)]),o 24 (.bG .add (.t 20) (.t 23)),ab 5 24]
abbrev yyt:zR:=[o 1 (.dP 3 aU)]
abbrev yyu:zR:=[ab 9 1,aX 10 9,o 11 (.cmp .eql (.sc .int) (.t 10) (.c (.int .i64 1))),ab 12 11,dH 13 12 1,oy 14 12 (.jd 3 (.t 13) (.c (.int .i64 0))),oy 15 12 (.off 0 (.t 14)),bQ 16 12 1 15,oy 17 12 (.cmp .eql (.sc .int) (.t 16) (.c (.int .i64 1))),bX 18 12 17]
abbrev S_:zR:=[o 4 (.dP 3 aU)]
abbrev acs:aF:=⟨.seq (.ae S_) (.seq (.seq (.ae yyu) (.cond (.t 18) (.ae yyt) .skip)) (.seq (.ae yys) (.seq (.ae yyr) (.seq (.seq (.ae yyq) (.cond (.t 26) (.ae yyp) .skip)) (.seq (.seq (.ae yyo) (.block 0 VC (.loop UF Jq))) (.seq (.ae TD) .ret)))))),47,[.tmp 4]⟩
abbrev yyw:zI:=[.code (.seq (.ae TD) .ret)]
abbrev yyx(x1 x6 x32 x33 x34:AV)(h:List Ob)(e:Cx:=cx):ar:=bg tm (.code Jq::.inLoop UF Jq::.inBlock 0 VC::yyw) (U::x1::U::U::U::U::x6::(by(iterate 25 refine U::?_);exact[x32,x33,x34,U,U,U,U,U,U,U,U,U,U,U,U])) h e
@[simp] theorem ZD:aE Tryz.prog tm=some acs:=by kernel_rfl
@[simp] theorem azI:az Tryz.prog tm=true:=by kernel_rfl
abbrev JE:zR:=[ab 36 5,ab 4 36]
abbrev Jm:zB:=O::I::O::O::O::I::O::O::O::O::O::I::I::I::(by(iterate 23 refine O::?_);exact[])
abbrev JU:zB:=O::O::O::O::O::I::(by(iterate 31 refine O::?_);exact[])
abbrev Vx:zR:=[bL 35 13 1,ab 13 35]
abbrev Uo:zR:=[ab 30 5,ab 31 8,o 32 (.toStr (.t 31)),o 33 (.lit 1 [.str []] [(0,.t 32)]),o 34 (.append 1 au 16 (.t 30) (.t 33)),ab 5 34]
abbrev Vk:zB:=O::I::O::O::O::I::O::O::I::O::O::I::I::I::O::O::O::O::O::I::I::I::(by(iterate 15 refine O::?_);exact[])
abbrev T7:zB:=O::I::O::O::O::I::O::O::I::O::O::I::I::I::(by(iterate 23 refine O::?_);exact[])
abbrev yyF:zR:=[bL 29 21 1,ab 21 29]
abbrev yyG:zR:=[ab 25 8,o 26 (.fE 2 1 (.t 10) (.c (.int .i64 0))),ai 27 1 26,bl 28 1 25 27,q (.store 1 (.t 28) (.c (.int .u8 45)))]
abbrev yyH:zR:=[bl 23 2 19 21,aN 24 2 23,o 10 (.alloc [.int .i64 0,.int .i64 0]),aL 2 10 24]
abbrev yyI:aj:=.seq (.ae yyH) (.ae yyG)
abbrev yyJ:zR:=[cU 22 21 20]
abbrev Je:aj:=.seq (.ae yyJ) (.seq (.cond (.t 22) .skip (.exit 2)) (.seq (.block 3 [] yyI) (.ae yyF)))
abbrev yyL:zR:=[ab 19 1,aX 20 19,bf 21 0]
abbrev yyM:zR:=[ab 17 7,o 18 (.zG HZ (.t 17)),ab 8 18]
abbrev yyN:zR:=[bl 15 1 11 13,ai 16 1 15,ab 7 16]
abbrev yyO:aj:=.seq (.ae yyN) (.seq (.ae yyM) (.seq (.seq (.ae yyL) (.block 2 T7 (.loop Vk Je))) (.ae Uo)))
abbrev D8:aj:=.seq (.ae wL) (.seq (.cond (.t 14) .skip (.exit 0)) (.seq (.block 1 [] yyO) (.ae Vx)))
abbrev yyS:zR:=[o 5 (.dP 1 au)]
abbrev Zz:aF:=⟨.seq (.ae JJ) (.seq (.ae yyS) (.seq (.seq (.ae At) (.block 0 JU (.loop Jm D8))) (.seq (.ae JE) .ret))),37,[.tmp 4]⟩
abbrev UP:zI:=[.code (.ae Uo),.inBlock 1 [],.code (.ae Vx),.inLoop Jm D8,.inBlock 0 JU,.code (.seq (.ae JE) .ret)]
abbrev yyV(x1 x5 x8 x11 x12 x13 x19 x20 x21:AV)(h:List Ob)(e:Cx:=cx):ar:=bg rH (.code Je::.inLoop Vk Je::.inBlock 2 T7::UP) (U::x1::U::U::U::x5::U::U::x8::U::U::x11::x12::x13::U::U::U::U::U::x19::x20::x21::(by(iterate 15 refine U::?_);exact[])) h e
abbrev yyW(x1 x5 x8 x11 x12 x13:AV)(h:List Ob)(e:Cx:=cx):ar:=bg rH UP (U::x1::U::U::U::x5::U::U::x8::U::U::x11::x12::x13::(by(iterate 23 refine U::?_);exact[])) h e
abbrev yyX:zI:=[.code (.seq (.ae JE) .ret)]
abbrev yyY(x1 x5 x11 x12 x13:AV)(h:List Ob)(e:Cx:=cx):ar:=bg rH (.code D8::.inLoop Jm D8::.inBlock 0 JU::yyX) (U::x1::U::U::U::x5::U::U::U::U::U::x11::x12::x13::(by(iterate 23 refine U::?_);exact[])) h e
@[simp] theorem Yw:aE Tryz.prog rH=some Zz:=by kernel_rfl
@[simp] theorem ayS:az Tryz.prog rH=true:=by kernel_rfl
abbrev Lb:zR:=[aN 36 2 4,ab 37 5,aL 2 2 36,ab 3 37]
abbrev Ax:zB:=I::O::I::O::I::I::O::O::O::O::O::O::O::O::O::I::I::(by(iterate 21 refine O::?_);exact[])
abbrev KA:zB:=O::O::I::O::I::I::(by(iterate 32 refine O::?_);exact[])
abbrev U8:zR:=[bL 35 16 1,ab 16 35]
abbrev TE:zB:=I::O::I::O::I::I::I::O::O::O::O::O::O::O::O::I::I::O::O::I::(by(iterate 18 refine O::?_);exact[])
abbrev yzf:zR:=[aN 33 2 9,ab 34 10,aL 2 4 33,ab 5 34]
abbrev yzg:zR:=[ab 30 10,ab 31 5,o 32 (.cmp .gtr (.sc .int) (.t 30) (.t 31))]
abbrev yzh:zR:=[ab 27 0,aN 28 2 9,cX 29 u7 27 28,ab 10 29]
abbrev yzi:zR:=[ab 23 6,ab 24 8,o 25 (.conv .i64 (.t 24)),o 26 (.build [.int .i64 0,.int .i64 0] [(0,1,.t 23),(1,1,.t 25)]),o 9 (.alloc [.int .i64 0,.int .i64 0]),aL 2 9 26]
abbrev yzj:zR:=[bC 22 20 2,ab 8 22]
abbrev yzk:aj:=.seq (.ae yzj) (.seq (.ae yzi) (.seq (.ae yzh) (.seq (.ae yzg) (.cond (.t 32) (.ae yzf) .skip))))
abbrev yzl:zR:=[o 20 (.next (.t 19)),bC 21 20 0]
abbrev Ke:aj:=.seq (.ae yzl) (.seq (.cond (.t 21) .skip (.exit 2)) (.block 3 [] yzk))
abbrev yzn:zR:=[o 19 (.range (.c (.str [49,48])))]
abbrev yzo:zR:=[ab 18 16,ab 6 18]
abbrev yzp:aj:=.seq (.ae yzo) (.seq (.ae yzn) (.block 2 Ax (.loop TE Ke)))
abbrev Ez:aj:=.seq (.ae D_) (.seq (.cond (.t 17) .skip (.exit 0)) (.seq (.block 1 [] yzp) (.ae U8)))
abbrev yzs:zR:=[ab 12 0,o 13 (.jd 1 (.t 12) (.c (.int .i64 0))),ai 14 1 13,o 15 (.qA (.t 14)),bf 16 0]
abbrev yzt:zR:=[o 11 (.build [.int .i64 0,.int .i64 0] []),o 4 (.alloc [.int .i64 0,.int .i64 0]),aL 2 4 11,bf 5 0]
abbrev yzu:zR:=[o 2 (.alloc [.int .i64 0,.int .i64 0]),bf 3 0]
abbrev aau:aF:=⟨.seq (.ae yzu) (.seq (.ae yzt) (.seq (.seq (.ae yzs) (.block 0 KA (.loop Ax Ez))) (.seq (.ae Lb) .ret))),38,[.cell 2 true 2,.tmp 3]⟩
abbrev yzv:zI:=[.inBlock 1 [],.code (.ae U8),.inLoop Ax Ez,.inBlock 0 KA,.code (.seq (.ae Lb) .ret)]
abbrev yzw(x0 x2 x4 x5 x6 x15 x16 x19:AV)(h:List Ob)(e:Cx:=cx):ar:=bg vc (.code Ke::.inLoop TE Ke::.inBlock 2 Ax::yzv) (x0::U::x2::U::x4::x5::x6::U::U::U::U::U::U::U::U::x15::x16::U::U::x19::(by(iterate 18 refine U::?_);exact[])) h e
abbrev yzx:zI:=[.code (.seq (.ae Lb) .ret)]
abbrev yzy(x0 x2 x4 x5 x15 x16:AV)(h:List Ob)(e:Cx:=cx):ar:=bg vc (.code Ez::.inLoop Ax Ez::.inBlock 0 KA::yzx) (x0::U::x2::U::x4::x5::U::U::U::U::U::U::U::U::U::x15::x16::(by(iterate 21 refine U::?_);exact[])) h e
@[simp] theorem Zo:aE Tryz.prog vc=some aau:=by kernel_rfl
@[simp] theorem azm:az Tryz.prog vc=true:=by kernel_rfl
abbrev yzz:zR:=[ab 3 0,o 4 (.call (.f A5) [.c (.list true 0 []),.t 3]),ab 2 4]
abbrev yzA:zR:=[o 2 (.dP 2 mc)]
abbrev WE:aF:=⟨.seq (.ae yzA) (.seq (.ae yzz) .ret),5,[.tmp 2]⟩
@[simp] theorem Ww:aE Tryz.prog A7=some WE:=by kernel_rfl
@[simp] theorem axC:az Tryz.prog A7=true:=by kernel_rfl
abbrev yzB:zR:=[o 3 (.fW (.func qb) [] [.t 1]),ab 2 3]
abbrev yzC:zR:=[o 1 (.box 2 (.t 0)),o 2 (.mv (.c .dS))]
abbrev acO:aF:=⟨.seq (.ae yzC) (.seq (.ae yzB) .ret),4,[.tmp 2]⟩
@[simp] theorem aaa:aE Tryz.prog y3=some acO:=by kernel_rfl
@[simp] theorem azx:az Tryz.prog y3=true:=by kernel_rfl
abbrev yzD:zR:=[ai 4 1 1,ab 5 0,o 6 (.call (.t 4) [.t 5]),o 7 (.not (.t 6)),ab 3 7]
abbrev Yu:aF:=⟨.seq (.ae Ex) (.seq (.ae yzD) .ret),8,[.tmp 3]⟩
@[simp] theorem X0:aE Tryz.prog xO=some Yu:=by kernel_rfl
@[simp] theorem ayy:az Tryz.prog xO=true:=by kernel_rfl
abbrev TY:zR:=[ab 39 0,ab 40 5,o 41 (.slice 1 (.t 39) none (some (.t 40))),ab 4 41]
abbrev Vn:zR:=[ab 36 0,ab 37 5,o 38 (.slice 1 (.t 36) (some (.t 37)) none),q (.clear 1 (.str []) (.t 38))]
abbrev TX:zB:=I::I::O::O::O::I::I::(by(iterate 35 refine O::?_);exact[])
abbrev TR:zB:=I::O::O::O::O::I::(by(iterate 36 refine O::?_);exact[])
abbrev yzJ:zR:=[ab 20 6,bL 21 20 1,ab 6 21]
abbrev yzK:zR:=[ab 34 5,bL 35 34 1,ab 5 35]
abbrev yzL:zR:=[ab 30 0,ab 31 5,ab 32 7,bl 33 1 30 31,aL 1 33 32]
abbrev yzM:aj:=.seq (.ae yzL) (.ae yzK)
abbrev yzN:zR:=[ab 26 1,ab 27 7,o 28 (.call (.t 26) [.t 27]),o 29 (.not (.t 28))]
abbrev yzO:zR:=[ab 22 0,ab 23 6,bl 24 1 22 23,ai 25 1 24,ab 7 25]
abbrev yzP:aj:=.seq (.ae yzO) (.seq (.ae yzN) (.cond (.t 29) yzM .skip))
abbrev yzQ:zR:=[ab 16 6,ab 17 0,aX 18 17,cU 19 16 18]
abbrev JP:aj:=.seq (.seq (.ae yzQ) (.cond (.t 19) .skip (.exit 0))) (.seq (.block 1 [] yzP) (.ae yzJ))
abbrev yzS:zR:=[ab 14 5,bL 15 14 1,ab 6 15]
abbrev yzT:zR:=[ab 13 0,ab 4 13]
abbrev yzU:aj:=.seq (.ae yzT) .ret
abbrev yzV:zR:=[ab 11 5,o 12 (.cmp .eql (.sc .int) (.t 11) (.c (.int .i64 (-1))))]
abbrev yzW:zR:=[ab 8 0,ab 9 1,cX 10 s6 8 9,ab 5 10]
abbrev Wt:aF:=⟨.seq (.ae JJ) (.seq (.ae yzW) (.seq (.seq (.ae yzV) (.cond (.t 12) yzU .skip)) (.seq (.seq (.ae yzS) (.block 0 TR (.loop TX JP))) (.seq (.ae Vn) (.seq (.ae TY) .ret))))),42,[.tmp 4]⟩
abbrev yzY:zI:=[.code (.seq (.ae Vn) (.seq (.ae TY) .ret))]
abbrev yzZ(x0 x1 x5 x6:AV)(h:List Ob)(e:Cx:=cx):ar:=bg rE (.code JP::.inLoop TX JP::.inBlock 0 TR::yzY) (x0::x1::U::U::U::x5::x6::(by(iterate 35 refine U::?_);exact[])) h e
@[simp] theorem LF:aE Tryz.prog rE=some Wt:=by kernel_rfl
@[simp] theorem axx:az Tryz.prog rE=true:=by kernel_rfl
abbrev yAe:zR:=[ab 31 6,ab 32 8,o 33 (.append 3 aU 24 (.t 31) (.t 32)),ab 6 33]
abbrev yAg:aj:=.seq (.ae K7) (.ae yAe)
abbrev Ec:aj:=.seq (.ae AN) (.seq (.cond (.t 28) .skip (.exit 2)) (.seq (.block 3 [] yAg) (.ae K_)))
abbrev UX:zR:=[ab 23 3,o 24 (.call (.f Fc) [.c (.list true 0 []),.t 23]),ab 6 24]
abbrev yAx:zR:=[o 2 (.dP 3 aU)]
abbrev Wl:aF:=⟨.seq (.ae yAx) (.seq (.ae EB) (.seq (.seq (.ae Kh) (.block 0 wI (.loop wV rh))) (.seq (.ae UX) (.seq (.seq (.ae wK) (.block 2 re (.loop rk Ec))) (.seq (.ae uy) .ret))))),36,[.tmp 2]⟩
abbrev yAz(x6 x25 x26 x27:AV)(h:List Ob)(e:Cx:=cx):ar:=bg uI (.code Ec::.inLoop rk Ec::.inBlock 2 re::JL) (U::U::U::U::U::U::x6::(by(iterate 18 refine U::?_);exact[x25,x26,x27,U,U,U,U,U,U,U,U])) h e
abbrev yAA:zI:=[.code (.seq (.ae UX) (.seq (.seq (.ae wK) (.block 2 re (.loop rk Ec))) (.seq (.ae uy) .ret)))]
abbrev yAB(x0 x3 x9 x10 x11:AV)(h:List Ob)(e:Cx:=cx):ar:=bg uI (.code rh::.inLoop wV rh::.inBlock 0 wI::yAA) (x0::U::U::x3::U::U::U::U::U::x9::x10::x11::(by(iterate 24 refine U::?_);exact[])) h e
@[simp] theorem Wh:aE Tryz.prog uI=some Wl:=by kernel_rfl
@[simp] theorem axq:az Tryz.prog uI=true:=by kernel_rfl
abbrev TK:zR:=[ab 31 8,ab 6 31]
abbrev Ux:zB:=[I,O,O,O,O,O,O,I,I,O,O,O,O,O,O,O,O,O,I,I,I,O,O,O,O,O,O,O,O,O,O,O]
abbrev UR:zB:=O::O::O::O::O::O::O::O::I::(by(iterate 23 refine O::?_);exact[])
abbrev yAF:zR:=[bL 30 20 1,ab 20 30]
abbrev yAG:zR:=[ab 24 0,ab 25 8,ab 26 7,ab 27 10,o 28 (.call (.t 26) [.t 27]),o 29 (.call (.f ta) [.t 24,.t 25,.t 28]),ab 8 29]
abbrev yAH:zR:=[bl 22 1 18 20,ai 23 1 22,ab 10 23]
abbrev yAI:aj:=.seq (.ae yAH) (.ae yAG)
abbrev yAJ:zR:=[cU 21 20 19]
abbrev Kg:aj:=.seq (.ae yAJ) (.seq (.cond (.t 21) .skip (.exit 0)) (.seq (.block 1 [] yAI) (.ae yAF)))
abbrev yAL:zR:=[ab 17 1,o 18 (.slice 1 (.t 17) (some (.c (.int .i64 1))) none),aX 19 18,bf 20 0]
abbrev yAM:zR:=[ab 12 7,ab 13 1,o 14 (.jd 1 (.t 13) (.c (.int .i64 0))),ai 15 1 14,o 16 (.call (.t 12) [.t 15]),ab 8 16]
abbrev yAN:zR:=[o 11 (.fW (.func xE) [] [.t 5]),ab 7 11]
abbrev yAO:zR:=[o 5 (.box 1 (.t 2)),bf 6 0]
abbrev Xu:aF:=⟨.seq (.ae yAO) (.seq (.ae yAN) (.seq (.ae yAM) (.seq (.seq (.ae yAL) (.block 0 UR (.loop Ux Kg))) (.seq (.ae TK) .ret)))),32,[.tmp 6]⟩
abbrev yAP:zI:=[.code (.seq (.ae TK) .ret)]
abbrev yAQ(x0 x7 x8 x18 x19 x20:AV)(h:List Ob)(e:Cx:=cx):ar:=bg uN (.code Kg::.inLoop Ux Kg::.inBlock 0 UR::yAP) [x0,U,U,U,U,U,U,x7,x8,U,U,U,U,U,U,U,U,U,x18,x19,x20,U,U,U,U,U,U,U,U,U,U,U] h e
@[simp] theorem W8:aE Tryz.prog uN=some Xu:=by kernel_rfl
@[simp] theorem ax2:az Tryz.prog uN=true:=by kernel_rfl
abbrev U7:zR:=[o 6 (.mv (.c (.int .i64 (-1))))]
abbrev S4:zB:=[O,I,I,O,O,O,O,O,O,O,I,O,O,O,O,O,O,O,O,O,O]
abbrev UW:zB:=(by(iterate 21 refine O::?_);exact[])
abbrev yAU:zR:=[ab 20 7,ab 6 20]
abbrev yAV:aj:=.seq (.ae yAU) .ret
abbrev yAW:zR:=[ab 15 1,ab 16 8,o 17 (.call (.t 15) [.t 16]),ab 18 2,o 19 (.cmp .eql (.sc .bool) (.t 17) (.t 18))]
abbrev yAX:zR:=[bC 13 11 1,bC 14 11 2,ab 7 13,ab 8 14]
abbrev yAY:aj:=.seq (.ae yAX) (.seq (.ae yAW) (.cond (.t 19) yAV .skip))
abbrev yAZ:zR:=[o 11 (.next (.t 10)),bC 12 11 0]
abbrev KM:aj:=.seq (.ae yAZ) (.seq (.cond (.t 12) .skip (.exit 0)) (.block 1 [] yAY))
abbrev yBb:zR:=[ab 9 0,o 10 (.range (.t 9))]
abbrev XD:aF:=⟨.seq (.ae EP) (.seq (.seq (.ae yBb) (.block 0 UW (.loop S4 KM))) (.seq (.ae U7) .ret)),21,[.tmp 6]⟩
abbrev yBd:zI:=[.code (.seq (.ae U7) .ret)]
abbrev yBe(x1 x2 x10:AV)(h:List Ob)(e:Cx:=cx):ar:=bg xL (.code KM::.inLoop S4 KM::.inBlock 0 UW::yBd) [U,x1,x2,U,U,U,U,U,U,U,x10,U,U,U,U,U,U,U,U,U,U] h e
@[simp] theorem Xi:aE Tryz.prog xL=some XD:=by kernel_rfl
@[simp] theorem ax3:az Tryz.prog xL=true:=by kernel_rfl
abbrev yBg:zR:=[ab 17 0,ab 18 0,o 19 (.cap (.t 18)),o 20 (.slice 1 (.t 17) none (some (.t 19))),ab 21 1,o 22 (.tS 1 aq 8 (.int .i64 0) (.t 20) (.t 21)),ab 23 0,aX 24 23,o 25 (.slice 1 (.t 22) none (some (.t 24))),ab 0 25]
abbrev Xp:aF:=⟨.seq (.ae Lm) (.seq (.seq (.ae Ji) (.cond (.t 6) (.ae JH) .skip)) (.seq (.seq (.ae Jz) (.seq (.ae JM) (.cond (.t 16) (.ae yBg) .skip))) (.seq (.ae JV) .ret))),27,[.tmp 4]⟩
@[simp] theorem LN:aE Tryz.prog Fh=some Xp:=by kernel_rfl
@[simp] theorem axS:az Tryz.prog Fh=true:=by kernel_rfl
abbrev SZ:zB:=I::I::O::I::(by(iterate 15 refine O::?_);exact[])
abbrev yBo:zR:=[ab 9 3,o 10 (.bG .sub (.t 9) (.c (.int .i64 1))),ab 3 10]
abbrev yBp:zR:=[ab 11 0,ab 12 3,ai 13 1 1,ab 14 3,bl 15 2 13 14,aN 16 2 15,o 17 (.call (.t 11) [.t 12,.t 16]),o 18 (.not (.t 17))]
abbrev yBq:aj:=.seq (.ae yBp) (.cond (.t 18) .ret .skip)
abbrev yBr:zR:=[ab 7 3,o 8 (.cmp .geq (.sc .int) (.t 7) (.c (.int .i64 0)))]
abbrev KD:aj:=.seq (.seq (.ae yBr) (.cond (.t 8) .skip (.exit 0))) (.seq (.block 1 [] yBq) (.ae yBo))
abbrev yBt:zR:=[ai 4 1 1,aX 5 4,o 6 (.bG .sub (.t 5) (.c (.int .i64 1))),ab 3 6]
abbrev WB:aF:=⟨.seq (.ae yBt) (.block 0 nP (.loop SZ KD)),19,[]⟩
abbrev yBv(x0 x1 x3:AV)(h:List Ob)(e:Cx:=cx):ar:=bg xA (.code KD::.inLoop SZ KD::.inBlock 0 nP::AQ) (x0::x1::U::x3::(by(iterate 15 refine U::?_);exact[])) h e
@[simp] theorem Ws:aE Tryz.prog xA=some WB:=by kernel_rfl
@[simp] theorem axA:az Tryz.prog xA=true:=by kernel_rfl
abbrev Vw:zB:=I::I::O::O::O::I::I::(by(iterate 18 refine O::?_);exact[])
abbrev U1:zB:=(by(iterate 25 refine O::?_);exact[])
abbrev yBy:zR:=[bL 24 6 1,ab 6 24]
abbrev yBz:zR:=[ai 9 1 1,ab 10 3,o 11 (.Ad (.t 9) (.t 10)),o 12 (.cmp .neq (.sc .int) (.t 11) (.c (.int .u8 45))),ab 13 12,dH 14 13 0,dH 15 13 3,bQ 16 13 1 1,dH 17 13 3,oy 18 13 (.Ad (.t 16) (.t 17)),oy 19 13 (.conv .i64 (.t 18)),oy 20 13 (.build [.int .i64 0,.int .i64 0] [(0,1,.t 15),(1,1,.t 19)]),oy 21 13 (.call (.t 14) [.t 20]),oy 22 13 (.not (.t 21)),bX 23 13 22]
abbrev yBA:zR:=[ab 8 6,ab 3 8]
abbrev yBB:aj:=.seq (.ae yBA) (.seq (.ae yBz) (.cond (.t 23) .ret .skip))
abbrev yBC:zR:=[cU 7 6 5]
abbrev KH:aj:=.seq (.ae yBC) (.seq (.cond (.t 7) .skip (.exit 0)) (.seq (.block 1 [] yBB) (.ae yBy)))
abbrev yBE:zR:=[ai 4 1 1,o 5 (.qA (.t 4)),bf 6 0]
abbrev X1:aF:=⟨.seq (.ae yBE) (.block 0 U1 (.loop Vw KH)),25,[]⟩
abbrev J2(x0 x1 x5 x6:AV)(h:List Ob)(e:Cx:=cx):ar:=bg tc (.code KH::.inLoop Vw KH::.inBlock 0 U1::AQ) (x0::x1::U::U::U::x5::x6::(by(iterate 18 refine U::?_);exact[])) h e
@[simp] theorem Fo:aE Tryz.prog tc=some X1:=by kernel_rfl
@[simp] theorem ayh:az Tryz.prog tc=true:=by kernel_rfl
abbrev yBH:zR:=[aN 15 3 3,aL 3 2 15]
abbrev yBI:zR:=[al 11 1 3,ai 12 1 11,bL 13 12 1,al 14 1 3,aL 1 14 13]
abbrev yBJ:zR:=[o 8 (.fE 2 1 (.t 1) (.c (.int .i64 1))),ai 9 1 8,o 10 (.cmp .eql (.sc .int) (.t 9) (.c (.int .i64 48)))]
abbrev yBK:zR:=[o 4 (.fE 2 1 (.t 1) (.c (.int .i64 0))),ai 5 1 4,o 6 (.bG .mul (.c (.int .i64 2)) (.t 5)),o 7 (.build [.int .i64 0,.int .i64 0,.int .i64 0] [(0,1,.c (.int .i64 2)),(1,1,.t 6)]),o 3 (.alloc [.int .i64 0,.int .i64 0,.int .i64 0]),aL 3 3 7]
abbrev yBL:zR:=[o 1 (.box 2 (.t 0)),o 2 (.alloc [.int .i64 0,.int .i64 0,.int .i64 0])]
abbrev Xv:aF:=⟨.seq (.ae yBL) (.seq (.ae yBK) (.seq (.seq (.ae yBJ) (.cond (.t 10) (.ae yBI) .skip)) (.seq (.ae yBH) .ret))),16,[.cell 2 true 3]⟩
@[simp] theorem Xd:aE Tryz.prog Bb=some Xv:=by kernel_rfl
@[simp] theorem axX:az Tryz.prog Bb=true:=by kernel_rfl
abbrev yBM:zR:=[ai 12 1 2,ab 4 12]
abbrev Uj:zR:=[o 5 (.alloc [.int .i64 0,.int .i64 0]),aL 2 5 7]
abbrev yBO:zR:=[ai 8 1 2,aN 9 2 5,o 10 (.lit 2 [.agg [.int .i64 0,.int .i64 0]] [(0,.t 9)]),o 11 (.append 2 mc 16 (.t 8) (.t 10)),aL 1 2 11]
abbrev T_:aj:=.block 1 [] (.ae yBO)
abbrev yBQ:aj:=.rangeFunc (.t 6) [7] [O,O,I,O,I,O,O,O,O,O,O,O,O] (.ae Uj) T_
abbrev yBR:zR:=[ab 6 1]
abbrev yBS:zR:=[o 2 (.box 1 (.t 0)),o 4 (.dP 2 mc)]
abbrev Wd:aF:=⟨.seq (.ae yBS) (.seq (.seq (.ae yBR) (.block 0 [] yBQ)) (.seq (.ae yBM) .ret)),13,[.tmp 4]⟩
@[simp] theorem Wc:aE Tryz.prog A5=some Wd:=by kernel_rfl
@[simp] theorem axo:az Tryz.prog A5=true:=by kernel_rfl
abbrev TN:zR:=[q (.store 1 (.t 3) (.c (.bool false)))]
abbrev VO:zR:=[o 4 (.alloc [.int .i64 0,.int .i64 0]),aL 2 4 7]
abbrev yBV:zR:=[q (.store 1 (.t 3) (.c (.bool true)))]
abbrev yBW:aj:=.seq (.ae yBV) .ret
abbrev yBX:zR:=[aN 8 2 4,aN 9 2 1,o 10 (.cmp .eql (.jf [.int,.int]) (.t 8) (.t 9))]
abbrev yBY:aj:=.seq (.ae yBX) (.cond (.t 10) yBW .skip)
abbrev Vc:aj:=.block 1 [] yBY
abbrev yCa:aj:=.rangeFunc (.t 6) [7] [O,I,O,I,O,O,O,O,O,O,O] (.ae VO) Vc
abbrev yCb:zR:=[ab 5 0,ba 6 uS 5]
abbrev yCc:zR:=[o 3 (.alloc [.bool false])]
abbrev aaf:aF:=⟨.seq (.ae yCc) (.seq (.seq (.ae yCb) (.block 0 [] yCa)) (.seq (.ae TN) .ret)),11,[.cell 3 false 1]⟩
@[simp] theorem YI:aE Tryz.prog qb=some aaf:=by kernel_rfl
@[simp] theorem aze:az Tryz.prog qb=true:=by kernel_rfl
abbrev yCe:zR:=[ab 17 0,ab 18 0,o 19 (.cap (.t 18)),o 20 (.slice 3 (.t 17) none (some (.t 19))),ab 21 1,o 22 (.tS 3 aU 24 (.agg [.int .i64 0,.int .i64 0,.int .i64 0]) (.t 20) (.t 21)),ab 23 0,aX 24 23,o 25 (.slice 3 (.t 22) none (some (.t 24))),ab 0 25]
abbrev Wp:aF:=⟨.seq (.ae S_) (.seq (.seq (.ae Ji) (.cond (.t 6) (.ae JH) .skip)) (.seq (.seq (.ae Jz) (.seq (.ae JM) (.cond (.t 16) (.ae yCe) .skip))) (.seq (.ae JV) .ret))),27,[.tmp 4]⟩
@[simp] theorem Wj:aE Tryz.prog Fc=some Wp:=by kernel_rfl
@[simp] theorem axt:az Tryz.prog Fc=true:=by kernel_rfl
abbrev yCk:zR:=[ab 4 0,ai 5 1 1,o 6 (.bG .xor (.t 4) (.t 5)),ab 3 6]
abbrev W_:aF:=⟨.seq (.ae EB) (.seq (.ae yCk) .ret),7,[.tmp 3]⟩
@[simp] theorem W1:aE Tryz.prog xE=some W_:=by kernel_rfl
@[simp] theorem axP:az Tryz.prog xE=true:=by kernel_rfl
abbrev yCm:zR:=[ab 29 8,ab 6 29]
abbrev yCn:zR:=[ab 25 0,aN 26 5 7,o 27 (.bx (.t 25)),al 28 0 27,aL 5 28 26]
abbrev yCo:zR:=[o 23 (.build [] []),o 24 (.j8 FH (.t 23)),q (.panic (.t 24))]
abbrev yCp:zR:=[ab 21 9,o 22 (.cmp .neq (.sc .int) (.t 21) (.c (.int .i64 0)))]
abbrev yCq:zR:=[ab 11 0,o 12 (.bx (.t 11)),al 13 0 12,aN 14 5 13,ab 15 1,ab 16 2,o 17 (.call (.f Ca) [.t 14,.t 15,.t 16]),ab 10 17,bC 18 10 0,bC 19 10 1,bC 20 10 2,o 7 (.alloc [.int .i64 0,.own 1 aq [],.own 1 aq [],.own 2 cT [],.own 1 aq []]),aL 5 7 18,ab 8 19,ab 9 20]
abbrev XH:aF:=⟨.seq (.ae EP) (.seq (.ae yCq) (.seq (.seq (.ae yCp) (.cond (.t 22) (.ae yCo) .skip)) (.seq (.ae yCn) (.seq (.ae yCm) .ret)))),30,[.tmp 6]⟩
@[simp] theorem Xn:aE Tryz.prog ta=some XH:=by kernel_rfl
@[simp] theorem ax7:az Tryz.prog ta=true:=by kernel_rfl
abbrev yCs:zR:=[ab 58 11,o 59 (.bx (.t 58)),al 60 0 59,aN 61 5 60,ab 62 12,aL 5 6 61,ab 7 62,bf 8 0]
abbrev yCt:zR:=[o 57 (.build [.int .i64 0,.list true 0 [],.list true 0 [],.list true 0 [],.list true 0 []] []),aL 5 6 57,bf 7 0,bf 8 8]
abbrev yCu:aj:=.seq (.ae yCt) .ret
abbrev yCv:zR:=[ab 51 11,o 52 (.bx (.t 51)),al 53 0 52,aN 54 5 53,ba 55 rK 54,o 56 (.cmp .eql (.sc .int) (.t 55) (.c (.int .i64 8)))]
abbrev yCw:zR:=[ab 47 11,ab 48 1,ab 49 2,o 50 (.call (.f rG) [.t 47,.t 48,.t 49]),ab 12 50]
abbrev yCx:zR:=[aN 45 5 3,ba 46 tw 45,ab 11 46]
abbrev yCy:zR:=[o 25 (.build [.int .i64 0,.list true 0 [],.list true 0 [],.list true 0 [],.list true 0 []] []),ab 26 9,aL 5 6 25,bf 7 0,ab 8 26]
abbrev yCz:zR:=[o 44 (.build [.int .i64 0,.list true 0 [],.list true 0 [],.list true 0 [],.list true 0 []] []),aL 5 6 44,bf 7 0,bf 8 1]
abbrev yCA:aj:=.seq (.ae yCz) .ret
abbrev yCB:zR:=[ab 28 1,o 29 (.cmp .lss (.sc .int) (.t 28) (.c (.int .i64 0))),ab 30 29,on 31 30 (.mv (.t 2)),on 32 30 (.cmp .lss (.sc .int) (.t 31) (.c (.int .i64 0))),o 33 (.pick (.t 30) (.c (.bool true)) (.t 32)),ab 34 33,on 35 34 (.mv (.t 1)),on 36 34 (.mv (.t 10)),on 37 34 (.cmp .geq (.sc .int) (.t 35) (.t 36)),o 38 (.pick (.t 34) (.c (.bool true)) (.t 37)),ab 39 38,on 40 39 (.mv (.t 2)),on 41 39 (.mv (.t 10)),on 42 39 (.cmp .geq (.sc .int) (.t 40) (.t 41)),o 43 (.pick (.t 39) (.c (.bool true)) (.t 42)),ab 27 43]
abbrev yCC:aj:=.seq (.ae yCy) .ret
abbrev yCD:aj:=.seq (.ae yCB) (.cond (.t 27) yCA .skip)
abbrev yCE:zR:=[ab 23 9,o 24 (.cmp .neq (.sc .int) (.t 23) (.c (.int .i64 0))),ab 22 24]
abbrev yCF:aj:=.seq (.ae yCE) (.cond (.t 22) yCC yCD)
abbrev yCG:zR:=[aN 15 5 3,ba 16 mf 15,al 17 3 3,ai 18 1 17,aX 19 18,o 20 (.bG .add (.t 16) (.t 19)),o 21 (.bG .mul (.c (.int .i64 2)) (.t 20)),ab 10 21]
abbrev yCH:zR:=[aN 13 5 3,ba 14 rK 13,ab 9 14]
abbrev yCI:zR:=[o 3 (.box 5 (.t 0)),o 6 (.alloc [.int .i64 0,.own 1 aq [],.own 1 aq [],.own 2 cT [],.own 1 aq []]),bf 7 0,bf 8 0]
abbrev afz:aF:=⟨.seq (.ae yCI) (.seq (.ae yCH) (.seq (.aP [O,O,O,I,O,O,O,O] [2,9,9,9,9,9,9,9] yCG) (.seq (.block 0 [] yCF) (.seq (.ae yCx) (.seq (.ae yCw) (.seq (.seq (.ae yCv) (.cond (.t 56) yCu .skip)) (.seq (.ae yCs) .ret))))))),63,[.cell 6 true 5,.tmp 7,.tmp 8]⟩
@[simp] theorem acZ:aE Tryz.prog Ca=some afz:=by kernel_rfl
@[simp] theorem aAp:az Tryz.prog Ca=true:=by kernel_rfl
abbrev yCJ:zR:=[ab 5 1,al 6 0 2,o 7 (.fE 2 1 (.t 6) (.c (.int .i64 0))),ai 8 1 7,o 9 (.lookup (.sc .int) (.str []) (.t 5) (.t 8) false),ab 10 1,al 11 0 2,o 12 (.fE 2 1 (.t 11) (.c (.int .i64 1))),ai 13 1 12,o 14 (.lookup (.sc .int) (.str []) (.t 10) (.t 13) false),o 15 (.lit 1 [.str [],.str []] [(0,.t 9),(1,.t 14)]),o 16 (.build [.str [],.int .i64 0,.list true 0 [],.list true 0 [],.bool false] [(1,1,.c (.int .i64 4)),(2,1,.t 15)]),aL 5 4 16]
abbrev yCK:zR:=[o 2 (.box 2 (.t 0)),o 4 (.alloc [.str [],.int .i64 0,.own 1 au [],.own 1 au [],.bool false])]
abbrev Yc:aF:=⟨.seq (.ae yCK) (.seq (.ae yCJ) .ret),17,[.cell 4 true 5]⟩
@[simp] theorem XK:aE Tryz.prog Bi=some Yc:=by kernel_rfl
@[simp] theorem ayl:az Tryz.prog Bi=true:=by kernel_rfl
abbrev yCL:zR:=[o 8 (.build [.str [],.int .i64 0,.list true 0 [],.list true 0 [],.bool false] [(1,1,.c (.int .i64 0))]),aL 5 4 8]
abbrev yCM:zR:=[o 7 (.build [.str [],.int .i64 0,.list true 0 [],.list true 0 [],.bool false] [(1,1,.c (.int .i64 1))]),aL 5 4 7]
abbrev yCN:aj:=.seq (.ae yCM) .ret
abbrev yCO:zR:=[al 5 0 2,ai 6 1 5]
abbrev VK:zR:=[o 2 (.box 1 (.t 0)),o 4 (.alloc [.str [],.int .i64 0,.own 1 au [],.own 1 au [],.bool false])]
abbrev Xl:aF:=⟨.seq (.ae VK) (.seq (.seq (.ae yCO) (.cond (.t 6) yCN .skip)) (.seq (.ae yCL) .ret)),9,[.cell 4 true 5]⟩
@[simp] theorem W6:aE Tryz.prog A_=some Xl:=by kernel_rfl
@[simp] theorem axR:az Tryz.prog A_=true:=by kernel_rfl
abbrev yCQ:zR:=[ab 5 1,al 6 0 2,ai 7 1 6,o 8 (.bG .xor (.t 7) (.c (.int .i64 1))),o 9 (.lookup (.sc .int) (.str []) (.t 5) (.t 8) false),o 10 (.lit 1 [.str []] [(0,.t 9)]),o 11 (.build [.str [],.int .i64 0,.list true 0 [],.list true 0 [],.bool false] [(1,1,.c (.int .i64 3)),(2,1,.t 10)]),aL 5 4 11]
abbrev XC:aF:=⟨.seq (.ae VK) (.seq (.ae yCQ) .ret),12,[.cell 4 true 5]⟩
@[simp] theorem Xq:aE Tryz.prog Bc=some XC:=by kernel_rfl
@[simp] theorem aya:az Tryz.prog Bc=true:=by kernel_rfl
abbrev yCS:zR:=[ab 7 0,ab 8 1,bl 9 1 7 8,ai 10 1 9,ab 11 0,ab 12 2,bl 13 1 11 12,ai 14 1 13,cU 15 10 14,ab 6 15]
abbrev Yb:aF:=⟨.seq (.ae D3) (.seq (.aP [O,O,O,O,O,O,O,O,O,O] [11,11,11,11,11,11,11,11,11,11] yCS) .ret),16,[.tmp 6]⟩
@[simp] theorem LU:aE Tryz.prog xN=some Yb:=by kernel_rfl
@[simp] theorem ayp:az Tryz.prog xN=true:=by kernel_rfl
abbrev yCU:zR:=[ab 25 3,o 26 (.j8 aq (.t 25)),ab 2 26]
abbrev yCV:zR:=[ab 14 0,ab 15 0,o 16 (.bx (.t 15)),ai 17 1 16,ab 18 0,o 19 (.bx (.t 18)),ai 20 1 19,aX 21 20,o 22 (.bG .sub (.t 21) (.c (.int .i64 1))),o 23 (.slice 1 (.t 17) none (some (.t 22))),o 24 (.bx (.t 14)),aL 1 24 23]
abbrev yCW:zR:=[ab 4 0,o 5 (.bx (.t 4)),ai 6 1 5,ab 7 0,o 8 (.bx (.t 7)),ai 9 1 8,aX 10 9,o 11 (.bG .sub (.t 10) (.c (.int .i64 1))),bl 12 1 6 11,ai 13 1 12,ab 3 13]
abbrev Yj:aF:=⟨.seq (.ae K5) (.seq (.aP [O,O,O,O,O,O,O,O,O,O,O] [12,12,12,12,12,12,12,12,12,12,12] yCW) (.seq (.aP [O,O,O,O,O,O,O,O,O,O,O,O] [12,12,12,12,12,12,12,12,12,12,12,13] yCV) (.seq (.ae yCU) .ret))),27,[.tmp 2]⟩
@[simp] theorem XV:aE Tryz.prog Bj=some Yj:=by kernel_rfl
@[simp] theorem ayu:az Tryz.prog Bj=true:=by kernel_rfl
abbrev yCY:zR:=[ab 4 0,ab 5 0,o 6 (.bx (.t 5)),ai 7 1 6,ab 8 1,o 9 (.tT (.t 8) aq (.int .i64 0) false),o 10 (.lit 1 [.int .i64 0] [(0,.t 9)]),o 11 (.append 1 aq 8 (.t 7) (.t 10)),o 12 (.bx (.t 4)),aL 1 12 11]
abbrev Ya:aF:=⟨.aP [O,O,O,I,O,O,O,O,O,O] [10,8,8,8,7,7,8,10,10,11] yCY,13,[]⟩
@[simp] theorem LQ:aE Tryz.prog Bh=some Ya:=by kernel_rfl
@[simp] theorem ayr:az Tryz.prog Bh=true:=by kernel_rfl
abbrev yCZ:zR:=[ab 6 0,ab 7 1,ab 8 0,ab 9 2,ab 10 0,ab 11 2,bl 12 1 10 11,ai 13 1 12,ab 14 0,ab 15 1,bl 16 1 14 15,ai 17 1 16,bl 18 1 6 7,aL 1 18 13,bl 19 1 8 9,aL 1 19 17]
abbrev X2:aF:=⟨.aP ((by(iterate 16 refine O::?_);exact[])) [14,14,16,16,14,14,14,14,14,14,14,14,14,16,16,17] yCZ,20,[]⟩
@[simp] theorem LS:aE Tryz.prog xM=some X2:=by kernel_rfl
@[simp] theorem ayj:az Tryz.prog xM=true:=by kernel_rfl
abbrev XA:aF:=⟨.seq (.ae oJ) (.seq (.ae oJ) .ret),5,[.tmp 4]⟩
@[simp] theorem Xa:aE Tryz.prog xH=some XA:=by kernel_rfl
@[simp] theorem ax1:az Tryz.prog xH=true:=by kernel_rfl
abbrev UI:zR:=[ab 38 5,ab 4 38]
abbrev S7:zB:=I::O::O::O::O::I::O::O::O::O::O::O::O::O::I::I::I::(by(iterate 22 refine O::?_);exact[])
abbrev TC:zB:=O::O::O::O::O::I::(by(iterate 33 refine O::?_);exact[])
abbrev yDf:zR:=[bL 37 16 1,ab 16 37]
abbrev yDg:zR:=[ab 30 0,ab 31 8,o 32 (.bG .xor (.t 31) (.c (.int .i64 1))),ab 33 9,o 34 (.bG .xor (.t 33) (.c (.int .i64 1))),o 35 (.call (.f ta) [.t 30,.t 32,.t 34]),o 36 (.bG .xor (.t 35) (.c (.int .i64 1))),ab 5 36]
abbrev yDh:zR:=[ab 25 0,ab 26 5,o 27 (.bG .xor (.t 26) (.c (.int .i64 1))),ab 28 7,o 29 (.call (.f ta) [.t 25,.t 27,.t 28]),ab 9 29]
abbrev yDi:zR:=[ab 20 0,ab 21 5,ab 22 7,o 23 (.bG .xor (.t 22) (.c (.int .i64 1))),o 24 (.call (.f ta) [.t 20,.t 21,.t 23]),ab 8 24]
abbrev yDj:zR:=[bl 18 1 14 16,ai 19 1 18,ab 7 19]
abbrev yDk:aj:=.seq (.ae yDj) (.seq (.ae yDi) (.seq (.ae yDh) (.ae yDg)))
abbrev JA:aj:=.seq (.ae D_) (.seq (.cond (.t 17) .skip (.exit 0)) (.seq (.block 1 [] yDk) (.ae yDf)))
abbrev yDn:zR:=[ab 13 1,o 14 (.slice 1 (.t 13) (some (.c (.int .i64 1))) none),aX 15 14,bf 16 0]
abbrev yDo:zR:=[ab 10 1,o 11 (.jd 1 (.t 10) (.c (.int .i64 0))),ai 12 1 11,ab 5 12]
abbrev XJ:aF:=⟨.seq (.ae oJ) (.seq (.ae yDo) (.seq (.seq (.ae yDn) (.block 0 TC (.loop S7 JA))) (.seq (.ae UI) .ret))),39,[.tmp 4]⟩
abbrev yDq:zI:=[.code (.seq (.ae UI) .ret)]
abbrev yDr(x0 x5 x14 x15 x16:AV)(h:List Ob)(e:Cx:=cx):ar:=bg uQ (.code JA::.inLoop S7 JA::.inBlock 0 TC::yDq) (x0::U::U::U::U::x5::U::U::U::U::U::U::U::U::x14::x15::x16::(by(iterate 22 refine U::?_);exact[])) h e
@[simp] theorem Xk:aE Tryz.prog uQ=some XJ:=by kernel_rfl
@[simp] theorem ax8:az Tryz.prog uQ=true:=by kernel_rfl
end Go.Proofs.YtchjijfjidlpjaaGreatDoor
