/- The functions, as the abstract machine has them. Printed by a program. -/
import Derived.Test.YtchjijfjidlpjaaGreatDoorAMd
import Derived.Test.YtchjijfjidlpjaaGreatDoorChecked
import Derived.KernelRfl
set_option linter.unusedSimpArgs false
set_option linter.unusedVariables false
namespace Go.Proofs.YtchjijfjidlpjaaGreatDoor
open Go.AM Go.Proofs
abbrev zR:=List AG
abbrev zB:=List Bool
abbrev zI:=List It
abbrev ab(d i:Nat):AG:=o d (.mv (.t i))
abbrev ai(d k i:Nat):AG:=o d (.load false k (.t i))
abbrev aQ(d k i:Nat):AG:=o d (.load true k (.t i))
abbrev ak(d k i:Nat):AG:=o d (.off k (.t i))
abbrev bn(d k i j:Nat):AG:=o d (.jt k (.t i) (.t j))
abbrev bS(d i:Nat)(n:Int):AG:=o d (.bP .add (.t i) (.c (.int .i64 n)))
abbrev cR(d i j:Nat):AG:=o d (.cmp .lss (.sc .int) (.t i) (.t j))
abbrev cp(d i j:Nat):AG:=o d (.pick (.t i) (.t j) (.c (.bool false)))
abbrev a_(d:Nat)(n:Int):AG:=o d (.mv (.c (.int .i64 n)))
abbrev aZ(d i:Nat):AG:=o d (.len (.t i))
abbrev aT(k a x:Nat):AG:=q (.store k (.t a) (.t x))
abbrev bt(d i k:Nat):AG:=o d (.extract (.t i) k)
abbrev de(d j k i:Nat):AG:=oy d j (.load false k (.t i))
abbrev cF(d j i:Nat):AG:=oy d j (.mv (.t i))
abbrev bf(d:Nat)(f:FuncId)(i:Nat):AG:=o d (.call (.f f) [.t i])
abbrev dp(d:Nat)(f:FuncId)(i j:Nat):AG:=o d (.call (.f f) [.t i,.t j])
abbrev nB(d:Nat):AG:=o d (.mv (.c (.bool false)))
abbrev wL:FuncId:=4
abbrev wK:FuncId:=5
abbrev DW:FuncId:=7
abbrev uf:FuncId:=9
abbrev uD:FuncId:=10
abbrev kN:FuncId:=11
abbrev tS:FuncId:=13
abbrev rZ:FuncId:=18
abbrev xv:FuncId:=19
abbrev tU:FuncId:=20
abbrev wS:FuncId:=21
abbrev nJ:FuncId:=22
abbrev sf:FuncId:=23
abbrev AK:FuncId:=27
abbrev AQ:FuncId:=28
abbrev ud:FuncId:=29
abbrev sd:FuncId:=31
abbrev rY:FuncId:=32
abbrev tL:FuncId:=33
abbrev wF:FuncId:=34
abbrev Ag:FuncId:=35
abbrev nK:FuncId:=36
abbrev wP:FuncId:=43
abbrev oB:FuncId:=44
abbrev tP:FuncId:=49
abbrev tJ:FuncId:=50
abbrev nG:FuncId:=51
abbrev Ax:FuncId:=52
abbrev tT:FuncId:=53
abbrev D0:FuncId:=54
abbrev wB:FuncId:=56
abbrev sk:FuncId:=57
abbrev wV:FuncId:=65
abbrev tK:FuncId:=66
abbrev wT:FuncId:=67
abbrev wU:FuncId:=68
abbrev ua:FuncId:=69
abbrev rX:FuncId:=71
abbrev wN:FuncId:=72
abbrev tY:FuncId:=73
abbrev Aw:FuncId:=74
abbrev wR:FuncId:=75
abbrev oE:FuncId:=76
abbrev Ab:FuncId:=77
abbrev uq:FuncId:=78
abbrev wX:FuncId:=79
abbrev sg:FuncId:=80
abbrev xk:FuncId:=81
abbrev uj:FuncId:=82
abbrev sb:FuncId:=85
abbrev uc:FuncId:=86
abbrev tX:FuncId:=87
abbrev ub:FuncId:=88
abbrev rW:FuncId:=89
abbrev oz:FuncId:=90
abbrev Am:FuncId:=91
abbrev sw:FuncId:=92
abbrev nL:FuncId:=93
abbrev DM:FuncId:=102
abbrev oA:FuncId:=103
abbrev nI:FuncId:=104
abbrev wD:FuncId:=105
abbrev tM:FuncId:=106
abbrev Ah:FuncId:=107
abbrev AD:FuncId:=112
abbrev pz:FuncId:=113
abbrev uh:FuncId:=114
abbrev py:FuncId:=115
abbrev D6:FuncId:=117
abbrev Ac:FuncId:=118
abbrev wy:FuncId:=119
abbrev Ak:FuncId:=120
abbrev Az:FuncId:=121
abbrev Bh:FuncId:=122
abbrev uA:FuncId:=123
abbrev tH:FuncId:=124
abbrev At:FuncId:=127
abbrev Ar:FuncId:=128
abbrev tI:FuncId:=129
abbrev Av:FuncId:=130
abbrev AJ:FuncId:=131
abbrev Ae:FuncId:=132
abbrev rV:FuncId:=133
abbrev D5:FuncId:=134
abbrev wG:FuncId:=138
abbrev wE:FuncId:=139
abbrev D2:FuncId:=141
abbrev AF:FuncId:=145
abbrev DN:FuncId:=146
abbrev wM:FuncId:=148
abbrev D1:FuncId:=149
abbrev rU:FuncId:=150
abbrev Ai:FuncId:=151
abbrev wz:FuncId:=152
abbrev wC:FuncId:=153
abbrev Ad:FuncId:=154
abbrev pA:FuncId:=155
abbrev qQ:FuncId:=156
abbrev DL:FuncId:=157
abbrev A7:FuncId:=177
abbrev Au:FuncId:=178
abbrev Ap:FuncId:=179
abbrev wZ:FuncId:=180
abbrev wH:FuncId:=182
abbrev DO:FuncId:=183
abbrev wA:FuncId:=184
abbrev wY:FuncId:=196
abbrev w8:FuncId:=197
abbrev r8:FuncId:=198
abbrev w6:FuncId:=199
abbrev xa:FuncId:=200
abbrev An:FuncId:=240
abbrev Af:FuncId:=242
abbrev Aj:FuncId:=243
abbrev wJ:FuncId:=244
abbrev Ao:FuncId:=245
abbrev Al:FuncId:=246
abbrev wI:FuncId:=247
def rT:String:=String.ofList [Char.ofNat 112,Char.ofNat 97,Char.ofNat 116,Char.ofNat 99,Char.ofNat 104,Char.ofNat 98,Char.ofNat 97,Char.ofNat 121,Char.ofNat 47,Char.ofNat 114,Char.ofNat 97,Char.ofNat 105,Char.ofNat 115,Char.ofNat 101,Char.ofNat 46,Char.ofNat 103,Char.ofNat 97,Char.ofNat 116,Char.ofNat 101]
abbrev av:TypeId:=3
abbrev aY:TypeId:=4
abbrev aw:TypeId:=9
abbrev jq:TypeId:=22
abbrev jN:TypeId:=50
abbrev dv:TypeId:=62
abbrev lD:TypeId:=65
abbrev D_:TypeId:=72
@[simp] theorem asL:jw Tryz.prog D_ rT=some (An,none):=by kernel_rfl
abbrev wO:TypeId:=90
abbrev nH:TypeId:=wO
abbrev DX:TypeId:=122
@[simp] theorem asH:jw Tryz.prog DX rT=some (Af,none):=by kernel_rfl
abbrev D4:TypeId:=124
@[simp] theorem asJ:jw Tryz.prog D4 rT=some (Aj,none):=by kernel_rfl
abbrev Ee:TypeId:=130
abbrev kQ:TypeId:=163
@[simp] theorem atr:jw Tryz.prog kQ "Push" =some (Al,none):=by kernel_rfl
@[simp] theorem atz:jw Tryz.prog kQ "Len" =some (tM,some (false,1)):=by kernel_rfl
@[simp] theorem ats:jw Tryz.prog kQ "Swap" =some (wI,some (false,1)):=by kernel_rfl
@[simp] theorem atE:jw Tryz.prog kQ "Pop" =some (Ao,none):=by kernel_rfl
@[simp] theorem atm:jw Tryz.prog kQ "Less" =some (wJ,some (false,1)):=by kernel_rfl
abbrev DZ:TypeId:=164
@[simp] theorem atk:jw Tryz.prog DZ "Len" =some (tM,none):=by kernel_rfl
@[simp] theorem ath:jw Tryz.prog DZ "Swap" =some (wI,none):=by kernel_rfl
@[simp] theorem atf:jw Tryz.prog DZ "Less" =some (wJ,none):=by kernel_rfl
abbrev ya:zR:=[ab 78 3,ab 79 78,cF 80 79 11,oy 81 79 (.cmp .eql (.sc .int) (.t 80) (.c (.int .i64 0))),cp 82 79 81,ab 83 82,oy 84 83 (.off 3 (.t 5)),de 85 83 1 84,oy 86 83 (.len (.t 85)),cF 87 83 9,cF 88 83 12,oy 89 83 (.bP .add (.t 87) (.t 88)),oy 90 83 (.cmp .eql (.sc .int) (.t 86) (.t 89)),cp 91 83 90,ab 2 91]
abbrev yd:zB:=O::O::O::I::O::I::O::O::O::I::I::I::I::I::(by(iterate 78 refine O::?_);exact[])
abbrev ye:zB:=O::O::O::I::O::I::O::O::O::I::O::I::I::(by(iterate 79 refine O::?_);exact[])
abbrev yf:zR:=[ab 69 13,bS 70 69 1,ab 13 70]
abbrev yg:zR:=[a_ 12 1]
abbrev yh:zR:=[ak 71 0 10,ak 72 1 71,ai 73 1 72,ab 74 13,bn 75 1 73 74,ai 76 1 75,o 77 (.cmp .eql (.sc .int) (.t 76) (.c (.int .i64 0)))]
abbrev yi:al:=.seq (.ae yh) (.cond (.t 77) (.ae yg) .skip)
abbrev yj:zR:=[ab 63 13,ak 64 0 10,ak 65 1 64,ai 66 1 65,aZ 67 66,cR 68 63 67]
abbrev yk:al:=.seq (.seq (.ae yj) (.cond (.t 68) .skip (.exit 2))) (.seq (.block 3 [] yi) (.ae yf))
abbrev ym:zR:=[a_ 13 0]
abbrev yo:zR:=[a_ 12 0]
abbrev yp:zR:=[aQ 59 8 1,bf 60 tS 59,ab 58 60,bt 61 58 0,bt 62 58 1,o 10 (.alloc [.int .i64 0,.own 1 av [],.own 1 av [],.own 2 dv [],.own 1 av [],.own 1 aw [],.own 1 aw [],.own 1 aw []]),aT 8 10 61,ab 11 62]
abbrev yq:zR:=[ak 53 0 1,aQ 54 5 53,bf 55 rZ 54,ab 56 7,o 57 (.bP .add (.t 55) (.t 56)),ab 9 57]
abbrev yr:zB:=O::I::O::I::O::I::O::I::I::(by(iterate 83 refine O::?_);exact[])
abbrev yu:zB:=O::I::O::I::O::I::O::I::(by(iterate 84 refine O::?_);exact[])
abbrev yv:zR:=[ab 41 8,bS 42 41 1,ab 8 42]
abbrev yw:zR:=[ab 51 7,bS 52 51 1,ab 7 52]
abbrev yx:zR:=[aQ 43 8 1,ak 44 7 1,ai 45 1 44,ab 46 8,bn 47 1 45 46,ai 48 1 47,dp 49 tU 43 48,o 50 (.cmp .lss (.sc .int) (.t 49) (.c (.int .i64 0)))]
abbrev yy:al:=.seq (.aX [O,O,O,O,O,O,O,O] [7,7,7,7,7,7,9,9] yx) (.cond (.t 50) (.ae yw) .skip)
abbrev yz:zR:=[ab 36 8,ak 37 7 1,ai 38 1 37,aZ 39 38,cR 40 36 39]
abbrev yA:al:=.seq (.seq (.ae yz) (.cond (.t 40) .skip (.exit 0))) (.seq (.block 1 [] yy) (.ae yv))
abbrev yB:zR:=[a_ 8 0]
abbrev yC:zR:=[a_ 7 0]
abbrev yD:zR:=[ab 35 3,ab 2 35]
abbrev yE:al:=.seq (.ae yD) .ret
abbrev yF:zR:=[ab 29 4,o 30 (.not (.t 29)),ab 31 30,on 32 31 (.mv (.t 6)),on 33 31 (.cmp .neq (.sc .int) (.t 32) (.c (.int .i64 0))),o 34 (.pick (.t 31) (.c (.bool true)) (.t 33))]
abbrev yG:zR:=[aQ 25 8 1,bf 26 kN 25,ab 24 26,bt 27 24 0,bt 28 24 1,o 5 (.alloc [.own 1 aw [],.own 1 aw [],.own 3 jN [],.own 5 lD []]),aT 4 5 27,ab 6 28]
abbrev yH:zR:=[aQ 17 8 1,bf 18 uD 17,ab 19 18,oy 20 19 (.off 0 (.t 1)),oy 21 19 (.load true 5 (.t 20)),oy 22 19 (.call (.f xv) [.t 21]),cp 23 19 22,ab 4 23]
abbrev yI:zR:=[nB 2]
abbrev yJ:al:=.seq (.ae yI) .ret
abbrev yK:zR:=[ab 15 3,o 16 (.not (.t 15))]
abbrev yL:zR:=[o 14 (.call (.f uf) []),ab 3 14]
abbrev yM:zR:=[o 1 (.box 8 (.t 0)),nB 2]
abbrev VA:aH:=⟨.seq (.ae yM) (.seq (.ae yL) (.seq (.seq (.ae yK) (.cond (.t 16) yJ .skip)) (.seq (.ae yH) (.seq (.ae yG) (.seq (.seq (.ae yF) (.cond (.t 34) yE .skip)) (.seq (.ae yC) (.seq (.seq (.ae yB) (.block 0 yu (.loop yr yA))) (.seq (.ae yq) (.seq (.ae yp) (.seq (.ae yo) (.seq (.seq (.ae ym) (.block 2 ye (.loop yd yk))) (.seq (.ae ya) .ret)))))))))))),92,[.tmp 2]⟩
abbrev yN:zI:=[.code (.seq (.ae ya) .ret)]
abbrev yO(x3 x5 x9 x10 x11 x12 x13:AV)(h:List Ob)(e:Cx:=cx):ar:=bl wL (.code yk::.inLoop yd yk::.inBlock 2 ye::yN) (U::U::U::x3::U::x5::U::U::U::x9::x10::x11::x12::x13::(by(iterate 78 refine U::?_);exact[])) h e
abbrev yP:zI:=[.code (.seq (.ae yq) (.seq (.ae yp) (.seq (.ae yo) (.seq (.seq (.ae ym) (.block 2 ye (.loop yd yk))) (.seq (.ae ya) .ret)))))]
abbrev yQ(x1 x3 x5 x7 x8:AV)(h:List Ob)(e:Cx:=cx):ar:=bl wL (.code yA::.inLoop yr yA::.inBlock 0 yu::yP) (U::x1::U::x3::U::x5::U::x7::x8::(by(iterate 83 refine U::?_);exact[])) h e
@[simp] theorem U5:aG Tryz.prog wL=some VA:=by kernel_rfl
@[simp] theorem atD:aA Tryz.prog wL=true:=by kernel_rfl
abbrev yR:zR:=[ab 119 3,ab 120 119,cF 121 120 7,oy 122 120 (.cmp .eql (.sc .int) (.t 121) (.c (.int .i64 0))),cp 123 120 122,ab 124 123,cF 125 124 13,cp 126 124 125,ab 127 126,cF 128 127 14,cp 129 127 128,ab 130 129,cF 131 130 9,oy 132 130 (.len (.t 131)),oy 133 130 (.off 3 (.t 5)),de 134 130 1 133,oy 135 130 (.len (.t 134)),oy 136 130 (.cmp .eql (.sc .int) (.t 132) (.t 135)),cp 137 130 136,ab 138 137,oy 139 138 (.off 2 (.t 5)),de 140 138 1 139,oy 141 138 (.len (.t 140)),oy 142 138 (.off 6 (.t 1)),de 143 138 1 142,oy 144 138 (.len (.t 143)),oy 145 138 (.cmp .eql (.sc .int) (.t 141) (.t 144)),cp 146 138 145,ab 2 146]
abbrev yS:zR:=[ak 114 1 5,ai 115 1 114,ak 116 7 1,ai 117 1 116,dp 118 sf 115 117,ab 14 118]
abbrev yT:zR:=[ak 109 0 5,ai 110 1 109,ak 111 5 1,ai 112 1 111,dp 113 sf 110 112,ab 13 113]
abbrev yU:zB:=O::I::O::I::O::I::O::I::O::I::O::O::I::(by(iterate 134 refine O::?_);exact[])
abbrev yV:zB:=O::I::O::I::O::I::O::I::O::I::(by(iterate 137 refine O::?_);exact[])
abbrev yX:zR:=[ab 73 12,bS 74 73 1,ab 12 74]
abbrev yba:zR:=[ab 75 12,ak 76 2 5,ai 77 1 76,aZ 78 77,o 79 (.cmp .geq (.sc .int) (.t 75) (.t 78)),ab 80 79,on 81 80 (.off 2 (.t 5)),on 82 80 (.load false 1 (.t 81)),on 83 80 (.mv (.t 12)),on 84 80 (.jt 3 (.t 82) (.t 83)),on 85 80 (.off 0 (.t 84)),on 86 80 (.load false 1 (.t 85)),on 87 80 (.off 6 (.t 1)),on 88 80 (.load false 1 (.t 87)),on 89 80 (.mv (.t 12)),on 90 80 (.jt 1 (.t 88) (.t 89)),on 91 80 (.load false 1 (.t 90)),on 92 80 (.cmp .neq (.sc .str) (.t 86) (.t 91)),o 93 (.pick (.t 80) (.c (.bool true)) (.t 92)),ab 94 93,on 95 94 (.off 2 (.t 5)),on 96 94 (.load false 1 (.t 95)),on 97 94 (.mv (.t 12)),on 98 94 (.jt 3 (.t 96) (.t 97)),on 99 94 (.off 2 (.t 98)),on 100 94 (.load false 1 (.t 99)),on 101 94 (.off 0 (.t 1)),on 102 94 (.off 2 (.t 101)),on 103 94 (.load false 1 (.t 102)),on 104 94 (.mv (.t 12)),on 105 94 (.jt 1 (.t 103) (.t 104)),on 106 94 (.load false 1 (.t 105)),on 107 94 (.cmp .neq (.sc .int) (.t 100) (.t 106)),o 108 (.pick (.t 94) (.c (.bool true)) (.t 107))]
abbrev ybb:al:=.seq (.aX ((by(iterate 34 refine O::?_);exact[])) [35,35,35,35,35,35,35,35,35,35,35,35,35,35,35,35,35,35,35,35,35,35,35,35,35,35,35,35,35,35,35,35,35,35] yba) (.cond (.t 108) yJ .skip)
abbrev ybc:zR:=[ab 68 12,ak 69 6 1,ai 70 1 69,aZ 71 70,cR 72 68 71]
abbrev Dc:al:=.seq (.seq (.ae ybc) (.cond (.t 72) .skip (.exit 2))) (.seq (.block 3 [] ybb) (.ae yX))
abbrev Tx:zB:=O::I::O::I::O::I::O::I::O::I::O::I::(by(iterate 135 refine O::?_);exact[])
abbrev ybh:zR:=[ab 60 11,bS 61 60 1,ab 11 61]
abbrev ybk:zR:=[ab 62 9,ab 63 11,bn 64 1 62 63,ai 65 1 64,ab 66 11,o 67 (.cmp .neq (.sc .int) (.t 65) (.t 66))]
abbrev ybl:al:=.seq (.ae ybk) (.cond (.t 67) yJ .skip)
abbrev ybm:zR:=[ab 56 11,ab 57 9,aZ 58 57,cR 59 56 58]
abbrev HI:al:=.seq (.seq (.ae ybm) (.cond (.t 59) .skip (.exit 0))) (.seq (.block 1 [] ybl) (.ae ybh))
abbrev ybo:zR:=[a_ 11 0]
abbrev ybp:zR:=[aQ 52 4 5,bf 53 nJ 52,ab 51 53,bt 54 51 0,bt 55 51 1,ab 9 54,ab 10 55]
abbrev ybq:zR:=[aQ 47 4 5,bf 48 wS 47,ab 46 48,bt 49 46 0,bt 50 46 1,ab 7 49,ab 8 50]
abbrev ybr:zR:=[ab 31 3,ab 32 31,cF 33 32 4,oy 34 32 (.not (.t 33)),cF 35 32 34,on 36 35 (.off 3 (.t 5)),on 37 35 (.load false 1 (.t 36)),on 38 35 (.len (.t 37)),on 39 35 (.off 0 (.t 5)),on 40 35 (.load false 1 (.t 39)),on 41 35 (.len (.t 40)),on 42 35 (.bP .add (.t 38) (.t 41)),on 43 35 (.cmp .eql (.sc .int) (.t 42) (.c (.int .i64 0))),oy 44 32 (.pick (.t 35) (.c (.bool true)) (.t 43)),cp 45 32 44,ab 2 45]
abbrev ybs:al:=.seq (.ae ybr) .ret
abbrev ybt:zR:=[ab 25 4,o 26 (.not (.t 25)),ab 27 26,on 28 27 (.mv (.t 6)),on 29 27 (.cmp .neq (.sc .int) (.t 28) (.c (.int .i64 0))),o 30 (.pick (.t 27) (.c (.bool true)) (.t 29))]
abbrev ybu:zR:=[aQ 21 8 1,bf 22 kN 21,ab 20 22,bt 23 20 0,bt 24 20 1,o 5 (.alloc [.own 1 aw [],.own 1 aw [],.own 3 jN [],.own 5 lD []]),aT 4 5 23,ab 6 24]
abbrev ybv:zR:=[aQ 18 8 1,bf 19 uD 18,ab 4 19]
abbrev yby:zR:=[ab 16 3,o 17 (.not (.t 16))]
abbrev ybz:zR:=[o 15 (.call (.f uf) []),ab 3 15]
abbrev VC:aH:=⟨.seq (.ae yM) (.seq (.ae ybz) (.seq (.seq (.ae yby) (.cond (.t 17) yJ .skip)) (.seq (.ae ybv) (.seq (.ae ybu) (.seq (.seq (.ae ybt) (.cond (.t 30) ybs .skip)) (.seq (.ae ybq) (.seq (.ae ybp) (.seq (.seq (.ae ybo) (.block 0 yV (.loop Tx HI))) (.seq (.seq (.ae yo) (.block 2 yV (.loop yU Dc))) (.seq (.ae yT) (.seq (.ae yS) (.seq (.ae yR) .ret)))))))))))),147,[.tmp 2]⟩
abbrev ybB:zI:=[.code (.seq (.ae yT) (.seq (.ae yS) (.seq (.ae yR) .ret)))]
abbrev ybC(x1 x3 x5 x7 x9 x12:AV)(h:List Ob)(e:Cx:=cx):ar:=bl wK (.code Dc::.inLoop yU Dc::.inBlock 2 yV::ybB) (U::x1::U::x3::U::x5::U::x7::U::x9::U::U::x12::(by(iterate 134 refine U::?_);exact[])) h e
abbrev ybD:zI:=[.code (.seq (.seq (.ae yo) (.block 2 yV (.loop yU Dc))) (.seq (.ae yT) (.seq (.ae yS) (.seq (.ae yR) .ret))))]
abbrev ybE(x1 x3 x5 x7 x9 x11:AV)(h:List Ob)(e:Cx:=cx):ar:=bl wK (.code HI::.inLoop Tx HI::.inBlock 0 yV::ybD) (U::x1::U::x3::U::x5::U::x7::U::x9::U::x11::(by(iterate 135 refine U::?_);exact[])) h e
@[simp] theorem U3:aG Tryz.prog wK=some VC:=by kernel_rfl
@[simp] theorem aty:aA Tryz.prog wK=true:=by kernel_rfl
abbrev ybF:zR:=[ab 61 7,ab 62 61,cF 63 62 13,cF 64 62 16,oy 65 62 (.cmp .eql (.sc .int) (.t 63) (.t 64)),cp 66 62 65,ab 67 66,cF 68 67 11,cF 69 67 14,oy 70 67 (.call (.f ud) [.t 68,.t 69]),cp 71 67 70,ab 72 71,cF 73 72 12,cF 74 72 15,oy 75 72 (.call (.f ud) [.t 73,.t 74]),cp 76 72 75,ab 6 76]
abbrev ybG:zR:=[ak 53 0 3,aQ 54 5 53,ab 55 1,ab 56 2,o 57 (.call (.f AQ) [.t 54,.t 55,.t 56]),ab 52 57,bt 58 52 0,bt 59 52 1,bt 60 52 2,ab 14 58,ab 15 59,ab 16 60]
abbrev ybH:zR:=[aQ 45 4 9,ab 46 1,ab 47 2,o 48 (.call (.f AK) [.t 45,.t 46,.t 47]),ab 44 48,bt 49 44 0,bt 50 44 1,bt 51 44 2,ab 11 49,ab 12 50,ab 13 51]
abbrev ybI:zR:=[ab 43 7,ab 6 43]
abbrev ybJ:al:=.seq (.ae ybI) .ret
abbrev ybK:zR:=[ab 27 8,o 28 (.not (.t 27)),ab 29 28,on 30 29 (.mv (.t 10)),on 31 29 (.cmp .neq (.sc .int) (.t 30) (.c (.int .i64 0))),o 32 (.pick (.t 29) (.c (.bool true)) (.t 31)),ab 33 32,on 34 33 (.mv (.t 1)),on 35 33 (.len (.t 34)),on 36 33 (.cmp .gtr (.sc .int) (.t 35) (.c (.int .i64 60))),o 37 (.pick (.t 33) (.c (.bool true)) (.t 36)),ab 38 37,on 39 38 (.mv (.t 2)),on 40 38 (.len (.t 39)),on 41 38 (.cmp .gtr (.sc .int) (.t 40) (.c (.int .i64 60))),o 42 (.pick (.t 38) (.c (.bool true)) (.t 41))]
abbrev ybL:zR:=[aQ 23 8 3,bf 24 kN 23,ab 22 24,bt 25 22 0,bt 26 22 1,o 9 (.alloc [.own 1 aw [],.own 1 aw [],.own 3 jN [],.own 5 lD []]),aT 4 9 25,ab 10 26]
abbrev ybM:zR:=[aQ 20 8 3,bf 21 uD 20,ab 8 21]
abbrev IX:zR:=[nB 6]
abbrev ybO:al:=.seq (.ae IX) .ret
abbrev ybP:zR:=[ab 18 7,o 19 (.not (.t 18))]
abbrev ybQ:zR:=[o 17 (.call (.f uf) []),ab 7 17]
abbrev ybR:zR:=[o 3 (.box 8 (.t 0)),nB 6]
abbrev VG:aH:=⟨.seq (.ae ybR) (.seq (.ae ybQ) (.seq (.seq (.ae ybP) (.cond (.t 19) ybO .skip)) (.seq (.ae ybM) (.seq (.ae ybL) (.seq (.seq (.ae ybK) (.cond (.t 42) ybJ .skip)) (.seq (.ae ybH) (.seq (.ae ybG) (.seq (.ae ybF) .ret)))))))),77,[.tmp 6]⟩
@[simp] theorem U6:aG Tryz.prog DW=some VG:=by kernel_rfl
@[simp] theorem atx:aA Tryz.prog DW=true:=by kernel_rfl
abbrev ybS:zR:=[ab 35 3,o 36 (.cmp .eql (.sc .int) (.t 35) (.c (.int .i64 0))),ab 37 36,oy 38 37 (.off 3 (.t 2)),de 39 37 1 38,oy 40 37 (.jt 5 (.t 39) (.c (.int .i64 0))),oy 41 37 (.off 0 (.t 40)),de 42 37 1 41,oy 43 37 (.cmp .eql (.sc .str) (.t 42) (.c (.str [110,49]))),cp 44 37 43,ab 45 44,oy 46 45 (.off 3 (.t 2)),de 47 45 1 46,oy 48 45 (.jt 5 (.t 47) (.c (.int .i64 0))),oy 49 45 (.off 1 (.t 48)),de 50 45 1 49,oy 51 45 (.cmp .eql (.sc .int) (.t 50) (.c (.int .i64 3))),cp 52 45 51,ab 53 52,oy 54 53 (.off 3 (.t 2)),de 55 53 1 54,oy 56 53 (.jt 5 (.t 55) (.c (.int .i64 1))),oy 57 53 (.off 1 (.t 56)),de 58 53 1 57,oy 59 53 (.cmp .eql (.sc .int) (.t 58) (.c (.int .i64 4))),cp 60 53 59,ab 61 60,oy 62 61 (.off 3 (.t 2)),de 63 61 1 62,oy 64 61 (.jt 5 (.t 63) (.c (.int .i64 1))),oy 65 61 (.off 2 (.t 64)),de 66 61 1 65,oy 67 61 (.lit 1 [.str [],.str []] [(0,.c (.str [110,49])),(1,.c (.str [97]))]),oy 68 61 (.call (.f sf) [.t 66,.t 67]),cp 69 61 68,ab 70 69,oy 71 70 (.off 3 (.t 2)),de 72 70 1 71,oy 73 70 (.jt 5 (.t 72) (.c (.int .i64 2))),oy 74 70 (.off 0 (.t 73)),de 75 70 1 74,oy 76 70 (.cmp .eql (.sc .str) (.t 75) (.c (.str [122]))),cp 77 70 76,ab 78 77,oy 79 78 (.off 3 (.t 2)),de 80 78 1 79,oy 81 78 (.jt 5 (.t 80) (.c (.int .i64 2))),oy 82 78 (.off 1 (.t 81)),de 83 78 1 82,oy 84 78 (.cmp .eql (.sc .int) (.t 83) (.c (.int .i64 2))),cp 85 78 84,ab 86 85,cF 87 86 5,oy 88 86 (.cmp .eql (.sc .int) (.t 87) (.c (.int .i64 0))),cp 89 86 88,ab 90 89,oy 91 90 (.off 0 (.t 4)),oy 92 90 (.off 3 (.t 91)),de 93 90 1 92,oy 94 90 (.len (.t 93)),oy 95 90 (.cmp .eql (.sc .int) (.t 94) (.c (.int .i64 1))),cp 96 90 95,ab 97 96,cF 98 97 7,oy 99 97 (.cmp .eql (.sc .int) (.t 98) (.c (.int .i64 1))),cp 100 97 99,ab 101 100,oy 102 101 (.off 0 (.t 4)),oy 103 101 (.load true 5 (.t 102)),oy 104 101 (.call (.f rZ) [.t 103]),oy 105 101 (.cmp .eql (.sc .int) (.t 104) (.c (.int .i64 2))),cp 106 101 105,ab 0 106]
abbrev Ru:zR:=[nB 0]
abbrev ybU:al:=.seq (.ae Ru) .ret
abbrev ybV:zR:=[ak 31 3 2,ai 32 1 31,aZ 33 32,o 34 (.cmp .neq (.sc .int) (.t 33) (.c (.int .i64 3)))]
abbrev ybW:zR:=[aQ 27 8 1,bf 28 kN 27,ab 26 28,bt 29 26 0,bt 30 26 1,o 6 (.alloc [.own 1 aw [],.own 1 aw [],.own 3 jN [],.own 5 lD []]),aT 4 6 29,ab 7 30]
abbrev ybX:zR:=[ak 25 7 1,q (.store 1 (.t 25) (.c (.list true 0 [])))]
abbrev ybY:zR:=[aQ 21 8 1,bf 22 tS 21,ab 20 22,bt 23 20 0,bt 24 20 1,o 4 (.alloc [.int .i64 0,.own 1 av [],.own 1 av [],.own 2 dv [],.own 1 av [],.own 1 aw [],.own 1 aw [],.own 1 aw []]),aT 8 4 23,ab 5 24]
abbrev ybZ:zR:=[aQ 16 8 1,bf 17 kN 16,ab 15 17,bt 18 15 0,bt 19 15 1,o 2 (.alloc [.own 1 aw [],.own 1 aw [],.own 3 jN [],.own 5 lD []]),aT 4 2 18,ab 3 19]
abbrev yca:zR:=[o 8 (.build [.int .i64 0,.int .i64 0] [(0,1,.c (.int .i64 5)),(1,1,.c (.int .i64 2))]),o 9 (.lit 2 [.agg [.int .i64 0,.int .i64 0]] [(0,.t 8)]),o 10 (.lit 1 [.int .i64 0,.int .i64 0] [(0,.c (.int .i64 6)),(1,.c (.int .i64 2))]),o 11 (.build [.int .i64 0,.list true 0 [],.list true 0 [],.list true 0 [],.list true 0 []] [(0,1,.c (.int .i64 2)),(3,1,.t 9),(4,1,.t 10)]),o 12 (.lit 1 [.str [],.str []] [(0,.c (.str [97])),(1,.c (.str [98]))]),o 13 (.lit 1 [.str [],.str []] [(0,.c (.str [122])),(1,.c (.str [97]))]),o 14 (.build [.int .i64 0,.list true 0 [],.list true 0 [],.list true 0 [],.list true 0 [],.list true 0 [],.list true 0 [],.list true 0 []] [(0,5,.t 11),(5,1,.t 12),(7,1,.t 13)]),o 1 (.alloc [.int .i64 0,.own 1 av [],.own 1 av [],.own 2 dv [],.own 1 av [],.own 1 aw [],.own 1 aw [],.own 1 aw []]),aT 8 1 14]
abbrev aab:aH:=⟨.seq (.ae Ru) (.seq (.ae yca) (.seq (.ae ybZ) (.seq (.ae ybY) (.seq (.ae ybX) (.seq (.ae ybW) (.seq (.seq (.ae ybV) (.cond (.t 34) ybU .skip)) (.seq (.ae ybS) .ret))))))),107,[.tmp 0]⟩
@[simp] theorem Xl:aG Tryz.prog uf=some aab:=by kernel_rfl
@[simp] theorem auT:aA Tryz.prog uf=true:=by kernel_rfl
abbrev ycc:zR:=[ab 19 3,ab 20 19,cF 21 20 4,cp 22 20 21,ab 23 22,cF 24 23 5,cp 25 23 24,ab 26 25,cF 27 26 6,cp 28 26 27,ab 2 28]
abbrev ycd:zR:=[ak 16 7 1,ai 17 1 16,o 18 (.call (.f sd) [.t 17,.c (.int .i64 60)]),ab 6 18]
abbrev yce:zR:=[ak 13 6 1,ai 14 1 13,o 15 (.call (.f sd) [.t 14,.c (.int .i64 40)]),ab 5 15]
abbrev ycf:zR:=[ak 10 5 1,ai 11 1 10,o 12 (.call (.f sd) [.t 11,.c (.int .i64 40)]),ab 4 12]
abbrev ycg:zR:=[ak 7 0 1,aQ 8 5 7,bf 9 xv 8,ab 3 9]
abbrev adF:aH:=⟨.seq (.ae yM) (.seq (.ae ycg) (.seq (.ae ycf) (.seq (.ae yce) (.seq (.ae ycd) (.seq (.ae ycc) .ret))))),29,[.tmp 2]⟩
@[simp] theorem Zx:aG Tryz.prog uD=some adF:=by kernel_rfl
@[simp] theorem avg:aA Tryz.prog uD=true:=by kernel_rfl
abbrev Dl:zR:=[ab 136 5,o 137 (.br (.t 136)),ak 138 0 137,aQ 139 4 138,aT 4 2 139,a_ 3 0]
abbrev ycj:zR:=[o 135 (.build [.list true 0 [],.list true 0 [],.list true 0 [],.list true 0 []] []),aT 4 2 135,a_ 3 8]
abbrev CQ:al:=.seq (.ae ycj) .ret
abbrev Dv:zR:=[ab 133 13,o 134 (.cmp .neq (.sc .int) (.t 133) (.c (.int .i64 0)))]
abbrev C6:zR:=[ab 126 5,o 127 (.br (.t 126)),ak 128 0 127,aQ 129 4 128,bf 130 nK 129,ab 125 130,bt 131 125 0,bt 132 125 1,ab 13 131,ab 14 132]
abbrev Dt:zB:=O::I::I::O::O::I::(by(iterate 93 refine O::?_);exact I::I::I::(by(iterate 38 refine O::?_);exact[]))
abbrev Dk:zB:=O::O::I::O::O::I::(by(iterate 134 refine O::?_);exact[])
abbrev ycp:zR:=[bS 124 101 1,ab 101 124]
abbrev ycq:zR:=[ab 110 5,o 111 (.br (.t 110)),ak 112 6 111,ai 113 1 112,ab 114 5,ab 115 12,ak 116 0 1,ak 117 4 116,ai 118 1 117,ab 119 11,bn 120 1 118 119,ai 121 1 120,o 122 (.call (.f Ag) [.t 114,.t 115,.t 121]),o 123 (.call (.t 113) [.t 122])]
abbrev ycr:zR:=[aQ 106 8 1,ab 107 12,dp 108 tU 106 107,o 109 (.cmp .lss (.sc .int) (.t 108) (.c (.int .i64 0)))]
abbrev ycs:zR:=[ab 103 101,bn 104 1 99 101,ai 105 1 104,ab 11 103,ab 12 105]
abbrev yct:al:=.seq (.ae ycs) (.seq (.ae ycr) (.cond (.t 109) (.aX [O,O,O,I,O,O,O,O,O,O,O,O,O,O] [14,14,14,14,13,13,13,13,13,13,13,13,14,15] ycq) .skip))
abbrev ycu:zR:=[cR 102 101 100]
abbrev zH:al:=.seq (.ae ycu) (.seq (.cond (.t 102) .skip (.exit 4)) (.seq (.block 5 [] yct) (.ae ycp)))
abbrev HU:zR:=[ak 98 7 1,ai 99 1 98,aZ 100 99,a_ 101 0]
abbrev HM:zB:=O::I::I::O::O::I::(by(iterate 57 refine O::?_);exact I::I::I::(by(iterate 74 refine O::?_);exact[]))
abbrev zK:zB:=O::I::I::O::O::I::(by(iterate 134 refine O::?_);exact[])
abbrev ycz:zR:=[bS 97 65 1,ab 65 97]
abbrev ycA:zR:=[ab 70 5,ab 71 5,o 72 (.br (.t 71)),ak 73 0 72,ak 74 2 73,ai 75 1 74,ab 76 10,ab 77 5,ak 78 0 1,ak 79 1 78,ai 80 1 79,ab 81 9,bn 82 1 80 81,ai 83 1 82,dp 84 tL 77 83,ak 85 0 1,ak 86 2 85,ai 87 1 86,ab 88 9,bn 89 1 87 88,ai 90 1 89,o 91 (.build [.str [],.str [],.int .i64 0] [(0,1,.t 76),(1,1,.t 84),(2,1,.t 90)]),o 92 (.lit 3 [.agg [.str [],.str [],.int .i64 0]] [(0,.t 91)]),o 93 (.append 3 jN 40 (.t 75) (.t 92)),o 94 (.br (.t 70)),ak 95 0 94,ak 96 2 95,aT 1 96 93]
abbrev ycB:zR:=[ab 67 65,bn 68 1 63 65,ai 69 1 68,ab 9 67,ab 10 69]
abbrev ycC:al:=.seq (.ae ycB) (.aX [O,O,O,O,O,I,O,O,O,O,O,O,O,O,O,O,O,I,O,O,I,O,O,O,O,O,O,O] [28,24,24,24,24,24,23,15,15,15,15,15,15,15,23,23,23,23,23,23,23,23,24,28,28,28,28,29] ycA)
abbrev ycD:zR:=[cR 66 65 64]
abbrev CU:al:=.seq (.ae ycD) (.seq (.cond (.t 66) .skip (.exit 2)) (.seq (.block 3 [] ycC) (.ae ycz)))
abbrev QX:zR:=[ak 62 6 1,ai 63 1 62,aZ 64 63,a_ 65 0]
abbrev Sw:zB:=O::I::I::O::O::I::I::(by(iterate 30 refine O::?_);exact I::I::I::(by(iterate 100 refine O::?_);exact[]))
abbrev ycI:zR:=[bS 61 39 1,ab 39 61]
abbrev ycJ:zR:=[ab 52 5,ab 53 6,ab 54 7,o 55 (.bP .add (.t 53) (.t 54)),o 56 (.bP .mul (.c (.int .i64 2)) (.t 55)),aQ 57 2 8,o 58 (.build [.int .i64 0,.int .i64 0] [(0,2,.t 57)]),o 59 (.kj D_ (.t 58)),o 60 (.call (.f wF) [.t 52,.t 56,.t 59])]
abbrev ycK:zR:=[ab 48 5,o 49 (.fw 2 1 (.t 8) (.c (.int .i64 1))),ai 50 1 49,dp 51 tL 48 50]
abbrev ycL:zR:=[ab 44 5,o 45 (.fw 2 1 (.t 8) (.c (.int .i64 0))),ai 46 1 45,dp 47 tL 44 46]
abbrev ycM:zR:=[ab 41 39,bn 42 2 37 39,aQ 43 2 42,o 8 (.alloc [.int .i64 0,.int .i64 0]),ab 7 41,aT 2 8 43]
abbrev ycN:al:=.seq (.ae ycM) (.seq (.ae ycL) (.seq (.ae ycK) (.ae ycJ)))
abbrev Sz:zR:=[cR 40 39 38]
abbrev H_:al:=.seq (.ae Sz) (.seq (.cond (.t 40) .skip (.exit 0)) (.seq (.block 1 [] ycN) (.ae ycI)))
abbrev ycQ:zR:=[ak 35 0 1,ak 36 3 35,ai 37 1 36,aZ 38 37,a_ 39 0]
abbrev ycR:zR:=[ak 26 0 1,ak 27 0 26,ai 28 1 27,o 29 (.bP .add (.c (.int .i64 1)) (.t 28)),ak 30 0 1,ak 31 1 30,ai 32 1 31,aZ 33 32,o 34 (.bP .add (.t 29) (.t 33)),ab 6 34]
abbrev ycS:zR:=[aQ 24 8 1,bf 25 rY 24,ab 5 25]
abbrev ycT:zR:=[o 22 (.build [.list true 0 [],.list true 0 [],.list true 0 [],.list true 0 []] []),ab 23 4,aT 4 2 22,ab 3 23]
abbrev ycU:al:=.seq (.ae ycT) .ret
abbrev ycV:zR:=[ab 20 4,o 21 (.cmp .neq (.sc .int) (.t 20) (.c (.int .i64 0)))]
abbrev ycW:zR:=[aQ 16 8 1,bf 17 tS 16,ab 15 17,bt 18 15 0,bt 19 15 1,aT 8 1 18,ab 4 19]
abbrev ycX:zR:=[o 1 (.box 8 (.t 0)),o 2 (.alloc [.own 1 aw [],.own 1 aw [],.own 3 jN [],.own 5 lD []]),a_ 3 0]
abbrev XF:aH:=⟨.seq (.ae ycX) (.seq (.ae ycW) (.seq (.seq (.ae ycV) (.cond (.t 21) ycU .skip)) (.seq (.ae ycS) (.seq (.ae ycR) (.seq (.seq (.ae ycQ) (.block 0 zK (.loop Sw H_))) (.seq (.seq (.ae QX) (.block 2 zK (.loop HM CU))) (.seq (.seq (.ae HU) (.block 4 Dk (.loop Dt zH))) (.seq (.seq (.ae C6) (.seq (.ae Dv) (.cond (.t 134) CQ .skip))) (.seq (.ae Dl) .ret))))))))),140,[.cell 2 true 4,.tmp 3]⟩
abbrev So:zI:=[.code (.seq (.seq (.ae C6) (.seq (.ae Dv) (.cond (.t 134) CQ .skip))) (.seq (.ae Dl) .ret))]
abbrev ycZ(x1 x2 x5 x99 x100 x101:AV)(h:List Ob)(e:Cx:=cx):ar:=bl kN (.code zH::.inLoop Dt zH::.inBlock 4 Dk::So) (U::x1::x2::U::U::x5::(by(iterate 93 refine U::?_);exact x99::x100::x101::(by(iterate 38 refine U::?_);exact[]))) h e
abbrev yda(x2 x5:AV)(h:List Ob)(e:Cx:=cx):ar:=bl kN So (U::U::x2::U::U::x5::(by(iterate 134 refine U::?_);exact[])) h e
abbrev RA:zI:=[.code (.seq (.seq (.ae HU) (.block 4 Dk (.loop Dt zH))) (.seq (.seq (.ae C6) (.seq (.ae Dv) (.cond (.t 134) CQ .skip))) (.seq (.ae Dl) .ret)))]
abbrev ydc(x1 x2 x5 x63 x64 x65:AV)(h:List Ob)(e:Cx:=cx):ar:=bl kN (.code CU::.inLoop HM CU::.inBlock 2 zK::RA) (U::x1::x2::U::U::x5::(by(iterate 57 refine U::?_);exact x63::x64::x65::(by(iterate 74 refine U::?_);exact[]))) h e
abbrev ydd(x1 x2 x5:AV)(h:List Ob)(e:Cx:=cx):ar:=bl kN RA (U::x1::x2::U::U::x5::(by(iterate 134 refine U::?_);exact[])) h e
abbrev TA:zI:=[.code (.seq (.seq (.ae QX) (.block 2 zK (.loop HM CU))) (.seq (.seq (.ae HU) (.block 4 Dk (.loop Dt zH))) (.seq (.seq (.ae C6) (.seq (.ae Dv) (.cond (.t 134) CQ .skip))) (.seq (.ae Dl) .ret))))]
abbrev Rg(x1 x2 x5 x6 x37 x38 x39:AV)(h:List Ob)(e:Cx:=cx):ar:=bl kN (.code H_::.inLoop Sw H_::.inBlock 0 zK::TA) (U::x1::x2::U::U::x5::x6::(by(iterate 30 refine U::?_);exact x37::x38::x39::(by(iterate 100 refine U::?_);exact[]))) h e
abbrev ydg(x1 x2 x5:AV)(h:List Ob)(e:Cx:=cx):ar:=bl kN TA (U::x1::x2::U::U::x5::(by(iterate 134 refine U::?_);exact[])) h e
@[simp] theorem VK:aG Tryz.prog kN=some XF:=by kernel_rfl
@[simp] theorem at6:aA Tryz.prog kN=true:=by kernel_rfl
abbrev ydh:zR:=[aQ 18 8 1,aT 8 2 18,a_ 3 0]
abbrev ydi:zR:=[ak 12 0 1,aQ 13 5 12,bf 14 oB 13,ab 11 14,bt 15 11 0,bt 16 11 1,ak 17 0 1,aT 5 17 15]
abbrev ydj:zR:=[o 9 (.build [.int .i64 0,.list true 0 [],.list true 0 [],.list true 0 [],.list true 0 [],.list true 0 [],.list true 0 [],.list true 0 []] []),ab 10 4,aT 8 2 9,ab 3 10]
abbrev ydk:al:=.seq (.ae ydj) .ret
abbrev ydl:zR:=[ab 7 4,o 8 (.cmp .neq (.sc .int) (.t 7) (.c (.int .i64 0)))]
abbrev ydm:zR:=[aQ 5 8 1,bf 6 wP 5,ab 4 6]
abbrev ydn:zR:=[o 1 (.box 8 (.t 0)),o 2 (.alloc [.int .i64 0,.own 1 av [],.own 1 av [],.own 2 dv [],.own 1 av [],.own 1 aw [],.own 1 aw [],.own 1 aw []]),a_ 3 0]
abbrev Wl:aH:=⟨.seq (.ae ydn) (.seq (.seq (.ae ydm) (.seq (.ae ydl) (.cond (.t 8) ydk .skip))) (.seq (.ae ydi) (.seq (.ae ydh) .ret))),19,[.cell 2 true 8,.tmp 3]⟩
@[simp] theorem VI:aG Tryz.prog tS=some Wl:=by kernel_rfl
@[simp] theorem atO:aA Tryz.prog tS=true:=by kernel_rfl
abbrev Iy:zR:=[ak 47 3 3,ai 48 1 47,aZ 49 48,ai 50 1 5,o 51 (.sJ (.t 50)),o 52 (.bP .add (.t 49) (.t 51)),ab 2 52]
abbrev IW:zB:=O::O::O::I::O::I::I::(by(iterate 30 refine O::?_);exact I::I::I::(by(iterate 13 refine O::?_);exact[]))
abbrev Iq:zB:=O::O::O::I::O::I::(by(iterate 47 refine O::?_);exact[])
abbrev ydr:zR:=[bS 46 39 1,ab 39 46]
abbrev yds:zR:=[ab 43 6,ab 44 10,o 45 (.call (.t 43) [.t 44])]
abbrev ydt:zR:=[bn 41 1 37 39,ai 42 1 41,ab 10 42]
abbrev ydu:al:=.seq (.ae ydt) (.ae yds)
abbrev CO:al:=.seq (.ae Sz) (.seq (.cond (.t 40) .skip (.exit 2)) (.seq (.block 3 [] ydu) (.ae ydr)))
abbrev SM:zR:=[ak 36 1 3,ai 37 1 36,aZ 38 37,a_ 39 0]
abbrev QY:zB:=O::O::O::I::O::I::I::(by(iterate 14 refine O::?_);exact I::I::I::(by(iterate 29 refine O::?_);exact[]))
abbrev Rz:zB:=O::O::O::I::O::I::I::(by(iterate 46 refine O::?_);exact[])
abbrev ydA:zR:=[bS 35 23 1,ab 23 35]
abbrev ydB:zR:=[ab 31 6,o 32 (.fw 2 1 (.t 8) (.c (.int .i64 1))),ai 33 1 32,o 34 (.call (.t 31) [.t 33])]
abbrev ydC:zR:=[ab 27 6,o 28 (.fw 2 1 (.t 8) (.c (.int .i64 0))),ai 29 1 28,o 30 (.call (.t 27) [.t 29])]
abbrev ydD:zR:=[bn 25 2 21 23,aQ 26 2 25,o 8 (.alloc [.int .i64 0,.int .i64 0]),aT 2 8 26]
abbrev ydE:al:=.seq (.ae ydD) (.seq (.ae ydC) (.ae ydB))
abbrev ydF:zR:=[cR 24 23 22]
abbrev HV:al:=.seq (.ae ydF) (.seq (.cond (.t 24) .skip (.exit 0)) (.seq (.block 1 [] ydE) (.ae ydA)))
abbrev ydH:zR:=[ak 20 3 3,ai 21 1 20,aZ 22 21,a_ 23 0]
abbrev ydI:zR:=[o 19 (.iE (.func tP) [] [.t 5]),ab 6 19]
abbrev ydJ:zR:=[o 18 (.mkMap),o 5 (.alloc [.cO]),aT 1 5 18]
abbrev vQ:zR:=[a_ 2 0]
abbrev ydL:al:=.seq (.ae vQ) .ret
abbrev Sg:zR:=[ab 16 4,o 17 (.cmp .neq (.sc .int) (.t 16) (.c (.int .i64 0)))]
abbrev ydN:zR:=[aQ 12 5 1,bf 13 oB 12,ab 11 13,bt 14 11 0,bt 15 11 1,o 3 (.alloc [.int .i64 0,.own 1 av [],.own 1 av [],.own 2 dv [],.own 1 av []]),aT 5 3 14,ab 4 15]
abbrev I1:zR:=[o 1 (.box 5 (.t 0)),a_ 2 0]
abbrev Xc:aH:=⟨.seq (.ae I1) (.seq (.ae ydN) (.seq (.seq (.ae Sg) (.cond (.t 17) ydL .skip)) (.seq (.ae ydJ) (.seq (.ae ydI) (.seq (.seq (.ae ydH) (.block 0 Rz (.loop QY HV))) (.seq (.seq (.ae SM) (.block 2 Iq (.loop IW CO))) (.seq (.ae Iy) .ret))))))),53,[.tmp 2]⟩
abbrev ydP:zI:=[.code (.seq (.ae Iy) .ret)]
abbrev ydQ(x3 x5 x6 x37 x38 x39:AV)(h:List Ob)(e:Cx:=cx):ar:=bl rZ (.code CO::.inLoop IW CO::.inBlock 2 Iq::ydP) (U::U::U::x3::U::x5::x6::(by(iterate 30 refine U::?_);exact x37::x38::x39::(by(iterate 13 refine U::?_);exact[]))) h e
abbrev ydR:zI:=[.code (.seq (.seq (.ae SM) (.block 2 Iq (.loop IW CO))) (.seq (.ae Iy) .ret))]
abbrev ydS(x3 x5 x6 x21 x22 x23:AV)(h:List Ob)(e:Cx:=cx):ar:=bl rZ (.code HV::.inLoop QY HV::.inBlock 0 Rz::ydR) (U::U::U::x3::U::x5::x6::(by(iterate 14 refine U::?_);exact x21::x22::x23::(by(iterate 29 refine U::?_);exact[]))) h e
@[simp] theorem V9:aG Tryz.prog rZ=some Xc:=by kernel_rfl
@[simp] theorem aua:aA Tryz.prog rZ=true:=by kernel_rfl
abbrev ydT:zR:=[ak 3 0 1,ai 4 1 3,o 5 (.cmp .leq (.sc .int) (.t 4) (.c (.int .i64 100))),ab 6 5,on 7 6 (.off 0 (.t 1)),on 8 6 (.load false 1 (.t 7)),on 9 6 (.cmp .gtr (.sc .int) (.t 8) (.c (.int .i64 4000))),o 10 (.pick (.t 6) (.c (.bool true)) (.t 9)),ab 11 10,oy 12 11 (.off 1 (.t 1)),de 13 11 1 12,oy 14 11 (.len (.t 13)),oy 15 11 (.cmp .leq (.sc .int) (.t 14) (.c (.int .i64 40))),cp 16 11 15,ab 17 16,oy 18 17 (.off 2 (.t 1)),de 19 17 1 18,oy 20 17 (.len (.t 19)),oy 21 17 (.cmp .leq (.sc .int) (.t 20) (.c (.int .i64 40))),cp 22 17 21,ab 23 22,oy 24 23 (.off 3 (.t 1)),de 25 23 1 24,oy 26 23 (.len (.t 25)),oy 27 23 (.cmp .leq (.sc .int) (.t 26) (.c (.int .i64 60))),cp 28 23 27,ab 29 28,oy 30 29 (.off 4 (.t 1)),de 31 29 1 30,oy 32 29 (.len (.t 31)),oy 33 29 (.cmp .leq (.sc .int) (.t 32) (.c (.int .i64 60))),cp 34 29 33,ab 2 34]
abbrev Jk:zR:=[o 1 (.box 5 (.t 0)),nB 2]
abbrev ac2:aH:=⟨.seq (.ae Jk) (.seq (.ae ydT) .ret),35,[.tmp 2]⟩
@[simp] theorem ZJ:aG Tryz.prog xv=some ac2:=by kernel_rfl
@[simp] theorem avJ:aA Tryz.prog xv=true:=by kernel_rfl
abbrev ydV:zR:=[ab 16 5,bS 17 16 1,ab 4 17]
abbrev vF:zR:=[o 4 (.mv (.c (.int .i64 (-1))))]
abbrev ydX:al:=.seq (.ae vF) .ret
abbrev ydY:zR:=[ab 14 5,o 15 (.cmp .lss (.sc .int) (.t 14) (.c (.int .i64 0)))]
abbrev ydZ:zR:=[ak 6 5 2,ai 7 1 6,ak 8 6 2,ai 9 1 8,o 10 (.lit 1 [.list true 0 [],.list true 0 []] [(0,.t 7),(1,.t 9)]),bf 11 nG 10,ab 12 1,dp 13 tJ 11 12,ab 5 13]
abbrev yea:zR:=[o 2 (.box 8 (.t 0)),a_ 4 0]
abbrev WO:aH:=⟨.seq (.ae yea) (.seq (.ae ydZ) (.seq (.seq (.ae ydY) (.cond (.t 15) ydX .skip)) (.seq (.ae ydV) .ret))),18,[.tmp 4]⟩
@[simp] theorem VQ:aG Tryz.prog tU=some WO:=by kernel_rfl
@[simp] theorem aui:aA Tryz.prog tU=true:=by kernel_rfl
abbrev yeb:zR:=[a_ 2 0,o 3 (.mv (.c (.str [])))]
abbrev yec:zR:=[ab 25 7,o 26 (.jt 1 (.t 25) (.c (.int .i64 0))),ai 27 1 26,a_ 2 7,ab 3 27]
abbrev yed:al:=.seq (.aX [O,O,O,O,O] [6,6,6,6,6] yec) .ret
abbrev yee:zR:=[ab 22 7,aZ 23 22,o 24 (.cmp .gtr (.sc .int) (.t 23) (.c (.int .i64 0)))]
abbrev yef:zR:=[aQ 18 4 1,bf 19 nJ 18,ab 17 19,bt 20 17 0,bt 21 17 1,ab 6 20,ab 7 21]
abbrev yeg:zR:=[ab 15 4,ab 16 5,ab 2 15,ab 3 16]
abbrev yeh:al:=.seq (.ae yeg) .ret
abbrev yei:zR:=[ab 13 4,o 14 (.cmp .neq (.sc .int) (.t 13) (.c (.int .i64 0)))]
abbrev yej:zR:=[aQ 9 4 1,bf 10 nK 9,ab 8 10,bt 11 8 0,bt 12 8 1,ab 4 11,ab 5 12]
abbrev yek:zR:=[o 1 (.box 4 (.t 0)),a_ 2 0,o 3 (.mv (.c (.str [])))]
abbrev Xz:aH:=⟨.seq (.ae yek) (.seq (.seq (.ae yej) (.seq (.ae yei) (.cond (.t 14) yeh .skip))) (.seq (.seq (.ae yef) (.seq (.ae yee) (.cond (.t 24) yed .skip))) (.seq (.ae yeb) .ret))),28,[.tmp 2,.tmp 3]⟩
@[simp] theorem V_:aG Tryz.prog wS=some Xz:=by kernel_rfl
@[simp] theorem aug:aA Tryz.prog wS=true:=by kernel_rfl
abbrev Ry:zR:=[ai 52 1 4,ab 53 7,ab 2 52,ab 3 53]
abbrev R_:zB:=O::O::O::O::I::I::O::I::(by(iterate 24 refine O::?_);exact I::I::I::(by(iterate 19 refine O::?_);exact[]))
abbrev SY:zB:=O::O::O::O::I::O::O::I::(by(iterate 46 refine O::?_);exact[])
abbrev yeo:zR:=[bS 51 34 1,ab 34 51]
abbrev yep:zR:=[ab 46 7,ak 47 0 9,ai 48 1 47,o 49 (.lit 1 [.str []] [(0,.t 48)]),o 50 (.append 1 aw 16 (.t 46) (.t 49)),ab 7 50]
abbrev yeq:zR:=[ab 45 11]
abbrev yer:zR:=[ai 39 1 5,ak 40 0 9,ai 41 1 40,o 42 (.lookup (.sc .str) (.int .i64 0) (.t 39) (.t 41) true),ab 38 42,bt 43 38 0,bt 44 38 1,ab 10 43,ab 11 44]
abbrev yeu:zR:=[bn 36 5 32 34,aQ 37 5 36,o 9 (.alloc [.str [],.int .i64 0,.own 1 aw [],.own 1 aw [],.bool false]),aT 5 9 37]
abbrev yev:al:=.seq (.ae yeu) (.seq (.ae yer) (.seq (.ae yeq) (.cond (.t 45) (.ae yep) .skip)))
abbrev yew:zR:=[cR 35 34 33]
abbrev I7:al:=.seq (.ae yew) (.seq (.cond (.t 35) .skip (.exit 2)) (.seq (.block 3 [] yev) (.ae yeo)))
abbrev yey:zR:=[ak 31 3 1,ai 32 1 31,aZ 33 32,a_ 34 0]
abbrev yez:zR:=[o 7 (.cN 1 aw)]
abbrev HE:zR:=[ab 6 19]
abbrev yeB:zR:=[ai 24 1 5,ak 25 3 1,ai 26 1 25,ab 27 6,bn 28 5 26 27,ak 29 0 28,ai 30 1 29,q (.delete (.sc .str) (.t 24) (.t 30))]
abbrev yeC:zR:=[ai 20 1 4,ab 21 6,o 22 (.lit 1 [.int .i64 0] [(0,.t 21)]),o 23 (.append 1 av 8 (.t 20) (.t 22)),aT 1 4 23]
abbrev yeD:al:=.seq (.ae yeC) (.aX [O,O,O,O,O,O,O,O] [8,8,8,8,8,8,8,9] yeB)
abbrev Ij:al:=.block 1 [] yeD
abbrev yeF:al:=.rangeFunc (.t 18) [19] (O::I::I::I::I::I::(by(iterate 48 refine O::?_);exact[])) (.ae HE) Ij
abbrev yeG:zR:=[aQ 17 4 1,bf 18 D0 17]
abbrev yeH:zR:=[aQ 15 4 1,bf 16 tT 15,o 5 (.alloc [.cO]),aT 1 5 16]
abbrev yeI:zR:=[o 4 (.alloc [.own 1 av []])]
abbrev yeJ:zR:=[o 2 (.cN 1 av),o 3 (.cN 1 aw)]
abbrev yeK:al:=.seq (.ae yeJ) .ret
abbrev yeL:zR:=[aQ 12 4 1,bf 13 Ax 12,o 14 (.not (.t 13))]
abbrev yeM:zR:=[o 1 (.box 4 (.t 0)),o 2 (.cN 1 av),o 3 (.cN 1 aw)]
abbrev Yh:aH:=⟨.seq (.ae yeM) (.seq (.seq (.ae yeL) (.cond (.t 14) yeK .skip)) (.seq (.ae yeI) (.seq (.ae yeH) (.seq (.seq (.ae yeG) (.block 0 [] yeF)) (.seq (.ae yez) (.seq (.seq (.ae yey) (.block 2 SY (.loop R_ I7))) (.seq (.ae Ry) .ret))))))),54,[.tmp 2,.tmp 3]⟩
abbrev yeN:zI:=[.code (.seq (.ae Ry) .ret)]
abbrev yeO(x4 x5 x7 x32 x33 x34:AV)(h:List Ob)(e:Cx:=cx):ar:=bl nJ (.code I7::.inLoop R_ I7::.inBlock 2 SY::yeN) (U::U::U::U::x4::x5::U::x7::(by(iterate 24 refine U::?_);exact x32::x33::x34::(by(iterate 19 refine U::?_);exact[]))) h e
@[simp] theorem Kq:aG Tryz.prog nJ=some Yh:=by kernel_rfl
@[simp] theorem auk:aA Tryz.prog nJ=true:=by kernel_rfl
abbrev C8:zR:=[o 4 (.mv (.c (.bool true)))]
abbrev Dm:zB:=I::I::O::O::O::I::(by(iterate 20 refine O::?_);exact[])
abbrev Dg:zB:=(by(iterate 26 refine O::?_);exact[])
abbrev HC:zR:=[ab 15 5,bS 16 15 1,ab 5 16]
abbrev nk:zR:=[nB 4]
abbrev vY:al:=.seq (.ae nk) .ret
abbrev yeV:zR:=[ab 17 0,ab 18 5,bn 19 1 17 18,ai 20 1 19,ab 21 1,ab 22 5,bn 23 1 21 22,ai 24 1 23,o 25 (.cmp .neq (.sc .str) (.t 20) (.t 24))]
abbrev yeW:al:=.seq (.aX [O,O,O,O,O,O,O,O,O] [10,10,10,10,10,10,10,10,10] yeV) (.cond (.t 25) vY .skip)
abbrev SD:zR:=[ab 11 5,ab 12 0,aZ 13 12,cR 14 11 13]
abbrev Ig:al:=.seq (.seq (.ae SD) (.cond (.t 14) .skip (.exit 0))) (.seq (.block 1 [] yeW) (.ae HC))
abbrev HT:zR:=[a_ 5 0]
abbrev Rv:zR:=[ab 6 0,aZ 7 6,ab 8 1,aZ 9 8,o 10 (.cmp .neq (.sc .int) (.t 7) (.t 9))]
abbrev Z0:aH:=⟨.seq (.ae nk) (.seq (.seq (.ae Rv) (.cond (.t 10) vY .skip)) (.seq (.seq (.ae HT) (.block 0 Dg (.loop Dm Ig))) (.seq (.ae C8) .ret))),26,[.tmp 4]⟩
abbrev IA:zI:=[.code (.seq (.ae C8) .ret)]
abbrev yff(x0 x1 x5:AV)(h:List Ob)(e:Cx:=cx):ar:=bl sf (.code Ig::.inLoop Dm Ig::.inBlock 0 Dg::IA) (x0::x1::U::U::U::x5::(by(iterate 20 refine U::?_);exact[])) h e
@[simp] theorem WU:aG Tryz.prog sf=some Z0:=by kernel_rfl
@[simp] theorem auz:aA Tryz.prog sf=true:=by kernel_rfl
abbrev yfg:zR:=[ab 19 9,ab 20 1,ab 21 2,o 22 (.call (.f tK) [.t 19,.t 20,.t 21]),bt 23 22 0,bt 24 22 1,bt 25 22 2,ab 6 23,ab 7 24,ab 8 25]
abbrev yfh:zR:=[ab 18 10,o 6 (.cN 1 aY),o 7 (.cN 1 aY),ab 8 18]
abbrev yfi:al:=.seq (.ae yfh) .ret
abbrev yfj:zR:=[ab 16 10,o 17 (.cmp .neq (.sc .int) (.t 16) (.c (.int .i64 0)))]
abbrev yfk:zR:=[aQ 12 4 3,bf 13 wV 12,ab 11 13,bt 14 11 0,bt 15 11 1,ab 9 14,ab 10 15]
abbrev gq:zR:=[o 3 (.box 4 (.t 0)),o 6 (.cN 1 aY),o 7 (.cN 1 aY),a_ 8 0]
abbrev aai:aH:=⟨.seq (.ae gq) (.seq (.ae yfk) (.seq (.seq (.ae yfj) (.cond (.t 17) yfi .skip)) (.seq (.ae yfg) .ret))),26,[.tmp 6,.tmp 7,.tmp 8]⟩
@[simp] theorem KM:aG Tryz.prog AK=some aai:=by kernel_rfl
@[simp] theorem auN:aA Tryz.prog AK=true:=by kernel_rfl
abbrev yfm:zR:=[ab 23 11,ak 24 4 3,ai 25 1 24,o 26 (.call (.t 23) [.t 25]),ab 27 11,ak 28 1 3,ai 29 1 28,o 30 (.call (.t 27) [.t 29]),ab 6 26,ab 7 30,a_ 8 0]
abbrev yfn:zR:=[o 22 (.iE (.func wU) [] [.t 9]),ab 11 22]
abbrev yfo:zR:=[ab 21 10,o 6 (.cN 1 aY),o 7 (.cN 1 aY),ab 8 21]
abbrev yfp:al:=.seq (.ae yfo) .ret
abbrev yfq:zR:=[ab 19 10,o 20 (.cmp .neq (.sc .int) (.t 19) (.c (.int .i64 0)))]
abbrev yfr:zR:=[aQ 13 5 3,ab 14 1,ab 15 2,o 16 (.call (.f wT) [.t 13,.t 14,.t 15]),ab 12 16,bt 17 12 0,bt 18 12 1,o 9 (.alloc [.own 1 aY []]),aT 1 9 17,ab 10 18]
abbrev yfs:zR:=[o 3 (.box 5 (.t 0)),o 6 (.cN 1 aY),o 7 (.cN 1 aY),a_ 8 0]
abbrev abY:aH:=⟨.seq (.ae yfs) (.seq (.ae yfr) (.seq (.seq (.ae yfq) (.cond (.t 20) yfp .skip)) (.seq (.ae yfn) (.seq (.aX [O,O,O,O,O,O,I,O,O,O,O] [4,4,4,8,8,8,8,12,12,12,12] yfm) .ret)))),31,[.tmp 6,.tmp 7,.tmp 8]⟩
@[simp] theorem XR:aG Tryz.prog AQ=some abY:=by kernel_rfl
@[simp] theorem au2:aA Tryz.prog AQ=true:=by kernel_rfl
abbrev yfz:zR:=[ab 17 0,ab 18 5,bn 19 1 17 18,ai 20 1 19,ab 21 1,ab 22 5,bn 23 1 21 22,ai 24 1 23,o 25 (.cmp .neq (.sc .bool) (.t 20) (.t 24))]
abbrev yfA:al:=.seq (.aX [O,O,O,O,O,O,O,O,O] [10,10,10,10,10,10,10,10,10] yfz) (.cond (.t 25) vY .skip)
abbrev I6:al:=.seq (.seq (.ae SD) (.cond (.t 14) .skip (.exit 0))) (.seq (.block 1 [] yfA) (.ae HC))
abbrev ZX:aH:=⟨.seq (.ae nk) (.seq (.seq (.ae Rv) (.cond (.t 10) vY .skip)) (.seq (.seq (.ae HT) (.block 0 Dg (.loop Dm I6))) (.seq (.ae C8) .ret))),26,[.tmp 4]⟩
abbrev yfJ(x0 x1 x5:AV)(h:List Ob)(e:Cx:=cx):ar:=bl ud (.code I6::.inLoop Dm I6::.inBlock 0 Dg::IA) (x0::x1::U::U::U::x5::(by(iterate 20 refine U::?_);exact[])) h e
@[simp] theorem WX:aG Tryz.prog ud=some ZX:=by kernel_rfl
@[simp] theorem auB:aA Tryz.prog ud=true:=by kernel_rfl
abbrev S_:zR:=[ab 23 0,aZ 24 23,ab 25 1,o 26 (.cmp .leq (.sc .int) (.t 24) (.t 25)),ab 4 26]
abbrev Rj:zB:=I::I::O::O::O::I::(by(iterate 21 refine O::?_);exact[])
abbrev Q_:zB:=I::I::(by(iterate 25 refine O::?_);exact[])
abbrev yfQ:zR:=[ab 17 0,ab 18 5,bn 19 1 17 18,ai 20 1 19,o 21 (.vd (.t 20)),o 22 (.cmp .gtr (.sc .int) (.t 21) (.c (.int .i64 60)))]
abbrev yfR:al:=.seq (.ae yfQ) (.cond (.t 22) vY .skip)
abbrev yfS:zR:=[ab 6 5,ab 7 0,aZ 8 7,cR 9 6 8,ab 10 9,cF 11 10 5,cF 12 10 1,oy 13 10 (.cmp .leq (.sc .int) (.t 11) (.t 12)),cp 14 10 13]
abbrev I2:al:=.seq (.seq (.ae yfS) (.cond (.t 14) .skip (.exit 0))) (.seq (.block 1 [] yfR) (.ae HC))
abbrev Z8:aH:=⟨.seq (.ae nk) (.seq (.seq (.ae HT) (.block 0 Q_ (.loop Rj I2))) (.seq (.ae S_) .ret)),27,[.tmp 4]⟩
abbrev yfW:zI:=[.code (.seq (.ae S_) .ret)]
abbrev yfX(x0 x1 x5:AV)(h:List Ob)(e:Cx:=cx):ar:=bl sd (.code I2::.inLoop Rj I2::.inBlock 0 Q_::yfW) (x0::x1::U::U::U::x5::(by(iterate 21 refine U::?_);exact[])) h e
@[simp] theorem Xp:aG Tryz.prog sd=some Z8:=by kernel_rfl
@[simp] theorem au0:aA Tryz.prog sd=true:=by kernel_rfl
abbrev Ie:zR:=[ai 91 1 3,ab 2 91]
abbrev HY:zR:=[ai 81 1 3,ai 82 1 3,o 83 (.br (.t 82)),ak 84 4 83,ai 85 1 84,ak 86 7 1,ai 87 1 86,o 88 (.append 1 aw 16 (.t 85) (.t 87)),o 89 (.br (.t 81)),ak 90 4 89,aT 1 90 88]
abbrev zu:zB:=O::I::O::I::(by(iterate 42 refine O::?_);exact I::I::I::(by(iterate 43 refine O::?_);exact[]))
abbrev H5:zB:=O::I::O::I::(by(iterate 88 refine O::?_);exact[])
abbrev Sb:zR:=[bS 80 48 1,ab 48 80]
abbrev R9:zB:=O::I::O::I::(by(iterate 42 refine O::?_);exact I::I::I::O::O::O::I::I::I::(by(iterate 37 refine O::?_);exact[]))
abbrev ygf:zR:=[bS 79 54 1,ab 54 79]
abbrev ygg:zR:=[ai 68 1 3,o 69 (.br (.t 68)),ak 70 5 69,ai 71 1 70,ai 72 1 3,o 73 (.br (.t 72)),ak 74 4 73,ai 75 1 74,aZ 76 75,o 77 (.bP .mul (.c (.int .i64 2)) (.t 76)),ab 78 7,q (.bD (.sc .int) (.t 71) (.t 77) (.t 78))]
abbrev ygh:zR:=[ai 58 1 3,ai 59 1 3,o 60 (.br (.t 59)),ak 61 4 60,ai 62 1 61,ab 63 7,o 64 (.lit 1 [.str []] [(0,.t 63)]),o 65 (.append 1 aw 16 (.t 62) (.t 64)),o 66 (.br (.t 58)),ak 67 4 66,aT 1 67 65]
abbrev ygi:zR:=[bn 56 1 52 54,ai 57 1 56,ab 7 57]
abbrev ygj:al:=.seq (.ae ygi) (.seq (.aX [I,I,O,O,I,O,O,O,O,O,O] [11,8,8,8,8,7,8,11,11,11,12] ygh) (.aX [O,O,O,O,O,O,O,O,O,O,O,O] [12,12,12,12,12,12,12,12,12,12,12,13] ygg))
abbrev ygk:zR:=[cR 55 54 53]
abbrev IF:al:=.seq (.ae ygk) (.seq (.cond (.t 55) .skip (.exit 2)) (.seq (.block 3 [] ygj) (.ae ygf)))
abbrev ygm:zR:=[ab 52 5,aZ 53 52,a_ 54 0]
abbrev ygn:zR:=[bn 50 1 46 48,ai 51 1 50,ab 5 51]
abbrev ygo:al:=.seq (.ae ygn) (.seq (.ae ygm) (.block 2 zu (.loop R9 IF)))
abbrev ygp:zR:=[cR 49 48 47]
abbrev C2:al:=.seq (.ae ygp) (.seq (.cond (.t 49) .skip (.exit 0)) (.seq (.block 1 [] ygo) (.ae Sb)))
abbrev ygr:zR:=[ak 42 5 1,ai 43 1 42,ak 44 6 1,ai 45 1 44,o 46 (.lit 1 [.list true 0 [],.list true 0 []] [(0,.t 43),(1,.t 45)]),aZ 47 46,a_ 48 0]
abbrev ygs:zR:=[ai 39 1 3,o 40 (.br (.t 39)),ak 41 7 40,q (.store 1 (.t 41) (.f wN))]
abbrev ygt:zR:=[ai 35 1 3,o 36 (.iE (.func rX) [] [.t 3]),o 37 (.br (.t 35)),ak 38 6 37,aT 1 38 36]
abbrev ygu:zR:=[ai 11 1 3,ai 12 1 3,ai 13 1 3,o 14 (.br (.t 13)),ak 15 0 14,ak 16 0 15,ai 17 1 16,ak 18 5 1,ai 19 1 18,o 20 (.append 1 aw 16 (.t 17) (.t 19)),ai 21 1 3,o 22 (.br (.t 21)),ak 23 0 22,ak 24 1 23,ai 25 1 24,ak 26 7 1,ai 27 1 26,o 28 (.append 1 aw 16 (.t 25) (.t 27)),o 29 (.br (.t 11)),ak 30 0 29,ak 31 0 30,aT 1 31 20,o 32 (.br (.t 12)),ak 33 0 32,ak 34 1 33,aT 1 34 28]
abbrev ygv:zR:=[o 8 (.mkMap),o 9 (.build [.list true 0 [],.list true 0 [],.list true 0 [],.list true 0 [],.list true 0 [],.cO,.dE,.dE] [(5,1,.t 8)]),o 10 (.box 8 (.t 9)),o 3 (.alloc [.ik]),aT 1 3 10]
abbrev ygw:zR:=[o 1 (.box 8 (.t 0)),o 2 (.mv (.c .ik))]
abbrev XG:aH:=⟨.seq (.ae ygw) (.seq (.ae ygv) (.seq (.aX [I,I,O,O,O,O,O,O,O,O,I,O,O,O,I,O,I,O,O,O,O,O,O,O,O,O] [22,26,10,10,10,10,10,10,10,18,18,18,18,18,18,18,18,22,22,22,22,26,26,26,26,27] ygu) (.seq (.ae ygt) (.seq (.ae ygs) (.seq (.seq (.ae ygr) (.block 0 H5 (.loop zu C2))) (.seq (.aX [I,O,O,O,O,O,O,O,O,O,O] [11,8,8,8,8,8,8,11,11,11,12] HY) (.seq (.ae Ie) .ret))))))),92,[.tmp 2]⟩
abbrev Tk:zI:=[.inBlock 1 [],.code (.ae Sb),.inLoop zu C2,.inBlock 0 H5,.code (.seq (.aX [I,O,O,O,O,O,O,O,O,O,O] [11,8,8,8,8,8,8,11,11,11,12] HY) (.seq (.ae Ie) .ret))]
abbrev ygy(x1 x3 x46 x47 x48 x52 x53 x54:AV)(h:List Ob)(e:Cx:=cx):ar:=bl rY (.code IF::.inLoop R9 IF::.inBlock 2 zu::Tk) (U::x1::U::x3::(by(iterate 42 refine U::?_);exact x46::x47::x48::U::U::U::x52::x53::x54::(by(iterate 37 refine U::?_);exact[]))) h e
abbrev ygz(x1 x3 x46 x47 x48:AV)(h:List Ob)(e:Cx:=cx):ar:=bl rY Tk (U::x1::U::x3::(by(iterate 42 refine U::?_);exact x46::x47::x48::(by(iterate 43 refine U::?_);exact[]))) h e
abbrev ygA:zI:=[.code (.seq (.aX [I,O,O,O,O,O,O,O,O,O,O] [11,8,8,8,8,8,8,11,11,11,12] HY) (.seq (.ae Ie) .ret))]
abbrev ygB(x1 x3 x46 x47 x48:AV)(h:List Ob)(e:Cx:=cx):ar:=bl rY (.code C2::.inLoop zu C2::.inBlock 0 H5::ygA) (U::x1::U::x3::(by(iterate 42 refine U::?_);exact x46::x47::x48::(by(iterate 43 refine U::?_);exact[]))) h e
@[simp] theorem VV:aG Tryz.prog rY=some XG:=by kernel_rfl
@[simp] theorem aud:aA Tryz.prog rY=true:=by kernel_rfl
abbrev ygC:zR:=[ab 27 0,o 28 (.br (.t 27)),ak 29 5 28,ai 30 1 29,ab 31 1,o 32 (.lookup (.sc .int) (.str []) (.t 30) (.t 31) false),ab 4 32]
abbrev ygD:zR:=[ab 18 0,ab 19 1,ab 20 0,o 21 (.br (.t 20)),ak 22 7 21,ai 23 1 22,ab 24 1,o 25 (.call (.t 23) [.t 24]),o 26 (.call (.f wF) [.t 18,.t 19,.t 25])]
abbrev ygE:zR:=[ab 16 6,o 17 (.not (.t 16))]
abbrev ygF:zR:=[ab 8 0,o 9 (.br (.t 8)),ak 10 5 9,ai 11 1 10,ab 12 1,o 13 (.lookup (.sc .int) (.str []) (.t 11) (.t 12) true),ab 7 13,bt 14 7 0,bt 15 7 1,ab 5 14,ab 6 15]
abbrev ygG:zR:=[o 4 (.mv (.c (.str [])))]
abbrev Vc:aH:=⟨.seq (.ae ygG) (.seq (.seq (.ae ygF) (.seq (.ae ygE) (.cond (.t 17) (.ae ygD) .skip))) (.seq (.ae ygC) .ret)),33,[.tmp 4]⟩
@[simp] theorem UH:aG Tryz.prog tL=some Vc:=by kernel_rfl
@[simp] theorem atj:aA Tryz.prog tL=true:=by kernel_rfl
abbrev ygH:zR:=[ab 40 0,o 41 (.br (.t 40)),ak 42 6 41,ai 43 1 42,aQ 44 5 6,o 45 (.call (.t 43) [.t 44])]
abbrev ygI:zR:=[ab 33 0,o 34 (.br (.t 33)),ak 35 5 34,ai 36 1 35,ab 37 1,ak 38 0 6,ai 39 1 38,q (.bD (.sc .int) (.t 36) (.t 37) (.t 39))]
abbrev ygJ:zR:=[ab 22 0,ab 23 0,o 24 (.br (.t 23)),ak 25 4 24,ai 26 1 25,ak 27 0 6,ai 28 1 27,o 29 (.lit 1 [.str []] [(0,.t 28)]),o 30 (.append 1 aw 16 (.t 26) (.t 29)),o 31 (.br (.t 22)),ak 32 4 31,aT 1 32 30]
abbrev ygK:zR:=[ab 16 0,o 17 (.br (.t 16)),ak 18 4 17,ai 19 1 18,o 20 (.call (.f tY) [.t 19,.c (.str [110])]),ak 21 0 6,aT 1 21 20]
abbrev ygL:zR:=[ab 7 2,ab 8 0,o 9 (.br (.t 8)),ak 10 5 9,ai 11 1 10,o 12 (.iE (.method rT) [.t 7] []),o 13 (.br (.t 12)),ab 14 7,o 15 (.invoke (.t 14) rT [.t 11]),o 6 (.alloc [.str [],.int .i64 0,.own 1 aw [],.own 1 aw [],.bool false]),aT 5 6 15]
abbrev UN:aH:=⟨.seq (.aX [O,O,O,O,I,O,O,O,I,O,O] [11,11,11,11,11,11,11,11,11,11,12] ygL) (.seq (.ae ygK) (.seq (.aX [O,O,O,O,I,O,O,O,O,O,O,O] [12,9,9,9,9,8,8,9,12,12,12,13] ygJ) (.seq (.aX [O,O,O,O,O,O,O,O] [8,8,8,8,8,8,8,9] ygI) (.aX [O,O,O,O,O,O] [6,6,6,6,6,7] ygH)))),46,[]⟩
@[simp] theorem DP:aG Tryz.prog wF=some UN:=by kernel_rfl
@[simp] theorem atd:aA Tryz.prog wF=true:=by kernel_rfl
abbrev ygM:zR:=[aQ 39 5 7,aT 5 6 39]
abbrev ygN:zR:=[ab 37 1,ak 38 0 7,aT 1 38 37]
abbrev ygO:zR:=[ab 29 0,o 30 (.br (.t 29)),ak 31 5 30,ai 32 1 31,ab 33 2,o 34 (.lookup (.sc .int) (.str []) (.t 32) (.t 33) false),o 35 (.lit 1 [.str []] [(0,.t 34)]),o 36 (.build [.str [],.int .i64 0,.list true 0 [],.list true 0 [],.bool false] [(1,1,.c (.int .i64 2)),(2,1,.t 35)]),aT 5 7 36]
abbrev ygP:zR:=[ab 22 2,o 23 (.cmp .gtr (.sc .int) (.t 22) (.c (.int .i64 1))),ab 24 23,cF 25 24 2,oy 26 24 (.bP .and (.t 25) (.c (.int .i64 1))),oy 27 24 (.cmp .eql (.sc .int) (.t 26) (.c (.int .i64 0))),cp 28 24 27]
abbrev ygQ:zR:=[ab 8 0,o 9 (.br (.t 8)),ak 10 7 9,ai 11 1 10,ab 12 2,o 13 (.call (.t 11) [.t 12]),ab 14 0,o 15 (.br (.t 14)),ak 16 5 15,ai 17 1 16,o 18 (.iE (.method rT) [.t 13] []),o 19 (.br (.t 18)),ab 20 13,o 21 (.invoke (.t 20) rT [.t 17]),o 7 (.alloc [.str [],.int .i64 0,.own 1 aw [],.own 1 aw [],.bool false]),aT 5 7 21]
abbrev ygR:zR:=[o 6 (.alloc [.str [],.int .i64 0,.own 1 aw [],.own 1 aw [],.bool false])]
abbrev UC:aH:=⟨.seq (.ae ygR) (.seq (.aX [O,O,O,I,O,I,O,O,O,I,O,O,O,I,O,O] [16,16,16,16,16,16,16,16,16,16,16,16,16,16,16,17] ygQ) (.seq (.seq (.ae ygP) (.cond (.t 28) (.ae ygO) .skip)) (.seq (.ae ygN) (.seq (.ae ygM) .ret)))),40,[.cell 6 true 5]⟩
@[simp] theorem Ur:aG Tryz.prog Ag=some UC:=by kernel_rfl
@[simp] theorem as5:aA Tryz.prog Ag=true:=by kernel_rfl
abbrev zQ:zR:=[q (.store 1 (.t 2) (.c (.int .i64 0))),q (.store 1 (.t 3) (.c (.str [])))]
abbrev zN:zB:=O::O::I::I::O::O::O::I::(by(iterate 84 refine O::?_);exact[I,I,I,O,O,O,O,O,O,O,O,O])
abbrev zE:zB:=O::O::I::I::(by(iterate 100 refine O::?_);exact[])
abbrev ygV:zR:=[bS 103 94 1,ab 94 103]
abbrev ygW:zR:=[ab 98 7,ab 99 13,o 100 (.lookup (.sc .str) (.bool false) (.t 98) (.t 99) false),ab 101 13,o 102 (.call (.f oE) [.t 100,.c (.int .i64 6),.t 101])]
abbrev ygX:zR:=[bn 96 1 92 94,ai 97 1 96,ab 13 97]
abbrev ygY:al:=.seq (.ae ygX) (.ae ygW)
abbrev ygZ:zR:=[cR 95 94 93]
abbrev vW:al:=.seq (.ae ygZ) (.seq (.cond (.t 95) .skip (.exit 6)) (.seq (.block 7 [] ygY) (.ae ygV)))
abbrev C7:zR:=[aQ 91 4 1,bf 92 uj 91,aZ 93 92,a_ 94 0]
abbrev Da:zB:=O::I::I::I::O::O::O::I::(by(iterate 71 refine O::?_);exact I::I::I::(by(iterate 22 refine O::?_);exact[]))
abbrev tm:zB:=O::I::I::I::O::O::O::I::(by(iterate 96 refine O::?_);exact[])
abbrev yhe:zR:=[bS 90 81 1,ab 81 90]
abbrev Jv:zR:=[aQ 85 5 11,bf 86 xk 85,ak 87 0 11,ai 88 1 87,o 89 (.call (.f oE) [.t 86,.c (.int .i64 1),.t 88])]
abbrev yhg:zR:=[bn 83 5 79 81,aQ 84 5 83,o 11 (.alloc [.str [],.int .i64 0,.own 1 aw [],.own 1 aw [],.bool false]),aT 5 11 84]
abbrev yhh:al:=.seq (.ae yhg) (.aX [O,O,O,I,O] [2,5,5,5,6] Jv)
abbrev yhi:zR:=[cR 82 81 80]
abbrev zC:al:=.seq (.ae yhi) (.seq (.cond (.t 82) .skip (.exit 4)) (.seq (.block 5 [] yhh) (.ae yhe)))
abbrev Iu:zR:=[ak 78 3 1,ai 79 1 78,aZ 80 79,a_ 81 0]
abbrev Js:zB:=O::I::I::I::O::O::O::I::(by(iterate 52 refine O::?_);exact I::I::I::(by(iterate 41 refine O::?_);exact[]))
abbrev yhn:zR:=[bS 77 62 1,ab 62 77]
abbrev yho:zR:=[ak 66 2 9,ai 67 1 66,o 68 (.cmp .geq (.sc .int) (.t 67) (.c (.int .i64 0))),ab 69 68,oy 70 69 (.off 2 (.t 9)),de 71 69 1 70,oy 72 69 (.cmp .leq (.sc .int) (.t 71) (.c (.int .i64 2))),cp 73 69 72,ak 74 0 9,ai 75 1 74,o 76 (.call (.f oE) [.t 73,.c (.int .i64 1),.t 75])]
abbrev yhp:zR:=[bn 64 3 60 62,aQ 65 3 64,o 9 (.alloc [.str [],.str [],.int .i64 0]),aT 3 9 65]
abbrev yhq:al:=.seq (.ae yhp) (.ae yho)
abbrev Sx:zR:=[cR 63 62 61]
abbrev C9:al:=.seq (.ae Sx) (.seq (.cond (.t 63) .skip (.exit 2)) (.seq (.block 3 [] yhq) (.ae yhn)))
abbrev SV:zR:=[ak 59 2 1,ai 60 1 59,aZ 61 60,a_ 62 0]
abbrev RR:zR:=[ak 56 1 1,ai 57 1 56,bf 58 sg 57]
abbrev RY:zR:=[aQ 53 4 1,bf 54 sk 53,bf 55 sg 54,ab 7 55]
abbrev RL:zB:=O::I::I::I::(by(iterate 38 refine O::?_);exact I::I::I::(by(iterate 59 refine O::?_);exact[]))
abbrev Sk:zB:=O::I::I::I::(by(iterate 100 refine O::?_);exact[])
abbrev yhy:zR:=[bS 52 44 1,ab 44 52]
abbrev yhz:zR:=[ab 48 6,bf 49 wX 48,ab 50 6,o 51 (.call (.f oE) [.t 49,.c (.int .i64 4),.t 50])]
abbrev yhA:zR:=[bn 46 1 42 44,ai 47 1 46,ab 6 47]
abbrev yhB:al:=.seq (.ae yhA) (.ae yhz)
abbrev yhC:zR:=[cR 45 44 43]
abbrev Jw:al:=.seq (.ae yhC) (.seq (.cond (.t 45) .skip (.exit 0)) (.seq (.block 1 [] yhB) (.ae yhy)))
abbrev yhE:zR:=[aQ 41 4 1,bf 42 uq 41,aZ 43 42,a_ 44 0]
abbrev yhF:zR:=[ak 15 0 1,ai 16 1 15,aZ 17 16,ak 18 2 1,ai 19 1 18,aZ 20 19,o 21 (.bP .add (.t 17) (.t 20)),ak 22 3 1,ai 23 1 22,aZ 24 23,o 25 (.bP .add (.t 21) (.t 24)),o 26 (.cmp .leq (.sc .int) (.t 25) (.c (.int .i64 200))),ab 27 26,oy 28 27 (.off 1 (.t 1)),de 29 27 1 28,oy 30 27 (.len (.t 29)),oy 31 27 (.cmp .leq (.sc .int) (.t 30) (.c (.int .i64 200))),cp 32 27 31,ab 33 32,oy 34 33 (.off 3 (.t 1)),de 35 33 1 34,cF 36 33 4,oy 37 33 (.call (.f Ab) [.t 35,.t 36]),oy 38 33 (.not (.t 37)),cp 39 33 38,o 40 (.call (.f oE) [.t 39,.c (.int .i64 8),.c (.str [])])]
abbrev yhG:zR:=[o 4 (.mv (.f wR))]
abbrev yhH:zR:=[o 14 (.iE (.func Aw) [] [.t 2,.t 3]),q (.defer (.t 14) [])]
abbrev yhI:zR:=[o 1 (.box 4 (.t 0)),o 2 (.alloc [.int .i64 0]),o 3 (.alloc [.str []])]
abbrev aaa:aH:=⟨.seq (.ae yhI) (.seq (.ae yhH) (.seq (.ae yhG) (.seq (.ae yhF) (.seq (.seq (.ae yhE) (.block 0 Sk (.loop RL Jw))) (.seq (.ae RY) (.seq (.ae RR) (.seq (.seq (.ae SV) (.block 2 tm (.loop Js C9))) (.seq (.seq (.ae Iu) (.block 4 tm (.loop Da zC))) (.seq (.seq (.ae C7) (.block 6 zE (.loop zN vW))) (.seq (.ae zQ) .ret)))))))))),104,[.cell 2 false 1,.cell 3 false 1]⟩
abbrev yhJ:zI:=[.code (.seq (.ae zQ) .ret)]
abbrev yhK(x2 x3 x7 x92 x93 x94:AV)(h:List Ob)(e:Cx:=cx):ar:=bl nK (.code vW::.inLoop zN vW::.inBlock 6 zE::yhJ) (U::U::x2::x3::U::U::U::x7::(by(iterate 84 refine U::?_);exact[x92,x93,x94,U,U,U,U,U,U,U,U,U])) h e
abbrev yhL:zI:=[.code (.seq (.seq (.ae C7) (.block 6 zE (.loop zN vW))) (.seq (.ae zQ) .ret))]
abbrev yhM(x1 x2 x3 x7 x79 x80 x81:AV)(h:List Ob)(e:Cx:=cx):ar:=bl nK (.code zC::.inLoop Da zC::.inBlock 4 tm::yhL) (U::x1::x2::x3::U::U::U::x7::(by(iterate 71 refine U::?_);exact x79::x80::x81::(by(iterate 22 refine U::?_);exact[]))) h e
abbrev yhN:zI:=[.code (.seq (.seq (.ae Iu) (.block 4 tm (.loop Da zC))) (.seq (.seq (.ae C7) (.block 6 zE (.loop zN vW))) (.seq (.ae zQ) .ret)))]
abbrev yhO(x1 x2 x3 x7 x60 x61 x62:AV)(h:List Ob)(e:Cx:=cx):ar:=bl nK (.code C9::.inLoop Js C9::.inBlock 2 tm::yhN) (U::x1::x2::x3::U::U::U::x7::(by(iterate 52 refine U::?_);exact x60::x61::x62::(by(iterate 41 refine U::?_);exact[]))) h e
abbrev yhP:zI:=[.code (.seq (.ae RY) (.seq (.ae RR) (.seq (.seq (.ae SV) (.block 2 tm (.loop Js C9))) (.seq (.seq (.ae Iu) (.block 4 tm (.loop Da zC))) (.seq (.seq (.ae C7) (.block 6 zE (.loop zN vW))) (.seq (.ae zQ) .ret))))))]
abbrev yhQ(x1 x2 x3 x42 x43 x44:AV)(h:List Ob)(e:Cx:=cx):ar:=bl nK (.code Jw::.inLoop RL Jw::.inBlock 0 Sk::yhP) (U::x1::x2::x3::(by(iterate 38 refine U::?_);exact x42::x43::x44::(by(iterate 59 refine U::?_);exact[]))) h e
@[simp] theorem KK:aG Tryz.prog nK=some aaa:=by kernel_rfl
@[simp] theorem auM:aA Tryz.prog nK=true:=by kernel_rfl
abbrev Rc:zB:=O::I::(by(iterate 58 refine O::?_);exact I::I::I::(by(iterate 21 refine O::?_);exact[]))
abbrev RU:zB:=(by(iterate 84 refine O::?_);exact[])
abbrev yhU:zR:=[bS 83 62 1,ab 62 83]
abbrev yhV:zR:=[a_ 2 5]
abbrev Ss:al:=.seq (.ae yhV) .ret
abbrev yhX:zR:=[ab 70 6,o 71 (.cmp .geq (.sc .int) (.t 70) (.c (.int .i64 0))),ab 72 71,oy 73 72 (.off 0 (.t 1)),oy 74 72 (.off 4 (.t 73)),de 75 72 1 74,cF 76 72 4,oy 77 72 (.jt 1 (.t 75) (.t 76)),de 78 72 1 77,cF 79 72 6,oy 80 72 (.bP .mul (.c (.int .i64 2)) (.t 79)),oy 81 72 (.cmp .neq (.sc .int) (.t 78) (.t 80)),cp 82 72 81]
abbrev yhY:zR:=[aQ 67 8 1,ab 68 5,dp 69 tU 67 68,ab 6 69]
abbrev yhZ:zR:=[ab 64 62,bn 65 1 60 62,ai 66 1 65,ab 4 64,ab 5 66]
abbrev yia:al:=.seq (.ae yhZ) (.seq (.ae yhY) (.seq (.ae yhX) (.cond (.t 82) Ss .skip)))
abbrev H4:al:=.seq (.ae Sx) (.seq (.cond (.t 63) .skip (.exit 1)) (.seq (.block 2 [] yia) (.ae yhU)))
abbrev yid:zR:=[ak 59 7 1,ai 60 1 59,aZ 61 60,a_ 62 0]
abbrev yie:zR:=[ab 13 3,ab 2 13]
abbrev yif:zR:=[a_ 2 1]
abbrev yig:zR:=[a_ 2 4]
abbrev yij:zR:=[ak 56 7 1,ai 57 1 56,bf 58 tX 57,ab 48 58]
abbrev yik:zR:=[ak 49 5 1,ai 50 1 49,ak 51 6 1,ai 52 1 51,o 53 (.lit 1 [.list true 0 [],.list true 0 []] [(0,.t 50),(1,.t 52)]),bf 54 nG 53,bf 55 tX 54,ab 48 55]
abbrev yil:al:=.seq (.ae yig) .ret
abbrev yim:al:=.seq (.seq (.ae yik) (.cond (.t 48) .skip (.ae yij))) (.cond (.t 48) Ss .skip)
abbrev yin:zR:=[ak 45 7 1,ai 46 1 45,bf 47 uc 46,ab 38 47]
abbrev yio:zR:=[ak 42 6 1,ai 43 1 42,bf 44 uc 43,ab 38 44]
abbrev yip:al:=.seq (.ae yio) (.cond (.t 38) .skip (.ae yin))
abbrev yiq:zR:=[ak 39 5 1,ai 40 1 39,bf 41 uc 40,ab 38 41]
abbrev Ix:al:=.seq (.ae yif) .ret
abbrev yis:al:=.seq (.seq (.ae yiq) (.cond (.t 38) .skip yip)) (.cond (.t 38) yil yim)
abbrev yit:zR:=[ak 30 7 1,ai 31 1 30,aZ 32 31,ak 33 0 1,ak 34 4 33,ai 35 1 34,aZ 36 35,o 37 (.cmp .neq (.sc .int) (.t 32) (.t 36)),ab 14 37]
abbrev yiu:zR:=[ak 22 6 1,ai 23 1 22,aZ 24 23,ak 25 0 1,ak 26 1 25,ai 27 1 26,aZ 28 27,o 29 (.cmp .neq (.sc .int) (.t 24) (.t 28)),ab 14 29]
abbrev yiv:al:=.seq (.ae yiu) (.cond (.t 14) .skip (.ae yit))
abbrev yiw:zR:=[ak 15 5 1,ai 16 1 15,aZ 17 16,ak 18 0 1,ak 19 0 18,ai 20 1 19,o 21 (.cmp .neq (.sc .int) (.t 17) (.t 20)),ab 14 21]
abbrev yix:al:=.seq (.ae yie) .ret
abbrev yiy:al:=.seq (.seq (.ae yiw) (.cond (.t 14) .skip yiv)) (.cond (.t 14) Ix yis)
abbrev yiz:zR:=[ab 11 3,o 12 (.cmp .neq (.sc .int) (.t 11) (.c (.int .i64 0))),ab 10 12]
abbrev yiA:al:=.seq (.ae yiz) (.cond (.t 10) yix yiy)
abbrev yiB:zR:=[ak 7 0 1,aQ 8 5 7,bf 9 sb 8,ab 3 9]
abbrev yiC:zR:=[o 1 (.box 8 (.t 0)),a_ 2 0]
abbrev WS:aH:=⟨.seq (.ae yiC) (.seq (.ae yiB) (.seq (.block 0 [] yiA) (.seq (.seq (.ae yid) (.block 1 RU (.loop Rc H4))) (.seq (.ae vQ) .ret)))),84,[.tmp 2]⟩
abbrev RW:zI:=[.code (.seq (.ae vQ) .ret)]
abbrev yiE(x1 x60 x61 x62:AV)(h:List Ob)(e:Cx:=cx):ar:=bl wP (.code H4::.inLoop Rc H4::.inBlock 1 RU::RW) (U::x1::(by(iterate 58 refine U::?_);exact x60::x61::x62::(by(iterate 21 refine U::?_);exact[]))) h e
@[simp] theorem V2:aG Tryz.prog wP=some WS:=by kernel_rfl
@[simp] theorem at7:aA Tryz.prog wP=true:=by kernel_rfl
abbrev Dy:zR:=[ab 92 10,aQ 93 5 8,dp 94 Am 92 93,aT 5 2 94,a_ 3 0]
abbrev Dp:zB:=O::O::I::O::O::O::O::O::I::I::I::(by(iterate 46 refine O::?_);exact I::I::I::(by(iterate 35 refine O::?_);exact[]))
abbrev CT:zB:=O::O::I::O::O::O::O::O::I::O::I::(by(iterate 84 refine O::?_);exact[])
abbrev yiI:zR:=[bS 91 59 1,ab 59 91]
abbrev yiJ:zR:=[ab 81 10,ab 82 10,o 83 (.br (.t 82)),ak 84 6 83,ai 85 1 84,ab 86 13,o 87 (.lit 1 [.int .i64 0] [(0,.t 86)]),o 88 (.append 1 av 8 (.t 85) (.t 87)),o 89 (.br (.t 81)),ak 90 6 89,aT 1 90 88]
abbrev yiK:zR:=[ab 71 10,ab 72 10,o 73 (.fw 2 1 (.t 12) (.c (.int .i64 0))),ai 74 1 73,dp 75 oz 72 74,ab 76 10,o 77 (.fw 2 1 (.t 12) (.c (.int .i64 1))),ai 78 1 77,dp 79 oz 76 78,o 80 (.call (.f rW) [.t 71,.t 75,.t 79]),ab 13 80]
abbrev yiL:zR:=[ab 64 9,aQ 65 5 8,bf 66 nL 65,ab 67 11,o 68 (.bP .add (.t 66) (.t 67)),bn 69 1 64 68,ai 70 1 69]
abbrev yiN:zR:=[ab 61 59,bn 62 2 57 59,aQ 63 2 62,o 12 (.alloc [.int .i64 0,.int .i64 0]),ab 11 61,aT 2 12 63]
abbrev yiO:al:=.seq (.ae yiN) (.seq (.ae ym) (.seq (.seq (.ae yiL) (.cond (.t 70) (.aX [O,O,O,O,O,O,O,I,O,O,O] [10,5,5,5,9,9,9,9,10,12,12] yiK) .skip)) (.ae yiJ)))
abbrev yiP:zR:=[cR 60 59 58]
abbrev zF:al:=.seq (.ae yiP) (.seq (.cond (.t 60) .skip (.exit 2)) (.seq (.block 3 [] yiO) (.ae yiI)))
abbrev HD:zR:=[ak 56 3 8,ai 57 1 56,aZ 58 57,a_ 59 0]
abbrev IT:zR:=[aQ 54 5 8,bf 55 ub 54,ab 10 55]
abbrev Q5:zR:=[aQ 52 5 8,bf 53 sw 52,ab 9 53]
abbrev SI:zR:=[ab 49 5,aQ 50 5 1,dp 51 Am 49 50,o 8 (.alloc [.int .i64 0,.own 1 av [],.own 1 av [],.own 2 dv [],.own 1 av []]),aT 5 8 51]
abbrev RD:zB:=O::I::I::O::O::I::(by(iterate 17 refine O::?_);exact I::I::I::(by(iterate 69 refine O::?_);exact[]))
abbrev R7:zB:=O::I::I::O::O::I::(by(iterate 89 refine O::?_);exact[])
abbrev yiX:zR:=[bS 48 25 1,ab 25 48]
abbrev yiY:zR:=[ab 29 5,ab 30 5,o 31 (.br (.t 30)),ak 32 6 31,ai 33 1 32,ab 34 5,ab 35 5,o 36 (.fw 2 1 (.t 7) (.c (.int .i64 0))),ai 37 1 36,dp 38 oz 35 37,ab 39 5,o 40 (.fw 2 1 (.t 7) (.c (.int .i64 1))),ai 41 1 40,dp 42 oz 39 41,o 43 (.call (.f rW) [.t 34,.t 38,.t 42]),o 44 (.lit 1 [.int .i64 0] [(0,.t 43)]),o 45 (.append 1 av 8 (.t 33) (.t 44)),o 46 (.br (.t 29)),ak 47 6 46,aT 1 47 45]
abbrev yiZ:zR:=[bn 27 2 23 25,aQ 28 2 27,o 7 (.alloc [.int .i64 0,.int .i64 0]),aT 2 7 28]
abbrev yja:al:=.seq (.ae yiZ) (.aX [O,O,O,O,I,O,O,O,O,O,O,O,I,O,O,O,O,O,O,O] [20,17,17,17,17,15,10,10,10,14,14,14,14,15,16,17,20,20,20,21] yiY)
abbrev SC:zR:=[cR 26 25 24]
abbrev IJ:al:=.seq (.ae SC) (.seq (.cond (.t 26) .skip (.exit 0)) (.seq (.block 1 [] yja) (.ae yiX)))
abbrev R5:zR:=[ak 22 3 1,ai 23 1 22,aZ 24 23,a_ 25 0]
abbrev yje:zR:=[aQ 20 5 1,bf 21 ub 20,ab 5 21]
abbrev yjf:zR:=[o 18 (.build [.int .i64 0,.list true 0 [],.list true 0 [],.list true 0 [],.list true 0 []] []),ab 19 4,aT 5 2 18,ab 3 19]
abbrev yjg:al:=.seq (.ae yjf) .ret
abbrev yji:zR:=[aQ 14 5 1,bf 15 sb 14,ab 4 15]
abbrev yjj:zR:=[o 1 (.box 5 (.t 0)),o 2 (.alloc [.int .i64 0,.own 1 av [],.own 1 av [],.own 2 dv [],.own 1 av []]),a_ 3 0]
abbrev X':aH:=⟨.seq (.ae yjj) (.seq (.seq (.ae yji) (.seq (.ae Sg) (.cond (.t 17) yjg .skip))) (.seq (.ae yje) (.seq (.seq (.ae R5) (.block 0 R7 (.loop RD IJ))) (.seq (.ae SI) (.seq (.ae Q5) (.seq (.ae IT) (.seq (.seq (.ae HD) (.block 2 CT (.loop Dp zF))) (.seq (.ae Dy) .ret)))))))),95,[.cell 2 true 5,.tmp 3]⟩
abbrev Sm:zI:=[.code (.seq (.ae Dy) .ret)]
abbrev yjl(x2 x8 x9 x10 x57 x58 x59:AV)(h:List Ob)(e:Cx:=cx):ar:=bl oB (.code zF::.inLoop Dp zF::.inBlock 2 CT::Sm) (U::U::x2::U::U::U::U::U::x8::x9::x10::(by(iterate 46 refine U::?_);exact x57::x58::x59::(by(iterate 35 refine U::?_);exact[]))) h e
abbrev RS(x2 x8 x10:AV)(h:List Ob)(e:Cx:=cx):ar:=bl oB Sm (U::U::x2::U::U::U::U::U::x8::U::x10::(by(iterate 84 refine U::?_);exact[])) h e
abbrev R2:zI:=[.code (.seq (.ae SI) (.seq (.ae Q5) (.seq (.ae IT) (.seq (.seq (.ae HD) (.block 2 CT (.loop Dp zF))) (.seq (.ae Dy) .ret)))))]
abbrev yjo(x1 x2 x5 x23 x24 x25:AV)(h:List Ob)(e:Cx:=cx):ar:=bl oB (.code IJ::.inLoop RD IJ::.inBlock 0 R7::R2) (U::x1::x2::U::U::x5::(by(iterate 17 refine U::?_);exact x23::x24::x25::(by(iterate 69 refine U::?_);exact[]))) h e
abbrev I3(x1 x2 x5:AV)(h:List Ob)(e:Cx:=cx):ar:=bl oB R2 (U::x1::x2::U::U::x5::(by(iterate 89 refine U::?_);exact[])) h e
@[simp] theorem Ws:aG Tryz.prog oB=some X':=by kernel_rfl
@[simp] theorem aur:aA Tryz.prog oB=true:=by kernel_rfl
abbrev yjq:zR:=[ai 6 1 1,ab 7 0,q (.bD (.sc .int) (.t 6) (.t 7) (.c (.bool true)))]
abbrev yjr:zR:=[ab 3 0,o 4 (.bP .and (.t 3) (.c (.int .i64 1))),o 5 (.cmp .eql (.sc .int) (.t 4) (.c (.int .i64 1)))]
abbrev We:aH:=⟨.seq (.ae yjr) (.cond (.t 5) (.ae yjq) .skip),8,[]⟩
@[simp] theorem Vr:aG Tryz.prog tP=some We:=by kernel_rfl
@[simp] theorem atJ:aA Tryz.prog tP=true:=by kernel_rfl
abbrev rG:zB:=[I,I,O,O,O,O,O,I,I,O,O,O,O,O,O,O,O,O,O]
abbrev ny:zB:=(by(iterate 19 refine O::?_);exact[])
abbrev I5:zR:=[bS 18 8 1,ab 8 18]
abbrev yjw:zR:=[ab 17 5,ab 4 17]
abbrev Ir:al:=.seq (.ae yjw) .ret
abbrev yjy:zR:=[ab 11 1,ab 12 0,ab 13 5,bn 14 1 12 13,ai 15 1 14,o 16 (.cmp .eql (.sc .str) (.t 11) (.t 15))]
abbrev IV:zR:=[ab 10 8,ab 5 10]
abbrev yjA:al:=.seq (.ae IV) (.seq (.ae yjy) (.cond (.t 16) Ir .skip))
abbrev Ds:zR:=[cR 9 8 7]
abbrev H7:al:=.seq (.ae Ds) (.seq (.cond (.t 9) .skip (.exit 0)) (.seq (.block 1 [] yjA) (.ae I5)))
abbrev zx:zR:=[ab 6 0,aZ 7 6,a_ 8 0]
abbrev vX:zR:=[a_ 4 0]
abbrev Uc:aH:=⟨.seq (.ae vX) (.seq (.seq (.ae zx) (.block 0 ny (.loop rG H7))) (.seq (.ae vF) .ret)),19,[.tmp 4]⟩
abbrev Dj:zI:=[.code (.seq (.ae vF) .ret)]
abbrev yjG(x0 x1 x7 x8:AV)(h:List Ob)(e:Cx:=cx):ar:=bl tJ (.code H7::.inLoop rG H7::.inBlock 0 ny::Dj) [x0,x1,U,U,U,U,U,x7,x8,U,U,U,U,U,U,U,U,U,U] h e
@[simp] theorem T8:aG Tryz.prog tJ=some Uc:=by kernel_rfl
@[simp] theorem asS:aA Tryz.prog tJ=true:=by kernel_rfl
abbrev tw:zR:=[ab 35 6,ab 2 35]
abbrev qB:zB:=O::O::O::O::O::O::I::(by(iterate 18 refine O::?_);exact[I,I,I,O,O,O,O,O,O,O,O])
abbrev qy:zB:=O::O::O::O::O::O::I::(by(iterate 29 refine O::?_);exact[])
abbrev Jg:zR:=[bS 34 27 1,ab 27 34]
abbrev yjL:zR:=[ab 31 6,ab 32 8,o 33 (.append 1 aw 16 (.t 31) (.t 32)),ab 6 33]
abbrev Iz:zR:=[bn 29 1 25 27,ai 30 1 29,ab 8 30]
abbrev yjN:al:=.seq (.ae Iz) (.ae yjL)
abbrev zy:zR:=[cR 28 27 26]
abbrev Du:al:=.seq (.ae zy) (.seq (.cond (.t 28) .skip (.exit 2)) (.seq (.block 3 [] yjN) (.ae Jg)))
abbrev vM:zR:=[ab 25 0,aZ 26 25,a_ 27 0]
abbrev Sr:zR:=[ab 23 3,o 24 (.call (.f DM) [.c (.list true 0 []),.t 23]),ab 6 24]
abbrev vL:zB:=I::O::O::I::O::O::O::O::O::I::I::I::(by(iterate 24 refine O::?_);exact[])
abbrev vS:zB:=I::O::O::I::(by(iterate 32 refine O::?_);exact[])
abbrev yjU:zR:=[bS 22 11 1,ab 11 22]
abbrev yjV:zR:=[o 21 (.kj aw (.c (.str [108,101,110,32,111,117,116,32,111,102,32,114,97,110,103,101]))),q (.panic (.t 21))]
abbrev yjW:zR:=[ab 19 3,o 20 (.cmp .lss (.sc .int) (.t 19) (.c (.int .i64 0)))]
abbrev yjX:zR:=[ab 15 3,ab 16 5,aZ 17 16,o 18 (.bP .add (.t 15) (.t 17)),ab 3 18]
abbrev yjY:zR:=[bn 13 1 9 11,ai 14 1 13,ab 5 14]
abbrev yjZ:al:=.seq (.ae yjY) (.seq (.ae yjX) (.seq (.ae yjW) (.cond (.t 20) (.ae yjV) .skip)))
abbrev yka:zR:=[cR 12 11 10]
abbrev qz:al:=.seq (.ae yka) (.seq (.cond (.t 12) .skip (.exit 0)) (.seq (.block 1 [] yjZ) (.ae yjU)))
abbrev Jc:zR:=[ab 9 0,aZ 10 9,a_ 11 0]
abbrev C_:zR:=[a_ 3 0]
abbrev II:zR:=[o 2 (.cN 1 aw)]
abbrev Ub:aH:=⟨.seq (.ae II) (.seq (.ae C_) (.seq (.seq (.ae Jc) (.block 0 vS (.loop vL qz))) (.seq (.ae Sr) (.seq (.seq (.ae vM) (.block 2 qy (.loop qB Du))) (.seq (.ae tw) .ret))))),36,[.tmp 2]⟩
abbrev IC:zI:=[.code (.seq (.ae tw) .ret)]
abbrev SW(x6 x25 x26 x27:AV)(h:List Ob)(e:Cx:=cx):ar:=bl nG (.code Du::.inLoop qB Du::.inBlock 2 qy::IC) (U::U::U::U::U::U::x6::(by(iterate 18 refine U::?_);exact[x25,x26,x27,U,U,U,U,U,U,U,U])) h e
abbrev ykh:zI:=[.code (.seq (.ae Sr) (.seq (.seq (.ae vM) (.block 2 qy (.loop qB Du))) (.seq (.ae tw) .ret)))]
abbrev RC(x0 x3 x9 x10 x11:AV)(h:List Ob)(e:Cx:=cx):ar:=bl nG (.code qz::.inLoop vL qz::.inBlock 0 vS::ykh) (x0::U::U::x3::U::U::U::U::U::x9::x10::x11::(by(iterate 24 refine U::?_);exact[])) h e
@[simp] theorem JX:aG Tryz.prog nG=some Ub:=by kernel_rfl
@[simp] theorem asQ:aA Tryz.prog nG=true:=by kernel_rfl
abbrev Sy:zR:=[ab 10 3,o 11 (.cmp .eql (.sc .int) (.t 10) (.c (.int .i64 0))),ab 2 11]
abbrev ykk:zR:=[aQ 6 4 1,bf 7 nK 6,ab 5 7,bt 8 5 0,bt 9 5 1,ab 3 8,ab 4 9]
abbrev QZ:zR:=[o 1 (.box 4 (.t 0)),nB 2]
abbrev Xk:aH:=⟨.seq (.ae QZ) (.seq (.ae ykk) (.seq (.ae Sy) .ret)),12,[.tmp 2]⟩
@[simp] theorem VX:aG Tryz.prog Ax=some Xk:=by kernel_rfl
@[simp] theorem auc:aA Tryz.prog Ax=true:=by kernel_rfl
abbrev To:zR:=[ab 20 3,ab 2 20]
abbrev RT:zB:=[O,O,O,I,O,O,O,O,I,I,I,O,O,O,O,O,O,O,O,O,O]
abbrev Td:zB:=O::O::O::I::(by(iterate 17 refine O::?_);exact[])
abbrev ykp:zR:=[bS 19 10 1,ab 10 19]
abbrev ykq:zR:=[ab 15 3,ak 16 0 5,ai 17 1 16,ab 18 4,q (.bD (.sc .str) (.t 15) (.t 17) (.t 18))]
abbrev ykr:zR:=[ab 12 10,bn 13 5 8 10,aQ 14 5 13,o 5 (.alloc [.str [],.int .i64 0,.own 1 aw [],.own 1 aw [],.bool false]),ab 4 12,aT 5 5 14]
abbrev yks:al:=.seq (.ae ykr) (.ae ykq)
abbrev Rt:zR:=[cR 11 10 9]
abbrev HO:al:=.seq (.ae Rt) (.seq (.cond (.t 11) .skip (.exit 0)) (.seq (.block 1 [] yks) (.ae ykp)))
abbrev ykv:zR:=[ak 7 3 1,ai 8 1 7,aZ 9 8,a_ 10 0]
abbrev Jp:zR:=[o 6 (.mkMap),ab 3 6]
abbrev ykx:zR:=[o 1 (.box 4 (.t 0)),o 2 (.mv (.c .cO))]
abbrev Wq:aH:=⟨.seq (.ae ykx) (.seq (.ae Jp) (.seq (.seq (.ae ykv) (.block 0 Td (.loop RT HO))) (.seq (.ae To) .ret))),21,[.tmp 2]⟩
abbrev yky:zI:=[.code (.seq (.ae To) .ret)]
abbrev ykz(x3 x8 x9 x10:AV)(h:List Ob)(e:Cx:=cx):ar:=bl tT (.code HO::.inLoop RT HO::.inBlock 0 Td::yky) [U,U,U,x3,U,U,U,U,x8,x9,x10,U,U,U,U,U,U,U,U,U,U] h e
@[simp] theorem VF:aG Tryz.prog tT=some Wq:=by kernel_rfl
@[simp] theorem atP:aA Tryz.prog tT=true:=by kernel_rfl
abbrev ykA:zR:=[o 3 (.iE (.func oA) [] [.t 1]),ab 2 3]
abbrev ykB:zR:=[o 1 (.box 4 (.t 0)),o 2 (.mv (.c .dE))]
abbrev Wg:aH:=⟨.seq (.ae ykB) (.seq (.ae ykA) .ret),4,[.tmp 2]⟩
@[simp] theorem VB:aG Tryz.prog D0=some Wg:=by kernel_rfl
@[simp] theorem atN:aA Tryz.prog D0=true:=by kernel_rfl
abbrev ykC:zR:=[o 5 (.lit 1 [] []),ab 6 0,o 7 (.append 1 aw 16 (.t 5) (.t 6)),ab 2 7]
abbrev ykE:al:=.seq (.ae II) .ret
abbrev HK:zR:=[ab 3 0,o 4 (.jT false (.t 3))]
abbrev Uf:aH:=⟨.seq (.ae II) (.seq (.seq (.ae HK) (.cond (.t 4) ykE .skip)) (.seq (.ae ykC) .ret)),8,[.tmp 2]⟩
@[simp] theorem T9:aG Tryz.prog wB=some Uf:=by kernel_rfl
@[simp] theorem asR:aA Tryz.prog wB=true:=by kernel_rfl
abbrev Jf:zR:=[ab 37 3,ab 2 37]
abbrev Jd:zB:=O::O::O::I::(by(iterate 21 refine O::?_);exact[I,I,I,O,O,O,O,O,O,O,O,O,O])
abbrev Jm:zB:=O::O::O::I::(by(iterate 34 refine O::?_);exact[])
abbrev ykK:zR:=[bS 36 27 1,ab 27 36]
abbrev ykL:zR:=[ab 31 3,ak 32 0 7,ai 33 1 32,o 34 (.lit 1 [.str []] [(0,.t 33)]),o 35 (.append 1 aw 16 (.t 31) (.t 34)),ab 3 35]
abbrev TC:zR:=[bn 29 5 25 27,aQ 30 5 29,o 7 (.alloc [.str [],.int .i64 0,.own 1 aw [],.own 1 aw [],.bool false]),aT 5 7 30]
abbrev ykN:al:=.seq (.ae TC) (.ae ykL)
abbrev Dx:al:=.seq (.ae zy) (.seq (.cond (.t 28) .skip (.exit 2)) (.seq (.block 3 [] ykN) (.ae ykK)))
abbrev C0:zR:=[ak 24 3 1,ai 25 1 24,aZ 26 25,a_ 27 0]
abbrev Sa:zB:=O::I::O::I::O::O::O::O::O::O::O::O::I::I::I::(by(iterate 23 refine O::?_);exact[])
abbrev SN:zB:=O::I::O::I::(by(iterate 34 refine O::?_);exact[])
abbrev Q':zR:=[bS 23 14 1,ab 14 23]
abbrev ykU:zR:=[ab 18 3,ak 19 0 5,ai 20 1 19,o 21 (.lit 1 [.str []] [(0,.t 20)]),o 22 (.append 1 aw 16 (.t 18) (.t 21)),ab 3 22]
abbrev R4:zR:=[bn 16 3 12 14,aQ 17 3 16,o 5 (.alloc [.str [],.str [],.int .i64 0]),aT 3 5 17]
abbrev ykW:al:=.seq (.ae R4) (.ae ykU)
abbrev Sf:zR:=[cR 15 14 13]
abbrev Jl:al:=.seq (.ae Sf) (.seq (.cond (.t 15) .skip (.exit 0)) (.seq (.block 1 [] ykW) (.ae Q')))
abbrev Tn:zR:=[ak 11 2 1,ai 12 1 11,aZ 13 12,a_ 14 0]
abbrev yla:zR:=[ak 8 0 1,ai 9 1 8,bf 10 wB 9,ab 3 10]
abbrev IQ:zR:=[o 1 (.box 4 (.t 0)),o 2 (.cN 1 aw)]
abbrev ab1:aH:=⟨.seq (.ae IQ) (.seq (.ae yla) (.seq (.seq (.ae Tn) (.block 0 SN (.loop Sa Jl))) (.seq (.seq (.ae C0) (.block 2 Jm (.loop Jd Dx))) (.seq (.ae Jf) .ret)))),38,[.tmp 2]⟩
abbrev ylc:zI:=[.code (.seq (.ae Jf) .ret)]
abbrev yle(x3 x25 x26 x27:AV)(h:List Ob)(e:Cx:=cx):ar:=bl sk (.code Dx::.inLoop Jd Dx::.inBlock 2 Jm::ylc) (U::U::U::x3::(by(iterate 21 refine U::?_);exact[x25,x26,x27,U,U,U,U,U,U,U,U,U,U])) h e
abbrev ylf:zI:=[.code (.seq (.seq (.ae C0) (.block 2 Jm (.loop Jd Dx))) (.seq (.ae Jf) .ret))]
abbrev ylg(x1 x3 x12 x13 x14:AV)(h:List Ob)(e:Cx:=cx):ar:=bl sk (.code Jl::.inLoop Sa Jl::.inBlock 0 SN::ylf) (U::x1::U::x3::U::U::U::U::U::U::U::U::x12::x13::x14::(by(iterate 23 refine U::?_);exact[])) h e
@[simp] theorem Yc:aG Tryz.prog sk=some ab1:=by kernel_rfl
@[simp] theorem au7:aA Tryz.prog sk=true:=by kernel_rfl
abbrev ylh:zR:=[aQ 14 4 1,aQ 15 4 1,bf 16 sk 15,ab 17 4,o 18 (.build [.list true 0 [],.list true 0 [],.list true 0 [],.list true 0 [],.list true 0 [],.list true 0 []] [(0,4,.t 14),(4,1,.t 16),(5,1,.t 17)]),o 19 (.box 6 (.t 18)),ab 2 19,a_ 3 0]
abbrev yli:zR:=[aQ 10 4 1,bf 11 nJ 10,ab 9 11,bt 12 9 0,bt 13 9 1,ab 4 12,ab 5 13]
abbrev ylj:zR:=[o 2 (.mv (.c .ik)),a_ 3 1]
abbrev ylk:al:=.seq (.ae ylj) .ret
abbrev yll:zR:=[aQ 6 4 1,bf 7 AD 6,o 8 (.not (.t 7))]
abbrev ylm:zR:=[o 1 (.box 4 (.t 0)),o 2 (.mv (.c .ik)),a_ 3 0]
abbrev Yg:aH:=⟨.seq (.ae ylm) (.seq (.seq (.ae yll) (.cond (.t 8) ylk .skip)) (.seq (.ae yli) (.seq (.aX [I,O,O,O,O,O,O,O] [6,3,6,6,6,9,9,9] ylh) .ret))),20,[.tmp 2,.tmp 3]⟩
@[simp] theorem Ko:aG Tryz.prog wV=some Yg:=by kernel_rfl
@[simp] theorem aus:aA Tryz.prog wV=true:=by kernel_rfl
abbrev Se:zR:=[ab 42 9,ab 43 0,o 44 (.br (.t 43)),ak 45 0 44,ak 46 1 45,ai 47 1 46,dp 48 uh 42 47,ab 49 11,ab 6 48,ab 7 49,a_ 8 0]
abbrev Ti:zB:=I::O::O::O::O::O::O::O::O::I::O::I::(by(iterate 16 refine O::?_);exact I::I::I::(by(iterate 19 refine O::?_);exact[]))
abbrev SJ:zB:=I::O::O::O::O::O::O::O::O::I::O::I::(by(iterate 38 refine O::?_);exact[])
abbrev ylq:zR:=[bS 41 30 1,ab 30 41]
abbrev ylr:zR:=[ab 34 11,ab 35 9,ak 36 1 13,ai 37 1 36,o 38 (.lookup (.sc .str) (.bool false) (.t 35) (.t 37) false),o 39 (.lit 1 [.bool false] [(0,.t 38)]),o 40 (.append 1 aY 1 (.t 34) (.t 39)),ab 11 40]
abbrev yls:zR:=[bn 32 3 28 30,aQ 33 3 32,o 13 (.alloc [.str [],.str [],.int .i64 0]),aT 3 13 33]
abbrev ylt:al:=.seq (.ae yls) (.ae ylr)
abbrev ylu:zR:=[cR 31 30 29]
abbrev HP:al:=.seq (.ae ylu) (.seq (.cond (.t 31) .skip (.exit 0)) (.seq (.block 1 [] ylt) (.ae ylq)))
abbrev ylw:zR:=[ab 24 0,o 25 (.br (.t 24)),ak 26 0 25,ak 27 2 26,ai 28 1 27,aZ 29 28,a_ 30 0]
abbrev ylx:zR:=[o 11 (.cN 1 aY)]
abbrev yly:zR:=[ab 23 10,o 6 (.cN 1 aY),o 7 (.cN 1 aY),ab 8 23]
abbrev ylz:al:=.seq (.ae yly) .ret
abbrev ylA:zR:=[ab 21 10,o 22 (.cmp .neq (.sc .int) (.t 21) (.c (.int .i64 0)))]
abbrev ylB:zR:=[ab 15 0,ab 16 1,ab 17 2,o 18 (.call (.f pz) [.t 15,.t 16,.t 17]),ab 14 18,bt 19 14 0,bt 20 14 1,ab 9 19,ab 10 20]
abbrev ylC:zR:=[o 6 (.cN 1 aY),o 7 (.cN 1 aY),a_ 8 0]
abbrev UP:aH:=⟨.seq (.ae ylC) (.seq (.ae ylB) (.seq (.seq (.ae ylA) (.cond (.t 22) ylz .skip)) (.seq (.ae ylx) (.seq (.seq (.ae ylw) (.block 0 SJ (.loop Ti HP))) (.seq (.ae Se) .ret))))),50,[.tmp 6,.tmp 7,.tmp 8]⟩
abbrev SA:zI:=[.code (.seq (.ae Se) .ret)]
abbrev ylE(x0 x9 x11 x28 x29 x30:AV)(h:List Ob)(e:Cx:=cx):ar:=bl tK (.code HP::.inLoop Ti HP::.inBlock 0 SJ::SA) (x0::U::U::U::U::U::U::U::U::x9::U::x11::(by(iterate 16 refine U::?_);exact x28::x29::x30::(by(iterate 19 refine U::?_);exact[]))) h e
abbrev ylF(x0 x9 x11:AV)(h:List Ob)(e:Cx:=cx):ar:=bl tK SA (x0::U::U::U::U::U::U::U::U::x9::U::x11::(by(iterate 38 refine U::?_);exact[])) h e
@[simp] theorem J8:aG Tryz.prog tK=some UP:=by kernel_rfl
@[simp] theorem ata:aA Tryz.prog tK=true:=by kernel_rfl
abbrev SS:zR:=[ab 56 9,ab 6 56,a_ 7 0]
abbrev Tl:zB:=O::O::O::O::O::O::O::O::O::I::(by(iterate 26 refine O::?_);exact I::I::I::(by(iterate 18 refine O::?_);exact[]))
abbrev RQ:zB:=O::O::O::O::O::O::O::O::O::I::(by(iterate 47 refine O::?_);exact[])
abbrev ylJ:zR:=[bS 55 38 1,ab 38 55]
abbrev ylK:zR:=[ab 42 9,ab 43 9,o 44 (.fw 2 1 (.t 11) (.c (.int .i64 0))),ai 45 1 44,dp 46 ua 43 45,ab 47 46,cF 48 47 9,oy 49 47 (.fw 2 1 (.t 11) (.c (.int .i64 1))),de 50 47 1 49,oy 51 47 (.call (.f ua) [.t 48,.t 50]),cp 52 47 51,o 53 (.lit 1 [.bool false] [(0,.t 52)]),o 54 (.append 1 aY 1 (.t 42) (.t 53)),ab 9 54]
abbrev ylL:zR:=[bn 40 2 36 38,aQ 41 2 40,o 11 (.alloc [.int .i64 0,.int .i64 0]),aT 2 11 41]
abbrev ylM:al:=.seq (.ae ylL) (.ae ylK)
abbrev Tq:zR:=[cR 39 38 37]
abbrev Jq:al:=.seq (.ae Tq) (.seq (.cond (.t 39) .skip (.exit 0)) (.seq (.block 1 [] ylM) (.ae ylJ)))
abbrev ylP:zR:=[ak 35 3 3,ai 36 1 35,aZ 37 36,a_ 38 0]
abbrev ylQ:zR:=[o 30 (.lit 1 [.bool false] [(0,.c (.bool false))]),ab 31 2,ab 32 1,o 33 (.lit 1 [.list true 0 [],.list true 0 [],.list true 0 []] [(0,.t 30),(1,.t 31),(2,.t 32)]),bf 34 py 33,ab 9 34]
abbrev ylR:zR:=[o 6 (.cN 1 aY),a_ 7 11]
abbrev ylS:al:=.seq (.ae ylR) .ret
abbrev ylT:zR:=[ab 17 1,aZ 18 17,ak 19 1 3,ai 20 1 19,aZ 21 20,o 22 (.cmp .neq (.sc .int) (.t 18) (.t 21)),ab 23 22,on 24 23 (.mv (.t 2)),on 25 23 (.len (.t 24)),on 26 23 (.off 0 (.t 3)),on 27 23 (.load false 1 (.t 26)),on 28 23 (.cmp .neq (.sc .int) (.t 25) (.t 27)),o 29 (.pick (.t 23) (.c (.bool true)) (.t 28))]
abbrev ylU:zR:=[ab 16 8,o 6 (.cN 1 aY),ab 7 16]
abbrev ylV:al:=.seq (.ae ylU) .ret
abbrev ylW:zR:=[ab 14 8,o 15 (.cmp .neq (.sc .int) (.t 14) (.c (.int .i64 0)))]
abbrev ylX:zR:=[aQ 12 5 3,bf 13 sb 12,ab 8 13]
abbrev ylY:zR:=[o 3 (.box 5 (.t 0)),o 6 (.cN 1 aY),a_ 7 0]
abbrev Yt:aH:=⟨.seq (.ae ylY) (.seq (.seq (.ae ylX) (.seq (.ae ylW) (.cond (.t 15) ylV .skip))) (.seq (.seq (.ae ylT) (.cond (.t 29) ylS .skip)) (.seq (.ae ylQ) (.seq (.seq (.ae ylP) (.block 0 RQ (.loop Tl Jq))) (.seq (.ae SS) .ret))))),57,[.tmp 6,.tmp 7]⟩
abbrev ylZ:zI:=[.code (.seq (.ae SS) .ret)]
abbrev yma(x9 x36 x37 x38:AV)(h:List Ob)(e:Cx:=cx):ar:=bl wT (.code Jq::.inLoop Tl Jq::.inBlock 0 RQ::ylZ) (U::U::U::U::U::U::U::U::U::x9::(by(iterate 26 refine U::?_);exact x36::x37::x38::(by(iterate 18 refine U::?_);exact[]))) h e
@[simp] theorem Wm:aG Tryz.prog wT=some Yt:=by kernel_rfl
@[simp] theorem aup:aA Tryz.prog wT=true:=by kernel_rfl
abbrev TD:zR:=[ab 20 4,ab 3 20]
abbrev RM:zB:=[O,I,O,O,I,O,O,I,I,I,O,O,O,O,O,O,O,O,O,O,O]
abbrev Ro:zB:=O::O::O::O::I::(by(iterate 16 refine O::?_);exact[])
abbrev yme:zR:=[bS 19 9 1,ab 9 19]
abbrev ymf:zR:=[ab 13 4,ai 14 1 1,ab 15 6,dp 16 ua 14 15,o 17 (.lit 1 [.bool false] [(0,.t 16)]),o 18 (.append 1 aY 1 (.t 13) (.t 17)),ab 4 18]
abbrev ymg:zR:=[bn 11 1 7 9,ai 12 1 11,ab 6 12]
abbrev ymh:al:=.seq (.ae ymg) (.ae ymf)
abbrev Dw:zR:=[cR 10 9 8]
abbrev Jy:al:=.seq (.ae Dw) (.seq (.cond (.t 10) .skip (.exit 0)) (.seq (.block 1 [] ymh) (.ae yme)))
abbrev Jt:zR:=[ab 7 0,aZ 8 7,a_ 9 0]
abbrev Il:zR:=[o 4 (.cN 1 aY)]
abbrev ymm:zR:=[o 3 (.cN 1 aY)]
abbrev XS:aH:=⟨.seq (.ae ymm) (.seq (.ae Il) (.seq (.seq (.ae Jt) (.block 0 Ro (.loop RM Jy))) (.seq (.ae TD) .ret))),21,[.tmp 3]⟩
abbrev ymn:zI:=[.code (.seq (.ae TD) .ret)]
abbrev ymo(x1 x4 x7 x8 x9:AV)(h:List Ob)(e:Cx:=cx):ar:=bl wU (.code Jy::.inLoop RM Jy::.inBlock 0 Ro::ymn) [U,x1,U,U,x4,U,U,x7,x8,x9,U,U,U,U,U,U,U,U,U,U,U] h e
@[simp] theorem Wt:aG Tryz.prog wU=some XS:=by kernel_rfl
@[simp] theorem aul:aA Tryz.prog wU=true:=by kernel_rfl
abbrev ymp:zR:=[ab 5 0,ab 6 1,o 7 (.bP .shr (.t 6) (.c (.int .u64 1))),bn 8 1 5 7,ai 9 1 8,ab 10 1,o 11 (.bP .and (.t 10) (.c (.int .i64 1))),o 12 (.cmp .eql (.sc .int) (.t 11) (.c (.int .i64 1))),o 13 (.cmp .neq (.sc .bool) (.t 9) (.t 12)),ab 4 13]
abbrev Z4:aH:=⟨.seq (.ae nk) (.seq (.ae ymp) .ret),14,[.tmp 4]⟩
@[simp] theorem Xx:aG Tryz.prog ua=some Z4:=by kernel_rfl
@[simp] theorem auG:aA Tryz.prog ua=true:=by kernel_rfl
abbrev ymr:zR:=[ai 3 1 1,ai 4 1 1,o 5 (.br (.t 4)),ak 6 0 5,ak 7 3 6,ai 8 1 7,aQ 9 5 2,o 10 (.lit 5 [.agg [.str [],.int .i64 0,.list true 0 [],.list true 0 [],.bool false]] [(0,.t 9)]),o 11 (.append 5 lD 80 (.t 8) (.t 10)),o 12 (.br (.t 3)),ak 13 0 12,ak 14 3 13,aT 1 14 11]
abbrev yms:zR:=[o 2 (.box 5 (.t 0))]
abbrev Wa:aH:=⟨.seq (.ae yms) (.aX [I,I,O,O,O,I,O,O,O,O,O,O,O] [13,9,9,9,9,9,8,9,13,13,13,13,14] ymr),15,[]⟩
@[simp] theorem Kg:aG Tryz.prog rX=some Wa:=by kernel_rfl
@[simp] theorem atI:aA Tryz.prog rX=true:=by kernel_rfl
abbrev ymt:zR:=[ab 9 0,o 10 (.build [.int .i64 0] [(0,1,.t 9)]),o 11 (.kj D4 (.t 10)),ab 2 11]
abbrev ymu:zR:=[ab 5 0,o 6 (.cmp .eql (.sc .int) (.t 5) (.c (.int .i64 1))),o 7 (.build [.bool false] [(0,1,.t 6)]),o 8 (.kj DX (.t 7)),ab 2 8]
abbrev ymv:al:=.seq (.ae ymu) .ret
abbrev ymw:zR:=[ab 3 0,o 4 (.cmp .lss (.sc .int) (.t 3) (.c (.int .i64 2)))]
abbrev I':zR:=[o 2 (.mv (.c .eH))]
abbrev VR:aH:=⟨.seq (.ae I') (.seq (.seq (.ae ymw) (.cond (.t 4) ymv .skip)) (.seq (.ae ymt) .ret)),12,[.tmp 2]⟩
@[simp] theorem Vu:aG Tryz.prog wN=some VR:=by kernel_rfl
@[simp] theorem atG:aA Tryz.prog wN=true:=by kernel_rfl
abbrev Ta:zR:=[ai 16 1 5,ab 4 16]
abbrev Te:zR:=[ab 6 10]
abbrev ymA:zR:=[ab 15 6,aT 1 5 15]
abbrev ymB:al:=.seq (.ae ymA) (.exit 0)
abbrev ymC:zR:=[ai 11 1 2,ab 12 6,dp 13 Ac 11 12,o 14 (.not (.t 13))]
abbrev ymD:al:=.seq (.ae ymC) (.cond (.t 14) ymB .skip)
abbrev Q1:al:=.block 1 [] ymD
abbrev ymF:al:=.rangeFunc (.t 9) [10] [O,O,I,O,I,I,O,O,O,O,O,O,O,O,O,O,O] (.ae Te) Q1
abbrev ymG:zR:=[ab 8 1,bf 9 D6 8]
abbrev ymH:zR:=[ab 7 1,o 5 (.alloc [.str []]),aT 1 5 7]
abbrev ymI:zR:=[o 2 (.box 1 (.t 0)),o 4 (.mv (.c (.str [])))]
abbrev Xy:aH:=⟨.seq (.ae ymI) (.seq (.ae ymH) (.seq (.seq (.ae ymG) (.block 0 [] ymF)) (.seq (.ae Ta) .ret))),17,[.tmp 4]⟩
@[simp] theorem V8:aG Tryz.prog tY=some Xy:=by kernel_rfl
@[simp] theorem atS:aA Tryz.prog tY=true:=by kernel_rfl
abbrev ymJ:zR:=[ak 10 0 2,ai 11 1 10,ak 12 1 2,ai 13 1 12,aT 1 0 11,aT 1 1 13]
abbrev ymK:zR:=[ab 9 3]
abbrev ymL:zR:=[o 5 (.recover),o 6 (.uS (.t 5) Ee (.agg [.int .i64 0,.str []]) true),ab 4 6,bt 7 4 0,bt 8 4 1,o 2 (.alloc [.int .i64 0,.str []]),aT 2 2 7,ab 3 8]
abbrev W0:aH:=⟨.seq (.ae ymL) (.seq (.ae ymK) (.cond (.t 9) (.aX [O,O,O,I,O,O] [5,5,6,6,6,7] ymJ) .skip)),14,[]⟩
@[simp] theorem at5:aG Tryz.prog Aw=some W0:=by kernel_rfl
@[simp] theorem auh:aA Tryz.prog Aw=true:=by kernel_rfl
abbrev ymM:zR:=[ak 3 2 1,ai 4 1 3,aZ 5 4,o 6 (.cmp .gtr (.sc .int) (.t 5) (.c (.int .i64 8))),ab 7 6,on 8 7 (.off 3 (.t 1)),on 9 7 (.load false 1 (.t 8)),on 10 7 (.len (.t 9)),on 11 7 (.cmp .gtr (.sc .int) (.t 10) (.c (.int .i64 128))),o 12 (.pick (.t 7) (.c (.bool true)) (.t 11)),ab 2 12]
abbrev XA:aH:=⟨.seq (.ae Jk) (.seq (.ae ymM) .ret),13,[.tmp 2]⟩
@[simp] theorem V3:aG Tryz.prog wR=some XA:=by kernel_rfl
@[simp] theorem auf:aA Tryz.prog wR=true:=by kernel_rfl
abbrev ymO:zR:=[ab 8 1,ab 9 2,o 10 (.build [.int .i64 0,.str []] [(0,1,.t 8),(1,1,.t 9)]),o 11 (.kj Ee (.t 10)),q (.panic (.t 11))]
abbrev ymP:zR:=[ab 6 0,o 7 (.not (.t 6))]
abbrev abu:aH:=⟨.seq (.ae ymP) (.cond (.t 7) (.ae ymO) .skip),12,[]⟩
@[simp] theorem LH:aG Tryz.prog oE=some abu:=by kernel_rfl
@[simp] theorem ave:aA Tryz.prog oE=true:=by kernel_rfl
abbrev ymQ:zR:=[ab 5 0,ab 6 1,dp 7 wy 5 6,o 8 (.cmp .geq (.sc .int) (.t 7) (.c (.int .i64 0))),ab 4 8]
abbrev TR:aH:=⟨.seq (.ae nk) (.seq (.ae ymQ) .ret),9,[.tmp 4]⟩
@[simp] theorem TQ:aG Tryz.prog Ab=some TR:=by kernel_rfl
@[simp] theorem asF:aA Tryz.prog Ab=true:=by kernel_rfl
abbrev H6:zR:=[ab 45 3,ab 2 45]
abbrev IG:zB:=O::O::O::I::(by(iterate 26 refine O::?_);exact I::I::I::(by(iterate 13 refine O::?_);exact[]))
abbrev Io:zB:=O::O::O::I::(by(iterate 42 refine O::?_);exact[])
abbrev ymV:zR:=[bS 44 32 1,ab 32 44]
abbrev ymW:zR:=[ab 36 3,ak 37 0 7,ai 38 1 37,o 39 (.lit 1 [.str []] [(0,.t 38)]),o 40 (.append 1 aw 16 (.t 36) (.t 39)),ak 41 2 7,ai 42 1 41,o 43 (.append 1 aw 16 (.t 40) (.t 42)),ab 3 43]
abbrev ymX:zR:=[bn 34 5 30 32,aQ 35 5 34,o 7 (.alloc [.str [],.int .i64 0,.own 1 aw [],.own 1 aw [],.bool false]),aT 5 7 35]
abbrev ymY:al:=.seq (.ae ymX) (.aX [O,O,O,O,O,O,I,O,O] [5,4,4,5,8,8,8,10,10] ymW)
abbrev ymZ:zR:=[cR 33 32 31]
abbrev CS:al:=.seq (.ae ymZ) (.seq (.cond (.t 33) .skip (.exit 2)) (.seq (.block 3 [] ymY) (.ae ymV)))
abbrev RZ:zR:=[ak 29 3 1,ai 30 1 29,aZ 31 30,a_ 32 0]
abbrev Q3:zB:=O::I::O::I::O::O::O::O::O::O::O::O::O::O::O::I::I::I::(by(iterate 28 refine O::?_);exact[])
abbrev S4:zB:=O::I::O::I::(by(iterate 42 refine O::?_);exact[])
abbrev yne:zR:=[bS 28 17 1,ab 17 28]
abbrev ynf:zR:=[ab 21 3,ak 22 0 5,ai 23 1 22,ak 24 1 5,ai 25 1 24,o 26 (.lit 1 [.str [],.str []] [(0,.t 23),(1,.t 25)]),o 27 (.append 1 aw 16 (.t 21) (.t 26)),ab 3 27]
abbrev yng:zR:=[bn 19 3 15 17,aQ 20 3 19,o 5 (.alloc [.str [],.str [],.int .i64 0]),aT 3 5 20]
abbrev ynh:al:=.seq (.ae yng) (.ae ynf)
abbrev yni:zR:=[cR 18 17 16]
abbrev IM:al:=.seq (.ae yni) (.seq (.cond (.t 18) .skip (.exit 0)) (.seq (.block 1 [] ynh) (.ae yne)))
abbrev ynk:zR:=[ak 14 2 1,ai 15 1 14,aZ 16 15,a_ 17 0]
abbrev ynl:zR:=[ak 8 0 1,ai 9 1 8,ak 10 1 1,ai 11 1 10,o 12 (.lit 1 [.list true 0 [],.list true 0 []] [(0,.t 9),(1,.t 11)]),bf 13 nG 12,ab 3 13]
abbrev abi:aH:=⟨.seq (.ae IQ) (.seq (.ae ynl) (.seq (.seq (.ae ynk) (.block 0 S4 (.loop Q3 IM))) (.seq (.seq (.ae RZ) (.block 2 Io (.loop IG CS))) (.seq (.ae H6) .ret)))),46,[.tmp 2]⟩
abbrev ynn:zI:=[.code (.seq (.ae H6) .ret)]
abbrev yno(x3 x30 x31 x32:AV)(h:List Ob)(e:Cx:=cx):ar:=bl uq (.code CS::.inLoop IG CS::.inBlock 2 Io::ynn) (U::U::U::x3::(by(iterate 26 refine U::?_);exact x30::x31::x32::(by(iterate 13 refine U::?_);exact[]))) h e
abbrev ynp:zI:=[.code (.seq (.seq (.ae RZ) (.block 2 Io (.loop IG CS))) (.seq (.ae H6) .ret))]
abbrev ynq(x1 x3 x15 x16 x17:AV)(h:List Ob)(e:Cx:=cx):ar:=bl uq (.code IM::.inLoop Q3 IM::.inBlock 0 S4::ynp) (U::x1::U::x3::U::U::U::U::U::U::U::U::U::U::U::x15::x16::x17::(by(iterate 28 refine U::?_);exact[])) h e
@[simp] theorem Yk:aG Tryz.prog uq=some abi:=by kernel_rfl
@[simp] theorem avd:aA Tryz.prog uq=true:=by kernel_rfl
abbrev ynr:zR:=[ab 3 0,bf 4 Ak 3,ab 2 4]
abbrev XM:aH:=⟨.seq (.ae yI) (.seq (.ae ynr) .ret),5,[.tmp 2]⟩
@[simp] theorem WI:aG Tryz.prog wX=some XM:=by kernel_rfl
@[simp] theorem auq:aA Tryz.prog wX=true:=by kernel_rfl
abbrev SG:zR:=[ab 22 3,ab 2 22]
abbrev Ri:zB:=O::O::O::I::O::O::O::I::I::I::(by(iterate 13 refine O::?_);exact[])
abbrev SL:zB:=O::O::O::I::(by(iterate 19 refine O::?_);exact[])
abbrev ynw:zR:=[bS 21 9 1,ab 9 21]
abbrev ynx:zR:=[ab 19 3,ab 20 5,q (.bD (.sc .str) (.t 19) (.t 20) (.c (.bool true)))]
abbrev yny:zR:=[ab 13 3,ab 14 5,o 15 (.lookup (.sc .str) (.bool false) (.t 13) (.t 14) false),o 16 (.not (.t 15)),ab 17 5,o 18 (.call (.f oE) [.t 16,.c (.int .i64 5),.t 17])]
abbrev SU:zR:=[bn 11 1 7 9,ai 12 1 11,ab 5 12]
abbrev ynA:al:=.seq (.ae SU) (.seq (.ae yny) (.ae ynx))
abbrev Je:al:=.seq (.ae Dw) (.seq (.cond (.t 10) .skip (.exit 0)) (.seq (.block 1 [] ynA) (.ae ynw)))
abbrev ynF:zR:=[o 2 (.mv (.c .cO))]
abbrev aa5:aH:=⟨.seq (.ae ynF) (.seq (.ae Jp) (.seq (.seq (.ae Jt) (.block 0 SL (.loop Ri Je))) (.seq (.ae SG) .ret))),23,[.tmp 2]⟩
abbrev ynG:zI:=[.code (.seq (.ae SG) .ret)]
abbrev Tp(x3 x7 x8 x9:AV)(h:List Ob)(e:Cx:=cx):ar:=bl sg (.code Je::.inLoop Ri Je::.inBlock 0 SL::ynG) (U::U::U::x3::U::U::U::x7::x8::x9::(by(iterate 13 refine U::?_);exact[])) h e
@[simp] theorem LI:aG Tryz.prog sg=some aa5:=by kernel_rfl
@[simp] theorem avc:aA Tryz.prog sg=true:=by kernel_rfl
abbrev ynI:zR:=[ak 18 1 1,ai 19 1 18,ak 20 2 1,ai 21 1 20,aZ 22 21,dp 23 uA 19 22,ab 24 23,oy 25 24 (.off 3 (.t 1)),de 26 24 1 25,oy 27 24 (.len (.t 26)),oy 28 24 (.cmp .leq (.sc .int) (.t 27) (.c (.int .i64 128))),cp 29 24 28,ab 30 29,oy 31 30 (.off 3 (.t 1)),de 32 30 1 31,cF 33 30 3,oy 34 30 (.call (.f tH) [.t 32,.t 33]),oy 35 30 (.not (.t 34)),cp 36 30 35,ab 2 36]
abbrev ynL:zR:=[ak 5 1 1,ai 6 1 5,o 7 (.cmp .neq (.sc .int) (.t 6) (.c (.int .i64 10))),ab 8 7,oy 9 8 (.off 3 (.t 1)),de 10 8 1 9,oy 11 8 (.len (.t 10)),oy 12 8 (.cmp .gtr (.sc .int) (.t 11) (.c (.int .i64 0))),cF 13 8 12,on 14 13 (.off 4 (.t 1)),on 15 13 (.load false 1 (.t 14)),oy 16 8 (.pick (.t 13) (.c (.bool true)) (.t 15)),cp 17 8 16]
abbrev ynM:zR:=[o 4 (.iE (.func Az) [] [.t 1]),ab 3 4]
abbrev ab3:aH:=⟨.seq (.ae Jk) (.seq (.ae ynM) (.seq (.seq (.ae ynL) (.cond (.t 17) yJ .skip)) (.seq (.ae ynI) .ret))),37,[.tmp 2]⟩
@[simp] theorem X2:aG Tryz.prog xk=some ab3:=by kernel_rfl
@[simp] theorem au5:aA Tryz.prog xk=true:=by kernel_rfl
abbrev Ja:zR:=[ab 36 3,ab 2 36]
abbrev HF:zB:=O::O::O::I::(by(iterate 21 refine O::?_);exact[I,I,I,O,O,O,O,O,O,O,O,O])
abbrev H8:zB:=O::O::O::I::(by(iterate 33 refine O::?_);exact[])
abbrev ynR:zR:=[bS 35 27 1,ab 27 35]
abbrev ynS:zR:=[ab 31 3,ak 32 2 7,ai 33 1 32,o 34 (.append 1 aw 16 (.t 31) (.t 33)),ab 3 34]
abbrev ynU:al:=.seq (.ae TC) (.ae ynS)
abbrev C4:al:=.seq (.ae zy) (.seq (.cond (.t 28) .skip (.exit 2)) (.seq (.block 3 [] ynU) (.ae ynR)))
abbrev Rq:zB:=O::I::O::I::O::O::O::O::O::O::O::O::I::I::I::(by(iterate 22 refine O::?_);exact[])
abbrev Rr:zB:=O::I::O::I::(by(iterate 33 refine O::?_);exact[])
abbrev yob:zR:=[ab 18 3,ak 19 1 5,ai 20 1 19,o 21 (.lit 1 [.str []] [(0,.t 20)]),o 22 (.append 1 aw 16 (.t 18) (.t 21)),ab 3 22]
abbrev yod:al:=.seq (.ae R4) (.ae yob)
abbrev IS:al:=.seq (.ae Sf) (.seq (.cond (.t 15) .skip (.exit 0)) (.seq (.block 1 [] yod) (.ae Q')))
abbrev yoh:zR:=[ak 8 1 1,ai 9 1 8,bf 10 wB 9,ab 3 10]
abbrev abl:aH:=⟨.seq (.ae IQ) (.seq (.ae yoh) (.seq (.seq (.ae Tn) (.block 0 Rr (.loop Rq IS))) (.seq (.seq (.ae C0) (.block 2 H8 (.loop HF C4))) (.seq (.ae Ja) .ret)))),37,[.tmp 2]⟩
abbrev yoj:zI:=[.code (.seq (.ae Ja) .ret)]
abbrev yok(x3 x25 x26 x27:AV)(h:List Ob)(e:Cx:=cx):ar:=bl uj (.code C4::.inLoop HF C4::.inBlock 2 H8::yoj) (U::U::U::x3::(by(iterate 21 refine U::?_);exact[x25,x26,x27,U,U,U,U,U,U,U,U,U])) h e
abbrev yol:zI:=[.code (.seq (.seq (.ae C0) (.block 2 H8 (.loop HF C4))) (.seq (.ae Ja) .ret))]
abbrev yom(x1 x3 x12 x13 x14:AV)(h:List Ob)(e:Cx:=cx):ar:=bl uj (.code IS::.inLoop Rq IS::.inBlock 0 Rr::yol) (U::x1::U::x3::U::U::U::U::U::U::U::U::x12::x13::x14::(by(iterate 22 refine U::?_);exact[])) h e
@[simp] theorem X0:aG Tryz.prog uj=some abl:=by kernel_rfl
@[simp] theorem ava:aA Tryz.prog uj=true:=by kernel_rfl
abbrev Tb:zB:=O::I::(by(iterate 68 refine O::?_);exact I::I::I::(by(iterate 30 refine O::?_);exact[]))
abbrev Tu:zB:=(by(iterate 103 refine O::?_);exact[])
abbrev yoq:zR:=[bS 102 72 1,ab 72 102]
abbrev yot:zR:=[o 82 (.fw 2 1 (.t 7) (.c (.int .i64 0))),ai 83 1 82,o 84 (.cmp .lss (.sc .int) (.t 83) (.c (.int .i64 0))),ab 85 84,on 86 85 (.fw 2 1 (.t 7) (.c (.int .i64 1))),on 87 85 (.load false 1 (.t 86)),on 88 85 (.cmp .lss (.sc .int) (.t 87) (.c (.int .i64 0))),o 89 (.pick (.t 85) (.c (.bool true)) (.t 88)),ab 90 89,on 91 90 (.fw 2 1 (.t 7) (.c (.int .i64 0))),on 92 90 (.load false 1 (.t 91)),on 93 90 (.mv (.t 8)),on 94 90 (.cmp .geq (.sc .int) (.t 92) (.t 93)),o 95 (.pick (.t 90) (.c (.bool true)) (.t 94)),ab 96 95,on 97 96 (.fw 2 1 (.t 7) (.c (.int .i64 1))),on 98 96 (.load false 1 (.t 97)),on 99 96 (.mv (.t 8)),on 100 96 (.cmp .geq (.sc .int) (.t 98) (.t 99)),o 101 (.pick (.t 96) (.c (.bool true)) (.t 100))]
abbrev you:zR:=[aQ 77 5 1,bf 78 nL 77,ab 79 6,o 80 (.bP .add (.t 78) (.t 79)),o 81 (.bP .mul (.c (.int .i64 2)) (.t 80)),ab 8 81]
abbrev yov:zR:=[ab 74 72,bn 75 2 70 72,aQ 76 2 75,o 7 (.alloc [.int .i64 0,.int .i64 0]),ab 6 74,aT 2 7 76]
abbrev yow:al:=.seq (.ae yov) (.seq (.ae you) (.seq (.ae yot) (.cond (.t 101) Ix .skip)))
abbrev yox:zR:=[cR 73 72 71]
abbrev Jj:al:=.seq (.ae yox) (.seq (.cond (.t 73) .skip (.exit 0)) (.seq (.block 1 [] yow) (.ae yoq)))
abbrev yoz:zR:=[ak 69 3 1,ai 70 1 69,aZ 71 70,a_ 72 0]
abbrev yoC:zR:=[ak 44 2 1,ai 45 1 44,aZ 46 45,ak 47 1 1,ai 48 1 47,aZ 49 48,o 50 (.cmp .neq (.sc .int) (.t 46) (.t 49)),ab 51 50,on 52 51 (.off 2 (.t 1)),on 53 51 (.load false 1 (.t 52)),on 54 51 (.mv (.t 5)),on 55 51 (.call (.f tI) [.t 53,.t 54]),o 56 (.pick (.t 51) (.c (.bool true)) (.t 55)),ab 57 56,on 58 57 (.off 1 (.t 1)),on 59 57 (.load false 1 (.t 58)),on 60 57 (.mv (.t 4)),on 61 57 (.call (.f tI) [.t 59,.t 60]),o 62 (.pick (.t 57) (.c (.bool true)) (.t 61)),ab 63 62,on 64 63 (.off 4 (.t 1)),on 65 63 (.load false 1 (.t 64)),on 66 63 (.mv (.t 4)),on 67 63 (.call (.f tI) [.t 65,.t 66]),o 68 (.pick (.t 63) (.c (.bool true)) (.t 67))]
abbrev yoD:zR:=[o 5 (.mv (.f Ar))]
abbrev yoE:zR:=[o 43 (.iE (.func At) [] [.t 3]),ab 4 43]
abbrev yoF:zR:=[aQ 36 5 1,bf 37 nL 36,ak 38 3 1,ai 39 1 38,aZ 40 39,o 41 (.bP .add (.t 37) (.t 40)),o 42 (.bP .mul (.c (.int .i64 2)) (.t 41)),o 3 (.alloc [.int .i64 0]),aT 1 3 42]
abbrev yoG:zR:=[a_ 2 8]
abbrev yoH:al:=.seq (.ae yoG) .ret
abbrev yoI:zR:=[ak 9 0 1,ai 10 1 9,o 11 (.cmp .lss (.sc .int) (.t 10) (.c (.int .i64 0))),ab 12 11,on 13 12 (.off 0 (.t 1)),on 14 12 (.load false 1 (.t 13)),on 15 12 (.cmp .gtr (.sc .int) (.t 14) (.c (.int .i64 4000))),o 16 (.pick (.t 12) (.c (.bool true)) (.t 15)),ab 17 16,on 18 17 (.off 0 (.t 1)),on 19 17 (.load false 1 (.t 18)),on 20 17 (.off 1 (.t 1)),on 21 17 (.load false 1 (.t 20)),on 22 17 (.len (.t 21)),on 23 17 (.bP .add (.t 19) (.t 22)),on 24 17 (.off 3 (.t 1)),on 25 17 (.load false 1 (.t 24)),on 26 17 (.len (.t 25)),on 27 17 (.bP .add (.t 23) (.t 26)),on 28 17 (.cmp .gtr (.sc .int) (.t 27) (.c (.int .i64 4000))),o 29 (.pick (.t 17) (.c (.bool true)) (.t 28)),ab 30 29,on 31 30 (.off 4 (.t 1)),on 32 30 (.load false 1 (.t 31)),on 33 30 (.len (.t 32)),on 34 30 (.cmp .gtr (.sc .int) (.t 33) (.c (.int .i64 4000))),o 35 (.pick (.t 30) (.c (.bool true)) (.t 34))]
abbrev Y3:aH:=⟨.seq (.ae I1) (.seq (.seq (.ae yoI) (.cond (.t 35) yoH .skip)) (.seq (.aX [I,I,O,I,O,O,O,O,O] [9,9,9,9,9,9,9,9,10] yoF) (.seq (.ae yoE) (.seq (.ae yoD) (.seq (.seq (.ae yoC) (.cond (.t 68) Ix .skip)) (.seq (.seq (.ae yoz) (.block 0 Tu (.loop Tb Jj))) (.seq (.ae vQ) .ret))))))),103,[.tmp 2]⟩
abbrev yoL(x1 x70 x71 x72:AV)(h:List Ob)(e:Cx:=cx):ar:=bl sb (.code Jj::.inLoop Tb Jj::.inBlock 0 Tu::RW) (U::x1::(by(iterate 68 refine U::?_);exact x70::x71::x72::(by(iterate 30 refine U::?_);exact[]))) h e
@[simp] theorem Xa:aG Tryz.prog sb=some Y3:=by kernel_rfl
@[simp] theorem auI:aA Tryz.prog sb=true:=by kernel_rfl
abbrev yoM:zR:=[ab 3 0,o 4 (.call (.f tH) [.t 3,.f Av]),ab 2 4]
abbrev aam:aH:=⟨.seq (.ae yI) (.seq (.ae yoM) .ret),5,[.tmp 2]⟩
@[simp] theorem Xw:aG Tryz.prog uc=some aam:=by kernel_rfl
@[simp] theorem auW:aA Tryz.prog uc=true:=by kernel_rfl
abbrev Tj:zB:=[O,O,O,I,O,O,O,I,I,I,O,O,O,O,O,O,O,O,O]
abbrev yoR:zR:=[bS 18 9 1,ab 9 18]
abbrev yoS:zR:=[ab 16 3,ab 17 5,q (.bD (.sc .str) (.t 16) (.t 17) (.c (.bool true)))]
abbrev yoT:zR:=[o 2 (.mv (.c (.bool true)))]
abbrev yoU:al:=.seq (.ae yoT) .ret
abbrev yoV:zR:=[ab 13 3,ab 14 5,o 15 (.lookup (.sc .str) (.bool false) (.t 13) (.t 14) false)]
abbrev yoX:al:=.seq (.ae SU) (.seq (.seq (.ae yoV) (.cond (.t 15) yoU .skip)) (.ae yoS))
abbrev HQ:al:=.seq (.ae Dw) (.seq (.cond (.t 10) .skip (.exit 0)) (.seq (.block 1 [] yoX) (.ae yoR)))
abbrev Xe:aH:=⟨.seq (.ae yI) (.seq (.ae Jp) (.seq (.seq (.ae Jt) (.block 0 ny (.loop Tj HQ))) (.seq (.ae yI) .ret))),19,[.tmp 2]⟩
abbrev ypd:zI:=[.code (.seq (.ae yI) .ret)]
abbrev ype(x3 x7 x8 x9:AV)(h:List Ob)(e:Cx:=cx):ar:=bl tX (.code HQ::.inLoop Tj HQ::.inBlock 0 ny::ypd) [U,U,U,x3,U,U,U,x7,x8,x9,U,U,U,U,U,U,U,U,U] h e
@[simp] theorem VY:aG Tryz.prog tX=some Xe:=by kernel_rfl
@[simp] theorem at0:aA Tryz.prog tX=true:=by kernel_rfl
abbrev S6:zR:=[ab 31 3,ab 2 31]
abbrev SB:zB:=O::O::O::I::O::O::O::O::O::O::O::O::O::O::O::I::I::(by(iterate 15 refine O::?_);exact[])
abbrev SF:zB:=O::O::O::I::(by(iterate 28 refine O::?_);exact[])
abbrev ypi:zR:=[bS 30 16 1,ab 16 30]
abbrev ypj:zR:=[ab 19 3,ab 20 3,o 21 (.br (.t 20)),ak 22 6 21,ai 23 1 22,ab 24 4,o 25 (.bP .mul (.c (.int .i64 2)) (.t 24)),o 26 (.lit 1 [.int .i64 0] [(0,.t 25)]),o 27 (.append 1 av 8 (.t 23) (.t 26)),o 28 (.br (.t 19)),ak 29 6 28,aT 1 29 27]
abbrev ypk:zR:=[ab 18 16,ab 4 18]
abbrev ypl:al:=.seq (.ae ypk) (.ae ypj)
abbrev SH:zR:=[cR 17 16 15]
abbrev HR:al:=.seq (.ae SH) (.seq (.cond (.t 17) .skip (.exit 0)) (.seq (.block 1 [] ypl) (.ae ypi)))
abbrev ypo:zR:=[aQ 14 5 1,bf 15 nL 14,a_ 16 0]
abbrev ypp:zR:=[ak 5 0 1,ai 6 1 5,ak 7 1 1,ai 8 1 7,ak 9 2 1,ai 10 1 9,bf 11 Ae 10,o 12 (.build [.int .i64 0,.list true 0 [],.list true 0 [],.list true 0 [],.list true 0 []] [(0,1,.t 6),(1,1,.t 8),(2,1,.t 11)]),bf 13 AJ 12,ab 3 13]
abbrev R0:zR:=[o 1 (.box 5 (.t 0)),o 2 (.mv (.c .ik))]
abbrev aac:aH:=⟨.seq (.ae R0) (.seq (.aX [O,I,O,I,O,O,O,O,O,O] [9,9,9,9,7,7,9,9,11,11] ypp) (.seq (.seq (.ae ypo) (.block 0 SF (.loop SB HR))) (.seq (.ae S6) .ret))),32,[.tmp 2]⟩
abbrev Sq:zI:=[.code (.seq (.ae S6) .ret)]
abbrev yps(x3 x15 x16:AV)(h:List Ob)(e:Cx:=cx):ar:=bl ub (.code HR::.inLoop SB HR::.inBlock 0 SF::Sq) (U::U::U::x3::U::U::U::U::U::U::U::U::U::U::U::x15::x16::(by(iterate 15 refine U::?_);exact[])) h e
abbrev ypt(x3:AV)(h:List Ob)(e:Cx:=cx):ar:=bl ub Sq (U::U::U::x3::(by(iterate 28 refine U::?_);exact[])) h e
@[simp] theorem Kz:aG Tryz.prog ub=some aac:=by kernel_rfl
@[simp] theorem auQ:aA Tryz.prog ub=true:=by kernel_rfl
abbrev ypu:zR:=[ab 76 10,ab 6 76]
abbrev ypv:zR:=[ab 70 0,o 71 (.br (.t 70)),ak 72 5 71,ai 73 1 72,aQ 74 2 7,ab 75 10,q (.bD (.lY [.int,.int]) (.t 73) (.t 74) (.t 75))]
abbrev ypw:zR:=[ab 58 0,ab 59 0,o 60 (.br (.t 59)),ak 61 0 60,ak 62 3 61,ai 63 1 62,aQ 64 2 7,o 65 (.lit 2 [.agg [.int .i64 0,.int .i64 0]] [(0,.t 64)]),o 66 (.append 2 dv 16 (.t 63) (.t 65)),o 67 (.br (.t 58)),ak 68 0 67,ak 69 3 68,aT 1 69 66]
abbrev ypx:zR:=[ab 45 0,o 46 (.br (.t 45)),ak 47 0 46,aQ 48 5 47,bf 49 nL 48,ab 50 0,o 51 (.br (.t 50)),ak 52 0 51,ak 53 3 52,ai 54 1 53,aZ 55 54,o 56 (.bP .add (.t 49) (.t 55)),o 57 (.bP .mul (.c (.int .i64 2)) (.t 56)),ab 10 57]
abbrev ypy:zR:=[ab 44 8,ab 6 44]
abbrev ypz:al:=.seq (.ae ypy) .ret
abbrev ypA:zR:=[ab 43 9]
abbrev ypB:zR:=[ab 35 0,o 36 (.br (.t 35)),ak 37 5 36,ai 38 1 37,aQ 39 2 7,o 40 (.lookup (.lY [.int,.int]) (.int .i64 0) (.t 38) (.t 39) true),ab 34 40,bt 41 34 0,bt 42 34 1,ab 8 41,ab 9 42]
abbrev ypC:zR:=[ab 31 1,ab 32 2,o 33 (.build [.int .i64 0,.int .i64 0] [(0,1,.t 31),(1,1,.t 32)]),o 7 (.alloc [.int .i64 0,.int .i64 0]),aT 2 7 33]
abbrev HH:zR:=[a_ 6 0]
abbrev ypE:zR:=[ab 30 1,ab 6 30]
abbrev ypF:al:=.seq (.ae ypE) .ret
abbrev ypG:zR:=[ab 27 1,ab 28 2,o 29 (.cmp .eql (.sc .int) (.t 27) (.t 28)),ab 24 29]
abbrev ypH:zR:=[ab 25 2,o 26 (.cmp .eql (.sc .int) (.t 25) (.c (.int .i64 1))),ab 24 26]
abbrev ypI:al:=.seq (.ae HH) .ret
abbrev ypJ:al:=.seq (.seq (.ae ypH) (.cond (.t 24) .skip (.ae ypG))) (.cond (.t 24) ypF .skip)
abbrev ypK:zR:=[ab 20 1,o 21 (.bP .xor (.t 20) (.c (.int .i64 1))),ab 22 2,o 23 (.cmp .eql (.sc .int) (.t 21) (.t 22)),ab 17 23]
abbrev ypL:zR:=[ab 18 2,o 19 (.cmp .eql (.sc .int) (.t 18) (.c (.int .i64 0))),ab 17 19]
abbrev ypM:al:=.seq (.seq (.ae ypL) (.cond (.t 17) .skip (.ae ypK))) (.cond (.t 17) ypI ypJ)
abbrev ypN:zR:=[ab 11 1,ab 12 2,o 13 (.max [.t 11,.t 12]),ab 14 1,ab 15 2,o 16 (.min [.t 14,.t 15]),ab 1 13,ab 2 16]
abbrev Ve:aH:=⟨.seq (.ae HH) (.seq (.ae ypN) (.seq (.block 0 [] ypM) (.seq (.ae ypC) (.seq (.seq (.aX [O,O,O,O,O,O,O,O,O,O,O] [12,12,12,12,12,12,12,12,12,12,12] ypB) (.seq (.ae ypA) (.cond (.t 43) ypz .skip))) (.seq (.aX [O,O,O,O,O,O,O,O,O,I,O,O,O,O] [5,5,5,5,15,15,15,15,15,15,15,15,15,15] ypx) (.seq (.aX [O,O,O,O,O,I,O,O,O,O,O,O,O] [13,9,9,9,9,9,8,9,13,13,13,13,14] ypw) (.seq (.aX [O,O,O,O,O,O,O] [7,7,7,7,7,7,8] ypv) (.seq (.ae ypu) .ret)))))))),77,[.tmp 6]⟩
@[simp] theorem DU:aG Tryz.prog rW=some Ve:=by kernel_rfl
@[simp] theorem ato:aA Tryz.prog rW=true:=by kernel_rfl
abbrev ypP:zR:=[ab 5 0,o 6 (.br (.t 5)),ak 7 6 6,ai 8 1 7,ab 9 1,o 10 (.bP .shr (.t 9) (.c (.int .u64 1))),bn 11 1 8 10,ai 12 1 11,ab 13 1,o 14 (.bP .and (.t 13) (.c (.int .i64 1))),o 15 (.bP .xor (.t 12) (.t 14)),ab 4 15]
abbrev Va:aH:=⟨.seq (.ae vX) (.seq (.ae ypP) .ret),16,[.tmp 4]⟩
@[simp] theorem UK:aG Tryz.prog oz=some Va:=by kernel_rfl
@[simp] theorem atl:aA Tryz.prog oz=true:=by kernel_rfl
abbrev ypR:zR:=[ab 21 0,o 22 (.br (.t 21)),ak 23 0 22,aQ 24 5 23,aT 5 4 24]
abbrev ypS:zR:=[ab 5 0,ab 6 0,ab 7 0,ak 8 1 3,ai 9 1 8,dp 10 rV 7 9,ab 11 0,ak 12 4 3,ai 13 1 12,dp 14 rV 11 13,o 15 (.br (.t 5)),ak 16 0 15,ak 17 1 16,aT 1 17 10,o 18 (.br (.t 6)),ak 19 0 18,ak 20 4 19,aT 1 20 14]
abbrev ypT:zR:=[o 3 (.box 5 (.t 1)),o 4 (.alloc [.int .i64 0,.own 1 av [],.own 1 av [],.own 2 dv [],.own 1 av []])]
abbrev Vf:aH:=⟨.seq (.ae ypT) (.seq (.aX [O,O,O,O,O,O,O,O,I,O,O,O,O,O,O,O,O,O] [14,18,6,6,6,10,10,10,10,14,14,14,14,18,18,18,18,19] ypS) (.seq (.ae ypR) .ret)),25,[.cell 4 true 5]⟩
@[simp] theorem Kc:aG Tryz.prog Am=some Vf:=by kernel_rfl
@[simp] theorem atn:aA Tryz.prog Am=true:=by kernel_rfl
abbrev IH:zR:=[ai 20 1 3,ab 2 20]
abbrev Sd:zR:=[ab 4 15]
abbrev ypW:zR:=[ai 16 1 3,ab 17 4,o 18 (.bP .shr (.t 17) (.c (.int .u64 1))),bn 19 1 16 18,q (.store 1 (.t 19) (.c (.bool true)))]
abbrev Sn:al:=.block 1 [] (.ae ypW)
abbrev Sp:al:=.rangeFunc (.t 14) [15] (O::O::I::I::(by(iterate 17 refine O::?_);exact[])) (.ae Sd) Sn
abbrev Q0:zR:=[aQ 12 5 1,ai 13 1 3,dp 14 D5 12 13]
abbrev yqa:zR:=[aQ 5 5 1,bf 6 nL 5,ak 7 3 1,ai 8 1 7,aZ 9 8,o 10 (.bP .add (.t 6) (.t 9)),o 11 (.mkSlice 1 aY 1 (.bool false) (.t 10) (.t 10)),o 3 (.alloc [.own 1 aY []]),aT 1 3 11]
abbrev yqb:zR:=[o 1 (.box 5 (.t 0)),o 2 (.cN 1 aY)]
abbrev adE:aH:=⟨.seq (.ae yqb) (.seq (.fG [[],[0],[],[2],[3],[1,4],[5,5],[],[7,6,1,0,1,2,3,4,5,6,7]] yqa) (.seq (.seq (.ae Q0) (.block 0 [] Sp)) (.seq (.ae IH) .ret))),21,[.tmp 2]⟩
@[simp] theorem Zr:aG Tryz.prog sw=some adE:=by kernel_rfl
@[simp] theorem avn:aA Tryz.prog sw=true:=by kernel_rfl
abbrev yqc:zR:=[ak 3 0 1,ai 4 1 3,o 5 (.bP .add (.c (.int .i64 1)) (.t 4)),ak 6 1 1,ai 7 1 6,aZ 8 7,o 9 (.bP .add (.t 5) (.t 8)),ab 2 9]
abbrev Zn:aH:=⟨.seq (.ae I1) (.seq (.ae yqc) .ret),10,[.tmp 2]⟩
@[simp] theorem Xu:aG Tryz.prog nL=some Zn:=by kernel_rfl
@[simp] theorem auY:aA Tryz.prog nL=true:=by kernel_rfl
abbrev Iv:zR:=[ab 26 0,ab 4 26]
abbrev yqf:zR:=[ab 17 0,ab 18 0,o 19 (.cap (.t 18)),o 20 (.slice 1 (.t 17) none (some (.t 19))),ab 21 1,o 22 (.sB 1 aw 16 (.str []) (.t 20) (.t 21)),ab 23 0,aZ 24 23,o 25 (.slice 1 (.t 22) none (some (.t 24))),ab 0 25]
abbrev HJ:zR:=[ab 15 1,o 16 (.cmp .gtr (.sc .int) (.t 15) (.c (.int .i64 0)))]
abbrev HL:zR:=[ab 8 1,ab 9 0,o 10 (.cap (.t 9)),ab 11 0,aZ 12 11,o 13 (.bP .sub (.t 10) (.t 12)),o 14 (.bP .sub (.t 8) (.t 13)),ab 1 14]
abbrev Iw:zR:=[o 7 (.kj aw (.c (.str [99,97,110,110,111,116,32,98,101,32,110,101,103,97,116,105,118,101]))),q (.panic (.t 7))]
abbrev I_:zR:=[ab 5 1,o 6 (.cmp .lss (.sc .int) (.t 5) (.c (.int .i64 0)))]
abbrev yqk:zR:=[o 4 (.cN 1 aw)]
abbrev Uh:aH:=⟨.seq (.ae yqk) (.seq (.seq (.ae I_) (.cond (.t 6) (.ae Iw) .skip)) (.seq (.seq (.ae HL) (.seq (.ae HJ) (.cond (.t 16) (.ae yqf) .skip))) (.seq (.ae Iv) .ret))),27,[.tmp 4]⟩
@[simp] theorem J0:aG Tryz.prog DM=some Uh:=by kernel_rfl
@[simp] theorem asT:aA Tryz.prog DM=true:=by kernel_rfl
abbrev rB:zB:=I::O::O::I::I::(by(iterate 69 refine O::?_);exact[])
abbrev Dq:zB:=(by(iterate 74 refine O::?_);exact[])
abbrev SQ:zB:=I::O::O::I::I::O::I::(by(iterate 42 refine O::?_);exact I::I::I::(by(iterate 22 refine O::?_);exact[]))
abbrev yqp:zR:=[bS 73 51 1,ab 51 73]
abbrev yqq:zR:=[ab 68 4,o 69 (.kj kQ (.t 68)),ab 70 8,o 71 (.kj av (.t 70)),dp 72 wD 69 71]
abbrev yqr:zR:=[ak 61 0 3,ai 62 1 61,ab 63 8,bn 64 1 62 63,ai 65 1 64,o 66 (.sJ (.t 65)),o 67 (.cmp .eql (.sc .int) (.t 66) (.c (.int .i64 0)))]
abbrev yqs:zR:=[ak 55 0 3,ai 56 1 55,ab 57 8,bn 58 1 56 57,ai 59 1 58,ab 60 6,q (.delete (.sc .int) (.t 59) (.t 60))]
abbrev yqt:zR:=[bn 53 1 49 51,ai 54 1 53,ab 8 54]
abbrev yqu:al:=.seq (.ae yqt) (.seq (.ae yqs) (.seq (.ae yqr) (.cond (.t 67) (.ae yqq) .skip)))
abbrev yqv:zR:=[cR 52 51 50]
abbrev Jn:al:=.seq (.ae yqv) (.seq (.cond (.t 52) .skip (.exit 4)) (.seq (.block 5 [] yqu) (.ae yqp)))
abbrev yqx:zR:=[ak 45 1 3,ai 46 1 45,ab 47 6,bn 48 1 46 47,ai 49 1 48,aZ 50 49,a_ 51 0]
abbrev yqy:zR:=[ab 41 0,ab 42 6,o 43 (.call (.t 41) [.t 42]),o 44 (.not (.t 43))]
abbrev yqz:zR:=[ab 37 4,o 38 (.kj kQ (.t 37)),bf 39 Ah 38,o 40 (.uS (.t 39) av (.int .i64 0) false),ab 6 40]
abbrev yqA:al:=.seq (.ae yqz) (.seq (.seq (.ae yqy) (.cond (.t 44) .ret .skip)) (.seq (.ae yqx) (.block 4 rB (.loop SQ Jn))))
abbrev yqB:zR:=[ab 32 4,o 33 (.br (.t 32)),ai 34 1 33,bf 35 tM 34,o 36 (.cmp .gtr (.sc .int) (.t 35) (.c (.int .i64 0)))]
abbrev zJ:al:=.seq (.seq (.ae yqB) (.cond (.t 36) .skip (.exit 2))) (.block 3 [] yqA)
abbrev RF:zB:=I::O::O::I::I::O::O::O::O::O::O::O::O::O::O::I::I::(by(iterate 57 refine O::?_);exact[])
abbrev yqF:zR:=[bS 31 16 1,ab 16 31]
abbrev yqG:zR:=[ab 26 4,o 27 (.kj kQ (.t 26)),ab 28 5,o 29 (.kj av (.t 28)),dp 30 wD 27 29]
abbrev yqH:zR:=[ak 19 0 3,ai 20 1 19,ab 21 5,bn 22 1 20 21,ai 23 1 22,o 24 (.sJ (.t 23)),o 25 (.cmp .eql (.sc .int) (.t 24) (.c (.int .i64 0)))]
abbrev yqI:zR:=[ab 18 16,ab 5 18]
abbrev yqJ:al:=.seq (.ae yqI) (.seq (.ae yqH) (.cond (.t 25) (.ae yqG) .skip))
abbrev I0:al:=.seq (.ae SH) (.seq (.cond (.t 17) .skip (.exit 0)) (.seq (.block 1 [] yqJ) (.ae yqF)))
abbrev yqM:zR:=[ak 13 3 1,ai 14 1 13,aZ 15 14,a_ 16 0]
abbrev yqN:zR:=[o 11 (.lit 1 [] []),o 12 (.box 1 (.t 11)),ab 4 12]
abbrev yqO:zR:=[aQ 9 4 1,bf 10 nI 9,o 3 (.alloc [.own 1 wO [],.own 1 jq []]),aT 2 3 10]
abbrev Vz:aH:=⟨.seq (.ae yqO) (.seq (.ae yqN) (.seq (.seq (.ae yqM) (.block 0 rB (.loop RF I0))) (.block 2 Dq (.loop rB zJ)))),74,[]⟩
abbrev RH:zI:=[.inBlock 3 [],.inLoop rB zJ,.inBlock 2 Dq]
abbrev yqQ(x0 x3 x4 x6 x49 x50 x51:AV)(h:List Ob)(e:Cx:=cx):ar:=bl oA (.code Jn::.inLoop SQ Jn::.inBlock 4 rB::RH) (x0::U::U::x3::x4::U::x6::(by(iterate 42 refine U::?_);exact x49::x50::x51::(by(iterate 22 refine U::?_);exact[]))) h e
abbrev yqR(x0 x3 x4:AV)(h:List Ob)(e:Cx:=cx):ar:=bl oA RH (x0::U::U::x3::x4::(by(iterate 69 refine U::?_);exact[])) h e
abbrev Dr:zI:=[]
abbrev Rk(x0 x3 x4:AV)(h:List Ob)(e:Cx:=cx):ar:=bl oA (.code zJ::.inLoop rB zJ::.inBlock 2 Dq::Dr) (x0::U::U::x3::x4::(by(iterate 69 refine U::?_);exact[])) h e
abbrev R':zI:=[.code (.block 2 Dq (.loop rB zJ))]
abbrev yqV(x0 x3 x4 x15 x16:AV)(h:List Ob)(e:Cx:=cx):ar:=bl oA (.code I0::.inLoop RF I0::.inBlock 0 rB::R') (x0::U::U::x3::x4::U::U::U::U::U::U::U::U::U::U::x15::x16::(by(iterate 57 refine U::?_);exact[])) h e
abbrev yqW(x0 x3 x4:AV)(h:List Ob)(e:Cx:=cx):ar:=bl oA R' (x0::U::U::x3::x4::(by(iterate 69 refine U::?_);exact[])) h e
@[simp] theorem U1:aG Tryz.prog oA=some Vz:=by kernel_rfl
@[simp] theorem atB:aA Tryz.prog oA=true:=by kernel_rfl
abbrev Ji:zR:=[aQ 79 2 4,aT 2 2 79]
abbrev zP:zB:=O::O::I::I::I::(by(iterate 18 refine O::?_);exact I::I::I::(by(iterate 54 refine O::?_);exact[]))
abbrev I4:zB:=O::O::I::O::I::(by(iterate 75 refine O::?_);exact[])
abbrev Rh:zR:=[bS 78 25 1,ab 25 78]
abbrev RX:zB:=O::O::I::I::I::I::(by(iterate 17 refine O::?_);exact I::I::I::O::O::O::O::O::O::O::O::O::O::I::I::I::(by(iterate 41 refine O::?_);exact[]))
abbrev yrd:zR:=[bS 77 38 1,ab 38 77]
abbrev yre:zR:=[ak 65 1 4,ai 66 1 65,ab 67 9,ak 68 1 4,ai 69 1 68,ab 70 9,bn 71 1 69 70,ai 72 1 71,ab 73 5,o 74 (.lit 1 [.int .i64 0] [(0,.t 73)]),o 75 (.append 1 av 8 (.t 72) (.t 74)),bn 76 1 66 67,aT 1 76 75]
abbrev yrf:zR:=[ak 59 0 4,ai 60 1 59,ab 61 5,bn 62 1 60 61,ai 63 1 62,ab 64 9,q (.bD (.sc .int) (.t 63) (.t 64) (.c (.bool true)))]
abbrev yrg:al:=.seq (.ae yrf) (.aX [O,I,O,O,I,O,O,I,O,O,O,O,O] [13,13,13,11,11,11,11,11,10,11,13,13,14] yre)
abbrev yrh:zR:=[ab 48 10,ab 49 48,oy 50 49 (.off 0 (.t 4)),de 51 49 1 50,cF 52 49 5,oy 53 49 (.jt 1 (.t 51) (.t 52)),de 54 49 1 53,cF 55 49 9,oy 56 49 (.lookup (.sc .int) (.bool false) (.t 54) (.t 55) false),oy 57 49 (.not (.t 56)),cp 58 49 57]
abbrev yri:zR:=[ab 43 3,ab 44 8,o 45 (.lookup (.sc .str) (.int .i64 0) (.t 43) (.t 44) true),ab 42 45,bt 46 42 0,bt 47 42 1,ab 9 46,ab 10 47]
abbrev yrj:zR:=[bn 40 1 36 38,ai 41 1 40,ab 8 41]
abbrev yrk:al:=.seq (.ae yrj) (.seq (.ae yri) (.seq (.ae yrh) (.cond (.t 58) yrg .skip)))
abbrev IE:al:=.seq (.ae Tq) (.seq (.cond (.t 39) .skip (.exit 2)) (.seq (.block 3 [] yrk) (.ae yrd)))
abbrev yrn:zR:=[ak 35 2 6,ai 36 1 35,aZ 37 36,a_ 38 0]
abbrev yro:zR:=[ak 30 0 4,ai 31 1 30,ab 32 5,o 33 (.mkMap),bn 34 1 31 32,aT 1 34 33]
abbrev yrp:zR:=[ab 27 25,bn 28 5 23 25,aQ 29 5 28,o 6 (.alloc [.str [],.int .i64 0,.own 1 aw [],.own 1 aw [],.bool false]),ab 5 27,aT 5 6 29]
abbrev yrq:al:=.seq (.ae yrp) (.seq (.ae yro) (.seq (.ae yrn) (.block 2 zP (.loop RX IE))))
abbrev Di:al:=.seq (.ae SC) (.seq (.cond (.t 26) .skip (.exit 0)) (.seq (.block 1 [] yrq) (.ae Rh)))
abbrev C1:zR:=[ak 13 3 1,ai 14 1 13,aZ 15 14,o 16 (.mkSlice 1 wO 8 .cO (.t 15) (.t 15)),ak 17 3 1,ai 18 1 17,aZ 19 18,o 20 (.mkSlice 1 jq 24 (.list true 0 []) (.t 19) (.t 19)),o 21 (.build [.list true 0 [],.list true 0 []] [(0,1,.t 16),(1,1,.t 20)]),o 4 (.alloc [.own 1 wO [],.own 1 jq []]),aT 2 4 21]
abbrev yrv:zR:=[aQ 11 4 1,bf 12 tT 11,ab 3 12]
abbrev yrw:zR:=[o 1 (.box 4 (.t 0)),o 2 (.alloc [.own 1 wO [],.own 1 jq []])]
abbrev YJ:aH:=⟨.seq (.ae yrw) (.seq (.ae yrv) (.seq (.fG [[],[0],[1],[2,2],[],[4],[5],[6,6],[3,7],[],[9,8,0,1,2,3,4,5,6,7,8,9]] C1) (.seq (.seq (.ae R5) (.block 0 I4 (.loop zP Di))) (.seq (.ae Ji) .ret)))),80,[.cell 2 true 2]⟩
abbrev RP:zI:=[.inBlock 1 [],.code (.ae Rh),.inLoop zP Di,.inBlock 0 I4,.code (.seq (.ae Ji) .ret)]
abbrev yry(x2 x3 x4 x5 x23 x24 x25 x36 x37 x38:AV)(h:List Ob)(e:Cx:=cx):ar:=bl nI (.code IE::.inLoop RX IE::.inBlock 2 zP::RP) (U::U::x2::x3::x4::x5::(by(iterate 17 refine U::?_);exact x23::x24::x25::U::U::U::U::U::U::U::U::U::U::x36::x37::x38::(by(iterate 41 refine U::?_);exact[]))) h e
abbrev yrz(x2 x3 x4 x23 x24 x25:AV)(h:List Ob)(e:Cx:=cx):ar:=bl nI RP (U::U::x2::x3::x4::(by(iterate 18 refine U::?_);exact x23::x24::x25::(by(iterate 54 refine U::?_);exact[]))) h e
abbrev yrA:zI:=[.code (.seq (.ae Ji) .ret)]
abbrev IK(x2 x3 x4 x23 x24 x25:AV)(h:List Ob)(e:Cx:=cx):ar:=bl nI (.code Di::.inLoop zP Di::.inBlock 0 I4::yrA) (U::U::x2::x3::x4::(by(iterate 18 refine U::?_);exact x23::x24::x25::(by(iterate 54 refine U::?_);exact[]))) h e
@[simp] theorem WA:aG Tryz.prog nI=some YJ:=by kernel_rfl
@[simp] theorem auv:aA Tryz.prog nI=true:=by kernel_rfl
abbrev yrC:zR:=[ab 7 0,ab 8 0,o 9 (.invoke (.t 8) "Len" []),o 10 (.bP .sub (.t 9) (.c (.int .i64 1))),dp 11 wG 7 10]
abbrev yrD:zR:=[ab 4 0,ab 5 1,o 6 (.invoke (.t 4) "Push" [.t 5])]
abbrev UA:aH:=⟨.seq (.ae yrD) (.ae yrC),12,[]⟩
@[simp] theorem Uo:aG Tryz.prog wD=some UA:=by kernel_rfl
@[simp] theorem as4:aA Tryz.prog wD=true:=by kernel_rfl
abbrev yrE:zR:=[ab 3 0,aZ 4 3,ab 2 4]
abbrev VH:aH:=⟨.seq (.ae vQ) (.seq (.ae yrE) .ret),5,[.tmp 2]⟩
@[simp] theorem Ke:aG Tryz.prog tM=some VH:=by kernel_rfl
@[simp] theorem atw:aA Tryz.prog tM=true:=by kernel_rfl
abbrev yrG:zR:=[ab 13 0,o 14 (.invoke (.t 13) "Pop" []),ab 2 14]
abbrev yrH:zR:=[ab 10 0,ab 11 3,o 12 (.call (.f wE) [.t 10,.c (.int .i64 0),.t 11])]
abbrev yrI:zR:=[ab 7 0,ab 8 3,o 9 (.invoke (.t 7) "Swap" [.c (.int .i64 0),.t 8])]
abbrev yrJ:zR:=[ab 4 0,o 5 (.invoke (.t 4) "Len" []),o 6 (.bP .sub (.t 5) (.c (.int .i64 1))),ab 3 6]
abbrev UJ:aH:=⟨.seq (.ae I') (.seq (.ae yrJ) (.seq (.ae yrI) (.seq (.ae yrH) (.seq (.ae yrG) .ret)))),15,[.tmp 2]⟩
@[simp] theorem Uv:aG Tryz.prog Ah=some UJ:=by kernel_rfl
@[simp] theorem as9:aA Tryz.prog Ah=true:=by kernel_rfl
abbrev yrM:zR:=[aQ 6 4 1,bf 7 wS 6,ab 5 7,bt 8 5 0,bt 9 5 1,ab 3 8,ab 4 9]
abbrev X9:aH:=⟨.seq (.ae QZ) (.seq (.ae yrM) (.seq (.ae Sy) .ret)),12,[.tmp 2]⟩
@[simp] theorem Wv:aG Tryz.prog AD=some X9:=by kernel_rfl
@[simp] theorem auj:aA Tryz.prog AD=true:=by kernel_rfl
abbrev I9:zR:=[ab 85 8,ab 6 85,a_ 7 0]
abbrev Ia:zB:=I::O::O::O::O::O::O::O::I::(by(iterate 49 refine O::?_);exact I::I::I::(by(iterate 25 refine O::?_);exact[]))
abbrev HW:zB:=O::O::O::O::O::O::O::O::I::(by(iterate 77 refine O::?_);exact[])
abbrev yrR:zR:=[bS 84 60 1,ab 60 84]
abbrev yrS:zR:=[ab 73 8,ak 74 0 13,ai 75 1 74,aQ 76 5 13,ab 77 8,ak 78 2 13,ai 79 1 78,dp 80 uh 77 79,dp 81 AF 76 80,ab 72 81,bt 82 72 0,bt 83 72 1,q (.bD (.sc .str) (.t 73) (.t 75) (.t 82))]
abbrev yrT:zR:=[ab 64 0,o 65 (.br (.t 64)),ak 66 0 65,ak 67 3 66,ai 68 1 67,ab 69 12,bn 70 5 68 69,aQ 71 5 70,o 13 (.alloc [.str [],.int .i64 0,.own 1 aw [],.own 1 aw [],.bool false]),aT 5 13 71]
abbrev yrU:zR:=[bn 62 1 58 60,ai 63 1 62,ab 12 63]
abbrev yrV:al:=.seq (.ae yrU) (.seq (.ae yrT) (.aX [O,O,I,I,O,O,O,O,O,O,O,O,O] [13,13,13,9,8,8,8,9,13,13,13,14,14] yrS))
abbrev yrW:zR:=[cR 61 60 59]
abbrev De:al:=.seq (.ae yrW) (.seq (.cond (.t 61) .skip (.exit 2)) (.seq (.block 3 [] yrV) (.ae yrR)))
abbrev S9:zR:=[ab 55 0,o 56 (.br (.t 55)),ak 57 5 56,ai 58 1 57,aZ 59 58,a_ 60 0]
abbrev Ts:zB:=I::O::O::O::O::O::O::O::I::(by(iterate 29 refine O::?_);exact I::I::I::(by(iterate 45 refine O::?_);exact[]))
abbrev SO:zB:=I::O::O::O::O::O::O::O::I::(by(iterate 77 refine O::?_);exact[])
abbrev ysb:zR:=[bS 54 40 1,ab 40 54]
abbrev ysc:zR:=[ab 45 8,ab 46 0,o 47 (.br (.t 46)),ak 48 4 47,ai 49 1 48,ab 50 9,bn 51 1 49 50,ai 52 1 51,ab 53 10,q (.bD (.sc .str) (.t 45) (.t 52) (.t 53))]
abbrev ysd:zR:=[ab 42 40,bn 43 1 38 40,ai 44 1 43,ab 9 42,ab 10 44]
abbrev yse:al:=.seq (.ae ysd) (.ae ysc)
abbrev ysf:zR:=[cR 41 40 39]
abbrev HN:al:=.seq (.ae ysf) (.seq (.cond (.t 41) .skip (.exit 0)) (.seq (.block 1 [] yse) (.ae ysb)))
abbrev ysh:zR:=[ab 35 2,ab 36 1,o 37 (.lit 1 [.list true 0 [],.list true 0 []] [(0,.t 35),(1,.t 36)]),bf 38 py 37,aZ 39 38,a_ 40 0]
abbrev ysi:zR:=[o 34 (.mkMap),ab 8 34]
abbrev ysj:zR:=[o 6 (.mv (.c .cO)),a_ 7 11]
abbrev ysk:al:=.seq (.ae ysj) .ret
abbrev ysl:zR:=[ab 14 1,aZ 15 14,ab 16 0,o 17 (.br (.t 16)),ak 18 0 17,ak 19 2 18,ai 20 1 19,aZ 21 20,o 22 (.cmp .neq (.sc .int) (.t 15) (.t 21)),ab 23 22,on 24 23 (.mv (.t 2)),on 25 23 (.len (.t 24)),on 26 23 (.mv (.t 0)),on 27 23 (.br (.t 26)),on 28 23 (.off 0 (.t 27)),on 29 23 (.off 0 (.t 28)),on 30 23 (.load false 1 (.t 29)),on 31 23 (.len (.t 30)),on 32 23 (.cmp .neq (.sc .int) (.t 25) (.t 31)),o 33 (.pick (.t 23) (.c (.bool true)) (.t 32))]
abbrev ysm:zR:=[o 6 (.mv (.c .cO)),a_ 7 0]
abbrev Ux:aH:=⟨.seq (.ae ysm) (.seq (.seq (.ae ysl) (.cond (.t 33) ysk .skip)) (.seq (.ae ysi) (.seq (.seq (.ae ysh) (.block 0 SO (.loop Ts HN))) (.seq (.seq (.ae S9) (.block 2 HW (.loop Ia De))) (.seq (.ae I9) .ret))))),86,[.tmp 6,.tmp 7]⟩
abbrev Re:zI:=[.code (.seq (.ae I9) .ret)]
abbrev yso(x0 x8 x58 x59 x60:AV)(h:List Ob)(e:Cx:=cx):ar:=bl pz (.code De::.inLoop Ia De::.inBlock 2 HW::Re) (x0::U::U::U::U::U::U::U::x8::(by(iterate 49 refine U::?_);exact x58::x59::x60::(by(iterate 25 refine U::?_);exact[]))) h e
abbrev ysp(x8:AV)(h:List Ob)(e:Cx:=cx):ar:=bl pz Re (U::U::U::U::U::U::U::U::x8::(by(iterate 77 refine U::?_);exact[])) h e
abbrev Su:zI:=[.code (.seq (.seq (.ae S9) (.block 2 HW (.loop Ia De))) (.seq (.ae I9) .ret))]
abbrev ysr(x0 x8 x38 x39 x40:AV)(h:List Ob)(e:Cx:=cx):ar:=bl pz (.code HN::.inLoop Ts HN::.inBlock 0 SO::Su) (x0::U::U::U::U::U::U::U::x8::(by(iterate 29 refine U::?_);exact x38::x39::x40::(by(iterate 45 refine U::?_);exact[]))) h e
abbrev yss(x0 x8:AV)(h:List Ob)(e:Cx:=cx):ar:=bl pz Su (x0::U::U::U::U::U::U::U::x8::(by(iterate 77 refine U::?_);exact[])) h e
@[simp] theorem J6:aG Tryz.prog pz=some Ux:=by kernel_rfl
@[simp] theorem as0:aA Tryz.prog pz=true:=by kernel_rfl
abbrev Q9:zR:=[ab 21 5,ab 4 21]
abbrev RJ:zB:=[I,O,O,O,O,I,O,O,I,I,I,O,O,O,O,O,O,O,O,O,O,O]
abbrev Rm:zB:=O::O::O::O::O::I::(by(iterate 16 refine O::?_);exact[])
abbrev ysw:zR:=[bS 20 10 1,ab 10 20]
abbrev ysx:zR:=[ab 14 5,ab 15 0,ab 16 7,o 17 (.lookup (.sc .str) (.bool false) (.t 15) (.t 16) false),o 18 (.lit 1 [.bool false] [(0,.t 17)]),o 19 (.append 1 aY 1 (.t 14) (.t 18)),ab 5 19]
abbrev ysy:zR:=[bn 12 1 8 10,ai 13 1 12,ab 7 13]
abbrev ysz:al:=.seq (.ae ysy) (.ae ysx)
abbrev Ju:al:=.seq (.ae Rt) (.seq (.cond (.t 11) .skip (.exit 0)) (.seq (.block 1 [] ysz) (.ae ysw)))
abbrev ysC:zR:=[ab 8 1,aZ 9 8,a_ 10 0]
abbrev ysD:zR:=[o 5 (.cN 1 aY)]
abbrev ZS:aH:=⟨.seq (.ae Il) (.seq (.ae ysD) (.seq (.seq (.ae ysC) (.block 0 Rm (.loop RJ Ju))) (.seq (.ae Q9) .ret))),22,[.tmp 4]⟩
abbrev ysF:zI:=[.code (.seq (.ae Q9) .ret)]
abbrev ysG(x0 x5 x8 x9 x10:AV)(h:List Ob)(e:Cx:=cx):ar:=bl uh (.code Ju::.inLoop RJ Ju::.inBlock 0 Rm::ysF) [x0,U,U,U,U,x5,U,U,x8,x9,x10,U,U,U,U,U,U,U,U,U,U,U] h e
@[simp] theorem WY:aG Tryz.prog uh=some ZS:=by kernel_rfl
@[simp] theorem auO:aA Tryz.prog uh=true:=by kernel_rfl
abbrev ysL:zR:=[ab 31 6,ab 32 8,o 33 (.append 1 aY 1 (.t 31) (.t 32)),ab 6 33]
abbrev ysN:al:=.seq (.ae Iz) (.ae ysL)
abbrev Dd:al:=.seq (.ae zy) (.seq (.cond (.t 28) .skip (.exit 2)) (.seq (.block 3 [] ysN) (.ae Jg)))
abbrev Tz:zR:=[ab 23 3,o 24 (.call (.f DN) [.c (.list true 0 []),.t 23]),ab 6 24]
abbrev yte:zR:=[o 2 (.cN 1 aY)]
abbrev Um:aH:=⟨.seq (.ae yte) (.seq (.ae C_) (.seq (.seq (.ae Jc) (.block 0 vS (.loop vL qz))) (.seq (.ae Tz) (.seq (.seq (.ae vM) (.block 2 qy (.loop qB Dd))) (.seq (.ae tw) .ret))))),36,[.tmp 2]⟩
abbrev R1(x6 x25 x26 x27:AV)(h:List Ob)(e:Cx:=cx):ar:=bl py (.code Dd::.inLoop qB Dd::.inBlock 2 qy::IC) (U::U::U::U::U::U::x6::(by(iterate 18 refine U::?_);exact[x25,x26,x27,U,U,U,U,U,U,U,U])) h e
abbrev yth:zI:=[.code (.seq (.ae Tz) (.seq (.seq (.ae vM) (.block 2 qy (.loop qB Dd))) (.seq (.ae tw) .ret)))]
abbrev SE(x0 x3 x9 x10 x11:AV)(h:List Ob)(e:Cx:=cx):ar:=bl py (.code qz::.inLoop vL qz::.inBlock 0 vS::yth) (x0::U::U::x3::U::U::U::U::U::x9::x10::x11::(by(iterate 24 refine U::?_);exact[])) h e
@[simp] theorem J1:aG Tryz.prog py=some Um:=by kernel_rfl
@[simp] theorem asW:aA Tryz.prog py=true:=by kernel_rfl
abbrev ytj:zR:=[o 3 (.iE (.func wM) [] [.t 1]),ab 2 3]
abbrev Sl:zR:=[o 1 (.box 1 (.t 0)),o 2 (.mv (.c .dE))]
abbrev Xt:aH:=⟨.seq (.ae Sl) (.seq (.ae ytj) .ret),4,[.tmp 2]⟩
@[simp] theorem VU:aG Tryz.prog D6=some Xt:=by kernel_rfl
@[simp] theorem at1:aA Tryz.prog D6=true:=by kernel_rfl
abbrev ytl:zR:=[ab 5 0,ab 6 1,dp 7 tJ 5 6,o 8 (.cmp .geq (.sc .int) (.t 7) (.c (.int .i64 0))),ab 4 8]
abbrev T1:aH:=⟨.seq (.ae nk) (.seq (.ae ytl) .ret),9,[.tmp 4]⟩
@[simp] theorem TZ:aG Tryz.prog Ac=some T1:=by kernel_rfl
@[simp] theorem asM:aA Tryz.prog Ac=true:=by kernel_rfl
abbrev ytt:zR:=[ab 11 1,ab 12 0,ab 13 5,bn 14 5 12 13,aQ 15 5 14,o 16 (.call (.t 11) [.t 15])]
abbrev ytv:al:=.seq (.ae IV) (.seq (.ae ytt) (.cond (.t 16) Ir .skip))
abbrev IL:al:=.seq (.ae Ds) (.seq (.cond (.t 9) .skip (.exit 0)) (.seq (.block 1 [] ytv) (.ae I5)))
abbrev TV:aH:=⟨.seq (.ae vX) (.seq (.seq (.ae zx) (.block 0 ny (.loop rG IL))) (.seq (.ae vF) .ret)),19,[.tmp 4]⟩
abbrev ytB(x0 x1 x7 x8:AV)(h:List Ob)(e:Cx:=cx):ar:=bl wy (.code IL::.inLoop rG IL::.inBlock 0 ny::Dj) [x0,x1,U,U,U,U,U,x7,x8,U,U,U,U,U,U,U,U,U,U] h e
@[simp] theorem TT:aG Tryz.prog wy=some TV:=by kernel_rfl
@[simp] theorem asG:aA Tryz.prog wy=true:=by kernel_rfl
abbrev ytC:zR:=[ab 4 0,o 5 (.cmp .neq (.sc .str) (.t 4) (.c (.str []))),ab 6 5,cF 7 6 0,oy 8 6 (.vd (.t 7)),oy 9 6 (.cmp .leq (.sc .int) (.t 8) (.c (.int .i64 40))),cp 10 6 9,ab 11 10,cF 12 11 0,cF 13 11 3,oy 14 11 (.call (.f Ai) [.t 12,.t 13]),oy 15 11 (.cmp .lss (.sc .int) (.t 14) (.c (.int .i64 0))),cp 16 11 15,ab 2 16]
abbrev ytD:zR:=[o 3 (.mv (.f rU))]
abbrev U0:aH:=⟨.seq (.ae yI) (.seq (.ae ytD) (.seq (.ae ytC) .ret)),17,[.tmp 2]⟩
@[simp] theorem UL:aG Tryz.prog Ak=some U0:=by kernel_rfl
@[simp] theorem ati:aA Tryz.prog Ak=true:=by kernel_rfl
abbrev ytF:zR:=[ab 4 0,ak 5 2 1,ai 6 1 5,aZ 7 6,dp 8 Bh 4 7,o 9 (.not (.t 8)),ab 3 9]
abbrev Ib:zR:=[nB 3]
abbrev Yp:aH:=⟨.seq (.ae Ib) (.seq (.ae ytF) .ret),10,[.tmp 3]⟩
@[simp] theorem WC:aG Tryz.prog Az=some Yp:=by kernel_rfl
@[simp] theorem aut:aA Tryz.prog Az=true:=by kernel_rfl
abbrev ytH:zR:=[ab 5 0,o 6 (.vd (.t 5)),ab 7 1,o 8 (.cmp .eql (.sc .int) (.t 6) (.t 7)),ab 9 8,cF 10 9 0,oy 11 9 (.call (.f D2) [.t 10,.c (.str [48,49,45])]),oy 12 9 (.cmp .eql (.sc .str) (.t 11) (.c (.str []))),cp 13 9 12,ab 4 13]
abbrev ac4:aH:=⟨.seq (.ae nk) (.seq (.ae ytH) .ret),14,[.tmp 4]⟩
@[simp] theorem YR:aG Tryz.prog Bh=some ac4:=by kernel_rfl
@[simp] theorem avw:aA Tryz.prog Bh=true:=by kernel_rfl
abbrev ytJ:zR:=[ab 13 6,ab 14 13,cF 15 14 1,oy 16 14 (.fw 2 1 (.t 5) (.c (.int .i64 0))),de 17 14 1 16,oy 18 14 (.cmp .geq (.sc .int) (.t 15) (.t 17)),cp 19 14 18,ab 20 19,cF 21 20 1,oy 22 20 (.fw 2 1 (.t 5) (.c (.int .i64 1))),de 23 20 1 22,oy 24 20 (.cmp .leq (.sc .int) (.t 21) (.t 23)),cp 25 20 24,ab 4 25]
abbrev ytK:zR:=[o 8 (.load false 1 (.g 1)),ab 9 0,o 10 (.lookup (.sc .int) (.agg [.int .i64 0,.int .i64 0]) (.t 8) (.t 9) true),ab 7 10,bt 11 7 0,bt 12 7 1,o 5 (.alloc [.int .i64 0,.int .i64 0]),aT 2 5 11,ab 6 12]
abbrev ac6:aH:=⟨.seq (.ae nk) (.seq (.ae ytK) (.seq (.ae ytJ) .ret)),26,[.tmp 4]⟩
@[simp] theorem LW:aG Tryz.prog uA=some ac6:=by kernel_rfl
@[simp] theorem avG:aA Tryz.prog uA=true:=by kernel_rfl
abbrev ytM:zR:=[ab 5 0,ab 6 1,dp 7 wz 5 6,o 8 (.cmp .geq (.sc .int) (.t 7) (.c (.int .i64 0))),ab 4 8]
abbrev TW:aH:=⟨.seq (.ae nk) (.seq (.ae ytM) .ret),9,[.tmp 4]⟩
@[simp] theorem TU:aG Tryz.prog tH=some TW:=by kernel_rfl
@[simp] theorem asI:aA Tryz.prog tH=true:=by kernel_rfl
abbrev ytO:zR:=[ab 4 0,o 5 (.cmp .lss (.sc .int) (.t 4) (.c (.int .i64 0))),ab 6 5,on 7 6 (.mv (.t 0)),on 8 6 (.load false 1 (.t 1)),on 9 6 (.cmp .geq (.sc .int) (.t 7) (.t 8)),o 10 (.pick (.t 6) (.c (.bool true)) (.t 9)),ab 3 10]
abbrev Xm:aH:=⟨.seq (.ae Ib) (.seq (.ae ytO) .ret),11,[.tmp 3]⟩
@[simp] theorem VZ:aG Tryz.prog At=some Xm:=by kernel_rfl
@[simp] theorem aue:aA Tryz.prog At=true:=by kernel_rfl
abbrev ytQ:zR:=[ab 3 0,o 4 (.cmp .lss (.sc .int) (.t 3) (.c (.int .i64 0))),ab 5 4,on 6 5 (.mv (.t 0)),on 7 5 (.cmp .gtr (.sc .int) (.t 6) (.c (.int .i64 2))),o 8 (.pick (.t 5) (.c (.bool true)) (.t 7)),ab 2 8]
abbrev WQ:aH:=⟨.seq (.ae yI) (.seq (.ae ytQ) .ret),9,[.tmp 2]⟩
@[simp] theorem Wc:aG Tryz.prog Ar=some WQ:=by kernel_rfl
@[simp] theorem atZ:aA Tryz.prog Ar=true:=by kernel_rfl
abbrev ytS:zR:=[ab 5 0,ab 6 1,dp 7 wC 5 6,o 8 (.cmp .geq (.sc .int) (.t 7) (.c (.int .i64 0))),ab 4 8]
abbrev T':aH:=⟨.seq (.ae nk) (.seq (.ae ytS) .ret),9,[.tmp 4]⟩
@[simp] theorem T3:aG Tryz.prog tI=some T':=by kernel_rfl
@[simp] theorem asO:aA Tryz.prog tI=true:=by kernel_rfl
abbrev ytU:zR:=[ab 3 0,bf 4 wX 3,o 5 (.not (.t 4)),ab 2 5]
abbrev W7:aH:=⟨.seq (.ae yI) (.seq (.ae ytU) .ret),6,[.tmp 2]⟩
@[simp] theorem Wf:aG Tryz.prog Av=some W7:=by kernel_rfl
@[simp] theorem aub:aA Tryz.prog Av=true:=by kernel_rfl
abbrev ytW:zR:=[ab 49 3,ab 2 49]
abbrev ytX:zB:=O::I::O::I::(by(iterate 16 refine O::?_);exact I::I::I::(by(iterate 27 refine O::?_);exact[]))
abbrev ytY:zB:=O::O::O::I::(by(iterate 46 refine O::?_);exact[])
abbrev ytZ:zR:=[bS 48 22 1,ab 22 48]
abbrev yua:zR:=[ab 38 3,o 39 (.br (.t 38)),ak 40 5 39,ai 41 1 40,aQ 42 2 5,aQ 43 5 1,bf 44 nL 43,ab 45 4,o 46 (.bP .add (.t 44) (.t 45)),o 47 (.bP .mul (.c (.int .i64 2)) (.t 46)),q (.bD (.lY [.int,.int]) (.t 41) (.t 42) (.t 47))]
abbrev yub:zR:=[ab 36 7,o 37 (.not (.t 36))]
abbrev yuc:zR:=[ab 28 3,o 29 (.br (.t 28)),ak 30 5 29,ai 31 1 30,aQ 32 2 5,o 33 (.lookup (.lY [.int,.int]) (.int .i64 0) (.t 31) (.t 32) true),ab 27 33,bt 34 27 0,bt 35 27 1,ab 6 34,ab 7 35]
abbrev yud:zR:=[ab 24 22,bn 25 2 20 22,aQ 26 2 25,o 5 (.alloc [.int .i64 0,.int .i64 0]),ab 4 24,aT 2 5 26]
abbrev yue:al:=.seq (.ae yud) (.seq (.aX [O,O,O,O,O,O,O,O,O,O,O] [12,12,12,12,12,12,12,12,12,12,12] yuc) (.seq (.ae yub) (.cond (.t 37) (.aX [O,O,O,I,I,O,O,O,O,O,O] [11,11,11,11,11,7,11,11,11,11,12] yua) .skip)))
abbrev yuf:zR:=[cR 23 22 21]
abbrev yug:al:=.seq (.ae yuf) (.seq (.cond (.t 23) .skip (.exit 0)) (.seq (.block 1 [] yue) (.ae ytZ)))
abbrev yuh:zR:=[ak 19 3 1,ai 20 1 19,aZ 21 20,a_ 22 0]
abbrev yui:zR:=[ab 12 3,ak 13 3 1,ai 14 1 13,bf 15 Ad 14,o 16 (.br (.t 12)),ak 17 0 16,ak 18 3 17,aT 1 18 15]
abbrev yuj:zR:=[aQ 8 5 1,o 9 (.mkMap),o 10 (.build [.int .i64 0,.list true 0 [],.list true 0 [],.list true 0 [],.list true 0 [],.cO,.list true 0 []] [(0,5,.t 8),(5,1,.t 9)]),o 11 (.box 7 (.t 10)),ab 3 11]
abbrev YY:aH:=⟨.seq (.ae R0) (.seq (.ae yuj) (.seq (.ae yui) (.seq (.seq (.ae yuh) (.block 0 ytY (.loop ytX yug))) (.seq (.ae ytW) .ret)))),50,[.tmp 2]⟩
@[simp] theorem Xq:aG Tryz.prog AJ=some YY:=by kernel_rfl
@[simp] theorem auZ:aA Tryz.prog AJ=true:=by kernel_rfl
abbrev yul:zR:=[o 5 (.lit 1 [] []),ab 6 0,o 7 (.append 1 av 8 (.t 5) (.t 6)),ab 2 7]
abbrev Im:zR:=[o 2 (.cN 1 av)]
abbrev yun:al:=.seq (.ae Im) .ret
abbrev Uw:aH:=⟨.seq (.ae Im) (.seq (.seq (.ae HK) (.cond (.t 4) yun .skip)) (.seq (.ae yul) .ret)),8,[.tmp 2]⟩
@[simp] theorem Un:aG Tryz.prog Ae=some Uw:=by kernel_rfl
@[simp] theorem asZ:aA Tryz.prog Ae=true:=by kernel_rfl
abbrev Rw:zR:=[ab 24 5,ab 4 24]
abbrev S5:zB:=[O,O,O,O,O,I,I,O,O,O,O,I,I,I,O,O,O,O,O,O,O,O,O,O,O]
abbrev Rs:zB:=O::O::O::O::O::I::(by(iterate 19 refine O::?_);exact[])
abbrev yut:zR:=[bS 23 13 1,ab 13 23]
abbrev yuu:zR:=[ab 17 5,ab 18 6,ab 19 8,o 20 (.call (.t 18) [.t 19]),o 21 (.lit 1 [.int .i64 0] [(0,.t 20)]),o 22 (.append 1 av 8 (.t 17) (.t 21)),ab 5 22]
abbrev yuv:zR:=[bn 15 1 11 13,ai 16 1 15,ab 8 16]
abbrev yuw:al:=.seq (.ae yuv) (.ae yuu)
abbrev yux:zR:=[cR 14 13 12]
abbrev ID:al:=.seq (.ae yux) (.seq (.cond (.t 14) .skip (.exit 0)) (.seq (.block 1 [] yuw) (.ae yut)))
abbrev yuz:zR:=[ab 11 1,aZ 12 11,a_ 13 0]
abbrev yuA:zR:=[ab 9 0,o 10 (.iE (.func oz) [.t 9] []),ab 6 10]
abbrev yuB:zR:=[o 5 (.cN 1 av)]
abbrev Rf:zR:=[o 4 (.cN 1 av)]
abbrev Vt:aH:=⟨.seq (.ae Rf) (.seq (.ae yuB) (.seq (.ae yuA) (.seq (.seq (.ae yuz) (.block 0 Rs (.loop S5 ID))) (.seq (.ae Rw) .ret)))),25,[.tmp 4]⟩
abbrev yuD:zI:=[.code (.seq (.ae Rw) .ret)]
abbrev TB(x5 x6 x11 x12 x13:AV)(h:List Ob)(e:Cx:=cx):ar:=bl rV (.code ID::.inLoop S5 ID::.inBlock 0 Rs::yuD) [U,U,U,U,U,x5,x6,U,U,U,U,x11,x12,x13,U,U,U,U,U,U,U,U,U,U,U] h e
@[simp] theorem Ka:aG Tryz.prog rV=some Vt:=by kernel_rfl
@[simp] theorem atv:aA Tryz.prog rV=true:=by kernel_rfl
abbrev yuF:zR:=[o 5 (.iE (.func pA) [] [.t 2,.t 3]),ab 4 5]
abbrev yuG:zR:=[o 2 (.box 5 (.t 0)),o 3 (.box 1 (.t 1)),o 4 (.mv (.c .dE))]
abbrev Xh:aH:=⟨.seq (.ae yuG) (.seq (.ae yuF) .ret),6,[.tmp 4]⟩
@[simp] theorem VJ:aG Tryz.prog D5=some Xh:=by kernel_rfl
@[simp] theorem atX:aA Tryz.prog D5=true:=by kernel_rfl
abbrev RI:zB:=I::I::(by(iterate 21 refine O::?_);exact[])
abbrev S8:zB:=(by(iterate 23 refine O::?_);exact[])
abbrev yuJ:zR:=[ab 22 4,ab 1 22]
abbrev yuK:zR:=[ab 18 0,ab 19 4,ab 20 1,o 21 (.invoke (.t 18) "Swap" [.t 19,.t 20])]
abbrev yuL:zR:=[ab 8 4,ab 9 1,o 10 (.cmp .eql (.sc .int) (.t 8) (.t 9)),ab 11 10,on 12 11 (.mv (.t 0)),on 13 11 (.mv (.t 1)),on 14 11 (.mv (.t 4)),on 15 11 (.invoke (.t 12) "Less" [.t 13,.t 14]),on 16 11 (.not (.t 15)),o 17 (.pick (.t 11) (.c (.bool true)) (.t 16))]
abbrev yuM:zR:=[ab 5 1,o 6 (.bP .sub (.t 5) (.c (.int .i64 1))),o 7 (.bP .quo (.t 6) (.c (.int .i64 2))),ab 4 7]
abbrev yuN:al:=.seq (.ae yuM) (.seq (.seq (.ae yuL) (.cond (.t 17) (.exit 0) .skip)) (.seq (.ae yuK) (.ae yuJ)))
abbrev IU:al:=.block 1 [] yuN
abbrev UR:aH:=⟨.block 0 S8 (.loop RI IU),23,[]⟩
abbrev yuQ(x0 x1:AV)(h:List Ob)(e:Cx:=cx):ar:=bl wG (.code IU::.inLoop RI IU::.inBlock 0 S8::Dr) (x0::x1::(by(iterate 21 refine U::?_);exact[])) h e
@[simp] theorem UD:aG Tryz.prog wG=some UR:=by kernel_rfl
@[simp] theorem atc:aA Tryz.prog wG=true:=by kernel_rfl
abbrev Si:zR:=[ab 45 7,ab 46 1,o 47 (.cmp .gtr (.sc .int) (.t 45) (.t 46)),ab 6 47]
abbrev Tc:zB:=I::I::I::O::O::O::O::I::(by(iterate 40 refine O::?_);exact[])
abbrev Q7:zB:=O::I::O::O::O::O::O::I::(by(iterate 40 refine O::?_);exact[])
abbrev yuU:zR:=[ab 44 9,ab 7 44]
abbrev yuV:zR:=[ab 40 0,ab 41 7,ab 42 9,o 43 (.invoke (.t 40) "Swap" [.t 41,.t 42])]
abbrev yuW:zR:=[ab 35 0,ab 36 9,ab 37 7,o 38 (.invoke (.t 35) "Less" [.t 36,.t 37]),o 39 (.not (.t 38))]
abbrev yuX:zR:=[ab 34 10,ab 9 34]
abbrev yuY:zR:=[ab 25 10,ab 26 2,cR 27 25 26,ab 28 27,cF 29 28 0,cF 30 28 10,cF 31 28 8,oy 32 28 (.invoke (.t 29) "Less" [.t 30,.t 31]),cp 33 28 32]
abbrev yuZ:zR:=[ab 23 8,bS 24 23 1,ab 10 24]
abbrev yva:zR:=[ab 22 8,ab 9 22]
abbrev yvb:zR:=[ab 15 8,ab 16 2,o 17 (.cmp .geq (.sc .int) (.t 15) (.t 16)),ab 18 17,on 19 18 (.mv (.t 8)),on 20 18 (.cmp .lss (.sc .int) (.t 19) (.c (.int .i64 0))),o 21 (.pick (.t 18) (.c (.bool true)) (.t 20))]
abbrev yvc:zR:=[ab 12 7,o 13 (.bP .mul (.c (.int .i64 2)) (.t 12)),bS 14 13 1,ab 8 14]
abbrev yvd:al:=.seq (.ae yvc) (.seq (.seq (.ae yvb) (.cond (.t 21) (.exit 0) .skip)) (.seq (.ae yva) (.seq (.seq (.ae yuZ) (.seq (.ae yuY) (.cond (.t 33) (.ae yuX) .skip))) (.seq (.seq (.ae yuW) (.cond (.t 39) (.exit 0) .skip)) (.seq (.ae yuV) (.ae yuU))))))
abbrev Jb:al:=.block 1 [] yvd
abbrev yvf:zR:=[ab 11 1,ab 7 11]
abbrev UG:aH:=⟨.seq (.ae IX) (.seq (.ae yvf) (.seq (.block 0 Q7 (.loop Tc Jb)) (.seq (.ae Si) .ret))),48,[.tmp 6]⟩
abbrev yvh:zI:=[.code (.seq (.ae Si) .ret)]
abbrev yvi(x0 x1 x2 x7:AV)(h:List Ob)(e:Cx:=cx):ar:=bl wE (.code Jb::.inLoop Tc Jb::.inBlock 0 Q7::yvh) (x0::x1::x2::U::U::U::U::x7::(by(iterate 40 refine U::?_);exact[])) h e
@[simp] theorem Uq:aG Tryz.prog wE=some UG:=by kernel_rfl
@[simp] theorem as7:aA Tryz.prog wE=true:=by kernel_rfl
@[simp] theorem atL:aA Tryz.prog D2=true:=by kernel_rfl
abbrev yvj:zR:=[ak 29 0 6,ai 30 1 29,ab 31 1,o 32 (.call (.t 30) [.t 31]),ak 33 1 6,ai 34 1 33,o 35 (.cmp .neq (.sc .bool) (.t 32) (.t 34)),ab 4 35,a_ 5 0]
abbrev yvk:zR:=[o 27 (.iE (.func Au) [] [.t 2]),ak 28 0 6,aT 1 28 27]
abbrev yvl:zR:=[ak 24 4 2,ai 25 1 24,ak 26 1 6,aT 1 26 25]
abbrev yvm:al:=.seq (.ae yvl) (.ae yvk)
abbrev yvn:zR:=[ak 21 1 2,ai 22 1 21,o 23 (.cmp .eql (.sc .int) (.t 22) (.c (.int .i64 10)))]
abbrev yvo:zR:=[ak 18 1 2,ai 19 1 18,bf 20 A7 19,o 6 (.alloc [.dE,.bool false]),aT 2 6 20]
abbrev yvp:zR:=[nB 4,a_ 5 1]
abbrev yvq:al:=.seq (.ae yvp) .ret
abbrev yvr:zR:=[aQ 7 5 2,bf 8 xk 7,o 9 (.not (.t 8)),ab 10 9,on 11 10 (.mv (.t 1)),on 12 10 (.len (.t 11)),on 13 10 (.off 2 (.t 2)),on 14 10 (.load false 1 (.t 13)),on 15 10 (.len (.t 14)),on 16 10 (.cmp .neq (.sc .int) (.t 12) (.t 15)),o 17 (.pick (.t 10) (.c (.bool true)) (.t 16))]
abbrev yvs:zR:=[o 2 (.box 5 (.t 0)),nB 4,a_ 5 0]
abbrev Z':aH:=⟨.seq (.ae yvs) (.seq (.seq (.ae yvr) (.cond (.t 17) yvq .skip)) (.seq (.ae yvo) (.seq (.seq (.ae yvn) (.cond (.t 23) yvm .skip)) (.seq (.aX [O,O,O,O,O,I,O,O,O] [4,4,4,10,10,10,10,10,10] yvj) .ret)))),36,[.tmp 4,.tmp 5]⟩
@[simp] theorem Xr:aG Tryz.prog AF=some Z':=by kernel_rfl
@[simp] theorem auS:aA Tryz.prog AF=true:=by kernel_rfl
abbrev yvu:zR:=[ab 17 0,ab 18 0,o 19 (.cap (.t 18)),o 20 (.slice 1 (.t 17) none (some (.t 19))),ab 21 1,o 22 (.sB 1 aY 1 (.bool false) (.t 20) (.t 21)),ab 23 0,aZ 24 23,o 25 (.slice 1 (.t 22) none (some (.t 24))),ab 0 25]
abbrev Ut:aH:=⟨.seq (.ae Il) (.seq (.seq (.ae I_) (.cond (.t 6) (.ae Iw) .skip)) (.seq (.seq (.ae HL) (.seq (.ae HJ) (.cond (.t 16) (.ae yvu) .skip))) (.seq (.ae Iv) .ret))),27,[.tmp 4]⟩
@[simp] theorem J3:aG Tryz.prog DN=some Ut:=by kernel_rfl
@[simp] theorem asY:aA Tryz.prog DN=true:=by kernel_rfl
abbrev R6:zB:=[I,I,O,I,O,O,O,O,O,O,O,O]
abbrev Sv:zB:=[O,O,O,O,O,O,O,O,O,O,O,O]
abbrev yvC:zR:=[ab 10 3,bS 11 10 1,ab 3 11]
abbrev yvD:zR:=[ab 4 0,ai 5 1 1,ab 6 3,bf 7 D1 6,o 8 (.concat (.t 5) (.t 7)),o 9 (.call (.t 4) [.t 8])]
abbrev HG:al:=.seq (.seq (.aX [O,I,O,O,O,O] [6,6,4,6,6,7] yvD) (.cond (.t 9) .skip (.exit 0))) (.seq (.block 1 [] .skip) (.ae yvC))
abbrev yvF:zR:=[a_ 3 1]
abbrev V6:aH:=⟨.seq (.ae yvF) (.block 0 Sv (.loop R6 HG)),12,[]⟩
abbrev Tv(x0 x1 x3:AV)(h:List Ob)(e:Cx:=cx):ar:=bl wM (.code HG::.inLoop R6 HG::.inBlock 0 Sv::Dr) [x0,x1,U,x3,U,U,U,U,U,U,U,U] h e
@[simp] theorem Vg:aG Tryz.prog wM=some V6:=by kernel_rfl
@[simp] theorem atK:aA Tryz.prog wM=true:=by kernel_rfl
@[simp] theorem atM:aA Tryz.prog D1=true:=by kernel_rfl
abbrev yvI:zR:=[ab 3 0,o 4 (.cmp .leq (.sc .int) (.t 3) (.c (.int .i32 32))),ab 5 4,on 6 5 (.mv (.t 0)),on 7 5 (.cmp .gtr (.sc .int) (.t 6) (.c (.int .i32 126))),o 8 (.pick (.t 5) (.c (.bool true)) (.t 7)),ab 2 8]
abbrev UI:aH:=⟨.seq (.ae yI) (.seq (.ae yvI) .ret),9,[.tmp 2]⟩
@[simp] theorem Uu:aG Tryz.prog rU=some UI:=by kernel_rfl
@[simp] theorem as8:aA Tryz.prog rU=true:=by kernel_rfl
abbrev yvK:zR:=[ab 5 0,ab 6 1,o 7 (.call (.f wH) [.t 5,.t 6,.c (.bool true)]),ab 4 7]
abbrev UW:aH:=⟨.seq (.ae vX) (.seq (.ae yvK) .ret),8,[.tmp 4]⟩
@[simp] theorem Uz:aG Tryz.prog Ai=some UW:=by kernel_rfl
@[simp] theorem ate:aA Tryz.prog Ai=true:=by kernel_rfl
abbrev yvS:zR:=[ab 11 1,ab 12 0,ab 13 5,bn 14 1 12 13,ai 15 1 14,o 16 (.call (.t 11) [.t 15])]
abbrev yvU:al:=.seq (.ae IV) (.seq (.ae yvS) (.cond (.t 16) Ir .skip))
abbrev vK:al:=.seq (.ae Ds) (.seq (.cond (.t 9) .skip (.exit 0)) (.seq (.block 1 [] yvU) (.ae I5)))
abbrev T0:aH:=⟨.seq (.ae vX) (.seq (.seq (.ae zx) (.block 0 ny (.loop rG vK))) (.seq (.ae vF) .ret)),19,[.tmp 4]⟩
abbrev ywa(x0 x1 x7 x8:AV)(h:List Ob)(e:Cx:=cx):ar:=bl wz (.code vK::.inLoop rG vK::.inBlock 0 ny::Dj) [x0,x1,U,U,U,U,U,x7,x8,U,U,U,U,U,U,U,U,U,U] h e
@[simp] theorem TX:aG Tryz.prog wz=some T0:=by kernel_rfl
@[simp] theorem asK:aA Tryz.prog wz=true:=by kernel_rfl
abbrev Uj:aH:=⟨.seq (.ae vX) (.seq (.seq (.ae zx) (.block 0 ny (.loop rG vK))) (.seq (.ae vF) .ret)),19,[.tmp 4]⟩
abbrev ywp(x0 x1 x7 x8:AV)(h:List Ob)(e:Cx:=cx):ar:=bl wC (.code vK::.inLoop rG vK::.inBlock 0 ny::Dj) [x0,x1,U,U,U,U,U,x7,x8,U,U,U,U,U,U,U,U,U,U] h e
@[simp] theorem Ug:aG Tryz.prog wC=some Uj:=by kernel_rfl
@[simp] theorem asU:aA Tryz.prog wC=true:=by kernel_rfl
abbrev ywq:zR:=[o 5 (.lit 2 [] []),ab 6 0,o 7 (.append 2 dv 16 (.t 5) (.t 6)),ab 2 7]
abbrev SZ:zR:=[o 2 (.cN 2 dv)]
abbrev yws:al:=.seq (.ae SZ) .ret
abbrev Ui:aH:=⟨.seq (.ae SZ) (.seq (.seq (.ae HK) (.cond (.t 4) yws .skip)) (.seq (.ae ywq) .ret)),8,[.tmp 2]⟩
@[simp] theorem Ud:aG Tryz.prog Ad=some Ui:=by kernel_rfl
@[simp] theorem asV:aA Tryz.prog Ad=true:=by kernel_rfl
abbrev ywv:zR:=[o 7 (.alloc [.int .i64 0,.int .i64 0]),aT 2 7 28]
abbrev yww:zR:=[ab 6 27]
abbrev ywx:zR:=[ai 29 1 2,aQ 30 5 1,bf 31 nL 30,ab 32 6,o 33 (.bP .add (.t 31) (.t 32)),bn 34 1 29 33,ai 35 1 34,ab 36 35,de 37 36 1 3,oy 38 36 (.fw 2 1 (.t 7) (.c (.int .i64 0))),de 39 36 1 38,oy 40 36 (.call (.t 37) [.t 39]),oy 41 36 (.not (.t 40)),cF 42 36 41,on 43 42 (.load false 1 (.t 3)),on 44 42 (.fw 2 1 (.t 7) (.c (.int .i64 1))),on 45 42 (.load false 1 (.t 44)),on 46 42 (.call (.t 43) [.t 45]),on 47 42 (.not (.t 46)),oy 48 36 (.pick (.t 42) (.c (.bool true)) (.t 47)),cp 49 36 48]
abbrev ywy:al:=.seq (.aX (I::(by(iterate 20 refine O::?_);exact[])) [12,3,12,12,12,12,12,12,12,12,12,18,18,18,18,18,18,22,22,22,22] ywx) (.cond (.t 49) .ret .skip)
abbrev IP:al:=.seq (.ae yww) (.ae ywv)
abbrev H3:al:=.block 3 [] ywy
abbrev Sc:al:=.rangeFunc (.t 26) [27,28] (O::I::I::I::(by(iterate 46 refine O::?_);exact[])) IP H3
abbrev Rb:zR:=[ak 24 3 1,ai 25 1 24,bf 26 DL 25]
abbrev Q2:zB:=O::I::I::I::O::O::O::O::O::O::O::O::O::I::I::I::(by(iterate 34 refine O::?_);exact[])
abbrev Sj:zB:=O::I::I::I::(by(iterate 46 refine O::?_);exact[])
abbrev ywF:zR:=[bS 23 15 1,ab 15 23]
abbrev ywG:zR:=[ai 19 1 3,ab 20 5,o 21 (.call (.t 19) [.t 20]),o 22 (.not (.t 21))]
abbrev ywH:zR:=[bn 17 1 13 15,ai 18 1 17,ab 5 18]
abbrev ywI:al:=.seq (.ae ywH) (.seq (.ae ywG) (.cond (.t 22) .ret .skip))
abbrev ywJ:zR:=[cR 16 15 14]
abbrev Is:al:=.seq (.ae ywJ) (.seq (.cond (.t 16) .skip (.exit 0)) (.seq (.block 1 [] ywI) (.ae ywF)))
abbrev ywL:zR:=[ak 8 1 1,ai 9 1 8,ak 10 4 1,ai 11 1 10,o 12 (.lit 1 [.list true 0 [],.list true 0 []] [(0,.t 9),(1,.t 11)]),bf 13 qQ 12,aZ 14 13,a_ 15 0]
abbrev ywM:zR:=[o 3 (.box 1 (.t 0))]
abbrev VS:aH:=⟨.seq (.ae ywM) (.seq (.seq (.ae ywL) (.block 0 Sj (.loop Q2 Is))) (.seq (.ae Rb) (.block 2 [] Sc))),50,[]⟩
abbrev Tw:zI:=[.code (.seq (.ae Rb) (.block 2 [] Sc))]
abbrev ywO(x1 x2 x3 x13 x14 x15:AV)(h:List Ob)(e:Cx:=cx):ar:=bl pA (.code Is::.inLoop Q2 Is::.inBlock 0 Sj::Tw) (U::x1::x2::x3::U::U::U::U::U::U::U::U::U::x13::x14::x15::(by(iterate 34 refine U::?_);exact[])) h e
abbrev Ic(x1 x2 x3:AV)(h:List Ob)(e:Cx:=cx):ar:=bl pA Tw (U::x1::x2::x3::(by(iterate 46 refine U::?_);exact[])) h e
@[simp] theorem Vl:aG Tryz.prog pA=some VS:=by kernel_rfl
@[simp] theorem atH:aA Tryz.prog pA=true:=by kernel_rfl
abbrev ywU:zR:=[ab 31 6,ab 32 8,o 33 (.append 1 av 8 (.t 31) (.t 32)),ab 6 33]
abbrev ywW:al:=.seq (.ae Iz) (.ae ywU)
abbrev C5:al:=.seq (.ae zy) (.seq (.cond (.t 28) .skip (.exit 2)) (.seq (.block 3 [] ywW) (.ae Jg)))
abbrev Q4:zR:=[ab 23 3,o 24 (.call (.f DO) [.c (.list true 0 []),.t 23]),ab 6 24]
abbrev Us:aH:=⟨.seq (.ae Im) (.seq (.ae C_) (.seq (.seq (.ae Jc) (.block 0 vS (.loop vL qz))) (.seq (.ae Q4) (.seq (.seq (.ae vM) (.block 2 qy (.loop qB C5))) (.seq (.ae tw) .ret))))),36,[.tmp 2]⟩
abbrev S3(x6 x25 x26 x27:AV)(h:List Ob)(e:Cx:=cx):ar:=bl qQ (.code C5::.inLoop qB C5::.inBlock 2 qy::IC) (U::U::U::U::U::U::x6::(by(iterate 18 refine U::?_);exact[x25,x26,x27,U,U,U,U,U,U,U,U])) h e
abbrev yxq:zI:=[.code (.seq (.ae Q4) (.seq (.seq (.ae vM) (.block 2 qy (.loop qB C5))) (.seq (.ae tw) .ret)))]
abbrev RG(x0 x3 x9 x10 x11:AV)(h:List Ob)(e:Cx:=cx):ar:=bl qQ (.code qz::.inLoop vL qz::.inBlock 0 vS::yxq) (x0::U::U::x3::U::U::U::U::U::x9::x10::x11::(by(iterate 24 refine U::?_);exact[])) h e
@[simp] theorem J4:aG Tryz.prog qQ=some Us:=by kernel_rfl
@[simp] theorem asX:aA Tryz.prog qQ=true:=by kernel_rfl
abbrev yxs:zR:=[o 3 (.iE (.func wA) [] [.t 1]),ab 2 3]
abbrev T_:aH:=⟨.seq (.ae Sl) (.seq (.ae yxs) .ret),4,[.tmp 2]⟩
@[simp] theorem T7:aG Tryz.prog DL=some T_:=by kernel_rfl
@[simp] theorem asP:aA Tryz.prog DL=true:=by kernel_rfl
abbrev yxu:zR:=[aQ 35 2 3,aT 2 2 35]
abbrev yxv:zR:=[ak 34 0 3,q (.store 1 (.t 34) (.f xa))]
abbrev yxw:zR:=[ak 33 0 3,q (.store 1 (.t 33) (.f w6))]
abbrev yxx:zR:=[ak 32 0 3,q (.store 1 (.t 32) (.f w8))]
abbrev yxy:zR:=[ak 31 0 3,q (.store 1 (.t 31) (.f wY))]
abbrev yxz:zR:=[o 30 (.cmp .eql (.sc .int) (.t 13) (.c (.int .i64 9))),ab 28 30]
abbrev yxA:zR:=[o 29 (.cmp .eql (.sc .int) (.t 13) (.c (.int .i64 8))),ab 28 29]
abbrev yxB:zR:=[o 27 (.cmp .eql (.sc .int) (.t 13) (.c (.int .i64 7))),ab 25 27]
abbrev yxC:zR:=[o 26 (.cmp .eql (.sc .int) (.t 13) (.c (.int .i64 6))),ab 25 26]
abbrev yxD:zR:=[o 24 (.cmp .eql (.sc .int) (.t 13) (.c (.int .i64 5))),ab 22 24]
abbrev yxE:zR:=[o 23 (.cmp .eql (.sc .int) (.t 13) (.c (.int .i64 4))),ab 22 23]
abbrev yxF:zR:=[o 21 (.cmp .eql (.sc .int) (.t 13) (.c (.int .i64 3))),ab 20 21]
abbrev yxG:zR:=[o 19 (.cmp .eql (.sc .int) (.t 13) (.c (.int .i64 2))),ab 18 19]
abbrev yxH:zR:=[o 17 (.cmp .eql (.sc .int) (.t 13) (.c (.int .i64 1))),ab 16 17]
abbrev yxI:zR:=[o 15 (.cmp .eql (.sc .int) (.t 13) (.c (.int .i64 0))),ab 14 15]
abbrev yxJ:al:=.seq (.seq (.seq (.ae yxI) (.cond (.t 14) (.exit 2) .skip)) (.seq (.seq (.ae yxH) (.cond (.t 16) (.exit 3) .skip)) (.seq (.seq (.ae yxG) (.cond (.t 18) (.exit 4) .skip)) (.seq (.seq (.ae yxF) (.cond (.t 20) (.exit 5) .skip)) (.seq (.seq (.seq (.ae yxE) (.cond (.t 22) .skip (.ae yxD))) (.cond (.t 22) (.exit 6) .skip)) (.seq (.seq (.seq (.ae yxC) (.cond (.t 25) .skip (.ae yxB))) (.cond (.t 25) (.exit 7) .skip)) (.seq (.seq (.ae yxA) (.cond (.t 28) .skip (.ae yxz))) (.cond (.t 28) (.exit 8) .skip)))))))) (.exit 1)
abbrev yxK:al:=.block 2 [] yxJ
abbrev yxL:al:=.seq (.block 3 [] yxK) (.seq (.ae yxy) (.exit 1))
abbrev yxM:al:=.block 4 [] yxL
abbrev yxN:al:=.block 5 [] yxM
abbrev yxO:al:=.seq (.block 6 [] yxN) (.seq (.ae yxx) (.exit 1))
abbrev yxP:al:=.seq (.block 7 [] yxO) (.seq (.ae yxw) (.exit 1))
abbrev yxQ:al:=.seq (.block 8 [] yxP) (.seq (.ae yxv) (.exit 1))
abbrev yxR:zR:=[ab 13 0]
abbrev yxS:zR:=[ak 12 1 3,q (.store 1 (.t 12) (.c (.bool true)))]
abbrev yxT:zR:=[o 11 (.cmp .eql (.sc .int) (.t 5) (.c (.int .i64 9))),ab 6 11]
abbrev yxU:zR:=[o 10 (.cmp .eql (.sc .int) (.t 5) (.c (.int .i64 7))),ab 6 10]
abbrev yxV:al:=.seq (.ae yxU) (.cond (.t 6) .skip (.ae yxT))
abbrev yxW:zR:=[o 9 (.cmp .eql (.sc .int) (.t 5) (.c (.int .i64 5))),ab 6 9]
abbrev yxX:al:=.seq (.ae yxW) (.cond (.t 6) .skip yxV)
abbrev yxY:zR:=[o 8 (.cmp .eql (.sc .int) (.t 5) (.c (.int .i64 3))),ab 6 8]
abbrev yxZ:al:=.seq (.ae yxY) (.cond (.t 6) .skip yxX)
abbrev yya:zR:=[o 7 (.cmp .eql (.sc .int) (.t 5) (.c (.int .i64 1))),ab 6 7]
abbrev yyb:al:=.seq (.seq (.ae yya) (.cond (.t 6) .skip yxZ)) (.cond (.t 6) (.ae yxS) .skip)
abbrev yyc:zR:=[ab 5 0]
abbrev yyd:zR:=[o 4 (.build [.dE,.bool false] []),o 3 (.alloc [.dE,.bool false]),aT 2 3 4]
abbrev yye:zR:=[o 2 (.alloc [.dE,.bool false])]
abbrev adz:aH:=⟨.seq (.ae yye) (.seq (.ae yyd) (.seq (.seq (.ae yyc) (.block 0 [] yyb)) (.seq (.seq (.ae yxR) (.block 1 [] yxQ)) (.seq (.ae yxu) .ret)))),36,[.cell 2 true 2]⟩
@[simp] theorem Zw:aG Tryz.prog A7=some adz:=by kernel_rfl
@[simp] theorem avN:aA Tryz.prog A7=true:=by kernel_rfl
abbrev yyf:zR:=[ak 4 3 1,ai 5 1 4,o 6 (.iE (.func Ap) [] [.t 2]),dp 7 tH 5 6,ab 3 7]
abbrev yyg:zR:=[o 2 (.box 1 (.t 0)),nB 3]
abbrev XD:aH:=⟨.seq (.ae yyg) (.seq (.ae yyf) .ret),8,[.tmp 3]⟩
@[simp] theorem VT:aG Tryz.prog Au=some XD:=by kernel_rfl
@[simp] theorem atT:aA Tryz.prog Au=true:=by kernel_rfl
abbrev yyh:zR:=[ab 4 0,ai 5 1 1,dp 6 wZ 4 5,ab 3 6]
abbrev Wb:aH:=⟨.seq (.ae Ib) (.seq (.ae yyh) .ret),7,[.tmp 3]⟩
@[simp] theorem Vp:aG Tryz.prog Ap=some Wb:=by kernel_rfl
@[simp] theorem atF:aA Tryz.prog Ap=true:=by kernel_rfl
abbrev Q6:zB:=I::O::O::O::O::O::O::I::I::I::(by(iterate 17 refine O::?_);exact[])
abbrev Q8:zB:=(by(iterate 27 refine O::?_);exact[])
abbrev yym:zR:=[bS 26 9 1,ab 9 26]
abbrev yyp:zR:=[ab 14 0,ab 15 5,o 16 (.y6 (.t 14) (.t 15)),o 17 (.cmp .neq (.sc .int) (.t 16) (.c (.int .u8 45))),ab 18 17,cF 19 18 0,cF 20 18 5,oy 21 18 (.y6 (.t 19) (.t 20)),oy 22 18 (.cmp .eql (.sc .int) (.t 21) (.c (.int .u8 49))),cF 23 18 6,oy 24 18 (.cmp .neq (.sc .bool) (.t 22) (.t 23)),cp 25 18 24]
abbrev yyq:zR:=[ab 11 9,bn 12 1 7 9,ai 13 1 12,ab 5 11,ab 6 13]
abbrev yyr:al:=.seq (.ae yyq) (.seq (.ae yyp) (.cond (.t 25) vY .skip))
abbrev Jx:al:=.seq (.ae Dw) (.seq (.cond (.t 10) .skip (.exit 0)) (.seq (.block 1 [] yyr) (.ae yym)))
abbrev yyu:zR:=[ab 7 1,aZ 8 7,a_ 9 0]
abbrev YS:aH:=⟨.seq (.ae nk) (.seq (.seq (.ae yyu) (.block 0 Q8 (.loop Q6 Jx))) (.seq (.ae C8) .ret)),27,[.tmp 4]⟩
abbrev yyx(x0 x7 x8 x9:AV)(h:List Ob)(e:Cx:=cx):ar:=bl wZ (.code Jx::.inLoop Q6 Jx::.inBlock 0 Q8::IA) (x0::U::U::U::U::U::U::x7::x8::x9::(by(iterate 17 refine U::?_);exact[])) h e
@[simp] theorem Xn:aG Tryz.prog wZ=some YS:=by kernel_rfl
@[simp] theorem auP:aA Tryz.prog wZ=true:=by kernel_rfl
abbrev Tm:zR:=[o 6 (.mv (.c (.int .i64 (-1))))]
abbrev RV:zB:=[O,I,I,O,O,O,O,O,O,O,I,O,O,O,O,O,O,O,O,O,O]
abbrev SX:zB:=(by(iterate 21 refine O::?_);exact[])
abbrev yyB:zR:=[ab 20 7,ab 6 20]
abbrev yyC:al:=.seq (.ae yyB) .ret
abbrev yyD:zR:=[ab 15 1,ab 16 8,o 17 (.call (.t 15) [.t 16]),ab 18 2,o 19 (.cmp .eql (.sc .bool) (.t 17) (.t 18))]
abbrev yyE:zR:=[bt 13 11 1,bt 14 11 2,ab 7 13,ab 8 14]
abbrev yyF:al:=.seq (.ae yyE) (.seq (.ae yyD) (.cond (.t 19) yyC .skip))
abbrev yyG:zR:=[o 11 (.next (.t 10)),bt 12 11 0]
abbrev Jh:al:=.seq (.ae yyG) (.seq (.cond (.t 12) .skip (.exit 0)) (.block 1 [] yyF))
abbrev yyI:zR:=[ab 9 0,o 10 (.range (.t 9))]
abbrev UQ:aH:=⟨.seq (.ae HH) (.seq (.seq (.ae yyI) (.block 0 SX (.loop RV Jh))) (.seq (.ae Tm) .ret)),21,[.tmp 6]⟩
abbrev yyK:zI:=[.code (.seq (.ae Tm) .ret)]
abbrev yyL(x1 x2 x10:AV)(h:List Ob)(e:Cx:=cx):ar:=bl wH (.code Jh::.inLoop RV Jh::.inBlock 0 SX::yyK) [U,x1,x2,U,U,U,U,U,U,U,x10,U,U,U,U,U,U,U,U,U,U] h e
@[simp] theorem UE:aG Tryz.prog wH=some UQ:=by kernel_rfl
@[simp] theorem atg:aA Tryz.prog wH=true:=by kernel_rfl
abbrev yyN:zR:=[ab 17 0,ab 18 0,o 19 (.cap (.t 18)),o 20 (.slice 1 (.t 17) none (some (.t 19))),ab 21 1,o 22 (.sB 1 av 8 (.int .i64 0) (.t 20) (.t 21)),ab 23 0,aZ 24 23,o 25 (.slice 1 (.t 22) none (some (.t 24))),ab 0 25]
abbrev UB:aH:=⟨.seq (.ae Rf) (.seq (.seq (.ae I_) (.cond (.t 6) (.ae Iw) .skip)) (.seq (.seq (.ae HL) (.seq (.ae HJ) (.cond (.t 16) (.ae yyN) .skip))) (.seq (.ae Iv) .ret))),27,[.tmp 4]⟩
@[simp] theorem J7:aG Tryz.prog DO=some UB:=by kernel_rfl
@[simp] theorem as6:aA Tryz.prog DO=true:=by kernel_rfl
abbrev Tf:zB:=I::I::O::I::(by(iterate 15 refine O::?_);exact[])
abbrev yyV:zR:=[ab 9 3,o 10 (.bP .sub (.t 9) (.c (.int .i64 1))),ab 3 10]
abbrev yyW:zR:=[ab 11 0,ab 12 3,ai 13 1 1,ab 14 3,bn 15 2 13 14,aQ 16 2 15,o 17 (.call (.t 11) [.t 12,.t 16]),o 18 (.not (.t 17))]
abbrev yyX:al:=.seq (.ae yyW) (.cond (.t 18) .ret .skip)
abbrev yyY:zR:=[ab 7 3,o 8 (.cmp .geq (.sc .int) (.t 7) (.c (.int .i64 0)))]
abbrev Ih:al:=.seq (.seq (.ae yyY) (.cond (.t 8) .skip (.exit 0))) (.seq (.block 1 [] yyX) (.ae yyV))
abbrev yza:zR:=[ai 4 1 1,aZ 5 4,o 6 (.bP .sub (.t 5) (.c (.int .i64 1))),ab 3 6]
abbrev T5:aH:=⟨.seq (.ae yza) (.block 0 ny (.loop Tf Ih)),19,[]⟩
abbrev yzc(x0 x1 x3:AV)(h:List Ob)(e:Cx:=cx):ar:=bl wA (.code Ih::.inLoop Tf Ih::.inBlock 0 ny::Dr) (x0::x1::U::x3::(by(iterate 15 refine U::?_);exact[])) h e
@[simp] theorem TY:aG Tryz.prog wA=some T5:=by kernel_rfl
@[simp] theorem asN:aA Tryz.prog wA=true:=by kernel_rfl
abbrev Y_:aH:=⟨.seq (.ae yI) (.seq (.ae yI) .ret),3,[.tmp 2]⟩
@[simp] theorem W_:aG Tryz.prog wY=some Y_:=by kernel_rfl
@[simp] theorem auy:aA Tryz.prog wY=true:=by kernel_rfl
abbrev yzf:zR:=[ab 3 0,bf 4 r8 3,ab 5 0,aZ 6 5,o 7 (.cmp .eql (.sc .int) (.t 4) (.t 6)),ab 2 7]
abbrev Zk:aH:=⟨.seq (.ae yI) (.seq (.ae yzf) .ret),8,[.tmp 2]⟩
@[simp] theorem WW:aG Tryz.prog w8=some Zk:=by kernel_rfl
@[simp] theorem auV:aA Tryz.prog w8=true:=by kernel_rfl
abbrev Tt:zR:=[ab 16 3,ab 2 16]
abbrev Rp:zB:=[O,O,O,I,O,O,I,I,I,O,O,O,O,O,O,O,O]
abbrev R3:zB:=O::O::O::I::(by(iterate 13 refine O::?_);exact[])
abbrev yzk:zR:=[bS 15 8 1,ab 8 15]
abbrev yzl:zR:=[ab 13 3,bS 14 13 1,ab 3 14]
abbrev yzm:zR:=[ab 12 5]
abbrev yzn:zR:=[bn 10 1 6 8,ai 11 1 10,ab 5 11]
abbrev yzo:al:=.seq (.ae yzn) (.seq (.ae yzm) (.cond (.t 12) (.ae yzl) .skip))
abbrev IZ:al:=.seq (.ae Ds) (.seq (.cond (.t 9) .skip (.exit 0)) (.seq (.block 1 [] yzo) (.ae yzk)))
abbrev Yx:aH:=⟨.seq (.ae vQ) (.seq (.ae C_) (.seq (.seq (.ae zx) (.block 0 R3 (.loop Rp IZ))) (.seq (.ae Tt) .ret))),17,[.tmp 2]⟩
abbrev yzu:zI:=[.code (.seq (.ae Tt) .ret)]
abbrev yzv(x3 x6 x7 x8:AV)(h:List Ob)(e:Cx:=cx):ar:=bl r8 (.code IZ::.inLoop Rp IZ::.inBlock 0 R3::yzu) [U,U,U,x3,U,U,x6,x7,x8,U,U,U,U,U,U,U,U] h e
@[simp] theorem WK:aG Tryz.prog r8=some Yx:=by kernel_rfl
@[simp] theorem auo:aA Tryz.prog r8=true:=by kernel_rfl
abbrev yzw:zR:=[ab 3 0,bf 4 r8 3,o 5 (.cmp .gtr (.sc .int) (.t 4) (.c (.int .i64 0))),ab 2 5]
abbrev aad:aH:=⟨.seq (.ae yI) (.seq (.ae yzw) .ret),6,[.tmp 2]⟩
@[simp] theorem Xg:aG Tryz.prog w6=some aad:=by kernel_rfl
@[simp] theorem auA:aA Tryz.prog w6=true:=by kernel_rfl
abbrev yzy:zR:=[ab 3 0,bf 4 r8 3,o 5 (.bP .rem (.t 4) (.c (.int .i64 2))),o 6 (.cmp .eql (.sc .int) (.t 5) (.c (.int .i64 1))),ab 2 6]
abbrev Zg:aH:=⟨.seq (.ae yI) (.seq (.ae yzy) .ret),7,[.tmp 2]⟩
@[simp] theorem XH:aG Tryz.prog xa=some Zg:=by kernel_rfl
@[simp] theorem auE:aA Tryz.prog xa=true:=by kernel_rfl
abbrev yzA:zR:=[ab 5 1,ak 6 0 2,o 7 (.fw 2 1 (.t 6) (.c (.int .i64 0))),ai 8 1 7,o 9 (.lookup (.sc .int) (.str []) (.t 5) (.t 8) false),ab 10 1,ak 11 0 2,o 12 (.fw 2 1 (.t 11) (.c (.int .i64 1))),ai 13 1 12,o 14 (.lookup (.sc .int) (.str []) (.t 10) (.t 13) false),o 15 (.lit 1 [.str [],.str []] [(0,.t 9),(1,.t 14)]),o 16 (.build [.str [],.int .i64 0,.list true 0 [],.list true 0 [],.bool false] [(1,1,.c (.int .i64 4)),(2,1,.t 15)]),aT 5 4 16]
abbrev yzB:zR:=[o 2 (.box 2 (.t 0)),o 4 (.alloc [.str [],.int .i64 0,.own 1 aw [],.own 1 aw [],.bool false])]
abbrev Vj:aH:=⟨.seq (.ae yzB) (.seq (.ae yzA) .ret),17,[.cell 4 true 5]⟩
@[simp] theorem UU:aG Tryz.prog An=some Vj:=by kernel_rfl
@[simp] theorem atu:aA Tryz.prog An=true:=by kernel_rfl
abbrev yzC:zR:=[o 8 (.build [.str [],.int .i64 0,.list true 0 [],.list true 0 [],.bool false] [(1,1,.c (.int .i64 0))]),aT 5 4 8]
abbrev yzD:zR:=[o 7 (.build [.str [],.int .i64 0,.list true 0 [],.list true 0 [],.bool false] [(1,1,.c (.int .i64 1))]),aT 5 4 7]
abbrev yzE:al:=.seq (.ae yzD) .ret
abbrev yzF:zR:=[ak 5 0 2,ai 6 1 5]
abbrev RB:zR:=[o 2 (.box 1 (.t 0)),o 4 (.alloc [.str [],.int .i64 0,.own 1 aw [],.own 1 aw [],.bool false])]
abbrev UF:aH:=⟨.seq (.ae RB) (.seq (.seq (.ae yzF) (.cond (.t 6) yzE .skip)) (.seq (.ae yzC) .ret)),9,[.cell 4 true 5]⟩
@[simp] theorem Up:aG Tryz.prog Af=some UF:=by kernel_rfl
@[simp] theorem as3:aA Tryz.prog Af=true:=by kernel_rfl
abbrev yzH:zR:=[ab 5 1,ak 6 0 2,ai 7 1 6,o 8 (.bP .xor (.t 7) (.c (.int .i64 1))),o 9 (.lookup (.sc .int) (.str []) (.t 5) (.t 8) false),o 10 (.lit 1 [.str []] [(0,.t 9)]),o 11 (.build [.str [],.int .i64 0,.list true 0 [],.list true 0 [],.bool false] [(1,1,.c (.int .i64 3)),(2,1,.t 10)]),aT 5 4 11]
abbrev UM:aH:=⟨.seq (.ae RB) (.seq (.ae yzH) .ret),12,[.cell 4 true 5]⟩
@[simp] theorem Uy:aG Tryz.prog Aj=some UM:=by kernel_rfl
@[simp] theorem atb:aA Tryz.prog Aj=true:=by kernel_rfl
abbrev yzJ:zR:=[ab 7 0,ab 8 1,bn 9 1 7 8,ai 10 1 9,ab 11 0,ab 12 2,bn 13 1 11 12,ai 14 1 13,cR 15 10 14,ab 6 15]
abbrev Vk:aH:=⟨.seq (.ae IX) (.seq (.aX [O,O,O,O,O,O,O,O,O,O] [11,11,11,11,11,11,11,11,11,11] yzJ) .ret),16,[.tmp 6]⟩
@[simp] theorem J':aG Tryz.prog wJ=some Vk:=by kernel_rfl
@[simp] theorem att:aA Tryz.prog wJ=true:=by kernel_rfl
abbrev yzL:zR:=[ab 25 3,o 26 (.kj av (.t 25)),ab 2 26]
abbrev yzM:zR:=[ab 14 0,ab 15 0,o 16 (.br (.t 15)),ai 17 1 16,ab 18 0,o 19 (.br (.t 18)),ai 20 1 19,aZ 21 20,o 22 (.bP .sub (.t 21) (.c (.int .i64 1))),o 23 (.slice 1 (.t 17) none (some (.t 22))),o 24 (.br (.t 14)),aT 1 24 23]
abbrev yzN:zR:=[ab 4 0,o 5 (.br (.t 4)),ai 6 1 5,ab 7 0,o 8 (.br (.t 7)),ai 9 1 8,aZ 10 9,o 11 (.bP .sub (.t 10) (.c (.int .i64 1))),bn 12 1 6 11,ai 13 1 12,ab 3 13]
abbrev VD:aH:=⟨.seq (.ae I') (.seq (.aX [O,O,O,O,O,O,O,O,O,O,O] [12,12,12,12,12,12,12,12,12,12,12] yzN) (.seq (.aX [O,O,O,O,O,O,O,O,O,O,O,O] [12,12,12,12,12,12,12,12,12,12,12,13] yzM) (.seq (.ae yzL) .ret))),27,[.tmp 2]⟩
@[simp] theorem U2:aG Tryz.prog Ao=some VD:=by kernel_rfl
@[simp] theorem atA:aA Tryz.prog Ao=true:=by kernel_rfl
abbrev yzP:zR:=[ab 4 0,ab 5 0,o 6 (.br (.t 5)),ai 7 1 6,ab 8 1,o 9 (.uS (.t 8) av (.int .i64 0) false),o 10 (.lit 1 [.int .i64 0] [(0,.t 9)]),o 11 (.append 1 av 8 (.t 7) (.t 10)),o 12 (.br (.t 4)),aT 1 12 11]
abbrev Vn:aH:=⟨.aX [O,O,O,I,O,O,O,O,O,O] [10,8,8,8,7,7,8,10,10,11] yzP,13,[]⟩
@[simp] theorem J_:aG Tryz.prog Al=some Vn:=by kernel_rfl
@[simp] theorem atp:aA Tryz.prog Al=true:=by kernel_rfl
abbrev yzQ:zR:=[ab 6 0,ab 7 1,ab 8 0,ab 9 2,ab 10 0,ab 11 2,bn 12 1 10 11,ai 13 1 12,ab 14 0,ab 15 1,bn 16 1 14 15,ai 17 1 16,bn 18 1 6 7,aT 1 18 13,bn 19 1 8 9,aT 1 19 17]
abbrev Vq:aH:=⟨.aX ((by(iterate 16 refine O::?_);exact[])) [14,14,16,16,14,14,14,14,14,14,14,14,14,16,16,17] yzQ,20,[]⟩
@[simp] theorem Kb:aG Tryz.prog wI=some Vq:=by kernel_rfl
@[simp] theorem atq:aA Tryz.prog wI=true:=by kernel_rfl
end Go.Proofs.YtchjijfjidlpjaaGreatDoor
