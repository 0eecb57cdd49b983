/- The functions, as the abstract machine has them. Printed by a program. -/
import Derived.Test.YtchjijfjidlpjaaGreatDoorAMd
import Derived.Test.YtchjijfjidlpjaaGreatDoorChecked
import Derived.KernelRfl
set_option linter.unusedSimpArgs false
set_option linter.unusedVariables false
namespace Go.Proofs.YtchjijfjidlpjaaGreatDoor
open Go.AM Go.Proofs
abbrev zR:=List AG
abbrev zB:=List Bool
abbrev zI:=List It
abbrev ab(d i:Nat):AG:=o d (.mv (.t i))
abbrev ah(d k i:Nat):AG:=o d (.load false k (.t i))
abbrev aK(d k i:Nat):AG:=o d (.load true k (.t i))
abbrev aj(d k i:Nat):AG:=o d (.off k (.t i))
abbrev aQ(d k i j:Nat):AG:=o d (.ic k (.t i) (.t j))
abbrev bx(d i:Nat)(n:Int):AG:=o d (.aV .add (.t i) (.c (.int .i64 n)))
abbrev bM(d i j:Nat):AG:=o d (.cmp .lss (.sc .int) (.t i) (.t j))
abbrev bS(d i j:Nat):AG:=o d (.pick (.t i) (.t j) (.c (.bool false)))
abbrev bu(d:Nat)(n:Int):AG:=o d (.mv (.c (.int .i64 n)))
abbrev aS(d i:Nat):AG:=o d (.len (.t i))
abbrev aI(k a x:Nat):AG:=q (.store k (.t a) (.t x))
abbrev cn(d i k:Nat):AG:=o d (.extract (.t i) k)
abbrev bW(d j k i:Nat):AG:=oy d j (.load false k (.t i))
abbrev cY(d j i:Nat):AG:=oy d j (.mv (.t i))
abbrev bf(d:Nat)(f:FuncId)(i:Nat):AG:=o d (.call (.f f) [.t i])
abbrev cw(d:Nat)(f:FuncId)(i j:Nat):AG:=o d (.call (.f f) [.t i,.t j])
abbrev pv(d:Nat):AG:=o d (.mv (.c (.bool false)))
abbrev Co:FuncId:=3
abbrev y5:FuncId:=9
abbrev zp:FuncId:=10
abbrev lq:FuncId:=11
abbrev my:FuncId:=12
abbrev sK:FuncId:=13
abbrev vp:FuncId:=14
abbrev sU:FuncId:=15
abbrev s8:FuncId:=16
abbrev y_:FuncId:=17
abbrev qY:FuncId:=18
abbrev zk:FuncId:=19
abbrev vl:FuncId:=20
abbrev Iy:FuncId:=22
abbrev lr:FuncId:=23
abbrev ri:FuncId:=31
abbrev qX:FuncId:=32
abbrev sG:FuncId:=33
abbrev vf:FuncId:=34
abbrev xE:FuncId:=35
abbrev ou:FuncId:=36
abbrev mw:FuncId:=37
abbrev gM:FuncId:=38
abbrev s7:FuncId:=39
abbrev pY:FuncId:=40
abbrev sV:FuncId:=41
abbrev xY:FuncId:=42
abbrev vj:FuncId:=43
abbrev nq:FuncId:=44
abbrev vu:FuncId:=45
abbrev rb:FuncId:=46
abbrev xM:FuncId:=47
abbrev vE:FuncId:=48
abbrev sI:FuncId:=49
abbrev sF:FuncId:=50
abbrev mu:FuncId:=51
abbrev vd:FuncId:=56
abbrev s9:FuncId:=57
abbrev qW:FuncId:=71
abbrev vi:FuncId:=72
abbrev sO:FuncId:=73
abbrev xT:FuncId:=74
abbrev vk:FuncId:=75
abbrev nv:FuncId:=76
abbrev xA:FuncId:=77
abbrev s6:FuncId:=78
abbrev vo:FuncId:=79
abbrev rl:FuncId:=80
abbrev zi:FuncId:=81
abbrev s_:FuncId:=82
abbrev vt:FuncId:=83
abbrev vz:FuncId:=84
abbrev sY:FuncId:=85
abbrev sS:FuncId:=86
abbrev sL:FuncId:=87
abbrev sW:FuncId:=88
abbrev qU:FuncId:=89
abbrev np:FuncId:=90
abbrev xK:FuncId:=91
abbrev rz:FuncId:=92
abbrev mz:FuncId:=93
abbrev pU:FuncId:=94
abbrev rh:FuncId:=95
abbrev sZ:FuncId:=96
abbrev rv:FuncId:=97
abbrev pR:FuncId:=98
abbrev sR:FuncId:=99
abbrev pP:FuncId:=100
abbrev rn:FuncId:=101
abbrev Cg:FuncId:=102
abbrev Cw:FuncId:=117
abbrev xB:FuncId:=118
abbrev u7:FuncId:=119
abbrev xI:FuncId:=120
abbrev xV:FuncId:=121
abbrev zq:FuncId:=122
abbrev th:FuncId:=123
abbrev u9:FuncId:=124
abbrev te:FuncId:=125
abbrev tm:FuncId:=126
abbrev xN:FuncId:=127
abbrev xP:FuncId:=128
abbrev sE:FuncId:=129
abbrev xS:FuncId:=130
abbrev x_:FuncId:=131
abbrev xD:FuncId:=132
abbrev qV:FuncId:=133
abbrev Cz:FuncId:=134
abbrev qZ:FuncId:=135
abbrev vD:FuncId:=136
abbrev rq:FuncId:=137
abbrev Cr:FuncId:=141
abbrev vh:FuncId:=148
abbrev Cq:FuncId:=149
abbrev qT:FuncId:=150
abbrev xG:FuncId:=151
abbrev u_:FuncId:=152
abbrev ve:FuncId:=153
abbrev xC:FuncId:=154
abbrev oq:FuncId:=155
abbrev pO:FuncId:=156
abbrev Cf:FuncId:=157
abbrev vg:FuncId:=182
abbrev Ch:FuncId:=183
abbrev vc:FuncId:=184
abbrev xJ:FuncId:=240
abbrev xF:FuncId:=242
abbrev xH:FuncId:=243
def qS:String:=String.ofList [Char.ofNat 112,Char.ofNat 97,Char.ofNat 116,Char.ofNat 99,Char.ofNat 104,Char.ofNat 98,Char.ofNat 97,Char.ofNat 121,Char.ofNat 47,Char.ofNat 114,Char.ofNat 97,Char.ofNat 105,Char.ofNat 115,Char.ofNat 101,Char.ofNat 46,Char.ofNat 103,Char.ofNat 97,Char.ofNat 116,Char.ofNat 101]
abbrev az:TypeId:=3
abbrev fW:TypeId:=4
abbrev au:TypeId:=9
abbrev My:TypeId:=22
abbrev hY:TypeId:=50
abbrev bI:TypeId:=62
abbrev dB:TypeId:=65
abbrev CA:TypeId:=72
@[simp] theorem aoq:oZ Tryz.prog CA qS=some (xJ,none):=by kernel_rfl
abbrev Sz:TypeId:=90
abbrev Ig:TypeId:=Sz
abbrev Cp:TypeId:=122
@[simp] theorem aol:oZ Tryz.prog Cp qS=some (xF,none):=by kernel_rfl
abbrev Cu:TypeId:=124
@[simp] theorem aoo:oZ Tryz.prog Cu qS=some (xH,none):=by kernel_rfl
abbrev CE:TypeId:=130
abbrev ya:zR:=[ab 45 3,ab 46 45,oy 47 46 (.load true 4 (.t 5)),oy 48 46 (.load true 4 (.t 7)),oy 49 46 (.call (.f s8) [.t 47,.t 48]),bS 50 46 49,ab 51 50,cY 52 51 6,cY 53 51 8,oy 54 51 (.cmp .eql (.sc .int) (.t 52) (.t 53)),bS 55 51 54,ab 56 55,oy 57 56 (.load true 8 (.t 9)),oy 58 56 (.load true 8 (.t 11)),oy 59 56 (.call (.f y_) [.t 57,.t 58]),bS 60 56 59,ab 61 60,cY 62 61 10,cY 63 61 12,oy 64 61 (.cmp .eql (.sc .int) (.t 62) (.t 63)),bS 65 61 64,ab 66 65,oy 67 66 (.off 0 (.t 1)),oy 68 66 (.load true 5 (.t 67)),oy 69 66 (.call (.f qY) [.t 68]),cY 70 66 13,oy 71 66 (.cmp .eql (.sc .int) (.t 69) (.t 70)),bS 72 66 71,ab 2 72]
abbrev yb:zR:=[aj 42 0 1,aK 43 5 42,bf 44 sU 43,ab 13 44]
abbrev yc:zR:=[aK 38 8 1,bf 39 vp 38,ab 37 39,cn 40 37 0,cn 41 37 1,o 11 (.alloc [.int .i64 0,.own 1 az [],.own 1 az [],.own 2 bI [],.own 1 az [],.own 1 au [],.own 1 au [],.own 1 au []]),aI 8 11 40,ab 12 41]
abbrev yd:zR:=[aK 33 8 1,bf 34 sK 33,ab 32 34,cn 35 32 0,cn 36 32 1,o 9 (.alloc [.int .i64 0,.own 1 az [],.own 1 az [],.own 2 bI [],.own 1 az [],.own 1 au [],.own 1 au [],.own 1 au []]),aI 8 9 35,ab 10 36]
abbrev ye:zR:=[aK 28 8 1,bf 29 my 28,ab 27 29,cn 30 27 0,cn 31 27 1,o 7 (.alloc [.own 1 au [],.own 1 au [],.own 3 hY [],.own 5 dB []]),aI 4 7 30,ab 8 31]
abbrev yf:zR:=[aK 23 8 1,bf 24 lq 23,ab 22 24,cn 25 22 0,cn 26 22 1,o 5 (.alloc [.own 1 au [],.own 1 au [],.own 3 hY [],.own 5 dB []]),aI 4 5 25,ab 6 26]
abbrev yg:zR:=[ab 21 3,ab 2 21]
abbrev yh:an:=.seq (.ae yg) .ret
abbrev yi:zR:=[ab 19 4,o 20 (.not (.t 19))]
abbrev yj:zR:=[aK 17 8 1,bf 18 zp 17,ab 4 18]
abbrev yk:zR:=[pv 2]
abbrev ym:an:=.seq (.ae yk) .ret
abbrev yn:zR:=[ab 15 3,o 16 (.not (.t 15))]
abbrev yo:zR:=[o 14 (.call (.f y5) []),ab 3 14]
abbrev yp:zR:=[o 1 (.box 8 (.t 0)),pv 2]
abbrev Sv:aM:=⟨.seq (.ae yp) (.seq (.ae yo) (.seq (.seq (.ae yn) (.cond (.t 16) ym .skip)) (.seq (.ae yj) (.seq (.seq (.ae yi) (.cond (.t 20) yh .skip)) (.seq (.ae yf) (.seq (.ae ye) (.seq (.ae yd) (.seq (.ae yc) (.seq (.ae yb) (.seq (.ae ya) .ret)))))))))),73,[.tmp 2]⟩
@[simp] theorem Sa:aH Tryz.prog Co=some Sv:=by kernel_rfl
@[simp] theorem aoT:aD Tryz.prog Co=true:=by kernel_rfl
abbrev yq:zR:=[ab 35 3,o 36 (.cmp .eql (.sc .int) (.t 35) (.c (.int .i64 0))),ab 37 36,oy 38 37 (.off 3 (.t 2)),bW 39 37 1 38,oy 40 37 (.ic 5 (.t 39) (.c (.int .i64 0))),oy 41 37 (.off 0 (.t 40)),bW 42 37 1 41,oy 43 37 (.cmp .eql (.sc .str) (.t 42) (.c (.str [110,49]))),bS 44 37 43,ab 45 44,oy 46 45 (.off 3 (.t 2)),bW 47 45 1 46,oy 48 45 (.ic 5 (.t 47) (.c (.int .i64 0))),oy 49 45 (.off 1 (.t 48)),bW 50 45 1 49,oy 51 45 (.cmp .eql (.sc .int) (.t 50) (.c (.int .i64 3))),bS 52 45 51,ab 53 52,oy 54 53 (.off 3 (.t 2)),bW 55 53 1 54,oy 56 53 (.ic 5 (.t 55) (.c (.int .i64 1))),oy 57 53 (.off 1 (.t 56)),bW 58 53 1 57,oy 59 53 (.cmp .eql (.sc .int) (.t 58) (.c (.int .i64 4))),bS 60 53 59,ab 61 60,oy 62 61 (.off 3 (.t 2)),bW 63 61 1 62,oy 64 61 (.ic 5 (.t 63) (.c (.int .i64 1))),oy 65 61 (.off 2 (.t 64)),bW 66 61 1 65,oy 67 61 (.lit 1 [.str [],.str []] [(0,.c (.str [110,49])),(1,.c (.str [97]))]),oy 68 61 (.call (.f lr) [.t 66,.t 67]),bS 69 61 68,ab 70 69,oy 71 70 (.off 3 (.t 2)),bW 72 70 1 71,oy 73 70 (.ic 5 (.t 72) (.c (.int .i64 2))),oy 74 70 (.off 0 (.t 73)),bW 75 70 1 74,oy 76 70 (.cmp .eql (.sc .str) (.t 75) (.c (.str [122]))),bS 77 70 76,ab 78 77,oy 79 78 (.off 3 (.t 2)),bW 80 78 1 79,oy 81 78 (.ic 5 (.t 80) (.c (.int .i64 2))),oy 82 78 (.off 1 (.t 81)),bW 83 78 1 82,oy 84 78 (.cmp .eql (.sc .int) (.t 83) (.c (.int .i64 2))),bS 85 78 84,ab 86 85,cY 87 86 5,oy 88 86 (.cmp .eql (.sc .int) (.t 87) (.c (.int .i64 0))),bS 89 86 88,ab 90 89,oy 91 90 (.off 0 (.t 4)),oy 92 90 (.off 3 (.t 91)),bW 93 90 1 92,oy 94 90 (.len (.t 93)),oy 95 90 (.cmp .eql (.sc .int) (.t 94) (.c (.int .i64 1))),bS 96 90 95,ab 97 96,cY 98 97 7,oy 99 97 (.cmp .eql (.sc .int) (.t 98) (.c (.int .i64 1))),bS 100 97 99,ab 101 100,oy 102 101 (.off 0 (.t 4)),oy 103 101 (.load true 5 (.t 102)),oy 104 101 (.call (.f qY) [.t 103]),oy 105 101 (.cmp .eql (.sc .int) (.t 104) (.c (.int .i64 2))),bS 106 101 105,ab 0 106]
abbrev yr:zR:=[pv 0]
abbrev yt:an:=.seq (.ae yr) .ret
abbrev yu:zR:=[aj 31 3 2,ah 32 1 31,aS 33 32,o 34 (.cmp .neq (.sc .int) (.t 33) (.c (.int .i64 3)))]
abbrev yv:zR:=[aK 27 8 1,bf 28 lq 27,ab 26 28,cn 29 26 0,cn 30 26 1,o 6 (.alloc [.own 1 au [],.own 1 au [],.own 3 hY [],.own 5 dB []]),aI 4 6 29,ab 7 30]
abbrev yw:zR:=[aj 25 7 1,q (.store 1 (.t 25) (.c (.list true 0 [])))]
abbrev yx:zR:=[aK 21 8 1,bf 22 sK 21,ab 20 22,cn 23 20 0,cn 24 20 1,o 4 (.alloc [.int .i64 0,.own 1 az [],.own 1 az [],.own 2 bI [],.own 1 az [],.own 1 au [],.own 1 au [],.own 1 au []]),aI 8 4 23,ab 5 24]
abbrev yy:zR:=[aK 16 8 1,bf 17 lq 16,ab 15 17,cn 18 15 0,cn 19 15 1,o 2 (.alloc [.own 1 au [],.own 1 au [],.own 3 hY [],.own 5 dB []]),aI 4 2 18,ab 3 19]
abbrev yz:zR:=[o 8 (.build [.int .i64 0,.int .i64 0] [(0,1,.c (.int .i64 5)),(1,1,.c (.int .i64 2))]),o 9 (.lit 2 [.agg [.int .i64 0,.int .i64 0]] [(0,.t 8)]),o 10 (.lit 1 [.int .i64 0,.int .i64 0] [(0,.c (.int .i64 6)),(1,.c (.int .i64 2))]),o 11 (.build [.int .i64 0,.list true 0 [],.list true 0 [],.list true 0 [],.list true 0 []] [(0,1,.c (.int .i64 2)),(3,1,.t 9),(4,1,.t 10)]),o 12 (.lit 1 [.str [],.str []] [(0,.c (.str [97])),(1,.c (.str [98]))]),o 13 (.lit 1 [.str [],.str []] [(0,.c (.str [122])),(1,.c (.str [97]))]),o 14 (.build [.int .i64 0,.list true 0 [],.list true 0 [],.list true 0 [],.list true 0 [],.list true 0 [],.list true 0 [],.list true 0 []] [(0,5,.t 11),(5,1,.t 12),(7,1,.t 13)]),o 1 (.alloc [.int .i64 0,.own 1 az [],.own 1 az [],.own 2 bI [],.own 1 az [],.own 1 au [],.own 1 au [],.own 1 au []]),aI 8 1 14]
abbrev V9:aM:=⟨.seq (.ae yr) (.seq (.ae yz) (.seq (.ae yy) (.seq (.ae yx) (.seq (.ae yw) (.seq (.ae yv) (.seq (.seq (.ae yu) (.cond (.t 34) yt .skip)) (.seq (.ae yq) .ret))))))),107,[.tmp 0]⟩
@[simp] theorem T':aH Tryz.prog y5=some V9:=by kernel_rfl
@[simp] theorem apR:aD Tryz.prog y5=true:=by kernel_rfl
abbrev yC:zR:=[ab 19 3,ab 20 19,cY 21 20 4,bS 22 20 21,ab 23 22,cY 24 23 5,bS 25 23 24,ab 26 25,cY 27 26 6,bS 28 26 27,ab 2 28]
abbrev yD:zR:=[aj 16 7 1,ah 17 1 16,o 18 (.call (.f ri) [.t 17,.c (.int .i64 60)]),ab 6 18]
abbrev yE:zR:=[aj 13 6 1,ah 14 1 13,o 15 (.call (.f ri) [.t 14,.c (.int .i64 40)]),ab 5 15]
abbrev yF:zR:=[aj 10 5 1,ah 11 1 10,o 12 (.call (.f ri) [.t 11,.c (.int .i64 40)]),ab 4 12]
abbrev yG:zR:=[aj 7 0 1,aK 8 5 7,bf 9 zk 8,ab 3 9]
abbrev aah:aM:=⟨.seq (.ae yp) (.seq (.ae yG) (.seq (.ae yF) (.seq (.ae yE) (.seq (.ae yD) (.seq (.ae yC) .ret))))),29,[.tmp 2]⟩
@[simp] theorem V3:aH Tryz.prog zp=some aah:=by kernel_rfl
@[simp] theorem aqL:aD Tryz.prog zp=true:=by kernel_rfl
abbrev yI:zR:=[ab 136 5,o 137 (.bG (.t 136)),aj 138 0 137,aK 139 4 138,aI 4 2 139,bu 3 0]
abbrev yJ:zR:=[o 135 (.build [.list true 0 [],.list true 0 [],.list true 0 [],.list true 0 []] []),aI 4 2 135,bu 3 8]
abbrev yK:an:=.seq (.ae yJ) .ret
abbrev yL:zR:=[ab 133 13,o 134 (.cmp .neq (.sc .int) (.t 133) (.c (.int .i64 0)))]
abbrev yM:zR:=[ab 126 5,o 127 (.bG (.t 126)),aj 128 0 127,aK 129 4 128,bf 130 ou 129,ab 125 130,cn 131 125 0,cn 132 125 1,ab 13 131,ab 14 132]
abbrev yN:zB:=O::I::I::O::O::I::(by(iterate 93 refine O::?_);exact I::I::I::(by(iterate 38 refine O::?_);exact[]))
abbrev yO:zB:=O::O::I::O::O::I::(by(iterate 134 refine O::?_);exact[])
abbrev yP:zR:=[bx 124 101 1,ab 101 124]
abbrev yQ:zR:=[ab 110 5,o 111 (.bG (.t 110)),aj 112 6 111,ah 113 1 112,ab 114 5,ab 115 12,aj 116 0 1,aj 117 4 116,ah 118 1 117,ab 119 11,aQ 120 1 118 119,ah 121 1 120,o 122 (.call (.f xE) [.t 114,.t 115,.t 121]),o 123 (.call (.t 113) [.t 122])]
abbrev yR:zR:=[aK 106 8 1,ab 107 12,cw 108 vl 106 107,o 109 (.cmp .lss (.sc .int) (.t 108) (.c (.int .i64 0)))]
abbrev yS:zR:=[ab 103 101,aQ 104 1 99 101,ah 105 1 104,ab 11 103,ab 12 105]
abbrev yT:an:=.seq (.ae yS) (.seq (.ae yR) (.cond (.t 109) (.aR [O,O,O,I,O,O,O,O,O,O,O,O,O,O] [14,14,14,14,13,13,13,13,13,13,13,13,14,15] yQ) .skip))
abbrev yU:zR:=[bM 102 101 100]
abbrev yV:an:=.seq (.ae yU) (.seq (.cond (.t 102) .skip (.exit 4)) (.seq (.block 5 [] yT) (.ae yP)))
abbrev yW:zR:=[aj 98 7 1,ah 99 1 98,aS 100 99,bu 101 0]
abbrev yX:zB:=O::I::I::O::O::I::(by(iterate 57 refine O::?_);exact I::I::I::(by(iterate 74 refine O::?_);exact[]))
abbrev yY:zB:=O::I::I::O::O::I::(by(iterate 134 refine O::?_);exact[])
abbrev yZ:zR:=[bx 97 65 1,ab 65 97]
abbrev yba:zR:=[ab 70 5,ab 71 5,o 72 (.bG (.t 71)),aj 73 0 72,aj 74 2 73,ah 75 1 74,ab 76 10,ab 77 5,aj 78 0 1,aj 79 1 78,ah 80 1 79,ab 81 9,aQ 82 1 80 81,ah 83 1 82,cw 84 sG 77 83,aj 85 0 1,aj 86 2 85,ah 87 1 86,ab 88 9,aQ 89 1 87 88,ah 90 1 89,o 91 (.build [.str [],.str [],.int .i64 0] [(0,1,.t 76),(1,1,.t 84),(2,1,.t 90)]),o 92 (.lit 3 [.agg [.str [],.str [],.int .i64 0]] [(0,.t 91)]),o 93 (.append 3 hY 40 (.t 75) (.t 92)),o 94 (.bG (.t 70)),aj 95 0 94,aj 96 2 95,aI 1 96 93]
abbrev ybb:zR:=[ab 67 65,aQ 68 1 63 65,ah 69 1 68,ab 9 67,ab 10 69]
abbrev ybc:an:=.seq (.ae ybb) (.aR [O,O,O,O,O,I,O,O,O,O,O,O,O,O,O,O,O,I,O,O,I,O,O,O,O,O,O,O] [28,24,24,24,24,24,23,15,15,15,15,15,15,15,23,23,23,23,23,23,23,23,24,28,28,28,28,29] yba)
abbrev ybd:zR:=[bM 66 65 64]
abbrev BA:an:=.seq (.ae ybd) (.seq (.cond (.t 66) .skip (.exit 2)) (.seq (.block 3 [] ybc) (.ae yZ)))
abbrev Ou:zR:=[aj 62 6 1,ah 63 1 62,aS 64 63,bu 65 0]
abbrev PI:zB:=O::I::I::O::O::I::I::(by(iterate 30 refine O::?_);exact I::I::I::(by(iterate 100 refine O::?_);exact[]))
abbrev ybi:zR:=[bx 61 39 1,ab 39 61]
abbrev ybj:zR:=[ab 52 5,ab 53 6,ab 54 7,o 55 (.aV .add (.t 53) (.t 54)),o 56 (.aV .mul (.c (.int .i64 2)) (.t 55)),aK 57 2 8,o 58 (.build [.int .i64 0,.int .i64 0] [(0,2,.t 57)]),o 59 (.oE CA (.t 58)),o 60 (.call (.f vf) [.t 52,.t 56,.t 59])]
abbrev ybk:zR:=[ab 48 5,o 49 (.cT 2 1 (.t 8) (.c (.int .i64 1))),ah 50 1 49,cw 51 sG 48 50]
abbrev ybl:zR:=[ab 44 5,o 45 (.cT 2 1 (.t 8) (.c (.int .i64 0))),ah 46 1 45,cw 47 sG 44 46]
abbrev ybm:zR:=[ab 41 39,aQ 42 2 37 39,aK 43 2 42,o 8 (.alloc [.int .i64 0,.int .i64 0]),ab 7 41,aI 2 8 43]
abbrev ybn:an:=.seq (.ae ybm) (.seq (.ae ybl) (.seq (.ae ybk) (.ae ybj)))
abbrev N9:zR:=[bM 40 39 38]
abbrev FZ:an:=.seq (.ae N9) (.seq (.cond (.t 40) .skip (.exit 0)) (.seq (.block 1 [] ybn) (.ae ybi)))
abbrev ybq:zR:=[aj 35 0 1,aj 36 3 35,ah 37 1 36,aS 38 37,bu 39 0]
abbrev ybr:zR:=[aj 26 0 1,aj 27 0 26,ah 28 1 27,o 29 (.aV .add (.c (.int .i64 1)) (.t 28)),aj 30 0 1,aj 31 1 30,ah 32 1 31,aS 33 32,o 34 (.aV .add (.t 29) (.t 33)),ab 6 34]
abbrev ybs:zR:=[aK 24 8 1,bf 25 qX 24,ab 5 25]
abbrev ybt:zR:=[o 22 (.build [.list true 0 [],.list true 0 [],.list true 0 [],.list true 0 []] []),ab 23 4,aI 4 2 22,ab 3 23]
abbrev ybu:an:=.seq (.ae ybt) .ret
abbrev ybv:zR:=[ab 20 4,o 21 (.cmp .neq (.sc .int) (.t 20) (.c (.int .i64 0)))]
abbrev ybw:zR:=[aK 16 8 1,bf 17 sK 16,ab 15 17,cn 18 15 0,cn 19 15 1,aI 8 1 18,ab 4 19]
abbrev QP:zR:=[o 1 (.box 8 (.t 0)),o 2 (.alloc [.own 1 au [],.own 1 au [],.own 3 hY [],.own 5 dB []]),bu 3 0]
abbrev TZ:aM:=⟨.seq (.ae QP) (.seq (.ae ybw) (.seq (.seq (.ae ybv) (.cond (.t 21) ybu .skip)) (.seq (.ae ybs) (.seq (.ae ybr) (.seq (.seq (.ae ybq) (.block 0 yY (.loop PI FZ))) (.seq (.seq (.ae Ou) (.block 2 yY (.loop yX BA))) (.seq (.seq (.ae yW) (.block 4 yO (.loop yN yV))) (.seq (.seq (.ae yM) (.seq (.ae yL) (.cond (.t 134) yK .skip))) (.seq (.ae yI) .ret))))))))),140,[.cell 2 true 4,.tmp 3]⟩
abbrev PR:zI:=[.code (.seq (.seq (.ae yM) (.seq (.ae yL) (.cond (.t 134) yK .skip))) (.seq (.ae yI) .ret))]
abbrev ybz(x1 x2 x5 x99 x100 x101:AV)(h:List Ob)(e:Cx:=cx):aw:=bg lq (.code yV::.inLoop yN yV::.inBlock 4 yO::PR) (U::x1::x2::U::U::x5::(by(iterate 93 refine U::?_);exact x99::x100::x101::(by(iterate 38 refine U::?_);exact[]))) h e
abbrev ybA(x2 x5:AV)(h:List Ob)(e:Cx:=cx):aw:=bg lq PR (U::U::x2::U::U::x5::(by(iterate 134 refine U::?_);exact[])) h e
abbrev O0:zI:=[.code (.seq (.seq (.ae yW) (.block 4 yO (.loop yN yV))) (.seq (.seq (.ae yM) (.seq (.ae yL) (.cond (.t 134) yK .skip))) (.seq (.ae yI) .ret)))]
abbrev ybC(x1 x2 x5 x63 x64 x65:AV)(h:List Ob)(e:Cx:=cx):aw:=bg lq (.code BA::.inLoop yX BA::.inBlock 2 yY::O0) (U::x1::x2::U::U::x5::(by(iterate 57 refine U::?_);exact x63::x64::x65::(by(iterate 74 refine U::?_);exact[]))) h e
abbrev ybD(x1 x2 x5:AV)(h:List Ob)(e:Cx:=cx):aw:=bg lq O0 (U::x1::x2::U::U::x5::(by(iterate 134 refine U::?_);exact[])) h e
abbrev OI:zI:=[.code (.seq (.seq (.ae Ou) (.block 2 yY (.loop yX BA))) (.seq (.seq (.ae yW) (.block 4 yO (.loop yN yV))) (.seq (.seq (.ae yM) (.seq (.ae yL) (.cond (.t 134) yK .skip))) (.seq (.ae yI) .ret))))]
abbrev Pg(x1 x2 x5 x6 x37 x38 x39:AV)(h:List Ob)(e:Cx:=cx):aw:=bg lq (.code FZ::.inLoop PI FZ::.inBlock 0 yY::OI) (U::x1::x2::U::U::x5::x6::(by(iterate 30 refine U::?_);exact x37::x38::x39::(by(iterate 100 refine U::?_);exact[]))) h e
abbrev ybG(x1 x2 x5:AV)(h:List Ob)(e:Cx:=cx):aw:=bg lq OI (U::x1::x2::U::U::x5::(by(iterate 134 refine U::?_);exact[])) h e
@[simp] theorem Ta:aH Tryz.prog lq=some TZ:=by kernel_rfl
@[simp] theorem apa:aD Tryz.prog lq=true:=by kernel_rfl
abbrev A_:zR:=[aK 165 4 10,aI 4 2 165,bu 3 0]
abbrev ybI:zR:=[o 164 (.build [.list true 0 [],.list true 0 [],.list true 0 [],.list true 0 []] []),aI 4 2 164,bu 3 8]
abbrev BF:an:=.seq (.ae ybI) .ret
abbrev BJ:zR:=[aj 146 0 10,ah 147 1 146,aS 148 147,aj 149 2 10,ah 150 1 149,aS 151 150,o 152 (.aV .add (.t 148) (.t 151)),aj 153 3 10,ah 154 1 153,aS 155 154,o 156 (.aV .add (.t 152) (.t 155)),o 157 (.cmp .gtr (.sc .int) (.t 156) (.c (.int .i64 200))),ab 158 157,on 159 158 (.off 1 (.t 10)),on 160 158 (.load false 1 (.t 159)),on 161 158 (.len (.t 160)),on 162 158 (.cmp .gtr (.sc .int) (.t 161) (.c (.int .i64 200))),o 163 (.pick (.t 158) (.c (.bool true)) (.t 162))]
abbrev A9:zR:=[aj 143 0 6,ah 144 1 143,aj 145 3 10,aI 1 145 144]
abbrev BG:zB:=O::O::I::O::I::O::I::O::O::O::I::O::I::(by(iterate 153 refine O::?_);exact[])
abbrev BW:zB:=O::O::I::O::O::O::I::O::O::O::I::(by(iterate 155 refine O::?_);exact[])
abbrev ybO:zR:=[ab 120 12,bx 121 120 1,ab 12 121]
abbrev ybP:zR:=[aK 130 3 6,aj 131 7 4,ah 132 1 131,ab 133 12,aQ 134 1 132 133,ah 135 1 134,aj 136 0 4,aj 137 4 136,ah 138 1 137,ab 139 12,aQ 140 1 138 139,ah 141 1 140,o 142 (.call (.f xY) [.t 130,.t 135,.t 141]),aI 3 6 142]
abbrev ybQ:zR:=[aK 122 8 4,aj 123 7 4,ah 124 1 123,ab 125 12,aQ 126 1 124 125,ah 127 1 126,cw 128 sV 122 127,o 129 (.cmp .lss (.sc .int) (.t 128) (.c (.int .i64 0)))]
abbrev ybR:an:=.seq (.aR [O,O,O,O,O,O,O,O] [7,7,7,7,7,7,9,9] ybQ) (.cond (.t 129) (.aR ((by(iterate 14 refine O::?_);exact[])) [13,13,13,13,13,13,13,13,13,13,13,13,14,15] ybP) .skip)
abbrev ybS:zR:=[ab 115 12,aj 116 7 4,ah 117 1 116,aS 118 117,bM 119 115 118]
abbrev xg:an:=.seq (.seq (.ae ybS) (.cond (.t 119) .skip (.exit 4))) (.seq (.block 5 [] ybR) (.ae ybO))
abbrev G':zR:=[bu 12 0]
abbrev Hl:zB:=O::O::I::O::I::O::I::O::O::O::I::I::(by(iterate 154 refine O::?_);exact[])
abbrev GF:zB:=O::O::I::O::I::O::I::O::O::O::I::(by(iterate 155 refine O::?_);exact[])
abbrev ybX:zR:=[ab 78 11,bx 79 78 1,ab 11 79]
abbrev ybY:zR:=[aj 88 2 10,ah 89 1 88,aj 90 6 4,ah 91 1 90,ab 92 11,aQ 93 1 91 92,ah 94 1 93,aj 95 2 6,ah 96 1 95,aj 97 0 4,aj 98 1 97,ah 99 1 98,ab 100 11,aQ 101 1 99 100,ah 102 1 101,aQ 103 1 96 102,ah 104 1 103,aj 105 0 4,aj 106 2 105,ah 107 1 106,ab 108 11,aQ 109 1 107 108,ah 110 1 109,o 111 (.build [.str [],.str [],.int .i64 0] [(0,1,.t 94),(1,1,.t 104),(2,1,.t 110)]),o 112 (.lit 3 [.agg [.str [],.str [],.int .i64 0]] [(0,.t 111)]),o 113 (.append 3 hY 40 (.t 89) (.t 112)),aj 114 2 10,aI 1 114 113]
abbrev ybZ:zR:=[aK 80 3 6,aj 81 0 4,aj 82 1 81,ah 83 1 82,ab 84 11,aQ 85 1 83 84,ah 86 1 85,cw 87 s7 80 86,aI 3 6 87]
abbrev yca:an:=.seq (.aR [O,O,O,O,O,O,O,O,O] [8,8,8,8,8,8,8,9,10] ybZ) (.aR (O::I::(by(iterate 26 refine O::?_);exact[])) [26,26,25,25,25,25,25,25,25,25,25,25,25,25,25,25,25,25,25,25,25,25,25,25,26,28,28,29] ybY)
abbrev ycb:zR:=[ab 73 11,aj 74 6 4,ah 75 1 74,aS 76 75,bM 77 73 76]
abbrev Bg:an:=.seq (.seq (.ae ycb) (.cond (.t 77) .skip (.exit 2))) (.seq (.block 3 [] yca) (.ae ybX))
abbrev Oo:zR:=[bu 11 0]
abbrev Qt:zR:=[aj 68 5 4,ah 69 1 68,aj 70 7 4,ah 71 1 70,o 72 (.build [.list true 0 [],.list true 0 [],.list true 0 [],.list true 0 []] [(0,1,.t 69),(1,1,.t 71)]),o 10 (.alloc [.own 1 au [],.own 1 au [],.own 3 hY [],.own 5 dB []]),aI 4 10 72]
abbrev OB:zB:=O::O::I::O::I::O::I::I::I::(by(iterate 157 refine O::?_);exact[])
abbrev PG:zB:=O::O::I::O::I::O::I::(by(iterate 159 refine O::?_);exact[])
abbrev ych:zR:=[ab 33 8,bx 34 33 1,ab 8 34]
abbrev yci:zR:=[aK 49 3 6,ab 50 7,ab 51 8,o 52 (.aV .add (.t 50) (.t 51)),o 53 (.aV .mul (.c (.int .i64 2)) (.t 52)),aj 54 2 6,ah 55 1 54,o 56 (.cT 2 1 (.t 9) (.c (.int .i64 0))),ah 57 1 56,aQ 58 1 55 57,ah 59 1 58,aj 60 2 6,ah 61 1 60,o 62 (.cT 2 1 (.t 9) (.c (.int .i64 1))),ah 63 1 62,aQ 64 1 61 63,ah 65 1 64,o 66 (.lit 1 [.str [],.str []] [(0,.t 59),(1,.t 65)]),o 67 (.call (.f pY) [.t 49,.t 53,.c (.int .i64 4),.t 66]),aI 3 6 67]
abbrev ycj:zR:=[aK 45 3 6,o 46 (.cT 2 1 (.t 9) (.c (.int .i64 1))),ah 47 1 46,cw 48 s7 45 47,aI 3 6 48]
abbrev yck:zR:=[aK 41 3 6,o 42 (.cT 2 1 (.t 9) (.c (.int .i64 0))),ah 43 1 42,cw 44 s7 41 43,aI 3 6 44]
abbrev ycl:zR:=[aj 35 0 4,aj 36 3 35,ah 37 1 36,ab 38 8,aQ 39 2 37 38,aK 40 2 39,o 9 (.alloc [.int .i64 0,.int .i64 0]),aI 2 9 40]
abbrev ycm:an:=.seq (.ae ycl) (.seq (.ae yck) (.seq (.ae ycj) (.aR (I::(by(iterate 19 refine O::?_);exact[])) [19,19,19,19,19,18,18,18,18,18,18,18,18,18,18,18,18,19,20,21] yci)))
abbrev ycn:zR:=[ab 27 8,aj 28 0 4,aj 29 3 28,ah 30 1 29,aS 31 30,bM 32 27 31]
abbrev Gc:an:=.seq (.seq (.ae ycn) (.cond (.t 32) .skip (.exit 0))) (.seq (.block 1 [] ycm) (.ae ych))
abbrev Bt:zR:=[bu 8 0]
abbrev ycq:zR:=[aj 24 0 4,aK 25 5 24,bf 26 gM 25,ab 7 26]
abbrev ycr:zR:=[aK 22 8 4,bf 23 mw 22,o 6 (.alloc [.own 5 dB [],.own 1 au [],.own 1 au []]),aI 3 6 23]
abbrev ycs:zR:=[o 20 (.build [.list true 0 [],.list true 0 [],.list true 0 [],.list true 0 []] []),ab 21 5,aI 4 2 20,ab 3 21]
abbrev yct:an:=.seq (.ae ycs) .ret
abbrev ycu:zR:=[ab 18 5,o 19 (.cmp .neq (.sc .int) (.t 18) (.c (.int .i64 0)))]
abbrev ycv:zR:=[aK 14 8 1,bf 15 vp 14,ab 13 15,cn 16 13 0,cn 17 13 1,o 4 (.alloc [.int .i64 0,.own 1 az [],.own 1 az [],.own 2 bI [],.own 1 az [],.own 1 au [],.own 1 au [],.own 1 au []]),aI 8 4 16,ab 5 17]
abbrev VT:aM:=⟨.seq (.ae QP) (.seq (.ae ycv) (.seq (.seq (.ae ycu) (.cond (.t 19) yct .skip)) (.seq (.ae ycr) (.seq (.ae ycq) (.seq (.seq (.ae Bt) (.block 0 PG (.loop OB Gc))) (.seq (.ae Qt) (.seq (.seq (.ae Oo) (.block 2 GF (.loop Hl Bg))) (.seq (.seq (.ae G') (.block 4 BW (.loop BG xg))) (.seq (.ae A9) (.seq (.seq (.ae BJ) (.cond (.t 163) BF .skip)) (.seq (.ae A_) .ret))))))))))),166,[.cell 2 true 4,.tmp 3]⟩
abbrev O6:zI:=[.code (.seq (.ae A9) (.seq (.seq (.ae BJ) (.cond (.t 163) BF .skip)) (.seq (.ae A_) .ret)))]
abbrev ycy(x2 x4 x6 x10 x12:AV)(h:List Ob)(e:Cx:=cx):aw:=bg my (.code xg::.inLoop BG xg::.inBlock 4 BW::O6) (U::U::x2::U::x4::U::x6::U::U::U::x10::U::x12::(by(iterate 153 refine U::?_);exact[])) h e
abbrev ycz(x2 x6 x10:AV)(h:List Ob)(e:Cx:=cx):aw:=bg my O6 (U::U::x2::U::U::U::x6::U::U::U::x10::(by(iterate 155 refine U::?_);exact[])) h e
abbrev PL:zI:=[.code (.seq (.seq (.ae G') (.block 4 BW (.loop BG xg))) (.seq (.ae A9) (.seq (.seq (.ae BJ) (.cond (.t 163) BF .skip)) (.seq (.ae A_) .ret))))]
abbrev ycB(x2 x4 x6 x10 x11:AV)(h:List Ob)(e:Cx:=cx):aw:=bg my (.code Bg::.inLoop Hl Bg::.inBlock 2 GF::PL) (U::U::x2::U::x4::U::x6::U::U::U::x10::x11::(by(iterate 154 refine U::?_);exact[])) h e
abbrev ycC(x2 x4 x6 x10:AV)(h:List Ob)(e:Cx:=cx):aw:=bg my PL (U::U::x2::U::x4::U::x6::U::U::U::x10::(by(iterate 155 refine U::?_);exact[])) h e
abbrev OK:zI:=[.code (.seq (.ae Qt) (.seq (.seq (.ae Oo) (.block 2 GF (.loop Hl Bg))) (.seq (.seq (.ae G') (.block 4 BW (.loop BG xg))) (.seq (.ae A9) (.seq (.seq (.ae BJ) (.cond (.t 163) BF .skip)) (.seq (.ae A_) .ret))))))]
abbrev ycE(x2 x4 x6 x7 x8:AV)(h:List Ob)(e:Cx:=cx):aw:=bg my (.code Gc::.inLoop OB Gc::.inBlock 0 PG::OK) (U::U::x2::U::x4::U::x6::x7::x8::(by(iterate 157 refine U::?_);exact[])) h e
abbrev ycF(x2 x4 x6:AV)(h:List Ob)(e:Cx:=cx):aw:=bg my OK (U::U::x2::U::x4::U::x6::(by(iterate 159 refine U::?_);exact[])) h e
@[simp] theorem IN:aH Tryz.prog my=some VT:=by kernel_rfl
@[simp] theorem apU:aD Tryz.prog my=true:=by kernel_rfl
abbrev ycG:zR:=[aK 18 8 1,aI 8 2 18,bu 3 0]
abbrev ycH:zR:=[aj 12 0 1,aK 13 5 12,bf 14 nq 13,ab 11 14,cn 15 11 0,cn 16 11 1,aj 17 0 1,aI 5 17 15]
abbrev ycI:zR:=[o 9 (.build [.int .i64 0,.list true 0 [],.list true 0 [],.list true 0 [],.list true 0 [],.list true 0 [],.list true 0 [],.list true 0 []] []),ab 10 4,aI 8 2 9,ab 3 10]
abbrev ycJ:an:=.seq (.ae ycI) .ret
abbrev ycK:zR:=[ab 7 4,o 8 (.cmp .neq (.sc .int) (.t 7) (.c (.int .i64 0)))]
abbrev ycL:zR:=[aK 5 8 1,bf 6 vj 5,ab 4 6]
abbrev Og:zR:=[o 1 (.box 8 (.t 0)),o 2 (.alloc [.int .i64 0,.own 1 az [],.own 1 az [],.own 2 bI [],.own 1 az [],.own 1 au [],.own 1 au [],.own 1 au []]),bu 3 0]
abbrev TE:aM:=⟨.seq (.ae Og) (.seq (.seq (.ae ycL) (.seq (.ae ycK) (.cond (.t 8) ycJ .skip))) (.seq (.ae ycH) (.seq (.ae ycG) .ret))),19,[.cell 2 true 8,.tmp 3]⟩
@[simp] theorem Sy:aH Tryz.prog sK=some TE:=by kernel_rfl
@[simp] theorem ao3:aD Tryz.prog sK=true:=by kernel_rfl
abbrev ycN:zR:=[aK 21 8 1,aI 8 2 21,bu 3 0]
abbrev ycO:zR:=[aK 19 5 5,aj 20 0 1,aI 5 20 19]
abbrev ycP:zR:=[aj 14 0 1,aK 15 5 14,bf 16 rb 15,ab 13 16,cn 17 13 0,cn 18 13 1,o 5 (.alloc [.int .i64 0,.own 1 az [],.own 1 az [],.own 2 bI [],.own 1 az []]),aI 5 5 17,ab 6 18]
abbrev ycQ:zR:=[o 11 (.build [.int .i64 0,.list true 0 [],.list true 0 [],.list true 0 [],.list true 0 [],.list true 0 [],.list true 0 [],.list true 0 []] []),ab 12 4,aI 8 2 11,ab 3 12]
abbrev ycR:an:=.seq (.ae ycQ) .ret
abbrev ycS:zR:=[ab 9 4,o 10 (.cmp .neq (.sc .int) (.t 9) (.c (.int .i64 0)))]
abbrev ycT:zR:=[aK 7 8 1,bf 8 vu 7,ab 4 8]
abbrev U4:aM:=⟨.seq (.ae Og) (.seq (.ae ycT) (.seq (.seq (.ae ycS) (.cond (.t 10) ycR .skip)) (.seq (.ae ycP) (.seq (.ae ycO) (.seq (.ae ycN) .ret))))),22,[.cell 2 true 8,.tmp 3]⟩
@[simp] theorem Tx:aH Tryz.prog vp=some U4:=by kernel_rfl
@[simp] theorem apu:aD Tryz.prog vp=true:=by kernel_rfl
abbrev FX:zR:=[ab 85 6,ab 2 85]
abbrev FP:zB:=O::O::O::O::O::I::I::I::O::I::(by(iterate 76 refine O::?_);exact[])
abbrev HC:zB:=O::O::O::O::O::O::I::(by(iterate 79 refine O::?_);exact[])
abbrev ycY:zR:=[ab 57 9,bx 58 57 1,ab 9 58]
abbrev ycZ:zR:=[ab 83 6,bx 84 83 1,ab 6 84]
abbrev yda:zR:=[ab 76 5,ab 77 7,ab 78 9,aQ 79 1 77 78,ah 80 1 79,o 81 (.aV .quo (.t 80) (.c (.int .i64 2))),aQ 82 1 76 81,q (.store 1 (.t 82) (.c (.bool true)))]
abbrev ydb:an:=.seq (.ae yda) (.ae ycZ)
abbrev ydc:zR:=[ab 59 7,ab 60 9,aQ 61 1 59 60,ah 62 1 61,o 63 (.aV .rem (.t 62) (.c (.int .i64 2))),o 64 (.cmp .eql (.sc .int) (.t 63) (.c (.int .i64 1))),ab 65 64,cY 66 65 5,cY 67 65 7,cY 68 65 9,oy 69 65 (.ic 1 (.t 67) (.t 68)),bW 70 65 1 69,oy 71 65 (.aV .quo (.t 70) (.c (.int .i64 2))),oy 72 65 (.ic 1 (.t 66) (.t 71)),bW 73 65 1 72,oy 74 65 (.not (.t 73)),bS 75 65 74]
abbrev ydd:an:=.seq (.ae ydc) (.cond (.t 75) ydb .skip)
abbrev yde:zR:=[ab 53 9,ab 54 7,aS 55 54,bM 56 53 55]
abbrev BL:an:=.seq (.seq (.ae yde) (.cond (.t 56) .skip (.exit 2))) (.seq (.block 3 [] ydd) (.ae ycY))
abbrev Hz:zR:=[bu 9 0]
abbrev PX:zR:=[ab 49 7,aj 50 1 3,ah 51 1 50,o 52 (.append 1 az 8 (.t 49) (.t 51)),ab 7 52]
abbrev P7:zB:=O::O::O::I::O::I::I::I::I::(by(iterate 77 refine O::?_);exact[])
abbrev Pj:zB:=O::O::O::I::O::I::I::I::(by(iterate 78 refine O::?_);exact[])
abbrev P4:zR:=[ab 32 8,bx 33 32 1,ab 8 33]
abbrev ydl:zR:=[ab 34 7,aj 35 3 3,ah 36 1 35,ab 37 8,aQ 38 2 36 37,o 39 (.cT 2 1 (.t 38) (.c (.int .i64 0))),ah 40 1 39,aj 41 3 3,ah 42 1 41,ab 43 8,aQ 44 2 42 43,o 45 (.cT 2 1 (.t 44) (.c (.int .i64 1))),ah 46 1 45,o 47 (.lit 1 [.int .i64 0,.int .i64 0] [(0,.t 40),(1,.t 46)]),o 48 (.append 1 az 8 (.t 34) (.t 47)),ab 7 48]
abbrev ydm:zR:=[ab 27 8,aj 28 3 3,ah 29 1 28,aS 30 29,bM 31 27 30]
abbrev GX:an:=.seq (.seq (.ae ydm) (.cond (.t 31) .skip (.exit 0))) (.seq (.block 1 [] (.aR ((by(iterate 16 refine O::?_);exact[])) [15,14,14,14,14,14,14,14,14,14,14,14,14,15,17,17] ydl)) (.ae P4))
abbrev ydp:zR:=[o 7 (.eN 1 az)]
abbrev ydq:zR:=[aj 24 3 3,ah 25 1 24,aS 26 25,ab 6 26]
abbrev ydr:zR:=[aK 17 5 3,bf 18 gM 17,aj 19 3 3,ah 20 1 19,aS 21 20,o 22 (.aV .add (.t 18) (.t 21)),o 23 (.mkSlice 1 fW 1 (.bool false) (.t 22) (.t 22)),ab 5 23]
abbrev qG:zR:=[bu 2 0]
abbrev OS:an:=.seq (.ae qG) .ret
abbrev ydu:zR:=[ab 15 4,o 16 (.cmp .neq (.sc .int) (.t 15) (.c (.int .i64 0)))]
abbrev ydv:zR:=[aK 11 5 1,bf 12 rb 11,ab 10 12,cn 13 10 0,cn 14 10 1,o 3 (.alloc [.int .i64 0,.own 1 az [],.own 1 az [],.own 2 bI [],.own 1 az []]),aI 5 3 13,ab 4 14]
abbrev uO:zR:=[o 1 (.box 5 (.t 0)),bu 2 0]
abbrev VR:aM:=⟨.seq (.ae uO) (.seq (.ae ydv) (.seq (.seq (.ae ydu) (.cond (.t 16) OS .skip)) (.seq (.aR [O,O,O,I,O,O,O,O] [2,7,7,7,7,7,9,9] ydr) (.seq (.ae ydq) (.seq (.ae ydp) (.seq (.seq (.ae Bt) (.block 0 Pj (.loop P7 GX))) (.seq (.ae PX) (.seq (.seq (.ae Hz) (.block 2 HC (.loop FP BL))) (.seq (.ae FX) .ret))))))))),86,[.tmp 2]⟩
abbrev ydx:zI:=[.code (.seq (.ae FX) .ret)]
abbrev ydy(x5 x6 x7 x9:AV)(h:List Ob)(e:Cx:=cx):aw:=bg sU (.code BL::.inLoop FP BL::.inBlock 2 HC::ydx) (U::U::U::U::U::x5::x6::x7::U::x9::(by(iterate 76 refine U::?_);exact[])) h e
abbrev ydz:zI:=[.code (.seq (.ae PX) (.seq (.seq (.ae Hz) (.block 2 HC (.loop FP BL))) (.seq (.ae FX) .ret)))]
abbrev ydA(x3 x5 x6 x7 x8:AV)(h:List Ob)(e:Cx:=cx):aw:=bg sU (.code GX::.inLoop P7 GX::.inBlock 0 Pj::ydz) (U::U::U::x3::U::x5::x6::x7::x8::(by(iterate 77 refine U::?_);exact[])) h e
@[simp] theorem Um:aH Tryz.prog sU=some VR:=by kernel_rfl
@[simp] theorem ap4:aD Tryz.prog sU=true:=by kernel_rfl
abbrev sv:zR:=[o 4 (.mv (.c (.bool true)))]
abbrev Hh:zB:=O::O::I::I::O::O::I::(by(iterate 69 refine O::?_);exact[])
abbrev Hu:zB:=(by(iterate 76 refine O::?_);exact[])
abbrev ydE:zR:=[ab 62 6,bx 63 62 1,ab 6 63]
abbrev kc:zR:=[pv 4]
abbrev n9:an:=.seq (.ae kc) .ret
abbrev ydH:zR:=[aj 64 3 2,ah 65 1 64,ab 66 6,aQ 67 5 65 66,aK 68 5 67,aj 69 3 3,ah 70 1 69,ab 71 6,aQ 72 5 70 71,aK 73 5 72,cw 74 xM 68 73,o 75 (.not (.t 74))]
abbrev ydI:an:=.seq (.aR [O,O,O,O,O,O,O,O,O,O,O,O] [11,11,11,11,11,11,11,11,11,11,13,13] ydH) (.cond (.t 75) n9 .skip)
abbrev ydJ:zR:=[ab 57 6,aj 58 3 2,ah 59 1 58,aS 60 59,bM 61 57 60]
abbrev BD:an:=.seq (.seq (.ae ydJ) (.cond (.t 61) .skip (.exit 2))) (.seq (.block 3 [] ydI) (.ae ydE))
abbrev qH:zR:=[bu 6 0]
abbrev QA:zB:=O::O::I::I::O::I::(by(iterate 70 refine O::?_);exact[])
abbrev OU:zB:=O::O::I::I::(by(iterate 72 refine O::?_);exact[])
abbrev ydO:zR:=[ab 44 5,bx 45 44 1,ab 5 45]
abbrev ydR:zR:=[aj 46 2 2,ah 47 1 46,ab 48 5,aQ 49 3 47 48,aK 50 3 49,aj 51 2 3,ah 52 1 51,ab 53 5,aQ 54 3 52 53,aK 55 3 54,o 56 (.cmp .neq (.gQ [.str,.str,.int]) (.t 50) (.t 55))]
abbrev ydS:an:=.seq (.aR [O,O,O,O,O,O,O,O,O,O,O] [12,12,12,12,12,12,12,12,12,12,12] ydR) (.cond (.t 56) n9 .skip)
abbrev ydT:zR:=[ab 39 5,aj 40 2 2,ah 41 1 40,aS 42 41,bM 43 39 42]
abbrev G7:an:=.seq (.seq (.ae ydT) (.cond (.t 43) .skip (.exit 0))) (.seq (.block 1 [] ydS) (.ae ydO))
abbrev mf:zR:=[bu 5 0]
abbrev ydY:zR:=[aj 7 0 2,ah 8 1 7,aj 9 0 3,ah 10 1 9,cw 11 lr 8 10,o 12 (.not (.t 11)),ab 13 12,on 14 13 (.off 1 (.t 2)),on 15 13 (.load false 1 (.t 14)),on 16 13 (.off 1 (.t 3)),on 17 13 (.load false 1 (.t 16)),on 18 13 (.call (.f lr) [.t 15,.t 17]),on 19 13 (.not (.t 18)),o 20 (.pick (.t 13) (.c (.bool true)) (.t 19)),ab 21 20,on 22 21 (.off 2 (.t 2)),on 23 21 (.load false 1 (.t 22)),on 24 21 (.len (.t 23)),on 25 21 (.off 2 (.t 3)),on 26 21 (.load false 1 (.t 25)),on 27 21 (.len (.t 26)),on 28 21 (.cmp .neq (.sc .int) (.t 24) (.t 27)),o 29 (.pick (.t 21) (.c (.bool true)) (.t 28)),ab 30 29,on 31 30 (.off 3 (.t 2)),on 32 30 (.load false 1 (.t 31)),on 33 30 (.len (.t 32)),on 34 30 (.off 3 (.t 3)),on 35 30 (.load false 1 (.t 34)),on 36 30 (.len (.t 35)),on 37 30 (.cmp .neq (.sc .int) (.t 33) (.t 36)),o 38 (.pick (.t 30) (.c (.bool true)) (.t 37))]
abbrev ydZ:zR:=[o 2 (.box 4 (.t 0)),o 3 (.box 4 (.t 1)),pv 4]
abbrev XI:aM:=⟨.seq (.ae ydZ) (.seq (.seq (.ae ydY) (.cond (.t 38) n9 .skip)) (.seq (.seq (.ae mf) (.block 0 OU (.loop QA G7))) (.seq (.seq (.ae qH) (.block 2 Hu (.loop Hh BD))) (.seq (.ae sv) .ret)))),76,[.tmp 4]⟩
abbrev Bu:zI:=[.code (.seq (.ae sv) .ret)]
abbrev yeb(x2 x3 x6:AV)(h:List Ob)(e:Cx:=cx):aw:=bg s8 (.code BD::.inLoop Hh BD::.inBlock 2 Hu::Bu) (U::U::x2::x3::U::U::x6::(by(iterate 69 refine U::?_);exact[])) h e
abbrev yec:zI:=[.code (.seq (.seq (.ae qH) (.block 2 Hu (.loop Hh BD))) (.seq (.ae sv) .ret))]
abbrev yed(x2 x3 x5:AV)(h:List Ob)(e:Cx:=cx):aw:=bg s8 (.code G7::.inLoop QA G7::.inBlock 0 OU::yec) (U::U::x2::x3::U::x5::(by(iterate 70 refine U::?_);exact[])) h e
@[simp] theorem U3:aH Tryz.prog s8=some XI:=by kernel_rfl
@[simp] theorem ap9:aD Tryz.prog s8=true:=by kernel_rfl
abbrev yee:zR:=[aj 5 0 2,aK 6 5 5,aj 7 0 3,aK 8 5 7,cw 9 vE 6 8,ab 10 9,oy 11 10 (.off 5 (.t 2)),bW 12 10 1 11,oy 13 10 (.off 5 (.t 3)),bW 14 10 1 13,oy 15 10 (.call (.f lr) [.t 12,.t 14]),bS 16 10 15,ab 17 16,oy 18 17 (.off 6 (.t 2)),bW 19 17 1 18,oy 20 17 (.off 6 (.t 3)),bW 21 17 1 20,oy 22 17 (.call (.f lr) [.t 19,.t 21]),bS 23 17 22,ab 24 23,oy 25 24 (.off 7 (.t 2)),bW 26 24 1 25,oy 27 24 (.off 7 (.t 3)),bW 28 24 1 27,oy 29 24 (.call (.f lr) [.t 26,.t 28]),bS 30 24 29,ab 4 30]
abbrev yef:zR:=[o 2 (.box 8 (.t 0)),o 3 (.box 8 (.t 1)),pv 4]
abbrev X2:aM:=⟨.seq (.ae yef) (.seq (.ae yee) .ret),31,[.tmp 4]⟩
@[simp] theorem Vm:aH Tryz.prog y_=some X2:=by kernel_rfl
@[simp] theorem aqe:aD Tryz.prog y_=true:=by kernel_rfl
abbrev Ht:zR:=[aj 47 3 3,ah 48 1 47,aS 49 48,ah 50 1 5,o 51 (.wg (.t 50)),o 52 (.aV .add (.t 49) (.t 51)),ab 2 52]
abbrev Gm:zB:=O::O::O::I::O::I::I::(by(iterate 30 refine O::?_);exact I::I::I::(by(iterate 13 refine O::?_);exact[]))
abbrev Gp:zB:=O::O::O::I::O::I::(by(iterate 47 refine O::?_);exact[])
abbrev yej:zR:=[bx 46 39 1,ab 39 46]
abbrev yek:zR:=[ab 43 6,ab 44 10,o 45 (.call (.t 43) [.t 44])]
abbrev yel:zR:=[aQ 41 1 37 39,ah 42 1 41,ab 10 42]
abbrev yem:an:=.seq (.ae yel) (.ae yek)
abbrev BY:an:=.seq (.ae N9) (.seq (.cond (.t 40) .skip (.exit 2)) (.seq (.block 3 [] yem) (.ae yej)))
abbrev Pv:zR:=[aj 36 1 3,ah 37 1 36,aS 38 37,bu 39 0]
abbrev QV:zB:=O::O::O::I::O::I::I::(by(iterate 14 refine O::?_);exact I::I::I::(by(iterate 29 refine O::?_);exact[]))
abbrev Qu:zB:=O::O::O::I::O::I::I::(by(iterate 46 refine O::?_);exact[])
abbrev yeu:zR:=[bx 35 23 1,ab 23 35]
abbrev yev:zR:=[ab 31 6,o 32 (.cT 2 1 (.t 8) (.c (.int .i64 1))),ah 33 1 32,o 34 (.call (.t 31) [.t 33])]
abbrev yew:zR:=[ab 27 6,o 28 (.cT 2 1 (.t 8) (.c (.int .i64 0))),ah 29 1 28,o 30 (.call (.t 27) [.t 29])]
abbrev yex:zR:=[aQ 25 2 21 23,aK 26 2 25,o 8 (.alloc [.int .i64 0,.int .i64 0]),aI 2 8 26]
abbrev yey:an:=.seq (.ae yex) (.seq (.ae yew) (.ae yev))
abbrev yez:zR:=[bM 24 23 22]
abbrev GU:an:=.seq (.ae yez) (.seq (.cond (.t 24) .skip (.exit 0)) (.seq (.block 1 [] yey) (.ae yeu)))
abbrev yeB:zR:=[aj 20 3 3,ah 21 1 20,aS 22 21,bu 23 0]
abbrev yeC:zR:=[o 19 (.jl (.func sI) [] [.t 5]),ab 6 19]
abbrev yeD:zR:=[o 18 (.mkMap),o 5 (.alloc [.eu]),aI 1 5 18]
abbrev O8:zR:=[ab 16 4,o 17 (.cmp .neq (.sc .int) (.t 16) (.c (.int .i64 0)))]
abbrev yeH:zR:=[aK 12 5 1,bf 13 nq 12,ab 11 13,cn 14 11 0,cn 15 11 1,o 3 (.alloc [.int .i64 0,.own 1 az [],.own 1 az [],.own 2 bI [],.own 1 az []]),aI 5 3 14,ab 4 15]
abbrev TR:aM:=⟨.seq (.ae uO) (.seq (.ae yeH) (.seq (.seq (.ae O8) (.cond (.t 17) OS .skip)) (.seq (.ae yeD) (.seq (.ae yeC) (.seq (.seq (.ae yeB) (.block 0 Qu (.loop QV GU))) (.seq (.seq (.ae Pv) (.block 2 Gp (.loop Gm BY))) (.seq (.ae Ht) .ret))))))),53,[.tmp 2]⟩
abbrev yeJ:zI:=[.code (.seq (.ae Ht) .ret)]
abbrev yeK(x3 x5 x6 x37 x38 x39:AV)(h:List Ob)(e:Cx:=cx):aw:=bg qY (.code BY::.inLoop Gm BY::.inBlock 2 Gp::yeJ) (U::U::U::x3::U::x5::x6::(by(iterate 30 refine U::?_);exact x37::x38::x39::(by(iterate 13 refine U::?_);exact[]))) h e
abbrev yeL:zI:=[.code (.seq (.seq (.ae Pv) (.block 2 Gp (.loop Gm BY))) (.seq (.ae Ht) .ret))]
abbrev yeM(x3 x5 x6 x21 x22 x23:AV)(h:List Ob)(e:Cx:=cx):aw:=bg qY (.code GU::.inLoop QV GU::.inBlock 0 Qu::yeL) (U::U::U::x3::U::x5::x6::(by(iterate 14 refine U::?_);exact x21::x22::x23::(by(iterate 29 refine U::?_);exact[]))) h e
@[simp] theorem S3:aH Tryz.prog qY=some TR:=by kernel_rfl
@[simp] theorem apm:aD Tryz.prog qY=true:=by kernel_rfl
abbrev yeN:zR:=[aj 3 0 1,ah 4 1 3,o 5 (.cmp .leq (.sc .int) (.t 4) (.c (.int .i64 100))),ab 6 5,on 7 6 (.off 0 (.t 1)),on 8 6 (.load false 1 (.t 7)),on 9 6 (.cmp .gtr (.sc .int) (.t 8) (.c (.int .i64 4000))),o 10 (.pick (.t 6) (.c (.bool true)) (.t 9)),ab 11 10,oy 12 11 (.off 1 (.t 1)),bW 13 11 1 12,oy 14 11 (.len (.t 13)),oy 15 11 (.cmp .leq (.sc .int) (.t 14) (.c (.int .i64 40))),bS 16 11 15,ab 17 16,oy 18 17 (.off 2 (.t 1)),bW 19 17 1 18,oy 20 17 (.len (.t 19)),oy 21 17 (.cmp .leq (.sc .int) (.t 20) (.c (.int .i64 40))),bS 22 17 21,ab 23 22,oy 24 23 (.off 3 (.t 1)),bW 25 23 1 24,oy 26 23 (.len (.t 25)),oy 27 23 (.cmp .leq (.sc .int) (.t 26) (.c (.int .i64 60))),bS 28 23 27,ab 29 28,oy 30 29 (.off 4 (.t 1)),bW 31 29 1 30,oy 32 29 (.len (.t 31)),oy 33 29 (.cmp .leq (.sc .int) (.t 32) (.c (.int .i64 60))),bS 34 29 33,ab 2 34]
abbrev GY:zR:=[o 1 (.box 5 (.t 0)),pv 2]
abbrev aal:aM:=⟨.seq (.ae GY) (.seq (.ae yeN) .ret),35,[.tmp 2]⟩
@[simp] theorem WR:aH Tryz.prog zk=some aal:=by kernel_rfl
@[simp] theorem aqv:aD Tryz.prog zk=true:=by kernel_rfl
abbrev yeP:zR:=[ab 16 5,bx 17 16 1,ab 4 17]
abbrev si:zR:=[o 4 (.mv (.c (.int .i64 (-1))))]
abbrev yeR:an:=.seq (.ae si) .ret
abbrev yeS:zR:=[ab 14 5,o 15 (.cmp .lss (.sc .int) (.t 14) (.c (.int .i64 0)))]
abbrev yeT:zR:=[aj 6 5 2,ah 7 1 6,aj 8 6 2,ah 9 1 8,o 10 (.lit 1 [.list true 0 [],.list true 0 []] [(0,.t 7),(1,.t 9)]),bf 11 mu 10,ab 12 1,cw 13 sF 11 12,ab 5 13]
abbrev Pz:zR:=[o 2 (.box 8 (.t 0)),bu 4 0]
abbrev TF:aM:=⟨.seq (.ae Pz) (.seq (.ae yeT) (.seq (.seq (.ae yeS) (.cond (.t 15) yeR .skip)) (.seq (.ae yeP) .ret))),18,[.tmp 4]⟩
@[simp] theorem S8:aH Tryz.prog vl=some TF:=by kernel_rfl
@[simp] theorem ape:aD Tryz.prog vl=true:=by kernel_rfl
abbrev yeV:zR:=[ab 6 19]
abbrev yeW:zR:=[ah 24 1 5,aj 25 3 1,ah 26 1 25,ab 27 6,aQ 28 5 26 27,aj 29 0 28,ah 30 1 29,q (.delete (.sc .str) (.t 24) (.t 30))]
abbrev yeX:zR:=[ah 20 1 4,ab 21 6,o 22 (.lit 1 [.int .i64 0] [(0,.t 21)]),o 23 (.append 1 az 8 (.t 20) (.t 22)),aI 1 4 23]
abbrev yeY:an:=.seq (.ae yeX) (.aR [O,O,O,O,O,O,O,O] [8,8,8,8,8,8,8,9] yeW)
abbrev yeZ:an:=.block 1 [] yeY
@[simp] theorem apq:aD Tryz.prog Iy=true:=by kernel_rfl
abbrev Bo:zB:=I::I::O::O::O::I::(by(iterate 20 refine O::?_);exact[])
abbrev A6:zB:=(by(iterate 26 refine O::?_);exact[])
abbrev Gs:zR:=[ab 15 5,bx 16 15 1,ab 5 16]
abbrev yfg:zR:=[ab 17 0,ab 18 5,aQ 19 1 17 18,ah 20 1 19,ab 21 1,ab 22 5,aQ 23 1 21 22,ah 24 1 23,o 25 (.cmp .neq (.sc .str) (.t 20) (.t 24))]
abbrev yfh:an:=.seq (.aR [O,O,O,O,O,O,O,O,O] [10,10,10,10,10,10,10,10,10] yfg) (.cond (.t 25) n9 .skip)
abbrev Ph:zR:=[ab 11 5,ab 12 0,aS 13 12,bM 14 11 13]
abbrev Gu:an:=.seq (.seq (.ae Ph) (.cond (.t 14) .skip (.exit 0))) (.seq (.block 1 [] yfh) (.ae Gs))
abbrev PM:zR:=[ab 6 0,aS 7 6,ab 8 1,aS 9 8,o 10 (.cmp .neq (.sc .int) (.t 7) (.t 9))]
abbrev W1:aM:=⟨.seq (.ae kc) (.seq (.seq (.ae PM) (.cond (.t 10) n9 .skip)) (.seq (.seq (.ae mf) (.block 0 A6 (.loop Bo Gu))) (.seq (.ae sv) .ret))),26,[.tmp 4]⟩
abbrev yfq(x0 x1 x5:AV)(h:List Ob)(e:Cx:=cx):aw:=bg lr (.code Gu::.inLoop Bo Gu::.inBlock 0 A6::Bu) (x0::x1::U::U::U::x5::(by(iterate 20 refine U::?_);exact[])) h e
@[simp] theorem TY:aH Tryz.prog lr=some W1:=by kernel_rfl
@[simp] theorem apT:aD Tryz.prog lr=true:=by kernel_rfl
abbrev O3:zR:=[ab 23 0,aS 24 23,ab 25 1,o 26 (.cmp .leq (.sc .int) (.t 24) (.t 25)),ab 4 26]
abbrev Qk:zB:=I::I::O::O::O::I::(by(iterate 21 refine O::?_);exact[])
abbrev N8:zB:=I::I::(by(iterate 25 refine O::?_);exact[])
abbrev yfx:zR:=[ab 17 0,ab 18 5,aQ 19 1 17 18,ah 20 1 19,o 21 (.oQ (.t 20)),o 22 (.cmp .gtr (.sc .int) (.t 21) (.c (.int .i64 60)))]
abbrev yfy:an:=.seq (.ae yfx) (.cond (.t 22) n9 .skip)
abbrev yfz:zR:=[ab 6 5,ab 7 0,aS 8 7,bM 9 6 8,ab 10 9,cY 11 10 5,cY 12 10 1,oy 13 10 (.cmp .leq (.sc .int) (.t 11) (.t 12)),bS 14 10 13]
abbrev Hf:an:=.seq (.seq (.ae yfz) (.cond (.t 14) .skip (.exit 0))) (.seq (.block 1 [] yfy) (.ae Gs))
abbrev WZ:aM:=⟨.seq (.ae kc) (.seq (.seq (.ae mf) (.block 0 N8 (.loop Qk Hf))) (.seq (.ae O3) .ret)),27,[.tmp 4]⟩
abbrev yfD:zI:=[.code (.seq (.ae O3) .ret)]
abbrev yfE(x0 x1 x5:AV)(h:List Ob)(e:Cx:=cx):aw:=bg ri (.code Hf::.inLoop Qk Hf::.inBlock 0 N8::yfD) (x0::x1::U::U::U::x5::(by(iterate 21 refine U::?_);exact[])) h e
@[simp] theorem T0:aH Tryz.prog ri=some WZ:=by kernel_rfl
@[simp] theorem apP:aD Tryz.prog ri=true:=by kernel_rfl
abbrev F6:zR:=[ah 91 1 3,ab 2 91]
abbrev Ge:zR:=[ah 81 1 3,ah 82 1 3,o 83 (.bG (.t 82)),aj 84 4 83,ah 85 1 84,aj 86 7 1,ah 87 1 86,o 88 (.append 1 au 16 (.t 85) (.t 87)),o 89 (.bG (.t 81)),aj 90 4 89,aI 1 90 88]
abbrev xd:zB:=O::I::O::I::(by(iterate 42 refine O::?_);exact I::I::I::(by(iterate 43 refine O::?_);exact[]))
abbrev Hn:zB:=O::I::O::I::(by(iterate 88 refine O::?_);exact[])
abbrev PV:zR:=[bx 80 48 1,ab 48 80]
abbrev Qd:zB:=O::I::O::I::(by(iterate 42 refine O::?_);exact I::I::I::O::O::O::I::I::I::(by(iterate 37 refine O::?_);exact[]))
abbrev yfM:zR:=[bx 79 54 1,ab 54 79]
abbrev yfN:zR:=[ah 68 1 3,o 69 (.bG (.t 68)),aj 70 5 69,ah 71 1 70,ah 72 1 3,o 73 (.bG (.t 72)),aj 74 4 73,ah 75 1 74,aS 76 75,o 77 (.aV .mul (.c (.int .i64 2)) (.t 76)),ab 78 7,q (.bA (.sc .int) (.t 71) (.t 77) (.t 78))]
abbrev yfO:zR:=[ah 58 1 3,ah 59 1 3,o 60 (.bG (.t 59)),aj 61 4 60,ah 62 1 61,ab 63 7,o 64 (.lit 1 [.str []] [(0,.t 63)]),o 65 (.append 1 au 16 (.t 62) (.t 64)),o 66 (.bG (.t 58)),aj 67 4 66,aI 1 67 65]
abbrev yfP:zR:=[aQ 56 1 52 54,ah 57 1 56,ab 7 57]
abbrev yfQ:an:=.seq (.ae yfP) (.seq (.aR [I,I,O,O,I,O,O,O,O,O,O] [11,8,8,8,8,7,8,11,11,11,12] yfO) (.aR [O,O,O,O,O,O,O,O,O,O,O,O] [12,12,12,12,12,12,12,12,12,12,12,13] yfN))
abbrev yfR:zR:=[bM 55 54 53]
abbrev Hs:an:=.seq (.ae yfR) (.seq (.cond (.t 55) .skip (.exit 2)) (.seq (.block 3 [] yfQ) (.ae yfM)))
abbrev yfT:zR:=[ab 52 5,aS 53 52,bu 54 0]
abbrev yfU:zR:=[aQ 50 1 46 48,ah 51 1 50,ab 5 51]
abbrev yfV:an:=.seq (.ae yfU) (.seq (.ae yfT) (.block 2 xd (.loop Qd Hs)))
abbrev yfW:zR:=[bM 49 48 47]
abbrev B4:an:=.seq (.ae yfW) (.seq (.cond (.t 49) .skip (.exit 0)) (.seq (.block 1 [] yfV) (.ae PV)))
abbrev yfY:zR:=[aj 42 5 1,ah 43 1 42,aj 44 6 1,ah 45 1 44,o 46 (.lit 1 [.list true 0 [],.list true 0 []] [(0,.t 43),(1,.t 45)]),aS 47 46,bu 48 0]
abbrev yfZ:zR:=[ah 39 1 3,o 40 (.bG (.t 39)),aj 41 7 40,q (.store 1 (.t 41) (.f vi))]
abbrev yga:zR:=[ah 35 1 3,o 36 (.jl (.func qW) [] [.t 3]),o 37 (.bG (.t 35)),aj 38 6 37,aI 1 38 36]
abbrev ygb:zR:=[ah 11 1 3,ah 12 1 3,ah 13 1 3,o 14 (.bG (.t 13)),aj 15 0 14,aj 16 0 15,ah 17 1 16,aj 18 5 1,ah 19 1 18,o 20 (.append 1 au 16 (.t 17) (.t 19)),ah 21 1 3,o 22 (.bG (.t 21)),aj 23 0 22,aj 24 1 23,ah 25 1 24,aj 26 7 1,ah 27 1 26,o 28 (.append 1 au 16 (.t 25) (.t 27)),o 29 (.bG (.t 11)),aj 30 0 29,aj 31 0 30,aI 1 31 20,o 32 (.bG (.t 12)),aj 33 0 32,aj 34 1 33,aI 1 34 28]
abbrev ygc:zR:=[o 8 (.mkMap),o 9 (.build [.list true 0 [],.list true 0 [],.list true 0 [],.list true 0 [],.list true 0 [],.eu,.ei,.ei] [(5,1,.t 8)]),o 10 (.box 8 (.t 9)),o 3 (.alloc [.iq]),aI 1 3 10]
abbrev ygd:zR:=[o 1 (.box 8 (.t 0)),o 2 (.mv (.c .iq))]
abbrev Uh:aM:=⟨.seq (.ae ygd) (.seq (.ae ygc) (.seq (.aR [I,I,O,O,O,O,O,O,O,O,I,O,O,O,I,O,I,O,O,O,O,O,O,O,O,O] [22,26,10,10,10,10,10,10,10,18,18,18,18,18,18,18,18,22,22,22,22,26,26,26,26,27] ygb) (.seq (.ae yga) (.seq (.ae yfZ) (.seq (.seq (.ae yfY) (.block 0 Hn (.loop xd B4))) (.seq (.aR [I,O,O,O,O,O,O,O,O,O,O] [11,8,8,8,8,8,8,11,11,11,12] Ge) (.seq (.ae F6) .ret))))))),92,[.tmp 2]⟩
abbrev Od:zI:=[.inBlock 1 [],.code (.ae PV),.inLoop xd B4,.inBlock 0 Hn,.code (.seq (.aR [I,O,O,O,O,O,O,O,O,O,O] [11,8,8,8,8,8,8,11,11,11,12] Ge) (.seq (.ae F6) .ret))]
abbrev ygf(x1 x3 x46 x47 x48 x52 x53 x54:AV)(h:List Ob)(e:Cx:=cx):aw:=bg qX (.code Hs::.inLoop Qd Hs::.inBlock 2 xd::Od) (U::x1::U::x3::(by(iterate 42 refine U::?_);exact x46::x47::x48::U::U::U::x52::x53::x54::(by(iterate 37 refine U::?_);exact[]))) h e
abbrev ygg(x1 x3 x46 x47 x48:AV)(h:List Ob)(e:Cx:=cx):aw:=bg qX Od (U::x1::U::x3::(by(iterate 42 refine U::?_);exact x46::x47::x48::(by(iterate 43 refine U::?_);exact[]))) h e
abbrev ygh:zI:=[.code (.seq (.aR [I,O,O,O,O,O,O,O,O,O,O] [11,8,8,8,8,8,8,11,11,11,12] Ge) (.seq (.ae F6) .ret))]
abbrev ygi(x1 x3 x46 x47 x48:AV)(h:List Ob)(e:Cx:=cx):aw:=bg qX (.code B4::.inLoop xd B4::.inBlock 0 Hn::ygh) (U::x1::U::x3::(by(iterate 42 refine U::?_);exact x46::x47::x48::(by(iterate 43 refine U::?_);exact[]))) h e
@[simp] theorem SW:aH Tryz.prog qX=some Uh:=by kernel_rfl
@[simp] theorem apd:aD Tryz.prog qX=true:=by kernel_rfl
abbrev ygj:zR:=[ab 27 0,o 28 (.bG (.t 27)),aj 29 5 28,ah 30 1 29,ab 31 1,o 32 (.lookup (.sc .int) (.str []) (.t 30) (.t 31) false),ab 4 32]
abbrev ygk:zR:=[ab 18 0,ab 19 1,ab 20 0,o 21 (.bG (.t 20)),aj 22 7 21,ah 23 1 22,ab 24 1,o 25 (.call (.t 23) [.t 24]),o 26 (.call (.f vf) [.t 18,.t 19,.t 25])]
abbrev ygl:zR:=[ab 16 6,o 17 (.not (.t 16))]
abbrev ygm:zR:=[ab 8 0,o 9 (.bG (.t 8)),aj 10 5 9,ah 11 1 10,ab 12 1,o 13 (.lookup (.sc .int) (.str []) (.t 11) (.t 12) true),ab 7 13,cn 14 7 0,cn 15 7 1,ab 5 14,ab 6 15]
abbrev P9:zR:=[o 4 (.mv (.c (.str [])))]
abbrev R9:aM:=⟨.seq (.ae P9) (.seq (.seq (.ae ygm) (.seq (.ae ygl) (.cond (.t 17) (.ae ygk) .skip))) (.seq (.ae ygj) .ret)),33,[.tmp 4]⟩
@[simp] theorem RZ:aH Tryz.prog sG=some R9:=by kernel_rfl
@[simp] theorem aoO:aD Tryz.prog sG=true:=by kernel_rfl
abbrev ygo:zR:=[ab 40 0,o 41 (.bG (.t 40)),aj 42 6 41,ah 43 1 42,aK 44 5 6,o 45 (.call (.t 43) [.t 44])]
abbrev ygp:zR:=[ab 33 0,o 34 (.bG (.t 33)),aj 35 5 34,ah 36 1 35,ab 37 1,aj 38 0 6,ah 39 1 38,q (.bA (.sc .int) (.t 36) (.t 37) (.t 39))]
abbrev ygq:zR:=[ab 22 0,ab 23 0,o 24 (.bG (.t 23)),aj 25 4 24,ah 26 1 25,aj 27 0 6,ah 28 1 27,o 29 (.lit 1 [.str []] [(0,.t 28)]),o 30 (.append 1 au 16 (.t 26) (.t 29)),o 31 (.bG (.t 22)),aj 32 4 31,aI 1 32 30]
abbrev ygr:zR:=[ab 16 0,o 17 (.bG (.t 16)),aj 18 4 17,ah 19 1 18,o 20 (.call (.f sO) [.t 19,.c (.str [110])]),aj 21 0 6,aI 1 21 20]
abbrev ygs:zR:=[ab 7 2,ab 8 0,o 9 (.bG (.t 8)),aj 10 5 9,ah 11 1 10,o 12 (.jl (.method qS) [.t 7] []),o 13 (.bG (.t 12)),ab 14 7,o 15 (.invoke (.t 14) qS [.t 11]),o 6 (.alloc [.str [],.int .i64 0,.own 1 au [],.own 1 au [],.bool false]),aI 5 6 15]
abbrev R1:aM:=⟨.seq (.aR [O,O,O,O,I,O,O,O,I,O,O] [11,11,11,11,11,11,11,11,11,11,12] ygs) (.seq (.ae ygr) (.seq (.aR [O,O,O,O,I,O,O,O,O,O,O,O] [12,9,9,9,9,8,8,9,12,12,12,13] ygq) (.seq (.aR [O,O,O,O,O,O,O,O] [8,8,8,8,8,8,8,9] ygp) (.aR [O,O,O,O,O,O] [6,6,6,6,6,7] ygo)))),46,[]⟩
@[simp] theorem Ci:aH Tryz.prog vf=some R1:=by kernel_rfl
@[simp] theorem aoL:aD Tryz.prog vf=true:=by kernel_rfl
abbrev ygt:zR:=[aK 39 5 7,aI 5 6 39]
abbrev ygu:zR:=[ab 37 1,aj 38 0 7,aI 1 38 37]
abbrev ygv:zR:=[ab 29 0,o 30 (.bG (.t 29)),aj 31 5 30,ah 32 1 31,ab 33 2,o 34 (.lookup (.sc .int) (.str []) (.t 32) (.t 33) false),o 35 (.lit 1 [.str []] [(0,.t 34)]),o 36 (.build [.str [],.int .i64 0,.list true 0 [],.list true 0 [],.bool false] [(1,1,.c (.int .i64 2)),(2,1,.t 35)]),aI 5 7 36]
abbrev ygw:zR:=[ab 22 2,o 23 (.cmp .gtr (.sc .int) (.t 22) (.c (.int .i64 1))),ab 24 23,cY 25 24 2,oy 26 24 (.aV .and (.t 25) (.c (.int .i64 1))),oy 27 24 (.cmp .eql (.sc .int) (.t 26) (.c (.int .i64 0))),bS 28 24 27]
abbrev ygx:zR:=[ab 8 0,o 9 (.bG (.t 8)),aj 10 7 9,ah 11 1 10,ab 12 2,o 13 (.call (.t 11) [.t 12]),ab 14 0,o 15 (.bG (.t 14)),aj 16 5 15,ah 17 1 16,o 18 (.jl (.method qS) [.t 13] []),o 19 (.bG (.t 18)),ab 20 13,o 21 (.invoke (.t 20) qS [.t 17]),o 7 (.alloc [.str [],.int .i64 0,.own 1 au [],.own 1 au [],.bool false]),aI 5 7 21]
abbrev ygy:zR:=[o 6 (.alloc [.str [],.int .i64 0,.own 1 au [],.own 1 au [],.bool false])]
abbrev RS:aM:=⟨.seq (.ae ygy) (.seq (.aR [O,O,O,I,O,I,O,O,O,I,O,O,O,I,O,O] [16,16,16,16,16,16,16,16,16,16,16,16,16,16,16,17] ygx) (.seq (.seq (.ae ygw) (.cond (.t 28) (.ae ygv) .skip)) (.seq (.ae ygu) (.seq (.ae ygt) .ret)))),40,[.cell 6 true 5]⟩
@[simp] theorem RN:aH Tryz.prog xE=some RS:=by kernel_rfl
@[simp] theorem aoF:aD Tryz.prog xE=true:=by kernel_rfl
abbrev wW:zR:=[q (.store 1 (.t 2) (.c (.int .i64 0))),q (.store 1 (.t 3) (.c (.str [])))]
abbrev xf:zB:=O::O::I::I::O::O::O::I::(by(iterate 84 refine O::?_);exact[I,I,I,O,O,O,O,O,O,O,O,O])
abbrev w7:zB:=O::O::I::I::(by(iterate 100 refine O::?_);exact[])
abbrev ygC:zR:=[bx 103 94 1,ab 94 103]
abbrev ygD:zR:=[ab 98 7,ab 99 13,o 100 (.lookup (.sc .str) (.bool false) (.t 98) (.t 99) false),ab 101 13,o 102 (.call (.f nv) [.t 100,.c (.int .i64 6),.t 101])]
abbrev ygE:zR:=[aQ 96 1 92 94,ah 97 1 96,ab 13 97]
abbrev ygF:an:=.seq (.ae ygE) (.ae ygD)
abbrev ygG:zR:=[bM 95 94 93]
abbrev uN:an:=.seq (.ae ygG) (.seq (.cond (.t 95) .skip (.exit 6)) (.seq (.block 7 [] ygF) (.ae ygC)))
abbrev Bv:zR:=[aK 91 4 1,bf 92 s_ 91,aS 93 92,bu 94 0]
abbrev Bw:zB:=O::I::I::I::O::O::O::I::(by(iterate 71 refine O::?_);exact I::I::I::(by(iterate 22 refine O::?_);exact[]))
abbrev sg:zB:=O::I::I::I::O::O::O::I::(by(iterate 96 refine O::?_);exact[])
abbrev ygL:zR:=[bx 90 81 1,ab 81 90]
abbrev He:zR:=[aK 85 5 11,bf 86 zi 85,aj 87 0 11,ah 88 1 87,o 89 (.call (.f nv) [.t 86,.c (.int .i64 1),.t 88])]
abbrev ygN:zR:=[aQ 83 5 79 81,aK 84 5 83,o 11 (.alloc [.str [],.int .i64 0,.own 1 au [],.own 1 au [],.bool false]),aI 5 11 84]
abbrev ygO:an:=.seq (.ae ygN) (.aR [O,O,O,I,O] [2,5,5,5,6] He)
abbrev ygP:zR:=[bM 82 81 80]
abbrev wY:an:=.seq (.ae ygP) (.seq (.cond (.t 82) .skip (.exit 4)) (.seq (.block 5 [] ygO) (.ae ygL)))
abbrev FO:zR:=[aj 78 3 1,ah 79 1 78,aS 80 79,bu 81 0]
abbrev HD:zB:=O::I::I::I::O::O::O::I::(by(iterate 52 refine O::?_);exact I::I::I::(by(iterate 41 refine O::?_);exact[]))
abbrev ygU:zR:=[bx 77 62 1,ab 62 77]
abbrev ygV:zR:=[aj 66 2 9,ah 67 1 66,o 68 (.cmp .geq (.sc .int) (.t 67) (.c (.int .i64 0))),ab 69 68,oy 70 69 (.off 2 (.t 9)),bW 71 69 1 70,oy 72 69 (.cmp .leq (.sc .int) (.t 71) (.c (.int .i64 2))),bS 73 69 72,aj 74 0 9,ah 75 1 74,o 76 (.call (.f nv) [.t 73,.c (.int .i64 1),.t 75])]
abbrev ygW:zR:=[aQ 64 3 60 62,aK 65 3 64,o 9 (.alloc [.str [],.str [],.int .i64 0]),aI 3 9 65]
abbrev ygX:an:=.seq (.ae ygW) (.ae ygV)
abbrev Qj:zR:=[bM 63 62 61]
abbrev B6:an:=.seq (.ae Qj) (.seq (.cond (.t 63) .skip (.exit 2)) (.seq (.block 3 [] ygX) (.ae ygU)))
abbrev Po:zR:=[aj 59 2 1,ah 60 1 59,aS 61 60,bu 62 0]
abbrev PN:zR:=[aj 56 1 1,ah 57 1 56,bf 58 rl 57]
abbrev OA:zR:=[aK 53 4 1,bf 54 s9 53,bf 55 rl 54,ab 7 55]
abbrev QB:zB:=O::I::I::I::(by(iterate 38 refine O::?_);exact I::I::I::(by(iterate 59 refine O::?_);exact[]))
abbrev Qr:zB:=O::I::I::I::(by(iterate 100 refine O::?_);exact[])
abbrev yhf:zR:=[bx 52 44 1,ab 44 52]
abbrev yhg:zR:=[ab 48 6,bf 49 vo 48,ab 50 6,o 51 (.call (.f nv) [.t 49,.c (.int .i64 4),.t 50])]
abbrev yhh:zR:=[aQ 46 1 42 44,ah 47 1 46,ab 6 47]
abbrev yhi:an:=.seq (.ae yhh) (.ae yhg)
abbrev yhj:zR:=[bM 45 44 43]
abbrev FV:an:=.seq (.ae yhj) (.seq (.cond (.t 45) .skip (.exit 0)) (.seq (.block 1 [] yhi) (.ae yhf)))
abbrev yhl:zR:=[aK 41 4 1,bf 42 s6 41,aS 43 42,bu 44 0]
abbrev yhm:zR:=[aj 15 0 1,ah 16 1 15,aS 17 16,aj 18 2 1,ah 19 1 18,aS 20 19,o 21 (.aV .add (.t 17) (.t 20)),aj 22 3 1,ah 23 1 22,aS 24 23,o 25 (.aV .add (.t 21) (.t 24)),o 26 (.cmp .leq (.sc .int) (.t 25) (.c (.int .i64 200))),ab 27 26,oy 28 27 (.off 1 (.t 1)),bW 29 27 1 28,oy 30 27 (.len (.t 29)),oy 31 27 (.cmp .leq (.sc .int) (.t 30) (.c (.int .i64 200))),bS 32 27 31,ab 33 32,oy 34 33 (.off 3 (.t 1)),bW 35 33 1 34,cY 36 33 4,oy 37 33 (.call (.f xA) [.t 35,.t 36]),oy 38 33 (.not (.t 37)),bS 39 33 38,o 40 (.call (.f nv) [.t 39,.c (.int .i64 8),.c (.str [])])]
abbrev yhn:zR:=[o 4 (.mv (.f vk))]
abbrev yho:zR:=[o 14 (.jl (.func xT) [] [.t 2,.t 3]),q (.defer (.t 14) [])]
abbrev yhp:zR:=[o 1 (.box 4 (.t 0)),o 2 (.alloc [.int .i64 0]),o 3 (.alloc [.str []])]
abbrev WJ:aM:=⟨.seq (.ae yhp) (.seq (.ae yho) (.seq (.ae yhn) (.seq (.ae yhm) (.seq (.seq (.ae yhl) (.block 0 Qr (.loop QB FV))) (.seq (.ae OA) (.seq (.ae PN) (.seq (.seq (.ae Po) (.block 2 sg (.loop HD B6))) (.seq (.seq (.ae FO) (.block 4 sg (.loop Bw wY))) (.seq (.seq (.ae Bv) (.block 6 w7 (.loop xf uN))) (.seq (.ae wW) .ret)))))))))),104,[.cell 2 false 1,.cell 3 false 1]⟩
abbrev yhq:zI:=[.code (.seq (.ae wW) .ret)]
abbrev yhr(x2 x3 x7 x92 x93 x94:AV)(h:List Ob)(e:Cx:=cx):aw:=bg ou (.code uN::.inLoop xf uN::.inBlock 6 w7::yhq) (U::U::x2::x3::U::U::U::x7::(by(iterate 84 refine U::?_);exact[x92,x93,x94,U,U,U,U,U,U,U,U,U])) h e
abbrev yhs:zI:=[.code (.seq (.seq (.ae Bv) (.block 6 w7 (.loop xf uN))) (.seq (.ae wW) .ret))]
abbrev yht(x1 x2 x3 x7 x79 x80 x81:AV)(h:List Ob)(e:Cx:=cx):aw:=bg ou (.code wY::.inLoop Bw wY::.inBlock 4 sg::yhs) (U::x1::x2::x3::U::U::U::x7::(by(iterate 71 refine U::?_);exact x79::x80::x81::(by(iterate 22 refine U::?_);exact[]))) h e
abbrev yhu:zI:=[.code (.seq (.seq (.ae FO) (.block 4 sg (.loop Bw wY))) (.seq (.seq (.ae Bv) (.block 6 w7 (.loop xf uN))) (.seq (.ae wW) .ret)))]
abbrev yhv(x1 x2 x3 x7 x60 x61 x62:AV)(h:List Ob)(e:Cx:=cx):aw:=bg ou (.code B6::.inLoop HD B6::.inBlock 2 sg::yhu) (U::x1::x2::x3::U::U::U::x7::(by(iterate 52 refine U::?_);exact x60::x61::x62::(by(iterate 41 refine U::?_);exact[]))) h e
abbrev yhw:zI:=[.code (.seq (.ae OA) (.seq (.ae PN) (.seq (.seq (.ae Po) (.block 2 sg (.loop HD B6))) (.seq (.seq (.ae FO) (.block 4 sg (.loop Bw wY))) (.seq (.seq (.ae Bv) (.block 6 w7 (.loop xf uN))) (.seq (.ae wW) .ret))))))]
abbrev yhx(x1 x2 x3 x42 x43 x44:AV)(h:List Ob)(e:Cx:=cx):aw:=bg ou (.code FV::.inLoop QB FV::.inBlock 0 Qr::yhw) (U::x1::x2::x3::(by(iterate 38 refine U::?_);exact x42::x43::x44::(by(iterate 59 refine U::?_);exact[]))) h e
@[simp] theorem IH:aH Tryz.prog ou=some WJ:=by kernel_rfl
@[simp] theorem apG:aD Tryz.prog ou=true:=by kernel_rfl
abbrev GQ:zR:=[aK 46 3 4,aI 3 2 46]
abbrev GW:zR:=[ab 41 3,aj 42 7 1,ah 43 1 42,o 44 (.append 1 au 16 (.t 41) (.t 43)),aj 45 1 4,aI 1 45 44]
abbrev G_:zB:=O::I::I::I::I::I::(by(iterate 41 refine O::?_);exact[])
abbrev GL:zB:=O::I::I::I::I::(by(iterate 42 refine O::?_);exact[])
abbrev yhC:zR:=[ab 29 5,bx 30 29 1,ab 5 30]
abbrev yhD:zR:=[aj 31 2 4,ah 32 1 31,ab 33 5,bx 34 33 1,o 35 (.aV .mul (.c (.int .i64 2)) (.t 34)),ab 36 3,ab 37 5,aQ 38 1 36 37,ah 39 1 38,aQ 40 1 32 35,aI 1 40 39]
abbrev yhE:zR:=[ab 25 5,ab 26 3,aS 27 26,bM 28 25 27]
abbrev BC:an:=.seq (.seq (.ae yhE) (.cond (.t 28) .skip (.exit 0))) (.seq (.block 1 [] (.aR [O,O,O,O,O,O,O,O,O,O,O] [11,11,11,11,11,11,11,11,11,11,12] yhD)) (.ae yhC))
abbrev wX:zR:=[aj 14 0 1,aK 15 5 14,bf 16 gM 15,aj 17 0 1,aj 18 3 17,ah 19 1 18,aS 20 19,o 21 (.aV .add (.t 16) (.t 20)),o 22 (.aV .mul (.c (.int .i64 2)) (.t 21)),o 23 (.mkSlice 1 au 16 (.str []) (.t 22) (.t 22)),o 24 (.build [.list true 0 [],.list true 0 [],.list true 0 []] [(2,1,.t 23)]),o 4 (.alloc [.own 5 dB [],.own 1 au [],.own 1 au []]),aI 3 4 24]
abbrev yhI:zR:=[ab 10 3,aj 11 6 1,ah 12 1 11,o 13 (.append 1 au 16 (.t 10) (.t 12)),ab 3 13]
abbrev yhJ:zR:=[ab 6 3,aj 7 5 1,ah 8 1 7,o 9 (.append 1 au 16 (.t 6) (.t 8)),ab 3 9]
abbrev Qa:zR:=[o 3 (.eN 1 au)]
abbrev yhL:zR:=[o 1 (.box 8 (.t 0)),o 2 (.alloc [.own 5 dB [],.own 1 au [],.own 1 au []])]
abbrev Xd:aM:=⟨.seq (.ae yhL) (.seq (.ae Qa) (.seq (.ae yhJ) (.seq (.ae yhI) (.seq (.eH [[],[0],[1],[],[3],[4],[5],[2,6],[7],[8,8],[9],[],[11,10,2,0,1,2,3,4,5,6,7,8,9,10,11]] wX) (.seq (.seq (.ae mf) (.block 0 GL (.loop G_ BC))) (.seq (.ae GW) (.seq (.ae GQ) .ret))))))),47,[.cell 2 true 3]⟩
abbrev yhM:zI:=[.code (.seq (.ae GW) (.seq (.ae GQ) .ret))]
abbrev yhN(x1 x2 x3 x4 x5:AV)(h:List Ob)(e:Cx:=cx):aw:=bg mw (.code BC::.inLoop G_ BC::.inBlock 0 GL::yhM) (U::x1::x2::x3::x4::x5::(by(iterate 41 refine U::?_);exact[])) h e
@[simp] theorem TO:aH Tryz.prog mw=some Xd:=by kernel_rfl
@[simp] theorem ap1:aD Tryz.prog mw=true:=by kernel_rfl
abbrev PD:zR:=[aj 3 0 1,ah 4 1 3,o 5 (.aV .add (.c (.int .i64 1)) (.t 4)),aj 6 1 1,ah 7 1 6,aS 8 7,o 9 (.aV .add (.t 5) (.t 8)),ab 2 9]
abbrev WK:aM:=⟨.seq (.ae uO) (.seq (.ae PD) .ret),10,[.tmp 2]⟩
@[simp] theorem Uk:aH Tryz.prog gM=some WK:=by kernel_rfl
@[simp] theorem apK:aD Tryz.prog gM=true:=by kernel_rfl
abbrev yhQ:zR:=[aK 22 3 2,ab 23 1,aj 24 2 2,ah 25 1 24,ab 26 1,o 27 (.aV .sub (.t 26) (.c (.int .i64 1))),aQ 28 1 25 27,ah 29 1 28,o 30 (.lit 1 [.str []] [(0,.t 29)]),o 31 (.call (.f pY) [.t 22,.t 23,.c (.int .i64 3),.t 30]),aI 3 4 31]
abbrev yhR:zR:=[aK 19 3 2,ab 20 1,o 21 (.call (.f pY) [.t 19,.t 20,.c (.int .i64 1),.c (.list true 0 [])]),aI 3 4 21]
abbrev yhS:an:=.seq (.ae yhR) .ret
abbrev yhT:zR:=[ab 17 1,o 18 (.cmp .eql (.sc .int) (.t 17) (.c (.int .i64 1)))]
abbrev yhU:zR:=[aK 14 3 2,ab 15 1,o 16 (.call (.f pY) [.t 14,.t 15,.c (.int .i64 0),.c (.list true 0 [])]),aI 3 4 16]
abbrev yhV:an:=.seq (.ae yhU) .ret
abbrev yhW:zR:=[ab 12 1,o 13 (.cmp .eql (.sc .int) (.t 12) (.c (.int .i64 0)))]
abbrev yhX:zR:=[aK 11 3 2,aI 3 4 11]
abbrev yhY:an:=.seq (.ae yhX) .ret
abbrev yhZ:zR:=[aj 5 2 2,ah 6 1 5,ab 7 1,aQ 8 1 6 7,ah 9 1 8,o 10 (.cmp .neq (.sc .str) (.t 9) (.c (.str [])))]
abbrev yia:zR:=[o 2 (.box 3 (.t 0)),o 4 (.alloc [.own 5 dB [],.own 1 au [],.own 1 au []])]
abbrev XZ:aM:=⟨.seq (.ae yia) (.seq (.seq (.ae yhZ) (.cond (.t 10) yhY .skip)) (.seq (.seq (.ae yhW) (.cond (.t 13) yhV .skip)) (.seq (.seq (.ae yhT) (.cond (.t 18) yhS .skip)) (.seq (.aR [I,O,O,O,O,O,O,O,O,O,O] [10,10,9,9,9,9,9,9,10,11,12] yhQ) .ret)))),32,[.cell 4 true 3]⟩
@[simp] theorem zd:aH Tryz.prog s7=some XZ:=by kernel_rfl
@[simp] theorem aqq:aD Tryz.prog s7=true:=by kernel_rfl
abbrev yib:zR:=[ab 32 10,ab 33 9,ab 34 2,ab 35 3,o 36 (.build [.str [],.int .i64 0,.list true 0 [],.list true 0 [],.bool false] [(0,1,.t 33),(1,1,.t 34),(2,1,.t 35)]),o 37 (.lit 5 [.agg [.str [],.int .i64 0,.list true 0 [],.list true 0 [],.bool false]] [(0,.t 36)]),o 38 (.append 5 dB 80 (.t 32) (.t 37)),ab 39 11,ab 40 9,o 41 (.lit 1 [.str []] [(0,.t 40)]),o 42 (.append 1 au 16 (.t 39) (.t 41)),ab 43 12,o 44 (.build [.list true 0 [],.list true 0 [],.list true 0 []] [(0,1,.t 38),(1,1,.t 42),(2,1,.t 43)]),aI 3 8 44]
abbrev yic:zR:=[ab 28 12,ab 29 1,ab 30 9,aQ 31 1 28 29,aI 1 31 30]
abbrev yid:zR:=[ab 24 12,aj 25 2 4,ah 26 1 25,o 27 (.append 1 au 16 (.t 24) (.t 26)),ab 12 27]
abbrev yie:zR:=[o 12 (.eN 1 au)]
abbrev yif:zR:=[ab 20 11,aj 21 1 4,ah 22 1 21,o 23 (.append 1 au 16 (.t 20) (.t 22)),ab 11 23]
abbrev yig:zR:=[o 11 (.eN 1 au)]
abbrev yih:zR:=[ab 16 10,aj 17 0 4,ah 18 1 17,o 19 (.append 5 dB 80 (.t 16) (.t 18)),ab 10 19]
abbrev yii:zR:=[o 10 (.eN 5 dB)]
abbrev yij:zR:=[aj 13 1 4,ah 14 1 13,o 15 (.call (.f vt) [.t 14,.c (.str [110])]),ab 9 15]
abbrev yik:zR:=[o 4 (.box 3 (.t 0)),o 8 (.alloc [.own 5 dB [],.own 1 au [],.own 1 au []])]
abbrev XC:aM:=⟨.seq (.ae yik) (.seq (.ae yij) (.seq (.ae yii) (.seq (.ae yih) (.seq (.ae yig) (.seq (.ae yif) (.seq (.ae yie) (.seq (.ae yid) (.seq (.ae yic) (.seq (.ae yib) .ret))))))))),45,[.cell 8 true 3]⟩
@[simp] theorem Vq:aH Tryz.prog pY=some XC:=by kernel_rfl
@[simp] theorem aqh:aD Tryz.prog pY=true:=by kernel_rfl
abbrev OH:zB:=O::I::O::O::O::I::I::(by(iterate 16 refine O::?_);exact[])
abbrev O_:zB:=(by(iterate 23 refine O::?_);exact[])
abbrev yio:zR:=[ab 13 6,bx 14 13 1,ab 6 14]
abbrev yip:zR:=[ab 21 6,bx 22 21 1,ab 4 22]
abbrev yiq:an:=.seq (.ae yip) .ret
abbrev yir:zR:=[ab 15 5,ab 16 6,aQ 17 1 15 16,ah 18 1 17,ab 19 1,o 20 (.cmp .eql (.sc .str) (.t 18) (.t 19))]
abbrev yis:an:=.seq (.ae yir) (.cond (.t 20) yiq .skip)
abbrev yit:zR:=[ab 9 6,ab 10 5,aS 11 10,bM 12 9 11]
abbrev GJ:an:=.seq (.seq (.ae yit) (.cond (.t 12) .skip (.exit 0))) (.seq (.block 1 [] yis) (.ae yio))
abbrev yiw:zR:=[aK 7 8 2,bf 8 vz 7,ab 5 8]
abbrev VG:aM:=⟨.seq (.ae Pz) (.seq (.ae yiw) (.seq (.seq (.ae qH) (.block 0 O_ (.loop OH GJ))) (.seq (.ae si) .ret))),23,[.tmp 4]⟩
abbrev xh:zI:=[.code (.seq (.ae si) .ret)]
abbrev yiz(x1 x5 x6:AV)(h:List Ob)(e:Cx:=cx):aw:=bg sV (.code GJ::.inLoop OH GJ::.inBlock 0 O_::xh) (U::x1::U::U::U::x5::x6::(by(iterate 16 refine U::?_);exact[])) h e
@[simp] theorem TP:aH Tryz.prog sV=some VG:=by kernel_rfl
@[simp] theorem ap2:aD Tryz.prog sV=true:=by kernel_rfl
abbrev yiA:zR:=[aK 40 3 3,aI 3 6 40]
abbrev yiB:zR:=[ab 35 8,aK 36 5 7,o 37 (.lit 5 [.agg [.str [],.int .i64 0,.list true 0 [],.list true 0 [],.bool false]] [(0,.t 36)]),o 38 (.append 5 dB 80 (.t 35) (.t 37)),aj 39 0 3,aI 1 39 38]
abbrev yiC:zR:=[ab 31 8,aj 32 0 3,ah 33 1 32,o 34 (.append 5 dB 80 (.t 31) (.t 33)),ab 8 34]
abbrev yiD:zR:=[o 8 (.eN 5 dB)]
abbrev yiE:zR:=[aj 21 2 3,ah 22 1 21,ab 23 2,ab 24 2,o 25 (.aV .rem (.t 24) (.c (.int .i64 2))),o 26 (.aV .sub (.t 23) (.t 25)),aQ 27 1 22 26,ah 28 1 27,o 29 (.lit 1 [.str []] [(0,.t 28)]),aj 30 2 7,aI 1 30 29]
abbrev yiF:zR:=[aj 20 1 7,q (.store 1 (.t 20) (.c (.int .i64 3)))]
abbrev yiG:zR:=[ab 17 2,o 18 (.aV .rem (.t 17) (.c (.int .i64 2))),o 19 (.cmp .eql (.sc .int) (.t 18) (.c (.int .i64 1)))]
abbrev yiH:zR:=[aj 16 1 7,q (.store 1 (.t 16) (.c (.int .i64 2)))]
abbrev yiI:an:=.seq (.ae yiH) (.seq (.seq (.ae yiG) (.cond (.t 19) (.ae yiF) .skip)) (.ae yiE))
abbrev yiJ:zR:=[ab 14 2,o 15 (.cmp .gtr (.sc .int) (.t 14) (.c (.int .i64 1)))]
abbrev yiK:zR:=[aj 13 1 7,q (.store 1 (.t 13) (.c (.int .i64 1)))]
abbrev yiL:zR:=[ab 11 2,o 12 (.cmp .eql (.sc .int) (.t 11) (.c (.int .i64 1)))]
abbrev yiM:zR:=[ab 9 1,o 10 (.build [.str [],.int .i64 0,.list true 0 [],.list true 0 [],.bool false] [(0,1,.t 9),(1,1,.c (.int .i64 0))]),o 7 (.alloc [.str [],.int .i64 0,.own 1 au [],.own 1 au [],.bool false]),aI 5 7 10]
abbrev yiN:zR:=[o 3 (.box 3 (.t 0)),o 6 (.alloc [.own 5 dB [],.own 1 au [],.own 1 au []])]
abbrev UL:aM:=⟨.seq (.ae yiN) (.seq (.ae yiM) (.seq (.seq (.ae yiL) (.cond (.t 12) (.ae yiK) .skip)) (.seq (.seq (.ae yiJ) (.cond (.t 15) yiI .skip)) (.seq (.ae yiD) (.seq (.ae yiC) (.seq (.ae yiB) (.seq (.ae yiA) .ret))))))),41,[.cell 6 true 3]⟩
@[simp] theorem pS:aH Tryz.prog xY=some UL:=by kernel_rfl
@[simp] theorem apy:aD Tryz.prog xY=true:=by kernel_rfl
abbrev Qm:zB:=O::I::(by(iterate 58 refine O::?_);exact I::I::I::(by(iterate 21 refine O::?_);exact[]))
abbrev OZ:zB:=(by(iterate 84 refine O::?_);exact[])
abbrev yiR:zR:=[bx 83 62 1,ab 62 83]
abbrev yiS:zR:=[bu 2 5]
abbrev Bi:an:=.seq (.ae yiS) .ret
abbrev yiU:zR:=[ab 70 6,o 71 (.cmp .geq (.sc .int) (.t 70) (.c (.int .i64 0))),ab 72 71,oy 73 72 (.off 0 (.t 1)),oy 74 72 (.off 4 (.t 73)),bW 75 72 1 74,cY 76 72 4,oy 77 72 (.ic 1 (.t 75) (.t 76)),bW 78 72 1 77,cY 79 72 6,oy 80 72 (.aV .mul (.c (.int .i64 2)) (.t 79)),oy 81 72 (.cmp .neq (.sc .int) (.t 78) (.t 80)),bS 82 72 81]
abbrev yiV:zR:=[aK 67 8 1,ab 68 5,cw 69 vl 67 68,ab 6 69]
abbrev yiW:zR:=[ab 64 62,aQ 65 1 60 62,ah 66 1 65,ab 4 64,ab 5 66]
abbrev yiX:an:=.seq (.ae yiW) (.seq (.ae yiV) (.seq (.ae yiU) (.cond (.t 82) Bi .skip)))
abbrev G3:an:=.seq (.ae Qj) (.seq (.cond (.t 63) .skip (.exit 1)) (.seq (.block 2 [] yiX) (.ae yiR)))
abbrev yja:zR:=[aj 59 7 1,ah 60 1 59,aS 61 60,bu 62 0]
abbrev yjb:zR:=[ab 13 3,ab 2 13]
abbrev yjc:zR:=[bu 2 1]
abbrev yjd:zR:=[bu 2 4]
abbrev yjg:zR:=[aj 56 7 1,ah 57 1 56,bf 58 sL 57,ab 48 58]
abbrev yjh:zR:=[aj 49 5 1,ah 50 1 49,aj 51 6 1,ah 52 1 51,o 53 (.lit 1 [.list true 0 [],.list true 0 []] [(0,.t 50),(1,.t 52)]),bf 54 mu 53,bf 55 sL 54,ab 48 55]
abbrev O5:an:=.seq (.ae yjd) .ret
abbrev yjj:an:=.seq (.seq (.ae yjh) (.cond (.t 48) .skip (.ae yjg))) (.cond (.t 48) Bi .skip)
abbrev yjk:zR:=[aj 45 7 1,ah 46 1 45,bf 47 sS 46,ab 38 47]
abbrev yjl:zR:=[aj 42 6 1,ah 43 1 42,bf 44 sS 43,ab 38 44]
abbrev yjm:an:=.seq (.ae yjl) (.cond (.t 38) .skip (.ae yjk))
abbrev yjn:zR:=[aj 39 5 1,ah 40 1 39,bf 41 sS 40,ab 38 41]
abbrev qK:an:=.seq (.ae yjc) .ret
abbrev yjp:an:=.seq (.seq (.ae yjn) (.cond (.t 38) .skip yjm)) (.cond (.t 38) O5 yjj)
abbrev yjq:zR:=[aj 30 7 1,ah 31 1 30,aS 32 31,aj 33 0 1,aj 34 4 33,ah 35 1 34,aS 36 35,o 37 (.cmp .neq (.sc .int) (.t 32) (.t 36)),ab 14 37]
abbrev yjr:zR:=[aj 22 6 1,ah 23 1 22,aS 24 23,aj 25 0 1,aj 26 1 25,ah 27 1 26,aS 28 27,o 29 (.cmp .neq (.sc .int) (.t 24) (.t 28)),ab 14 29]
abbrev yjs:an:=.seq (.ae yjr) (.cond (.t 14) .skip (.ae yjq))
abbrev yjt:zR:=[aj 15 5 1,ah 16 1 15,aS 17 16,aj 18 0 1,aj 19 0 18,ah 20 1 19,o 21 (.cmp .neq (.sc .int) (.t 17) (.t 20)),ab 14 21]
abbrev yju:an:=.seq (.ae yjb) .ret
abbrev yjv:an:=.seq (.seq (.ae yjt) (.cond (.t 14) .skip yjs)) (.cond (.t 14) qK yjp)
abbrev yjw:zR:=[ab 11 3,o 12 (.cmp .neq (.sc .int) (.t 11) (.c (.int .i64 0))),ab 10 12]
abbrev yjx:an:=.seq (.ae yjw) (.cond (.t 10) yju yjv)
abbrev yjy:zR:=[aj 7 0 1,aK 8 5 7,bf 9 sY 8,ab 3 9]
abbrev Oh:zR:=[o 1 (.box 8 (.t 0)),bu 2 0]
abbrev TL:aM:=⟨.seq (.ae Oh) (.seq (.ae yjy) (.seq (.block 0 [] yjx) (.seq (.seq (.ae yja) (.block 1 OZ (.loop Qm G3))) (.seq (.ae qG) .ret)))),84,[.tmp 2]⟩
abbrev BK:zI:=[.code (.seq (.ae qG) .ret)]
abbrev yjB(x1 x60 x61 x62:AV)(h:List Ob)(e:Cx:=cx):aw:=bg vj (.code G3::.inLoop Qm G3::.inBlock 1 OZ::BK) (U::x1::(by(iterate 58 refine U::?_);exact x60::x61::x62::(by(iterate 21 refine U::?_);exact[]))) h e
@[simp] theorem S5:aH Tryz.prog vj=some TL:=by kernel_rfl
@[simp] theorem ao8:aD Tryz.prog vj=true:=by kernel_rfl
abbrev B5:zR:=[ab 92 10,aK 93 5 8,cw 94 xK 92 93,aI 5 2 94,bu 3 0]
abbrev BN:zB:=O::O::I::O::O::O::O::O::I::I::I::(by(iterate 46 refine O::?_);exact I::I::I::(by(iterate 35 refine O::?_);exact[]))
abbrev Bx:zB:=O::O::I::O::O::O::O::O::I::O::I::(by(iterate 84 refine O::?_);exact[])
abbrev yjF:zR:=[bx 91 59 1,ab 59 91]
abbrev yjG:zR:=[ab 81 10,ab 82 10,o 83 (.bG (.t 82)),aj 84 6 83,ah 85 1 84,ab 86 13,o 87 (.lit 1 [.int .i64 0] [(0,.t 86)]),o 88 (.append 1 az 8 (.t 85) (.t 87)),o 89 (.bG (.t 81)),aj 90 6 89,aI 1 90 88]
abbrev yjH:zR:=[ab 71 10,ab 72 10,o 73 (.cT 2 1 (.t 12) (.c (.int .i64 0))),ah 74 1 73,cw 75 np 72 74,ab 76 10,o 77 (.cT 2 1 (.t 12) (.c (.int .i64 1))),ah 78 1 77,cw 79 np 76 78,o 80 (.call (.f qU) [.t 71,.t 75,.t 79]),ab 13 80]
abbrev yjI:zR:=[ab 64 9,aK 65 5 8,bf 66 mz 65,ab 67 11,o 68 (.aV .add (.t 66) (.t 67)),aQ 69 1 64 68,ah 70 1 69]
abbrev yjJ:zR:=[bu 13 0]
abbrev yjK:zR:=[ab 61 59,aQ 62 2 57 59,aK 63 2 62,o 12 (.alloc [.int .i64 0,.int .i64 0]),ab 11 61,aI 2 12 63]
abbrev yjL:an:=.seq (.ae yjK) (.seq (.ae yjJ) (.seq (.seq (.ae yjI) (.cond (.t 70) (.aR [O,O,O,O,O,O,O,I,O,O,O] [10,5,5,5,9,9,9,9,10,12,12] yjH) .skip)) (.ae yjG)))
abbrev yjM:zR:=[bM 60 59 58]
abbrev xb:an:=.seq (.ae yjM) (.seq (.cond (.t 60) .skip (.exit 2)) (.seq (.block 3 [] yjL) (.ae yjF)))
abbrev Hv:zR:=[aj 56 3 8,ah 57 1 56,aS 58 57,bu 59 0]
abbrev Gv:zR:=[aK 54 5 8,bf 55 sW 54,ab 10 55]
abbrev Pt:zR:=[aK 52 5 8,bf 53 rz 52,ab 9 53]
abbrev PC:zR:=[ab 49 5,aK 50 5 1,cw 51 xK 49 50,o 8 (.alloc [.int .i64 0,.own 1 az [],.own 1 az [],.own 2 bI [],.own 1 az []]),aI 5 8 51]
abbrev N_:zB:=O::I::I::O::O::I::(by(iterate 17 refine O::?_);exact I::I::I::(by(iterate 69 refine O::?_);exact[]))
abbrev Oa:zB:=O::I::I::O::O::I::(by(iterate 89 refine O::?_);exact[])
abbrev yjU:zR:=[bx 48 25 1,ab 25 48]
abbrev yjV:zR:=[ab 29 5,ab 30 5,o 31 (.bG (.t 30)),aj 32 6 31,ah 33 1 32,ab 34 5,ab 35 5,o 36 (.cT 2 1 (.t 7) (.c (.int .i64 0))),ah 37 1 36,cw 38 np 35 37,ab 39 5,o 40 (.cT 2 1 (.t 7) (.c (.int .i64 1))),ah 41 1 40,cw 42 np 39 41,o 43 (.call (.f qU) [.t 34,.t 38,.t 42]),o 44 (.lit 1 [.int .i64 0] [(0,.t 43)]),o 45 (.append 1 az 8 (.t 33) (.t 44)),o 46 (.bG (.t 29)),aj 47 6 46,aI 1 47 45]
abbrev yjW:zR:=[aQ 27 2 23 25,aK 28 2 27,o 7 (.alloc [.int .i64 0,.int .i64 0]),aI 2 7 28]
abbrev yjX:an:=.seq (.ae yjW) (.aR [O,O,O,O,I,O,O,O,O,O,O,O,I,O,O,O,O,O,O,O] [20,17,17,17,17,15,10,10,10,14,14,14,14,15,16,17,20,20,20,21] yjV)
abbrev yjY:zR:=[bM 26 25 24]
abbrev HA:an:=.seq (.ae yjY) (.seq (.cond (.t 26) .skip (.exit 0)) (.seq (.block 1 [] yjX) (.ae yjU)))
abbrev yka:zR:=[aj 22 3 1,ah 23 1 22,aS 24 23,bu 25 0]
abbrev ykb:zR:=[aK 20 5 1,bf 21 sW 20,ab 5 21]
abbrev ykc:zR:=[o 18 (.build [.int .i64 0,.list true 0 [],.list true 0 [],.list true 0 [],.list true 0 []] []),ab 19 4,aI 5 2 18,ab 3 19]
abbrev ykd:an:=.seq (.ae ykc) .ret
abbrev ykf:zR:=[aK 14 5 1,bf 15 sY 14,ab 4 15]
abbrev QW:zR:=[o 1 (.box 5 (.t 0)),o 2 (.alloc [.int .i64 0,.own 1 az [],.own 1 az [],.own 2 bI [],.own 1 az []]),bu 3 0]
abbrev UQ:aM:=⟨.seq (.ae QW) (.seq (.seq (.ae ykf) (.seq (.ae O8) (.cond (.t 17) ykd .skip))) (.seq (.ae ykb) (.seq (.seq (.ae yka) (.block 0 Oa (.loop N_ HA))) (.seq (.ae PC) (.seq (.ae Pt) (.seq (.ae Gv) (.seq (.seq (.ae Hv) (.block 2 Bx (.loop BN xb))) (.seq (.ae B5) .ret)))))))),95,[.cell 2 true 5,.tmp 3]⟩
abbrev P6:zI:=[.code (.seq (.ae B5) .ret)]
abbrev yki(x2 x8 x9 x10 x57 x58 x59:AV)(h:List Ob)(e:Cx:=cx):aw:=bg nq (.code xb::.inLoop BN xb::.inBlock 2 Bx::P6) (U::U::x2::U::U::U::U::U::x8::x9::x10::(by(iterate 46 refine U::?_);exact x57::x58::x59::(by(iterate 35 refine U::?_);exact[]))) h e
abbrev Pl(x2 x8 x10:AV)(h:List Ob)(e:Cx:=cx):aw:=bg nq P6 (U::U::x2::U::U::U::U::U::x8::U::x10::(by(iterate 84 refine U::?_);exact[])) h e
abbrev Oq:zI:=[.code (.seq (.ae PC) (.seq (.ae Pt) (.seq (.ae Gv) (.seq (.seq (.ae Hv) (.block 2 Bx (.loop BN xb))) (.seq (.ae B5) .ret)))))]
abbrev ykl(x1 x2 x5 x23 x24 x25:AV)(h:List Ob)(e:Cx:=cx):aw:=bg nq (.code HA::.inLoop N_ HA::.inBlock 0 Oa::Oq) (U::x1::x2::U::U::x5::(by(iterate 17 refine U::?_);exact x23::x24::x25::(by(iterate 69 refine U::?_);exact[]))) h e
abbrev F5(x1 x2 x5:AV)(h:List Ob)(e:Cx:=cx):aw:=bg nq Oq (U::x1::x2::U::U::x5::(by(iterate 89 refine U::?_);exact[])) h e
@[simp] theorem Tb:aH Tryz.prog nq=some UQ:=by kernel_rfl
@[simp] theorem apz:aD Tryz.prog nq=true:=by kernel_rfl
abbrev QG:zB:=O::I::O::O::I::(by(iterate 87 refine O::?_);exact[])
abbrev Qv:zB:=(by(iterate 92 refine O::?_);exact[])
abbrev ykq:zR:=[ab 70 4,bx 71 70 1,ab 4 71]
abbrev ykt:zR:=[ab 79 5,o 80 (.cmp .geq (.sc .int) (.t 79) (.c (.int .i64 0))),ab 81 80,oy 82 81 (.off 0 (.t 1)),oy 83 81 (.off 4 (.t 82)),bW 84 81 1 83,cY 85 81 4,oy 86 81 (.ic 1 (.t 84) (.t 85)),bW 87 81 1 86,cY 88 81 5,oy 89 81 (.aV .mul (.c (.int .i64 2)) (.t 88)),oy 90 81 (.cmp .neq (.sc .int) (.t 87) (.t 89)),bS 91 81 90]
abbrev yku:zR:=[aK 72 8 1,aj 73 7 1,ah 74 1 73,ab 75 4,aQ 76 1 74 75,ah 77 1 76,cw 78 sV 72 77,ab 5 78]
abbrev ykv:an:=.seq (.aR [O,O,O,O,O,O,O,O] [7,7,7,7,7,7,9,9] yku) (.seq (.ae ykt) (.cond (.t 91) Bi .skip))
abbrev ykw:zR:=[ab 65 4,aj 66 7 1,ah 67 1 66,aS 68 67,bM 69 65 68]
abbrev GI:an:=.seq (.seq (.ae ykw) (.cond (.t 69) .skip (.exit 0))) (.seq (.block 1 [] ykv) (.ae ykq))
abbrev n6:zR:=[bu 4 0]
abbrev ykB:zR:=[aK 55 8 1,bf 56 vz 55,bf 57 sZ 56,o 58 (.not (.t 57)),ab 59 58,on 60 59 (.off 7 (.t 1)),on 61 59 (.load false 1 (.t 60)),on 62 59 (.call (.f sZ) [.t 61]),on 63 59 (.not (.t 62)),o 64 (.pick (.t 59) (.c (.bool true)) (.t 63))]
abbrev ykE:zR:=[aj 39 5 1,ah 40 1 39,bf 41 rh 40,o 42 (.not (.t 41)),ab 43 42,on 44 43 (.off 6 (.t 1)),on 45 43 (.load false 1 (.t 44)),on 46 43 (.call (.f rh) [.t 45]),on 47 43 (.not (.t 46)),o 48 (.pick (.t 43) (.c (.bool true)) (.t 47)),ab 49 48,on 50 49 (.off 7 (.t 1)),on 51 49 (.load false 1 (.t 50)),on 52 49 (.call (.f rh) [.t 51]),on 53 49 (.not (.t 52)),o 54 (.pick (.t 49) (.c (.bool true)) (.t 53))]
abbrev ykH:zR:=[aj 12 5 1,ah 13 1 12,aS 14 13,aj 15 0 1,aj 16 0 15,ah 17 1 16,o 18 (.cmp .neq (.sc .int) (.t 14) (.t 17)),ab 19 18,on 20 19 (.off 6 (.t 1)),on 21 19 (.load false 1 (.t 20)),on 22 19 (.len (.t 21)),on 23 19 (.off 0 (.t 1)),on 24 19 (.off 1 (.t 23)),on 25 19 (.load false 1 (.t 24)),on 26 19 (.len (.t 25)),on 27 19 (.cmp .neq (.sc .int) (.t 22) (.t 26)),o 28 (.pick (.t 19) (.c (.bool true)) (.t 27)),ab 29 28,on 30 29 (.off 7 (.t 1)),on 31 29 (.load false 1 (.t 30)),on 32 29 (.len (.t 31)),on 33 29 (.off 0 (.t 1)),on 34 29 (.off 4 (.t 33)),on 35 29 (.load false 1 (.t 34)),on 36 29 (.len (.t 35)),on 37 29 (.cmp .neq (.sc .int) (.t 32) (.t 36)),o 38 (.pick (.t 29) (.c (.bool true)) (.t 37))]
abbrev ykI:zR:=[ab 11 3,ab 2 11]
abbrev ykJ:an:=.seq (.ae ykI) .ret
abbrev ykK:zR:=[ab 9 3,o 10 (.cmp .neq (.sc .int) (.t 9) (.c (.int .i64 0)))]
abbrev ykL:zR:=[aj 6 0 1,aK 7 5 6,bf 8 pU 7,ab 3 8]
abbrev Wx:aM:=⟨.seq (.ae Oh) (.seq (.ae ykL) (.seq (.seq (.ae ykK) (.cond (.t 10) ykJ .skip)) (.seq (.seq (.ae ykH) (.cond (.t 38) qK .skip)) (.seq (.seq (.ae ykE) (.cond (.t 54) O5 .skip)) (.seq (.seq (.ae ykB) (.cond (.t 64) Bi .skip)) (.seq (.seq (.ae n6) (.block 0 Qv (.loop QG GI))) (.seq (.ae qG) .ret))))))),92,[.tmp 2]⟩
abbrev ykO(x1 x4:AV)(h:List Ob)(e:Cx:=cx):aw:=bg vu (.code GI::.inLoop QG GI::.inBlock 0 Qv::BK) (U::x1::U::U::x4::(by(iterate 87 refine U::?_);exact[])) h e
@[simp] theorem Uj:aH Tryz.prog vu=some Wx:=by kernel_rfl
@[simp] theorem ap0:aD Tryz.prog vu=true:=by kernel_rfl
abbrev FY:zR:=[aj 61 0 1,ah 62 1 61,aj 63 2 1,ah 64 1 63,ab 65 6,ab 66 5,aj 67 1 1,ah 68 1 67,cw 69 pP 66 68,ab 70 5,aj 71 4 1,ah 72 1 71,cw 73 pP 70 72,o 74 (.build [.int .i64 0,.list true 0 [],.list true 0 [],.list true 0 [],.list true 0 []] [(0,1,.t 62),(2,1,.t 64),(3,1,.t 65),(1,1,.t 69),(4,1,.t 73)]),bf 75 sR 74,aI 5 2 75,bu 3 0]
abbrev Hi:zB:=O::I::I::O::O::I::I::O::I::(by(iterate 67 refine O::?_);exact[])
abbrev xc:zB:=O::I::I::O::O::I::I::(by(iterate 69 refine O::?_);exact[])
abbrev ykT:zR:=[ab 56 5,aj 57 1 9,ah 58 1 57,o 59 (.lit 1 [.int .i64 0] [(0,.t 58)]),o 60 (.append 1 az 8 (.t 56) (.t 59)),ab 5 60]
abbrev ykU:zR:=[aj 54 0 9,ah 55 1 54,ab 6 55]
abbrev ykV:zR:=[ab 34 6,aK 35 5 1,bf 36 gM 35,ab 37 5,aj 38 3 1,ah 39 1 38,ab 40 8,aQ 41 2 39 40,o 42 (.cT 2 1 (.t 41) (.c (.int .i64 0))),ah 43 1 42,cw 44 pR 37 43,ab 45 5,aj 46 3 1,ah 47 1 46,ab 48 8,aQ 49 2 47 48,o 50 (.cT 2 1 (.t 49) (.c (.int .i64 1))),ah 51 1 50,cw 52 pR 45 51,o 53 (.call (.f rv) [.t 34,.t 36,.t 44,.t 52]),o 9 (.alloc [.own 2 bI [],.int .i64 0]),aI 2 9 53]
abbrev ykW:an:=.seq (.aR [O,I,I,O,O,I,O,O,O,I,I,O,O,I,O,O,O,I,I,I,O,O] [22,22,22,22,22,22,22,22,22,22,22,22,22,22,22,22,22,22,22,22,22,23] ykV) (.seq (.ae ykU) (.ae ykT))
abbrev ykX:zR:=[ab 27 8,aj 28 3 1,ah 29 1 28,aS 30 29,bM 31 27 30]
abbrev BV:an:=.seq (.seq (.ae ykX) (.cond (.t 31) .skip (.exit 2))) (.seq (.block 3 [] ykW) (.ae P4))
abbrev OX:zB:=O::I::I::O::O::I::I::I::(by(iterate 68 refine O::?_);exact[])
abbrev ylc:zR:=[ab 20 7,bx 21 20 1,ab 7 21]
abbrev yle:zR:=[ab 22 5,ab 23 7,o 24 (.aV .mul (.c (.int .i64 2)) (.t 23)),o 25 (.lit 1 [.int .i64 0] [(0,.t 24)]),o 26 (.append 1 az 8 (.t 22) (.t 25)),ab 5 26]
abbrev ylf:zR:=[ab 16 7,aK 17 5 1,bf 18 gM 17,bM 19 16 18]
abbrev GM:an:=.seq (.seq (.ae ylf) (.cond (.t 19) .skip (.exit 0))) (.seq (.block 1 [] (.ae yle)) (.ae ylc))
abbrev uB:zR:=[bu 7 0]
abbrev yli:zR:=[o 6 (.eN 2 bI)]
abbrev Ha:zR:=[o 5 (.eN 1 az)]
abbrev ylk:zR:=[o 14 (.build [.int .i64 0,.list true 0 [],.list true 0 [],.list true 0 [],.list true 0 []] []),ab 15 4,aI 5 2 14,ab 3 15]
abbrev yll:an:=.seq (.ae ylk) .ret
abbrev ylm:zR:=[ab 12 4,o 13 (.cmp .neq (.sc .int) (.t 12) (.c (.int .i64 0)))]
abbrev yln:zR:=[aK 10 5 1,bf 11 pU 10,ab 4 11]
abbrev Vc:aM:=⟨.seq (.ae QW) (.seq (.ae yln) (.seq (.seq (.ae ylm) (.cond (.t 13) yll .skip)) (.seq (.ae Ha) (.seq (.ae yli) (.seq (.seq (.ae uB) (.block 0 xc (.loop OX GM))) (.seq (.seq (.ae Bt) (.block 2 xc (.loop Hi BV))) (.seq (.aR [O,I,O,I,O,O,O,O,O,O,O,I,O,O,O,O,O] [15,15,15,15,15,9,9,9,13,13,13,13,15,15,16,18,18] FY) .ret))))))),76,[.cell 2 true 5,.tmp 3]⟩
abbrev ylp:zI:=[.code (.seq (.aR [O,I,O,I,O,O,O,O,O,O,O,I,O,O,O,O,O] [15,15,15,15,15,9,9,9,13,13,13,13,15,15,16,18,18] FY) .ret)]
abbrev ylq(x1 x2 x5 x6 x8:AV)(h:List Ob)(e:Cx:=cx):aw:=bg rb (.code BV::.inLoop Hi BV::.inBlock 2 xc::ylp) (U::x1::x2::U::U::x5::x6::U::x8::(by(iterate 67 refine U::?_);exact[])) h e
abbrev ylr:zI:=[.code (.seq (.seq (.ae Bt) (.block 2 xc (.loop Hi BV))) (.seq (.aR [O,I,O,I,O,O,O,O,O,O,O,I,O,O,O,O,O] [15,15,15,15,15,9,9,9,13,13,13,13,15,15,16,18,18] FY) .ret))]
abbrev yls(x1 x2 x5 x6 x7:AV)(h:List Ob)(e:Cx:=cx):aw:=bg rb (.code GM::.inLoop OX GM::.inBlock 0 xc::ylr) (U::x1::x2::U::U::x5::x6::x7::(by(iterate 68 refine U::?_);exact[])) h e
@[simp] theorem Ip:aH Tryz.prog rb=some Vc:=by kernel_rfl
@[simp] theorem apw:aD Tryz.prog rb=true:=by kernel_rfl
abbrev ylt:zR:=[aj 5 0 2,ah 6 1 5,aj 7 0 3,ah 8 1 7,o 9 (.cmp .eql (.sc .str) (.t 6) (.t 8)),ab 10 9,oy 11 10 (.off 1 (.t 2)),bW 12 10 1 11,oy 13 10 (.off 1 (.t 3)),bW 14 10 1 13,oy 15 10 (.cmp .eql (.sc .int) (.t 12) (.t 14)),bS 16 10 15,ab 17 16,oy 18 17 (.off 4 (.t 2)),bW 19 17 1 18,oy 20 17 (.off 4 (.t 3)),bW 21 17 1 20,oy 22 17 (.cmp .eql (.sc .bool) (.t 19) (.t 21)),bS 23 17 22,ab 24 23,oy 25 24 (.off 2 (.t 2)),bW 26 24 1 25,oy 27 24 (.off 2 (.t 3)),bW 28 24 1 27,oy 29 24 (.call (.f lr) [.t 26,.t 28]),bS 30 24 29,ab 31 30,oy 32 31 (.off 3 (.t 2)),bW 33 31 1 32,oy 34 31 (.off 3 (.t 3)),bW 35 31 1 34,oy 36 31 (.call (.f lr) [.t 33,.t 35]),bS 37 31 36,ab 4 37]
abbrev OW:zR:=[o 2 (.box 5 (.t 0)),o 3 (.box 5 (.t 1)),pv 4]
abbrev TD:aM:=⟨.seq (.ae OW) (.seq (.ae ylt) .ret),38,[.tmp 4]⟩
@[simp] theorem Sw:aH Tryz.prog xM=some TD:=by kernel_rfl
@[simp] theorem ao2:aD Tryz.prog xM=true:=by kernel_rfl
abbrev Pa:zB:=O::O::I::I::O::I::(by(iterate 56 refine O::?_);exact[])
abbrev Oy:zB:=(by(iterate 62 refine O::?_);exact[])
abbrev yly:zR:=[ab 49 5,bx 50 49 1,ab 5 50]
abbrev ylB:zR:=[aj 51 3 2,ah 52 1 51,ab 53 5,aQ 54 2 52 53,aK 55 2 54,aj 56 3 3,ah 57 1 56,ab 58 5,aQ 59 2 57 58,aK 60 2 59,o 61 (.cmp .neq (.gQ [.int,.int]) (.t 55) (.t 60))]
abbrev ylC:an:=.seq (.aR [O,O,O,O,O,O,O,O,O,O,O] [12,12,12,12,12,12,12,12,12,12,12] ylB) (.cond (.t 61) n9 .skip)
abbrev ylD:zR:=[ab 44 5,aj 45 3 2,ah 46 1 45,aS 47 46,bM 48 44 47]
abbrev GN:an:=.seq (.seq (.ae ylD) (.cond (.t 48) .skip (.exit 0))) (.seq (.block 1 [] ylC) (.ae yly))
abbrev ylI:zR:=[aj 6 0 2,ah 7 1 6,aj 8 0 3,ah 9 1 8,o 10 (.cmp .neq (.sc .int) (.t 7) (.t 9)),ab 11 10,on 12 11 (.off 1 (.t 2)),on 13 11 (.load false 1 (.t 12)),on 14 11 (.off 1 (.t 3)),on 15 11 (.load false 1 (.t 14)),on 16 11 (.call (.f rn) [.t 13,.t 15]),on 17 11 (.not (.t 16)),o 18 (.pick (.t 11) (.c (.bool true)) (.t 17)),ab 19 18,on 20 19 (.off 2 (.t 2)),on 21 19 (.load false 1 (.t 20)),on 22 19 (.off 2 (.t 3)),on 23 19 (.load false 1 (.t 22)),on 24 19 (.call (.f rn) [.t 21,.t 23]),on 25 19 (.not (.t 24)),o 26 (.pick (.t 19) (.c (.bool true)) (.t 25)),ab 27 26,on 28 27 (.off 4 (.t 2)),on 29 27 (.load false 1 (.t 28)),on 30 27 (.off 4 (.t 3)),on 31 27 (.load false 1 (.t 30)),on 32 27 (.call (.f rn) [.t 29,.t 31]),on 33 27 (.not (.t 32)),o 34 (.pick (.t 27) (.c (.bool true)) (.t 33)),ab 35 34,on 36 35 (.off 3 (.t 2)),on 37 35 (.load false 1 (.t 36)),on 38 35 (.len (.t 37)),on 39 35 (.off 3 (.t 3)),on 40 35 (.load false 1 (.t 39)),on 41 35 (.len (.t 40)),on 42 35 (.cmp .neq (.sc .int) (.t 38) (.t 41)),o 43 (.pick (.t 35) (.c (.bool true)) (.t 42))]
abbrev Xy:aM:=⟨.seq (.ae OW) (.seq (.seq (.ae ylI) (.cond (.t 43) n9 .skip)) (.seq (.seq (.ae mf) (.block 0 Oy (.loop Pa GN))) (.seq (.ae sv) .ret))),62,[.tmp 4]⟩
abbrev ylL(x2 x3 x5:AV)(h:List Ob)(e:Cx:=cx):aw:=bg vE (.code GN::.inLoop Pa GN::.inBlock 0 Oy::Bu) (U::U::x2::x3::U::x5::(by(iterate 56 refine U::?_);exact[])) h e
@[simp] theorem US:aH Tryz.prog vE=some Xy:=by kernel_rfl
@[simp] theorem aqk:aD Tryz.prog vE=true:=by kernel_rfl
abbrev ylM:zR:=[ah 6 1 1,ab 7 0,q (.bA (.sc .int) (.t 6) (.t 7) (.c (.bool true)))]
abbrev ylN:zR:=[ab 3 0,o 4 (.aV .and (.t 3) (.c (.int .i64 1))),o 5 (.cmp .eql (.sc .int) (.t 4) (.c (.int .i64 1)))]
abbrev SD:aM:=⟨.seq (.ae ylN) (.cond (.t 5) (.ae ylM) .skip),8,[]⟩
@[simp] theorem Su:aH Tryz.prog sI=some SD:=by kernel_rfl
@[simp] theorem aoW:aD Tryz.prog sI=true:=by kernel_rfl
abbrev qJ:zB:=[I,I,O,O,O,O,O,I,I,O,O,O,O,O,O,O,O,O,O]
abbrev l_:zB:=(by(iterate 19 refine O::?_);exact[])
abbrev G4:zR:=[bx 18 8 1,ab 8 18]
abbrev ylS:zR:=[ab 17 5,ab 4 17]
abbrev G5:an:=.seq (.ae ylS) .ret
abbrev ylU:zR:=[ab 11 1,ab 12 0,ab 13 5,aQ 14 1 12 13,ah 15 1 14,o 16 (.cmp .eql (.sc .str) (.t 11) (.t 15))]
abbrev FM:zR:=[ab 10 8,ab 5 10]
abbrev ylW:an:=.seq (.ae FM) (.seq (.ae ylU) (.cond (.t 16) G5 .skip))
abbrev GA:zR:=[bM 9 8 7]
abbrev Hw:an:=.seq (.ae GA) (.seq (.cond (.t 9) .skip (.exit 0)) (.seq (.block 1 [] ylW) (.ae G4)))
abbrev Bm:zR:=[ab 6 0,aS 7 6,bu 8 0]
abbrev RC:aM:=⟨.seq (.ae n6) (.seq (.seq (.ae Bm) (.block 0 l_ (.loop qJ Hw))) (.seq (.ae si) .ret)),19,[.tmp 4]⟩
abbrev ymc(x0 x1 x7 x8:AV)(h:List Ob)(e:Cx:=cx):aw:=bg sF (.code Hw::.inLoop qJ Hw::.inBlock 0 l_::xh) [x0,x1,U,U,U,U,U,x7,x8,U,U,U,U,U,U,U,U,U,U] h e
@[simp] theorem Ru:aH Tryz.prog sF=some RC:=by kernel_rfl
@[simp] theorem aox:aD Tryz.prog sF=true:=by kernel_rfl
abbrev w8:zR:=[ab 35 6,ab 2 35]
abbrev uI:zB:=O::O::O::O::O::O::I::(by(iterate 18 refine O::?_);exact[I,I,I,O,O,O,O,O,O,O,O])
abbrev uD:zB:=O::O::O::O::O::O::I::(by(iterate 29 refine O::?_);exact[])
abbrev Pm:zR:=[bx 34 27 1,ab 27 34]
abbrev ymh:zR:=[ab 31 6,ab 32 8,o 33 (.append 1 au 16 (.t 31) (.t 32)),ab 6 33]
abbrev OE:zR:=[aQ 29 1 25 27,ah 30 1 29,ab 8 30]
abbrev ymj:an:=.seq (.ae OE) (.ae ymh)
abbrev Bj:zR:=[bM 28 27 26]
abbrev Bn:an:=.seq (.ae Bj) (.seq (.cond (.t 28) .skip (.exit 2)) (.seq (.block 3 [] ymj) (.ae Pm)))
abbrev BT:zR:=[ab 25 0,aS 26 25,bu 27 0]
abbrev PZ:zR:=[ab 23 3,o 24 (.call (.f Cg) [.c (.list true 0 []),.t 23]),ab 6 24]
abbrev BO:zB:=I::O::O::I::O::O::O::O::O::I::I::I::(by(iterate 24 refine O::?_);exact[])
abbrev Bk:zB:=I::O::O::I::(by(iterate 32 refine O::?_);exact[])
abbrev ymq:zR:=[bx 22 11 1,ab 11 22]
abbrev ymr:zR:=[o 21 (.oE au (.c (.str [108,101,110,32,111,117,116,32,111,102,32,114,97,110,103,101]))),q (.panic (.t 21))]
abbrev yms:zR:=[ab 19 3,o 20 (.cmp .lss (.sc .int) (.t 19) (.c (.int .i64 0)))]
abbrev ymt:zR:=[ab 15 3,ab 16 5,aS 17 16,o 18 (.aV .add (.t 15) (.t 17)),ab 3 18]
abbrev ymu:zR:=[aQ 13 1 9 11,ah 14 1 13,ab 5 14]
abbrev ymv:an:=.seq (.ae ymu) (.seq (.ae ymt) (.seq (.ae yms) (.cond (.t 20) (.ae ymr) .skip)))
abbrev ymw:zR:=[bM 12 11 10]
abbrev uE:an:=.seq (.ae ymw) (.seq (.cond (.t 12) .skip (.exit 0)) (.seq (.block 1 [] ymv) (.ae ymq)))
abbrev Pr:zR:=[ab 9 0,aS 10 9,bu 11 0]
abbrev xa:zR:=[bu 3 0]
abbrev Hc:zR:=[o 2 (.eN 1 au)]
abbrev Ry:aM:=⟨.seq (.ae Hc) (.seq (.ae xa) (.seq (.seq (.ae Pr) (.block 0 Bk (.loop BO uE))) (.seq (.ae PZ) (.seq (.seq (.ae BT) (.block 2 uD (.loop uI Bn))) (.seq (.ae w8) .ret))))),36,[.tmp 2]⟩
abbrev Ow:zI:=[.code (.seq (.ae w8) .ret)]
abbrev OP(x6 x25 x26 x27:AV)(h:List Ob)(e:Cx:=cx):aw:=bg mu (.code Bn::.inLoop uI Bn::.inBlock 2 uD::Ow) (U::U::U::U::U::U::x6::(by(iterate 18 refine U::?_);exact[x25,x26,x27,U,U,U,U,U,U,U,U])) h e
abbrev ymD:zI:=[.code (.seq (.ae PZ) (.seq (.seq (.ae BT) (.block 2 uD (.loop uI Bn))) (.seq (.ae w8) .ret)))]
abbrev PO(x0 x3 x9 x10 x11:AV)(h:List Ob)(e:Cx:=cx):aw:=bg mu (.code uE::.inLoop BO uE::.inBlock 0 Bk::ymD) (x0::U::U::x3::U::U::U::U::U::x9::x10::x11::(by(iterate 24 refine U::?_);exact[])) h e
@[simp] theorem H5:aH Tryz.prog mu=some Ry:=by kernel_rfl
@[simp] theorem aov:aD Tryz.prog mu=true:=by kernel_rfl
abbrev ymF:zR:=[o 5 (.lit 1 [] []),ab 6 0,o 7 (.append 1 au 16 (.t 5) (.t 6)),ab 2 7]
abbrev ymH:an:=.seq (.ae Hc) .ret
abbrev G9:zR:=[ab 3 0,o 4 (.iL false (.t 3))]
abbrev RE:aM:=⟨.seq (.ae Hc) (.seq (.seq (.ae G9) (.cond (.t 4) ymH .skip)) (.seq (.ae ymF) .ret)),8,[.tmp 2]⟩
@[simp] theorem Rv:aH Tryz.prog vd=some RE:=by kernel_rfl
@[simp] theorem aoy:aD Tryz.prog vd=true:=by kernel_rfl
abbrev FR:zR:=[ab 37 3,ab 2 37]
abbrev G0:zB:=O::O::O::I::(by(iterate 21 refine O::?_);exact[I,I,I,O,O,O,O,O,O,O,O,O,O])
abbrev F8:zB:=O::O::O::I::(by(iterate 34 refine O::?_);exact[])
abbrev ymN:zR:=[bx 36 27 1,ab 27 36]
abbrev ymO:zR:=[ab 31 3,aj 32 0 7,ah 33 1 32,o 34 (.lit 1 [.str []] [(0,.t 33)]),o 35 (.append 1 au 16 (.t 31) (.t 34)),ab 3 35]
abbrev PK:zR:=[aQ 29 5 25 27,aK 30 5 29,o 7 (.alloc [.str [],.int .i64 0,.own 1 au [],.own 1 au [],.bool false]),aI 5 7 30]
abbrev ymQ:an:=.seq (.ae PK) (.ae ymO)
abbrev Bc:an:=.seq (.ae Bj) (.seq (.cond (.t 28) .skip (.exit 2)) (.seq (.block 3 [] ymQ) (.ae ymN)))
abbrev BE:zR:=[aj 24 3 1,ah 25 1 24,aS 26 25,bu 27 0]
abbrev QQ:zB:=O::I::O::I::O::O::O::O::O::O::O::O::I::I::I::(by(iterate 23 refine O::?_);exact[])
abbrev PS:zB:=O::I::O::I::(by(iterate 34 refine O::?_);exact[])
abbrev Pb:zR:=[bx 23 14 1,ab 14 23]
abbrev ymX:zR:=[ab 18 3,aj 19 0 5,ah 20 1 19,o 21 (.lit 1 [.str []] [(0,.t 20)]),o 22 (.append 1 au 16 (.t 18) (.t 21)),ab 3 22]
abbrev Qo:zR:=[aQ 16 3 12 14,aK 17 3 16,o 5 (.alloc [.str [],.str [],.int .i64 0]),aI 3 5 17]
abbrev ymZ:an:=.seq (.ae Qo) (.ae ymX)
abbrev OY:zR:=[bM 15 14 13]
abbrev GP:an:=.seq (.ae OY) (.seq (.cond (.t 15) .skip (.exit 0)) (.seq (.block 1 [] ymZ) (.ae Pb)))
abbrev QE:zR:=[aj 11 2 1,ah 12 1 11,aS 13 12,bu 14 0]
abbrev ynd:zR:=[aj 8 0 1,ah 9 1 8,bf 10 vd 9,ab 3 10]
abbrev FT:zR:=[o 1 (.box 4 (.t 0)),o 2 (.eN 1 au)]
abbrev Xt:aM:=⟨.seq (.ae FT) (.seq (.ae ynd) (.seq (.seq (.ae QE) (.block 0 PS (.loop QQ GP))) (.seq (.seq (.ae BE) (.block 2 F8 (.loop G0 Bc))) (.seq (.ae FR) .ret)))),38,[.tmp 2]⟩
abbrev ynf:zI:=[.code (.seq (.ae FR) .ret)]
abbrev yng(x3 x25 x26 x27:AV)(h:List Ob)(e:Cx:=cx):aw:=bg s9 (.code Bc::.inLoop G0 Bc::.inBlock 2 F8::ynf) (U::U::U::x3::(by(iterate 21 refine U::?_);exact[x25,x26,x27,U,U,U,U,U,U,U,U,U,U])) h e
abbrev ynh:zI:=[.code (.seq (.seq (.ae BE) (.block 2 F8 (.loop G0 Bc))) (.seq (.ae FR) .ret))]
abbrev yni(x1 x3 x12 x13 x14:AV)(h:List Ob)(e:Cx:=cx):aw:=bg s9 (.code GP::.inLoop QQ GP::.inBlock 0 PS::ynh) (U::x1::U::x3::U::U::U::U::U::U::U::U::x12::x13::x14::(by(iterate 23 refine U::?_);exact[])) h e
@[simp] theorem UA:aH Tryz.prog s9=some Xt:=by kernel_rfl
@[simp] theorem aqa:aD Tryz.prog s9=true:=by kernel_rfl
abbrev ynj:zR:=[ah 3 1 1,ah 4 1 1,o 5 (.bG (.t 4)),aj 6 0 5,aj 7 3 6,ah 8 1 7,aK 9 5 2,o 10 (.lit 5 [.agg [.str [],.int .i64 0,.list true 0 [],.list true 0 [],.bool false]] [(0,.t 9)]),o 11 (.append 5 dB 80 (.t 8) (.t 10)),o 12 (.bG (.t 3)),aj 13 0 12,aj 14 3 13,aI 1 14 11]
abbrev ynk:zR:=[o 2 (.box 5 (.t 0))]
abbrev SI:aM:=⟨.seq (.ae ynk) (.aR [I,I,O,O,O,I,O,O,O,O,O,O,O] [13,9,9,9,9,9,8,9,13,13,13,13,14] ynj),15,[]⟩
@[simp] theorem Ii:aH Tryz.prog qW=some SI:=by kernel_rfl
@[simp] theorem aoX:aD Tryz.prog qW=true:=by kernel_rfl
abbrev ynl:zR:=[ab 9 0,o 10 (.build [.int .i64 0] [(0,1,.t 9)]),o 11 (.oE Cu (.t 10)),ab 2 11]
abbrev ynm:zR:=[ab 5 0,o 6 (.cmp .eql (.sc .int) (.t 5) (.c (.int .i64 1))),o 7 (.build [.bool false] [(0,1,.t 6)]),o 8 (.oE Cp (.t 7)),ab 2 8]
abbrev ynn:an:=.seq (.ae ynm) .ret
abbrev yno:zR:=[ab 3 0,o 4 (.cmp .lss (.sc .int) (.t 3) (.c (.int .i64 2)))]
abbrev ynp:zR:=[o 2 (.mv (.c .dZ))]
abbrev S4:aM:=⟨.seq (.ae ynp) (.seq (.seq (.ae yno) (.cond (.t 4) ynn .skip)) (.seq (.ae ynl) .ret)),12,[.tmp 2]⟩
@[simp] theorem Sn:aH Tryz.prog vi=some S4:=by kernel_rfl
@[simp] theorem aoY:aD Tryz.prog vi=true:=by kernel_rfl
abbrev PH:zR:=[ah 16 1 5,ab 4 16]
abbrev Qh:zR:=[ab 6 10]
abbrev yns:zR:=[ab 15 6,aI 1 5 15]
abbrev ynt:an:=.seq (.ae yns) (.exit 0)
abbrev ynu:zR:=[ah 11 1 2,ab 12 6,cw 13 xB 11 12,o 14 (.not (.t 13))]
abbrev ynv:an:=.seq (.ae ynu) (.cond (.t 14) ynt .skip)
abbrev O':an:=.block 1 [] ynv
abbrev ynx:an:=.rangeFunc (.t 9) [10] [O,O,I,O,I,I,O,O,O,O,O,O,O,O,O,O,O] (.ae Qh) O'
abbrev yny:zR:=[ab 8 1,bf 9 Cw 8]
abbrev ynz:zR:=[ab 7 1,o 5 (.alloc [.str []]),aI 1 5 7]
abbrev ynA:zR:=[o 2 (.box 1 (.t 0)),o 4 (.mv (.c (.str [])))]
abbrev TK:aM:=⟨.seq (.ae ynA) (.seq (.ae ynz) (.seq (.seq (.ae yny) (.block 0 [] ynx)) (.seq (.ae PH) .ret))),17,[.tmp 4]⟩
@[simp] theorem S6:aH Tryz.prog sO=some TK:=by kernel_rfl
@[simp] theorem ao9:aD Tryz.prog sO=true:=by kernel_rfl
abbrev ynB:zR:=[aj 10 0 2,ah 11 1 10,aj 12 1 2,ah 13 1 12,aI 1 0 11,aI 1 1 13]
abbrev ynC:zR:=[ab 9 3]
abbrev ynD:zR:=[o 5 (.recover),o 6 (.z7 (.t 5) CE (.agg [.int .i64 0,.str []]) true),ab 4 6,cn 7 4 0,cn 8 4 1,o 2 (.alloc [.int .i64 0,.str []]),aI 2 2 7,ab 3 8]
abbrev Uo:aM:=⟨.seq (.ae ynD) (.seq (.ae ynC) (.cond (.t 9) (.aR [O,O,O,I,O,O] [5,5,6,6,6,7] ynB) .skip)),14,[]⟩
@[simp] theorem ao5:aH Tryz.prog xT=some Uo:=by kernel_rfl
@[simp] theorem ao4:aD Tryz.prog xT=true:=by kernel_rfl
abbrev ynE:zR:=[aj 3 2 1,ah 4 1 3,aS 5 4,o 6 (.cmp .gtr (.sc .int) (.t 5) (.c (.int .i64 8))),ab 7 6,on 8 7 (.off 3 (.t 1)),on 9 7 (.load false 1 (.t 8)),on 10 7 (.len (.t 9)),on 11 7 (.cmp .gtr (.sc .int) (.t 10) (.c (.int .i64 128))),o 12 (.pick (.t 7) (.c (.bool true)) (.t 11)),ab 2 12]
abbrev TI:aM:=⟨.seq (.ae GY) (.seq (.ae ynE) .ret),13,[.tmp 2]⟩
@[simp] theorem SM:aH Tryz.prog vk=some TI:=by kernel_rfl
@[simp] theorem apn:aD Tryz.prog vk=true:=by kernel_rfl
abbrev ynG:zR:=[ab 8 1,ab 9 2,o 10 (.build [.int .i64 0,.str []] [(0,1,.t 8),(1,1,.t 9)]),o 11 (.oE CE (.t 10)),q (.panic (.t 11))]
abbrev ynH:zR:=[ab 6 0,o 7 (.not (.t 6))]
abbrev XX:aM:=⟨.seq (.ae ynH) (.cond (.t 7) (.ae ynG) .skip),12,[]⟩
@[simp] theorem Jd:aH Tryz.prog nv=some XX:=by kernel_rfl
@[simp] theorem ap8:aD Tryz.prog nv=true:=by kernel_rfl
abbrev ynI:zR:=[ab 5 0,ab 6 1,cw 7 u7 5 6,o 8 (.cmp .geq (.sc .int) (.t 7) (.c (.int .i64 0))),ab 4 8]
abbrev Rc:aM:=⟨.seq (.ae kc) (.seq (.ae ynI) .ret),9,[.tmp 4]⟩
@[simp] theorem Rb:aH Tryz.prog xA=some Rc:=by kernel_rfl
@[simp] theorem aok:aD Tryz.prog xA=true:=by kernel_rfl
abbrev Ho:zR:=[ab 45 3,ab 2 45]
abbrev Hg:zB:=O::O::O::I::(by(iterate 26 refine O::?_);exact I::I::I::(by(iterate 13 refine O::?_);exact[]))
abbrev Gl:zB:=O::O::O::I::(by(iterate 42 refine O::?_);exact[])
abbrev ynN:zR:=[bx 44 32 1,ab 32 44]
abbrev ynO:zR:=[ab 36 3,aj 37 0 7,ah 38 1 37,o 39 (.lit 1 [.str []] [(0,.t 38)]),o 40 (.append 1 au 16 (.t 36) (.t 39)),aj 41 2 7,ah 42 1 41,o 43 (.append 1 au 16 (.t 40) (.t 42)),ab 3 43]
abbrev ynP:zR:=[aQ 34 5 30 32,aK 35 5 34,o 7 (.alloc [.str [],.int .i64 0,.own 1 au [],.own 1 au [],.bool false]),aI 5 7 35]
abbrev ynQ:an:=.seq (.ae ynP) (.aR [O,O,O,O,O,O,I,O,O] [5,4,4,5,8,8,8,10,10] ynO)
abbrev ynR:zR:=[bM 33 32 31]
abbrev BH:an:=.seq (.ae ynR) (.seq (.cond (.t 33) .skip (.exit 2)) (.seq (.block 3 [] ynQ) (.ae ynN)))
abbrev Qg:zR:=[aj 29 3 1,ah 30 1 29,aS 31 30,bu 32 0]
abbrev QI:zB:=O::I::O::I::O::O::O::O::O::O::O::O::O::O::O::I::I::I::(by(iterate 28 refine O::?_);exact[])
abbrev QD:zB:=O::I::O::I::(by(iterate 42 refine O::?_);exact[])
abbrev ynW:zR:=[bx 28 17 1,ab 17 28]
abbrev ynX:zR:=[ab 21 3,aj 22 0 5,ah 23 1 22,aj 24 1 5,ah 25 1 24,o 26 (.lit 1 [.str [],.str []] [(0,.t 23),(1,.t 25)]),o 27 (.append 1 au 16 (.t 21) (.t 26)),ab 3 27]
abbrev ynY:zR:=[aQ 19 3 15 17,aK 20 3 19,o 5 (.alloc [.str [],.str [],.int .i64 0]),aI 3 5 20]
abbrev ynZ:an:=.seq (.ae ynY) (.ae ynX)
abbrev yoa:zR:=[bM 18 17 16]
abbrev Gb:an:=.seq (.ae yoa) (.seq (.cond (.t 18) .skip (.exit 0)) (.seq (.block 1 [] ynZ) (.ae ynW)))
abbrev yoc:zR:=[aj 14 2 1,ah 15 1 14,aS 16 15,bu 17 0]
abbrev yod:zR:=[aj 8 0 1,ah 9 1 8,aj 10 1 1,ah 11 1 10,o 12 (.lit 1 [.list true 0 [],.list true 0 []] [(0,.t 9),(1,.t 11)]),bf 13 mu 12,ab 3 13]
abbrev XV:aM:=⟨.seq (.ae FT) (.seq (.ae yod) (.seq (.seq (.ae yoc) (.block 0 QD (.loop QI Gb))) (.seq (.seq (.ae Qg) (.block 2 Gl (.loop Hg BH))) (.seq (.ae Ho) .ret)))),46,[.tmp 2]⟩
abbrev yof:zI:=[.code (.seq (.ae Ho) .ret)]
abbrev yog(x3 x30 x31 x32:AV)(h:List Ob)(e:Cx:=cx):aw:=bg s6 (.code BH::.inLoop Hg BH::.inBlock 2 Gl::yof) (U::U::U::x3::(by(iterate 26 refine U::?_);exact x30::x31::x32::(by(iterate 13 refine U::?_);exact[]))) h e
abbrev yoh:zI:=[.code (.seq (.seq (.ae Qg) (.block 2 Gl (.loop Hg BH))) (.seq (.ae Ho) .ret))]
abbrev yoi(x1 x3 x15 x16 x17:AV)(h:List Ob)(e:Cx:=cx):aw:=bg s6 (.code Gb::.inLoop QI Gb::.inBlock 0 QD::yoh) (U::x1::U::x3::U::U::U::U::U::U::U::U::U::U::U::x15::x16::x17::(by(iterate 28 refine U::?_);exact[])) h e
@[simp] theorem Vw:aH Tryz.prog s6=some XV:=by kernel_rfl
@[simp] theorem aqi:aD Tryz.prog s6=true:=by kernel_rfl
abbrev yoj:zR:=[ab 3 0,bf 4 xI 3,ab 2 4]
abbrev Vp:aM:=⟨.seq (.ae yk) (.seq (.ae yoj) .ret),5,[.tmp 2]⟩
@[simp] theorem Tq:aH Tryz.prog vo=some Vp:=by kernel_rfl
@[simp] theorem apt:aD Tryz.prog vo=true:=by kernel_rfl
abbrev Pw:zR:=[ab 22 3,ab 2 22]
abbrev Qq:zB:=O::O::O::I::O::O::O::I::I::I::(by(iterate 13 refine O::?_);exact[])
abbrev O9:zB:=O::O::O::I::(by(iterate 19 refine O::?_);exact[])
abbrev yoo:zR:=[bx 21 9 1,ab 9 21]
abbrev yop:zR:=[ab 19 3,ab 20 5,q (.bA (.sc .str) (.t 19) (.t 20) (.c (.bool true)))]
abbrev yoq:zR:=[ab 13 3,ab 14 5,o 15 (.lookup (.sc .str) (.bool false) (.t 13) (.t 14) false),o 16 (.not (.t 15)),ab 17 5,o 18 (.call (.f nv) [.t 16,.c (.int .i64 5),.t 17])]
abbrev QM:zR:=[aQ 11 1 7 9,ah 12 1 11,ab 5 12]
abbrev yos:an:=.seq (.ae QM) (.seq (.ae yoq) (.ae yop))
abbrev PE:zR:=[bM 10 9 8]
abbrev GZ:an:=.seq (.ae PE) (.seq (.cond (.t 10) .skip (.exit 0)) (.seq (.block 1 [] yos) (.ae yoo)))
abbrev N7:zR:=[ab 7 0,aS 8 7,bu 9 0]
abbrev OJ:zR:=[o 6 (.mkMap),ab 3 6]
abbrev yox:zR:=[o 2 (.mv (.c .eu))]
abbrev YR:aM:=⟨.seq (.ae yox) (.seq (.ae OJ) (.seq (.seq (.ae N7) (.block 0 O9 (.loop Qq GZ))) (.seq (.ae Pw) .ret))),23,[.tmp 2]⟩
abbrev yoy:zI:=[.code (.seq (.ae Pw) .ret)]
abbrev Pf(x3 x7 x8 x9:AV)(h:List Ob)(e:Cx:=cx):aw:=bg rl (.code GZ::.inLoop Qq GZ::.inBlock 0 O9::yoy) (U::U::U::x3::U::U::U::x7::x8::x9::(by(iterate 13 refine U::?_);exact[])) h e
@[simp] theorem Jc:aH Tryz.prog rl=some YR:=by kernel_rfl
@[simp] theorem aqm:aD Tryz.prog rl=true:=by kernel_rfl
abbrev yoA:zR:=[aj 18 1 1,ah 19 1 18,aj 20 2 1,ah 21 1 20,aS 22 21,cw 23 th 19 22,ab 24 23,oy 25 24 (.off 3 (.t 1)),bW 26 24 1 25,oy 27 24 (.len (.t 26)),oy 28 24 (.cmp .leq (.sc .int) (.t 27) (.c (.int .i64 128))),bS 29 24 28,ab 30 29,oy 31 30 (.off 3 (.t 1)),bW 32 30 1 31,cY 33 30 3,oy 34 30 (.call (.f u9) [.t 32,.t 33]),oy 35 30 (.not (.t 34)),bS 36 30 35,ab 2 36]
abbrev yoD:zR:=[aj 5 1 1,ah 6 1 5,o 7 (.cmp .neq (.sc .int) (.t 6) (.c (.int .i64 10))),ab 8 7,oy 9 8 (.off 3 (.t 1)),bW 10 8 1 9,oy 11 8 (.len (.t 10)),oy 12 8 (.cmp .gtr (.sc .int) (.t 11) (.c (.int .i64 0))),cY 13 8 12,on 14 13 (.off 4 (.t 1)),on 15 13 (.load false 1 (.t 14)),oy 16 8 (.pick (.t 13) (.c (.bool true)) (.t 15)),bS 17 8 16]
abbrev yoE:zR:=[o 4 (.jl (.func xV) [] [.t 1]),ab 3 4]
abbrev XG:aM:=⟨.seq (.ae GY) (.seq (.ae yoE) (.seq (.seq (.ae yoD) (.cond (.t 17) ym .skip)) (.seq (.ae yoA) .ret))),37,[.tmp 2]⟩
@[simp] theorem UR:aH Tryz.prog zi=some XG:=by kernel_rfl
@[simp] theorem aqr:aD Tryz.prog zi=true:=by kernel_rfl
abbrev Gx:zR:=[ab 36 3,ab 2 36]
abbrev Hj:zB:=O::O::O::I::(by(iterate 21 refine O::?_);exact[I,I,I,O,O,O,O,O,O,O,O,O])
abbrev Hm:zB:=O::O::O::I::(by(iterate 33 refine O::?_);exact[])
abbrev yoJ:zR:=[bx 35 27 1,ab 27 35]
abbrev yoK:zR:=[ab 31 3,aj 32 2 7,ah 33 1 32,o 34 (.append 1 au 16 (.t 31) (.t 33)),ab 3 34]
abbrev yoM:an:=.seq (.ae PK) (.ae yoK)
abbrev A7:an:=.seq (.ae Bj) (.seq (.cond (.t 28) .skip (.exit 2)) (.seq (.block 3 [] yoM) (.ae yoJ)))
abbrev QF:zB:=O::I::O::I::O::O::O::O::O::O::O::O::I::I::I::(by(iterate 22 refine O::?_);exact[])
abbrev QT:zB:=O::I::O::I::(by(iterate 33 refine O::?_);exact[])
abbrev yoT:zR:=[ab 18 3,aj 19 1 5,ah 20 1 19,o 21 (.lit 1 [.str []] [(0,.t 20)]),o 22 (.append 1 au 16 (.t 18) (.t 21)),ab 3 22]
abbrev yoV:an:=.seq (.ae Qo) (.ae yoT)
abbrev Gi:an:=.seq (.ae OY) (.seq (.cond (.t 15) .skip (.exit 0)) (.seq (.block 1 [] yoV) (.ae Pb)))
abbrev yoZ:zR:=[aj 8 1 1,ah 9 1 8,bf 10 vd 9,ab 3 10]
abbrev Yo:aM:=⟨.seq (.ae FT) (.seq (.ae yoZ) (.seq (.seq (.ae QE) (.block 0 QT (.loop QF Gi))) (.seq (.seq (.ae BE) (.block 2 Hm (.loop Hj A7))) (.seq (.ae Gx) .ret)))),37,[.tmp 2]⟩
abbrev ypb:zI:=[.code (.seq (.ae Gx) .ret)]
abbrev ypc(x3 x25 x26 x27:AV)(h:List Ob)(e:Cx:=cx):aw:=bg s_ (.code A7::.inLoop Hj A7::.inBlock 2 Hm::ypb) (U::U::U::x3::(by(iterate 21 refine U::?_);exact[x25,x26,x27,U,U,U,U,U,U,U,U,U])) h e
abbrev ypd:zI:=[.code (.seq (.seq (.ae BE) (.block 2 Hm (.loop Hj A7))) (.seq (.ae Gx) .ret))]
abbrev ype(x1 x3 x12 x13 x14:AV)(h:List Ob)(e:Cx:=cx):aw:=bg s_ (.code Gi::.inLoop QF Gi::.inBlock 0 QT::ypd) (U::x1::U::x3::U::U::U::U::U::U::U::U::x12::x13::x14::(by(iterate 22 refine U::?_);exact[])) h e
@[simp] theorem Vi:aH Tryz.prog s_=some Yo:=by kernel_rfl
@[simp] theorem aql:aD Tryz.prog s_=true:=by kernel_rfl
abbrev Ps:zR:=[ab 37 1,ab 38 8,o 39 (.concat (.t 37) (.t 38)),ab 4 39]
abbrev OG:zR:=[ab 31 0,aS 32 31,bx 33 32 1,bf 34 te 33,ab 30 34,cn 35 30 0,cn 36 30 1,ab 8 35,ab 9 36]
abbrev QU:zB:=I::I::O::O::O::I::(by(iterate 34 refine O::?_);exact[])
abbrev Pu:zB:=I::I::(by(iterate 38 refine O::?_);exact[])
abbrev ypj:zR:=[ab 14 5,bx 15 14 1,ab 5 15]
abbrev ypk:zR:=[ab 27 1,ab 28 6,o 29 (.concat (.t 27) (.t 28)),ab 4 29]
abbrev ypl:an:=.seq (.ae ypk) .ret
abbrev ypm:zR:=[ab 21 0,ab 22 1,ab 23 6,o 24 (.concat (.t 22) (.t 23)),cw 25 tm 21 24,o 26 (.not (.t 25))]
abbrev ypn:zR:=[ab 17 5,bf 18 te 17,ab 16 18,cn 19 16 0,cn 20 16 1,ab 6 19,ab 7 20]
abbrev ypo:an:=.seq (.ae ypn) (.seq (.ae ypm) (.cond (.t 26) ypl .skip))
abbrev ypp:zR:=[ab 10 5,ab 11 0,aS 12 11,o 13 (.cmp .leq (.sc .int) (.t 10) (.t 12))]
abbrev GG:an:=.seq (.seq (.ae ypp) (.cond (.t 13) .skip (.exit 0))) (.seq (.block 1 [] ypo) (.ae ypj))
abbrev ypr:zR:=[bu 5 1]
abbrev WU:aM:=⟨.seq (.ae P9) (.seq (.seq (.ae ypr) (.block 0 Pu (.loop QU GG))) (.seq (.ae OG) (.seq (.ae Ps) .ret))),40,[.tmp 4]⟩
abbrev ypt:zI:=[.code (.seq (.ae OG) (.seq (.ae Ps) .ret))]
abbrev ypu(x0 x1 x5:AV)(h:List Ob)(e:Cx:=cx):aw:=bg vt (.code GG::.inLoop QU GG::.inBlock 0 Pu::ypt) (x0::x1::U::U::U::x5::(by(iterate 34 refine U::?_);exact[])) h e
@[simp] theorem Uu:aH Tryz.prog vt=some WU:=by kernel_rfl
@[simp] theorem ap6:aD Tryz.prog vt=true:=by kernel_rfl
abbrev ypv:zR:=[ab 8 3,aj 9 6 1,ah 10 1 9,o 11 (.append 1 au 16 (.t 8) (.t 10)),ab 2 11]
abbrev ypw:zR:=[ab 4 3,aj 5 5 1,ah 6 1 5,o 7 (.append 1 au 16 (.t 4) (.t 6)),ab 3 7]
abbrev ypy:zR:=[o 1 (.box 8 (.t 0)),o 2 (.eN 1 au)]
abbrev XW:aM:=⟨.seq (.ae ypy) (.seq (.ae Qa) (.seq (.ae ypw) (.seq (.ae ypv) .ret))),12,[.tmp 2]⟩
@[simp] theorem UB:aH Tryz.prog vz=some XW:=by kernel_rfl
@[simp] theorem aqs:aD Tryz.prog vz=true:=by kernel_rfl
abbrev QR:zB:=O::I::(by(iterate 68 refine O::?_);exact I::I::I::(by(iterate 30 refine O::?_);exact[]))
abbrev PF:zB:=(by(iterate 103 refine O::?_);exact[])
abbrev ypC:zR:=[bx 102 72 1,ab 72 102]
abbrev ypF:zR:=[o 82 (.cT 2 1 (.t 7) (.c (.int .i64 0))),ah 83 1 82,o 84 (.cmp .lss (.sc .int) (.t 83) (.c (.int .i64 0))),ab 85 84,on 86 85 (.cT 2 1 (.t 7) (.c (.int .i64 1))),on 87 85 (.load false 1 (.t 86)),on 88 85 (.cmp .lss (.sc .int) (.t 87) (.c (.int .i64 0))),o 89 (.pick (.t 85) (.c (.bool true)) (.t 88)),ab 90 89,on 91 90 (.cT 2 1 (.t 7) (.c (.int .i64 0))),on 92 90 (.load false 1 (.t 91)),on 93 90 (.mv (.t 8)),on 94 90 (.cmp .geq (.sc .int) (.t 92) (.t 93)),o 95 (.pick (.t 90) (.c (.bool true)) (.t 94)),ab 96 95,on 97 96 (.cT 2 1 (.t 7) (.c (.int .i64 1))),on 98 96 (.load false 1 (.t 97)),on 99 96 (.mv (.t 8)),on 100 96 (.cmp .geq (.sc .int) (.t 98) (.t 99)),o 101 (.pick (.t 96) (.c (.bool true)) (.t 100))]
abbrev ypG:zR:=[aK 77 5 1,bf 78 mz 77,ab 79 6,o 80 (.aV .add (.t 78) (.t 79)),o 81 (.aV .mul (.c (.int .i64 2)) (.t 80)),ab 8 81]
abbrev ypH:zR:=[ab 74 72,aQ 75 2 70 72,aK 76 2 75,o 7 (.alloc [.int .i64 0,.int .i64 0]),ab 6 74,aI 2 7 76]
abbrev ypI:an:=.seq (.ae ypH) (.seq (.ae ypG) (.seq (.ae ypF) (.cond (.t 101) qK .skip)))
abbrev ypJ:zR:=[bM 73 72 71]
abbrev Ga:an:=.seq (.ae ypJ) (.seq (.cond (.t 73) .skip (.exit 0)) (.seq (.block 1 [] ypI) (.ae ypC)))
abbrev ypL:zR:=[aj 69 3 1,ah 70 1 69,aS 71 70,bu 72 0]
abbrev ypO:zR:=[aj 44 2 1,ah 45 1 44,aS 46 45,aj 47 1 1,ah 48 1 47,aS 49 48,o 50 (.cmp .neq (.sc .int) (.t 46) (.t 49)),ab 51 50,on 52 51 (.off 2 (.t 1)),on 53 51 (.load false 1 (.t 52)),on 54 51 (.mv (.t 5)),on 55 51 (.call (.f sE) [.t 53,.t 54]),o 56 (.pick (.t 51) (.c (.bool true)) (.t 55)),ab 57 56,on 58 57 (.off 1 (.t 1)),on 59 57 (.load false 1 (.t 58)),on 60 57 (.mv (.t 4)),on 61 57 (.call (.f sE) [.t 59,.t 60]),o 62 (.pick (.t 57) (.c (.bool true)) (.t 61)),ab 63 62,on 64 63 (.off 4 (.t 1)),on 65 63 (.load false 1 (.t 64)),on 66 63 (.mv (.t 4)),on 67 63 (.call (.f sE) [.t 65,.t 66]),o 68 (.pick (.t 63) (.c (.bool true)) (.t 67))]
abbrev ypP:zR:=[o 5 (.mv (.f xP))]
abbrev ypQ:zR:=[o 43 (.jl (.func xN) [] [.t 3]),ab 4 43]
abbrev ypR:zR:=[aK 36 5 1,bf 37 mz 36,aj 38 3 1,ah 39 1 38,aS 40 39,o 41 (.aV .add (.t 37) (.t 40)),o 42 (.aV .mul (.c (.int .i64 2)) (.t 41)),o 3 (.alloc [.int .i64 0]),aI 1 3 42]
abbrev ypS:zR:=[bu 2 8]
abbrev Pc:an:=.seq (.ae ypS) .ret
abbrev ypU:zR:=[aj 9 0 1,ah 10 1 9,o 11 (.cmp .lss (.sc .int) (.t 10) (.c (.int .i64 0))),ab 12 11,on 13 12 (.off 0 (.t 1)),on 14 12 (.load false 1 (.t 13)),on 15 12 (.cmp .gtr (.sc .int) (.t 14) (.c (.int .i64 4000))),o 16 (.pick (.t 12) (.c (.bool true)) (.t 15)),ab 17 16,on 18 17 (.off 0 (.t 1)),on 19 17 (.load false 1 (.t 18)),on 20 17 (.off 1 (.t 1)),on 21 17 (.load false 1 (.t 20)),on 22 17 (.len (.t 21)),on 23 17 (.aV .add (.t 19) (.t 22)),on 24 17 (.off 3 (.t 1)),on 25 17 (.load false 1 (.t 24)),on 26 17 (.len (.t 25)),on 27 17 (.aV .add (.t 23) (.t 26)),on 28 17 (.cmp .gtr (.sc .int) (.t 27) (.c (.int .i64 4000))),o 29 (.pick (.t 17) (.c (.bool true)) (.t 28)),ab 30 29,on 31 30 (.off 4 (.t 1)),on 32 30 (.load false 1 (.t 31)),on 33 30 (.len (.t 32)),on 34 30 (.cmp .gtr (.sc .int) (.t 33) (.c (.int .i64 4000))),o 35 (.pick (.t 30) (.c (.bool true)) (.t 34))]
abbrev W7:aM:=⟨.seq (.ae uO) (.seq (.seq (.ae ypU) (.cond (.t 35) Pc .skip)) (.seq (.aR [I,I,O,I,O,O,O,O,O] [9,9,9,9,9,9,9,9,10] ypR) (.seq (.ae ypQ) (.seq (.ae ypP) (.seq (.seq (.ae ypO) (.cond (.t 68) qK .skip)) (.seq (.seq (.ae ypL) (.block 0 PF (.loop QR Ga))) (.seq (.ae qG) .ret))))))),103,[.tmp 2]⟩
abbrev ypX(x1 x70 x71 x72:AV)(h:List Ob)(e:Cx:=cx):aw:=bg sY (.code Ga::.inLoop QR Ga::.inBlock 0 PF::BK) (U::x1::(by(iterate 68 refine U::?_);exact x70::x71::x72::(by(iterate 30 refine U::?_);exact[]))) h e
@[simp] theorem Ua:aH Tryz.prog sY=some W7:=by kernel_rfl
@[simp] theorem apE:aD Tryz.prog sY=true:=by kernel_rfl
abbrev ypY:zR:=[ab 3 0,o 4 (.call (.f u9) [.t 3,.f xS]),ab 2 4]
abbrev Wh:aM:=⟨.seq (.ae yk) (.seq (.ae ypY) .ret),5,[.tmp 2]⟩
@[simp] theorem T7:aH Tryz.prog sS=some Wh:=by kernel_rfl
@[simp] theorem ap7:aD Tryz.prog sS=true:=by kernel_rfl
abbrev Of:zB:=[O,O,O,I,O,O,O,I,I,I,O,O,O,O,O,O,O,O,O]
abbrev yqd:zR:=[bx 18 9 1,ab 9 18]
abbrev yqe:zR:=[ab 16 3,ab 17 5,q (.bA (.sc .str) (.t 16) (.t 17) (.c (.bool true)))]
abbrev BQ:zR:=[o 2 (.mv (.c (.bool true)))]
abbrev yqg:an:=.seq (.ae BQ) .ret
abbrev yqh:zR:=[ab 13 3,ab 14 5,o 15 (.lookup (.sc .str) (.bool false) (.t 13) (.t 14) false)]
abbrev yqj:an:=.seq (.ae QM) (.seq (.seq (.ae yqh) (.cond (.t 15) yqg .skip)) (.ae yqe))
abbrev HB:an:=.seq (.ae PE) (.seq (.cond (.t 10) .skip (.exit 0)) (.seq (.block 1 [] yqj) (.ae yqd)))
abbrev T4:aM:=⟨.seq (.ae yk) (.seq (.ae OJ) (.seq (.seq (.ae N7) (.block 0 l_ (.loop Of HB))) (.seq (.ae yk) .ret))),19,[.tmp 2]⟩
abbrev yqp:zI:=[.code (.seq (.ae yk) .ret)]
abbrev yqq(x3 x7 x8 x9:AV)(h:List Ob)(e:Cx:=cx):aw:=bg sL (.code HB::.inLoop Of HB::.inBlock 0 l_::yqp) [U,U,U,x3,U,U,U,x7,x8,x9,U,U,U,U,U,U,U,U,U] h e
@[simp] theorem SS:aH Tryz.prog sL=some T4:=by kernel_rfl
@[simp] theorem apc:aD Tryz.prog sL=true:=by kernel_rfl
abbrev P1:zR:=[ab 31 3,ab 2 31]
abbrev OF:zB:=O::O::O::I::O::O::O::O::O::O::O::O::O::O::O::I::I::(by(iterate 15 refine O::?_);exact[])
abbrev OQ:zB:=O::O::O::I::(by(iterate 28 refine O::?_);exact[])
abbrev yqu:zR:=[bx 30 16 1,ab 16 30]
abbrev yqv:zR:=[ab 19 3,ab 20 3,o 21 (.bG (.t 20)),aj 22 6 21,ah 23 1 22,ab 24 4,o 25 (.aV .mul (.c (.int .i64 2)) (.t 24)),o 26 (.lit 1 [.int .i64 0] [(0,.t 25)]),o 27 (.append 1 az 8 (.t 23) (.t 26)),o 28 (.bG (.t 19)),aj 29 6 28,aI 1 29 27]
abbrev yqw:zR:=[ab 18 16,ab 4 18]
abbrev yqx:an:=.seq (.ae yqw) (.ae yqv)
abbrev yqy:zR:=[bM 17 16 15]
abbrev Gn:an:=.seq (.ae yqy) (.seq (.cond (.t 17) .skip (.exit 0)) (.seq (.block 1 [] yqx) (.ae yqu)))
abbrev yqA:zR:=[aK 14 5 1,bf 15 mz 14,bu 16 0]
abbrev yqB:zR:=[aj 5 0 1,ah 6 1 5,aj 7 1 1,ah 8 1 7,aj 9 2 1,ah 10 1 9,bf 11 xD 10,o 12 (.build [.int .i64 0,.list true 0 [],.list true 0 [],.list true 0 [],.list true 0 []] [(0,1,.t 6),(1,1,.t 8),(2,1,.t 11)]),bf 13 x_ 12,ab 3 13]
abbrev QH:zR:=[o 1 (.box 5 (.t 0)),o 2 (.mv (.c .iq))]
abbrev W_:aM:=⟨.seq (.ae QH) (.seq (.aR [O,I,O,I,O,O,O,O,O,O] [9,9,9,9,7,7,9,9,11,11] yqB) (.seq (.seq (.ae yqA) (.block 0 OQ (.loop OF Gn))) (.seq (.ae P1) .ret))),32,[.tmp 2]⟩
abbrev Pq:zI:=[.code (.seq (.ae P1) .ret)]
abbrev yqE(x3 x15 x16:AV)(h:List Ob)(e:Cx:=cx):aw:=bg sW (.code Gn::.inLoop OF Gn::.inBlock 0 OQ::Pq) (U::U::U::x3::U::U::U::U::U::U::U::U::U::U::U::x15::x16::(by(iterate 15 refine U::?_);exact[])) h e
abbrev yqF(x3:AV)(h:List Ob)(e:Cx:=cx):aw:=bg sW Pq (U::U::U::x3::(by(iterate 28 refine U::?_);exact[])) h e
@[simp] theorem I2:aH Tryz.prog sW=some W_:=by kernel_rfl
@[simp] theorem apX:aD Tryz.prog sW=true:=by kernel_rfl
abbrev yqG:zR:=[ab 76 10,ab 6 76]
abbrev yqH:zR:=[ab 70 0,o 71 (.bG (.t 70)),aj 72 5 71,ah 73 1 72,aK 74 2 7,ab 75 10,q (.bA (.gQ [.int,.int]) (.t 73) (.t 74) (.t 75))]
abbrev yqI:zR:=[ab 58 0,ab 59 0,o 60 (.bG (.t 59)),aj 61 0 60,aj 62 3 61,ah 63 1 62,aK 64 2 7,o 65 (.lit 2 [.agg [.int .i64 0,.int .i64 0]] [(0,.t 64)]),o 66 (.append 2 bI 16 (.t 63) (.t 65)),o 67 (.bG (.t 58)),aj 68 0 67,aj 69 3 68,aI 1 69 66]
abbrev yqJ:zR:=[ab 45 0,o 46 (.bG (.t 45)),aj 47 0 46,aK 48 5 47,bf 49 mz 48,ab 50 0,o 51 (.bG (.t 50)),aj 52 0 51,aj 53 3 52,ah 54 1 53,aS 55 54,o 56 (.aV .add (.t 49) (.t 55)),o 57 (.aV .mul (.c (.int .i64 2)) (.t 56)),ab 10 57]
abbrev yqK:zR:=[ab 44 8,ab 6 44]
abbrev yqL:an:=.seq (.ae yqK) .ret
abbrev yqM:zR:=[ab 43 9]
abbrev yqN:zR:=[ab 35 0,o 36 (.bG (.t 35)),aj 37 5 36,ah 38 1 37,aK 39 2 7,o 40 (.lookup (.gQ [.int,.int]) (.int .i64 0) (.t 38) (.t 39) true),ab 34 40,cn 41 34 0,cn 42 34 1,ab 8 41,ab 9 42]
abbrev yqO:zR:=[ab 31 1,ab 32 2,o 33 (.build [.int .i64 0,.int .i64 0] [(0,1,.t 31),(1,1,.t 32)]),o 7 (.alloc [.int .i64 0,.int .i64 0]),aI 2 7 33]
abbrev yqQ:zR:=[ab 30 1,ab 6 30]
abbrev yqR:an:=.seq (.ae yqQ) .ret
abbrev yqS:zR:=[ab 27 1,ab 28 2,o 29 (.cmp .eql (.sc .int) (.t 27) (.t 28)),ab 24 29]
abbrev yqT:zR:=[ab 25 2,o 26 (.cmp .eql (.sc .int) (.t 25) (.c (.int .i64 1))),ab 24 26]
abbrev yqU:an:=.seq (.ae qH) .ret
abbrev yqV:an:=.seq (.seq (.ae yqT) (.cond (.t 24) .skip (.ae yqS))) (.cond (.t 24) yqR .skip)
abbrev yqW:zR:=[ab 20 1,o 21 (.aV .xor (.t 20) (.c (.int .i64 1))),ab 22 2,o 23 (.cmp .eql (.sc .int) (.t 21) (.t 22)),ab 17 23]
abbrev yqX:zR:=[ab 18 2,o 19 (.cmp .eql (.sc .int) (.t 18) (.c (.int .i64 0))),ab 17 19]
abbrev yqY:an:=.seq (.seq (.ae yqX) (.cond (.t 17) .skip (.ae yqW))) (.cond (.t 17) yqU yqV)
abbrev yqZ:zR:=[ab 11 1,ab 12 2,o 13 (.max [.t 11,.t 12]),ab 14 1,ab 15 2,o 16 (.min [.t 14,.t 15]),ab 1 13,ab 2 16]
abbrev So:aM:=⟨.seq (.ae qH) (.seq (.ae yqZ) (.seq (.block 0 [] yqY) (.seq (.ae yqO) (.seq (.seq (.aR [O,O,O,O,O,O,O,O,O,O,O] [12,12,12,12,12,12,12,12,12,12,12] yqN) (.seq (.ae yqM) (.cond (.t 43) yqL .skip))) (.seq (.aR [O,O,O,O,O,O,O,O,O,I,O,O,O,O] [5,5,5,5,15,15,15,15,15,15,15,15,15,15] yqJ) (.seq (.aR [O,O,O,O,O,I,O,O,O,O,O,O,O] [13,9,9,9,9,9,8,9,13,13,13,13,14] yqI) (.seq (.aR [O,O,O,O,O,O,O] [7,7,7,7,7,7,8] yqH) (.seq (.ae yqG) .ret)))))))),77,[.tmp 6]⟩
@[simp] theorem Cm:aH Tryz.prog qU=some So:=by kernel_rfl
@[simp] theorem aoP:aD Tryz.prog qU=true:=by kernel_rfl
abbrev yrb:zR:=[ab 5 0,o 6 (.bG (.t 5)),aj 7 6 6,ah 8 1 7,ab 9 1,o 10 (.aV .shr (.t 9) (.c (.int .u64 1))),aQ 11 1 8 10,ah 12 1 11,ab 13 1,o 14 (.aV .and (.t 13) (.c (.int .i64 1))),o 15 (.aV .xor (.t 12) (.t 14)),ab 4 15]
abbrev Se:aM:=⟨.seq (.ae n6) (.seq (.ae yrb) .ret),16,[.tmp 4]⟩
@[simp] theorem RX:aH Tryz.prog np=some Se:=by kernel_rfl
@[simp] theorem aoM:aD Tryz.prog np=true:=by kernel_rfl
abbrev yrd:zR:=[ab 21 0,o 22 (.bG (.t 21)),aj 23 0 22,aK 24 5 23,aI 5 4 24]
abbrev yre:zR:=[ab 5 0,ab 6 0,ab 7 0,aj 8 1 3,ah 9 1 8,cw 10 qV 7 9,ab 11 0,aj 12 4 3,ah 13 1 12,cw 14 qV 11 13,o 15 (.bG (.t 5)),aj 16 0 15,aj 17 1 16,aI 1 17 10,o 18 (.bG (.t 6)),aj 19 0 18,aj 20 4 19,aI 1 20 14]
abbrev yrf:zR:=[o 3 (.box 5 (.t 1)),o 4 (.alloc [.int .i64 0,.own 1 az [],.own 1 az [],.own 2 bI [],.own 1 az []])]
abbrev Si:aM:=⟨.seq (.ae yrf) (.seq (.aR [O,O,O,O,O,O,O,O,I,O,O,O,O,O,O,O,O,O] [14,18,6,6,6,10,10,10,10,14,14,14,14,18,18,18,18,19] yre) (.seq (.ae yrd) .ret)),25,[.cell 4 true 5]⟩
@[simp] theorem Ic:aH Tryz.prog xK=some Si:=by kernel_rfl
@[simp] theorem aoQ:aD Tryz.prog xK=true:=by kernel_rfl
abbrev Gy:zR:=[ah 20 1 3,ab 2 20]
abbrev QL:zR:=[ab 4 15]
abbrev yri:zR:=[ah 16 1 3,ab 17 4,o 18 (.aV .shr (.t 17) (.c (.int .u64 1))),aQ 19 1 16 18,q (.store 1 (.t 19) (.c (.bool true)))]
abbrev PT:an:=.block 1 [] (.ae yri)
abbrev Pk:an:=.rangeFunc (.t 14) [15] (O::O::I::I::(by(iterate 17 refine O::?_);exact[])) (.ae QL) PT
abbrev Oi:zR:=[aK 12 5 1,ah 13 1 3,cw 14 Cz 12 13]
abbrev yrm:zR:=[aK 5 5 1,bf 6 mz 5,aj 7 3 1,ah 8 1 7,aS 9 8,o 10 (.aV .add (.t 6) (.t 9)),o 11 (.mkSlice 1 fW 1 (.bool false) (.t 10) (.t 10)),o 3 (.alloc [.own 1 fW []]),aI 1 3 11]
abbrev Om:zR:=[o 1 (.box 5 (.t 0)),o 2 (.eN 1 fW)]
abbrev Zl:aM:=⟨.seq (.ae Om) (.seq (.eH [[],[0],[],[2],[3],[1,4],[5,5],[],[7,6,1,0,1,2,3,4,5,6,7]] yrm) (.seq (.seq (.ae Oi) (.block 0 [] Pk)) (.seq (.ae Gy) .ret))),21,[.tmp 2]⟩
@[simp] theorem Xl:aH Tryz.prog rz=some Zl:=by kernel_rfl
@[simp] theorem aq2:aD Tryz.prog rz=true:=by kernel_rfl
abbrev WI:aM:=⟨.seq (.ae uO) (.seq (.ae PD) .ret),10,[.tmp 2]⟩
@[simp] theorem TT:aH Tryz.prog mz=some WI:=by kernel_rfl
@[simp] theorem apW:aD Tryz.prog mz=true:=by kernel_rfl
abbrev A8:zB:=O::I::O::I::O::O::O::I::(by(iterate 117 refine O::?_);exact[])
abbrev Bl:zB:=(by(iterate 125 refine O::?_);exact[])
abbrev yrt:zR:=[ab 115 7,bx 116 115 1,ab 7 116]
abbrev yrw:zR:=[aj 117 4 1,ah 118 1 117,ab 119 7,aQ 120 1 118 119,ah 121 1 120,ab 122 3,cw 123 qZ 121 122,o 124 (.not (.t 123))]
abbrev yrx:an:=.seq (.ae yrw) (.cond (.t 124) qK .skip)
abbrev yry:zR:=[ab 110 7,aj 111 4 1,ah 112 1 111,aS 113 112,bM 114 110 113]
abbrev wZ:an:=.seq (.seq (.ae yry) (.cond (.t 114) .skip (.exit 4))) (.seq (.block 5 [] yrx) (.ae yrt))
abbrev GK:zB:=O::I::O::I::O::I::(by(iterate 119 refine O::?_);exact[])
abbrev wU:zB:=O::I::O::I::(by(iterate 121 refine O::?_);exact[])
abbrev yrD:zR:=[ab 84 5,bx 85 84 1,ab 5 85]
abbrev yrG:zR:=[aj 90 3 1,ah 91 1 90,ab 92 5,aQ 93 2 91 92,o 94 (.cT 2 1 (.t 93) (.c (.int .i64 0))),ah 95 1 94,ab 96 6,cw 97 qZ 95 96,o 98 (.not (.t 97)),ab 99 98,on 100 99 (.off 3 (.t 1)),on 101 99 (.load false 1 (.t 100)),on 102 99 (.mv (.t 5)),on 103 99 (.ic 2 (.t 101) (.t 102)),on 104 99 (.cT 2 1 (.t 103) (.c (.int .i64 1))),on 105 99 (.load false 1 (.t 104)),on 106 99 (.mv (.t 6)),on 107 99 (.call (.f qZ) [.t 105,.t 106]),on 108 99 (.not (.t 107)),o 109 (.pick (.t 99) (.c (.bool true)) (.t 108))]
abbrev yrH:zR:=[aK 86 5 1,bf 87 gM 86,ab 88 5,o 89 (.aV .add (.t 87) (.t 88)),ab 6 89]
abbrev yrI:an:=.seq (.ae yrH) (.seq (.ae yrG) (.cond (.t 109) qK .skip))
abbrev yrJ:zR:=[ab 79 5,aj 80 3 1,ah 81 1 80,aS 82 81,bM 83 79 82]
abbrev BP:an:=.seq (.seq (.ae yrJ) (.cond (.t 83) .skip (.exit 2))) (.seq (.block 3 [] yrI) (.ae yrD))
abbrev Py:zB:=O::I::O::I::I::(by(iterate 120 refine O::?_);exact[])
abbrev yrO:zR:=[ab 53 4,bx 54 53 1,ab 4 54]
abbrev yrR:zR:=[aj 55 2 1,ah 56 1 55,ab 57 4,aQ 58 1 56 57,ah 59 1 58,o 60 (.cmp .lss (.sc .int) (.t 59) (.c (.int .i64 0))),ab 61 60,on 62 61 (.off 2 (.t 1)),on 63 61 (.load false 1 (.t 62)),on 64 61 (.mv (.t 4)),on 65 61 (.ic 1 (.t 63) (.t 64)),on 66 61 (.load false 1 (.t 65)),on 67 61 (.cmp .gtr (.sc .int) (.t 66) (.c (.int .i64 2))),o 68 (.pick (.t 61) (.c (.bool true)) (.t 67)),ab 69 68,on 70 69 (.off 1 (.t 1)),on 71 69 (.load false 1 (.t 70)),on 72 69 (.mv (.t 4)),on 73 69 (.ic 1 (.t 71) (.t 72)),on 74 69 (.load false 1 (.t 73)),on 75 69 (.mv (.t 3)),on 76 69 (.call (.f qZ) [.t 74,.t 75]),on 77 69 (.not (.t 76)),o 78 (.pick (.t 69) (.c (.bool true)) (.t 77))]
abbrev yrS:an:=.seq (.ae yrR) (.cond (.t 78) qK .skip)
abbrev yrT:zR:=[ab 48 4,aj 49 1 1,ah 50 1 49,aS 51 50,bM 52 48 51]
abbrev F3:an:=.seq (.seq (.ae yrT) (.cond (.t 52) .skip (.exit 0))) (.seq (.block 1 [] yrS) (.ae yrO))
abbrev yrW:zR:=[aK 42 5 1,bf 43 gM 42,aj 44 3 1,ah 45 1 44,aS 46 45,o 47 (.aV .add (.t 43) (.t 46)),ab 3 47]
abbrev yrZ:zR:=[aj 35 2 1,ah 36 1 35,aS 37 36,aj 38 1 1,ah 39 1 38,aS 40 39,o 41 (.cmp .neq (.sc .int) (.t 37) (.t 40))]
abbrev ysc:zR:=[aj 8 0 1,ah 9 1 8,o 10 (.cmp .lss (.sc .int) (.t 9) (.c (.int .i64 0))),ab 11 10,on 12 11 (.off 0 (.t 1)),on 13 11 (.load false 1 (.t 12)),on 14 11 (.cmp .gtr (.sc .int) (.t 13) (.c (.int .i64 4000))),o 15 (.pick (.t 11) (.c (.bool true)) (.t 14)),ab 16 15,on 17 16 (.off 0 (.t 1)),on 18 16 (.load false 1 (.t 17)),on 19 16 (.off 1 (.t 1)),on 20 16 (.load false 1 (.t 19)),on 21 16 (.len (.t 20)),on 22 16 (.aV .add (.t 18) (.t 21)),on 23 16 (.off 3 (.t 1)),on 24 16 (.load false 1 (.t 23)),on 25 16 (.len (.t 24)),on 26 16 (.aV .add (.t 22) (.t 25)),on 27 16 (.cmp .gtr (.sc .int) (.t 26) (.c (.int .i64 4000))),o 28 (.pick (.t 16) (.c (.bool true)) (.t 27)),ab 29 28,on 30 29 (.off 4 (.t 1)),on 31 29 (.load false 1 (.t 30)),on 32 29 (.len (.t 31)),on 33 29 (.cmp .gtr (.sc .int) (.t 32) (.c (.int .i64 4000))),o 34 (.pick (.t 29) (.c (.bool true)) (.t 33))]
abbrev Wu:aM:=⟨.seq (.ae uO) (.seq (.seq (.ae ysc) (.cond (.t 34) Pc .skip)) (.seq (.seq (.ae yrZ) (.cond (.t 41) qK .skip)) (.seq (.aR [O,O,O,I,O,O,O] [2,8,8,8,8,8,8] yrW) (.seq (.seq (.ae n6) (.block 0 wU (.loop Py F3))) (.seq (.seq (.ae mf) (.block 2 wU (.loop GK BP))) (.seq (.seq (.ae uB) (.block 4 Bl (.loop A8 wZ))) (.seq (.ae qG) .ret))))))),125,[.tmp 2]⟩
abbrev ysf(x1 x3 x7:AV)(h:List Ob)(e:Cx:=cx):aw:=bg pU (.code wZ::.inLoop A8 wZ::.inBlock 4 Bl::BK) (U::x1::U::x3::U::U::U::x7::(by(iterate 117 refine U::?_);exact[])) h e
abbrev ysg:zI:=[.code (.seq (.seq (.ae uB) (.block 4 Bl (.loop A8 wZ))) (.seq (.ae qG) .ret))]
abbrev ysh(x1 x3 x5:AV)(h:List Ob)(e:Cx:=cx):aw:=bg pU (.code BP::.inLoop GK BP::.inBlock 2 wU::ysg) (U::x1::U::x3::U::x5::(by(iterate 119 refine U::?_);exact[])) h e
abbrev ysi:zI:=[.code (.seq (.seq (.ae mf) (.block 2 wU (.loop GK BP))) (.seq (.seq (.ae uB) (.block 4 Bl (.loop A8 wZ))) (.seq (.ae qG) .ret)))]
abbrev ysj(x1 x3 x4:AV)(h:List Ob)(e:Cx:=cx):aw:=bg pU (.code F3::.inLoop Py F3::.inBlock 0 wU::ysi) (U::x1::U::x3::x4::(by(iterate 120 refine U::?_);exact[])) h e
@[simp] theorem Ub:aH Tryz.prog pU=some Wu:=by kernel_rfl
@[simp] theorem apY:aD Tryz.prog pU=true:=by kernel_rfl
abbrev O4:zB:=[I,O,O,I,O,O,O,O,O,O,O,O,O,O,O,O]
abbrev Qw:zB:=(by(iterate 16 refine O::?_);exact[])
abbrev FQ:zR:=[ab 8 3,bx 9 8 1,ab 3 9]
abbrev ysq:zR:=[ab 10 0,ab 11 3,aQ 12 1 10 11,ah 13 1 12,bf 14 vD 13,o 15 (.not (.t 14))]
abbrev ysr:an:=.seq (.ae ysq) (.cond (.t 15) ym .skip)
abbrev O2:zR:=[ab 4 3,ab 5 0,aS 6 5,bM 7 4 6]
abbrev FU:an:=.seq (.seq (.ae O2) (.cond (.t 7) .skip (.exit 0))) (.seq (.block 1 [] ysr) (.ae FQ))
abbrev V6:aM:=⟨.seq (.ae yk) (.seq (.seq (.ae xa) (.block 0 Qw (.loop O4 FU))) (.seq (.ae BQ) .ret)),16,[.tmp 2]⟩
abbrev QC:zI:=[.code (.seq (.ae BQ) .ret)]
abbrev ysx(x0 x3:AV)(h:List Ob)(e:Cx:=cx):aw:=bg rh (.code FU::.inLoop O4 FU::.inBlock 0 Qw::QC) [x0,U,U,x3,U,U,U,U,U,U,U,U,U,U,U,U] h e
@[simp] theorem TH:aH Tryz.prog rh=some V6:=by kernel_rfl
@[simp] theorem apJ:aD Tryz.prog rh=true:=by kernel_rfl
abbrev OD:zB:=I::O::O::I::(by(iterate 14 refine O::?_);exact[])
abbrev Bp:zB:=(by(iterate 18 refine O::?_);exact[])
abbrev ysE:zR:=[ab 10 0,ab 11 3,o 12 (.slice 1 (.t 10) none (some (.t 11))),ab 13 0,ab 14 3,aQ 15 1 13 14,ah 16 1 15,cw 17 tm 12 16]
abbrev ysF:an:=.seq (.aR [O,O,O,O,O,O,O,O] [8,8,8,8,8,8,8,9] ysE) (.cond (.t 17) ym .skip)
abbrev GR:an:=.seq (.seq (.ae O2) (.cond (.t 7) .skip (.exit 0))) (.seq (.block 1 [] ysF) (.ae FQ))
abbrev XJ:aM:=⟨.seq (.ae yk) (.seq (.seq (.ae xa) (.block 0 Bp (.loop OD GR))) (.seq (.ae BQ) .ret)),18,[.tmp 2]⟩
abbrev ysL(x0 x3:AV)(h:List Ob)(e:Cx:=cx):aw:=bg sZ (.code GR::.inLoop OD GR::.inBlock 0 Bp::QC) (x0::U::U::x3::(by(iterate 14 refine U::?_);exact[])) h e
@[simp] theorem U2:aH Tryz.prog sZ=some XJ:=by kernel_rfl
@[simp] theorem aqc:aD Tryz.prog sZ=true:=by kernel_rfl
abbrev Qx:zR:=[ab 68 10,ab 69 2,ab 70 3,o 71 (.build [.int .i64 0,.int .i64 0] [(0,1,.t 69),(1,1,.t 70)]),o 72 (.lit 2 [.agg [.int .i64 0,.int .i64 0]] [(0,.t 71)]),o 73 (.append 2 bI 16 (.t 68) (.t 72)),ab 74 1,ab 75 0,aS 76 75,o 77 (.aV .add (.t 74) (.t 76)),o 78 (.aV .mul (.c (.int .i64 2)) (.t 77)),o 79 (.build [.list true 0 [],.int .i64 0] [(0,1,.t 73),(1,1,.t 78)]),aI 2 8 79]
abbrev QN:zR:=[ab 65 10,ab 66 0,o 67 (.append 2 bI 16 (.t 65) (.t 66)),ab 10 67]
abbrev PY:zR:=[o 10 (.eN 2 bI)]
abbrev ON:zB:=I::I::I::I::O::O::O::O::I::I::(by(iterate 70 refine O::?_);exact[])
abbrev OR:zB:=I::I::I::I::O::O::O::O::I::(by(iterate 71 refine O::?_);exact[])
abbrev ysR:zR:=[ab 49 9,bx 50 49 1,ab 9 50]
abbrev ysS:zR:=[ab 59 0,ab 60 1,ab 61 9,o 62 (.aV .add (.t 60) (.t 61)),o 63 (.aV .mul (.c (.int .i64 2)) (.t 62)),o 64 (.build [.list true 0 [],.int .i64 0] [(0,1,.t 59),(1,1,.t 63)]),aI 2 8 64]
abbrev ysT:an:=.seq (.ae ysS) .ret
abbrev ysU:zR:=[ab 51 0,ab 52 9,aQ 53 2 51 52,aK 54 2 53,ab 55 2,ab 56 3,o 57 (.build [.int .i64 0,.int .i64 0] [(0,1,.t 55),(1,1,.t 56)]),o 58 (.cmp .eql (.gQ [.int,.int]) (.t 54) (.t 57))]
abbrev ysV:an:=.seq (.ae ysU) (.cond (.t 58) ysT .skip)
abbrev ysW:zR:=[ab 45 9,ab 46 0,aS 47 46,bM 48 45 47]
abbrev Hp:an:=.seq (.seq (.ae ysW) (.cond (.t 48) .skip (.exit 0))) (.seq (.block 1 [] ysV) (.ae ysR))
abbrev ysZ:zR:=[ab 42 0,ab 43 2,o 44 (.build [.list true 0 [],.int .i64 0] [(0,1,.t 42),(1,1,.t 43)]),aI 2 8 44]
abbrev yta:an:=.seq (.ae ysZ) .ret
abbrev ytb:zR:=[ab 35 3,o 36 (.cmp .eql (.sc .int) (.t 35) (.c (.int .i64 1))),ab 37 36,on 38 37 (.mv (.t 2)),on 39 37 (.mv (.t 3)),on 40 37 (.cmp .eql (.sc .int) (.t 38) (.t 39)),o 41 (.pick (.t 37) (.c (.bool true)) (.t 40))]
abbrev ytc:zR:=[ab 33 0,o 34 (.build [.list true 0 [],.int .i64 0] [(0,1,.t 33)]),aI 2 8 34]
abbrev ytd:an:=.seq (.ae ytc) .ret
abbrev yte:zR:=[ab 19 3,o 20 (.cmp .eql (.sc .int) (.t 19) (.c (.int .i64 0))),ab 21 20,on 22 21 (.mv (.t 2)),on 23 21 (.mv (.t 3)),on 24 21 (.cmp .neq (.sc .int) (.t 22) (.t 23)),on 25 21 (.mv (.t 24)),cY 26 25 2,oy 27 25 (.aV .quo (.t 26) (.c (.int .i64 2))),cY 28 25 3,oy 29 25 (.aV .quo (.t 28) (.c (.int .i64 2))),oy 30 25 (.cmp .eql (.sc .int) (.t 27) (.t 29)),on 31 21 (.pick (.t 25) (.t 30) (.c (.bool false))),o 32 (.pick (.t 21) (.c (.bool true)) (.t 31))]
abbrev ytf:zR:=[ab 14 0,ab 15 1,ab 16 3,ab 17 2,o 18 (.call (.f rv) [.t 14,.t 15,.t 16,.t 17]),aI 2 8 18]
abbrev ytg:an:=.seq (.ae ytf) .ret
abbrev yth:zR:=[ab 11 2,ab 12 3,bM 13 11 12]
abbrev yti:zR:=[o 8 (.alloc [.own 2 bI [],.int .i64 0])]
abbrev Zd:aM:=⟨.seq (.ae yti) (.seq (.seq (.ae yth) (.cond (.t 13) ytg .skip)) (.seq (.seq (.ae yte) (.cond (.t 32) ytd .skip)) (.seq (.seq (.ae ytb) (.cond (.t 41) yta .skip)) (.seq (.seq (.ae Hz) (.block 0 OR (.loop ON Hp))) (.seq (.ae PY) (.seq (.ae QN) (.seq (.ae Qx) .ret))))))),80,[.cell 8 true 2]⟩
abbrev ytj:zI:=[.code (.seq (.ae PY) (.seq (.ae QN) (.seq (.ae Qx) .ret)))]
abbrev ytk(x0 x1 x2 x3 x8 x9:AV)(h:List Ob)(e:Cx:=cx):aw:=bg rv (.code Hp::.inLoop ON Hp::.inBlock 0 OR::ytj) (x0::x1::x2::x3::U::U::U::U::x8::x9::(by(iterate 70 refine U::?_);exact[])) h e
@[simp] theorem KF:aH Tryz.prog rv=some Zd:=by kernel_rfl
@[simp] theorem aqJ:aD Tryz.prog rv=true:=by kernel_rfl
abbrev ytl:zR:=[ab 14 0,ab 15 1,o 16 (.aV .quo (.t 15) (.c (.int .i64 2))),aQ 17 1 14 16,ah 18 1 17,ab 4 18]
abbrev ytm:zR:=[ab 8 0,ab 9 1,o 10 (.aV .quo (.t 9) (.c (.int .i64 2))),aQ 11 1 8 10,ah 12 1 11,o 13 (.aV .xor (.t 12) (.c (.int .i64 1))),ab 4 13]
abbrev ytn:an:=.seq (.ae ytm) .ret
abbrev yto:zR:=[ab 5 1,o 6 (.aV .rem (.t 5) (.c (.int .i64 2))),o 7 (.cmp .eql (.sc .int) (.t 6) (.c (.int .i64 1)))]
abbrev UZ:aM:=⟨.seq (.ae n6) (.seq (.seq (.ae yto) (.cond (.t 7) ytn .skip)) (.seq (.ae ytl) .ret)),19,[.tmp 4]⟩
@[simp] theorem Tw:aH Tryz.prog pR=some UZ:=by kernel_rfl
@[simp] theorem apv:aD Tryz.prog pR=true:=by kernel_rfl
abbrev G2:zR:=[aK 82 5 5,aI 5 2 82]
abbrev Gh:zR:=[ab 77 4,aj 78 4 1,ah 79 1 78,cw 80 pP 77 79,aj 81 4 5,aI 1 81 80]
abbrev Gz:zR:=[ab 72 4,aj 73 1 1,ah 74 1 73,cw 75 pP 72 74,aj 76 1 5,aI 1 76 75]
abbrev GC:zB:=O::I::I::I::I::I::O::I::(by(iterate 75 refine O::?_);exact[])
abbrev Hd:zB:=O::I::I::O::I::I::(by(iterate 77 refine O::?_);exact[])
abbrev ytv:zR:=[ab 31 7,bx 32 31 1,ab 7 32]
abbrev ytw:zR:=[aj 50 3 5,ah 51 1 50,ab 52 4,aj 53 3 1,ah 54 1 53,ab 55 7,aQ 56 2 54 55,o 57 (.cT 2 1 (.t 56) (.c (.int .i64 0))),ah 58 1 57,cw 59 pR 52 58,ab 60 4,aj 61 3 1,ah 62 1 61,ab 63 7,aQ 64 2 62 63,o 65 (.cT 2 1 (.t 64) (.c (.int .i64 1))),ah 66 1 65,cw 67 pR 60 66,o 68 (.build [.int .i64 0,.int .i64 0] [(0,1,.t 59),(1,1,.t 67)]),o 69 (.lit 2 [.agg [.int .i64 0,.int .i64 0]] [(0,.t 68)]),o 70 (.append 2 bI 16 (.t 51) (.t 69)),aj 71 3 5,aI 1 71 70]
abbrev ytx:zR:=[ab 43 3,aK 44 5 1,bf 45 gM 44,ab 46 7,o 47 (.aV .add (.t 45) (.t 46)),aQ 48 1 43 47,ah 49 1 48]
abbrev yty:zR:=[ab 33 4,aK 34 5 1,bf 35 gM 34,aj 36 3 5,ah 37 1 36,aS 38 37,o 39 (.aV .add (.t 35) (.t 38)),o 40 (.aV .mul (.c (.int .i64 2)) (.t 39)),o 41 (.lit 1 [.int .i64 0] [(0,.t 40)]),o 42 (.append 1 az 8 (.t 33) (.t 41)),ab 4 42]
abbrev ytz:an:=.seq (.aR [O,O,O,O,I,O,O,O,O,O,O] [10,3,9,9,9,9,9,9,10,12,12] yty) (.seq (.ae ytx) (.cond (.t 49) (.aR [O,I,O,O,O,O,O,O,O,O,O,O,I,O,O,O,I,O,O,O,O,O,O] [21,21,10,10,10,10,10,10,10,18,18,18,18,18,18,18,18,20,20,21,23,23,24] ytw) .skip))
abbrev ytA:zR:=[ab 26 7,aj 27 3 1,ah 28 1 27,aS 29 28,bM 30 26 29]
abbrev Bq:an:=.seq (.seq (.ae ytA) (.cond (.t 30) .skip (.exit 2))) (.seq (.block 3 [] ytz) (.ae ytv))
abbrev QJ:zB:=O::I::I::I::I::I::I::(by(iterate 76 refine O::?_);exact[])
abbrev Qn:zB:=O::I::I::I::I::I::(by(iterate 77 refine O::?_);exact[])
abbrev ytF:zR:=[ab 19 6,bx 20 19 1,ab 6 20]
abbrev ytG:zR:=[ab 21 4,ab 22 6,o 23 (.aV .mul (.c (.int .i64 2)) (.t 22)),o 24 (.lit 1 [.int .i64 0] [(0,.t 23)]),o 25 (.append 1 az 8 (.t 21) (.t 24)),ab 4 25]
abbrev ytH:zR:=[ab 15 6,aK 16 5 1,bf 17 gM 16,bM 18 15 17]
abbrev Gk:an:=.seq (.seq (.ae ytH) (.cond (.t 18) .skip (.exit 0))) (.seq (.block 1 [] (.ae ytG)) (.ae ytF))
abbrev ytK:zR:=[aj 10 0 1,ah 11 1 10,aj 12 2 1,ah 13 1 12,o 14 (.build [.int .i64 0,.list true 0 [],.list true 0 [],.list true 0 [],.list true 0 []] [(0,1,.t 11),(2,1,.t 13)]),o 5 (.alloc [.int .i64 0,.own 1 az [],.own 1 az [],.own 2 bI [],.own 1 az []]),aI 5 5 14]
abbrev BB:zR:=[o 4 (.eN 1 az)]
abbrev ytM:zR:=[aK 8 5 1,bf 9 rq 8,ab 3 9]
abbrev ytN:zR:=[o 1 (.box 5 (.t 0)),o 2 (.alloc [.int .i64 0,.own 1 az [],.own 1 az [],.own 2 bI [],.own 1 az []])]
abbrev Vf:aM:=⟨.seq (.ae ytN) (.seq (.ae ytM) (.seq (.ae BB) (.seq (.ae ytK) (.seq (.seq (.ae qH) (.block 0 Qn (.loop QJ Gk))) (.seq (.seq (.ae uB) (.block 2 Hd (.loop GC Bq))) (.seq (.ae Gz) (.seq (.ae Gh) (.seq (.ae G2) .ret)))))))),83,[.cell 2 true 5]⟩
abbrev ytO:zI:=[.code (.seq (.ae Gz) (.seq (.ae Gh) (.seq (.ae G2) .ret)))]
abbrev PU(x1 x2 x3 x4 x5 x7:AV)(h:List Ob)(e:Cx:=cx):aw:=bg sR (.code Bq::.inLoop GC Bq::.inBlock 2 Hd::ytO) (U::x1::x2::x3::x4::x5::U::x7::(by(iterate 75 refine U::?_);exact[])) h e
abbrev ytQ:zI:=[.code (.seq (.seq (.ae uB) (.block 2 Hd (.loop GC Bq))) (.seq (.ae Gz) (.seq (.ae Gh) (.seq (.ae G2) .ret))))]
abbrev ytR(x1 x2 x3 x4 x5 x6:AV)(h:List Ob)(e:Cx:=cx):aw:=bg sR (.code Gk::.inLoop QJ Gk::.inBlock 0 Qn::ytQ) (U::x1::x2::x3::x4::x5::x6::(by(iterate 76 refine U::?_);exact[])) h e
@[simp] theorem Tp:aH Tryz.prog sR=some Vf:=by kernel_rfl
@[simp] theorem apo:aD Tryz.prog sR=true:=by kernel_rfl
abbrev Qf:zR:=[ab 22 5,ab 4 22]
abbrev OT:zB:=I::I::O::O::O::I::I::(by(iterate 16 refine O::?_);exact[])
abbrev Pn:zB:=O::O::O::O::O::I::(by(iterate 17 refine O::?_);exact[])
abbrev ytV:zR:=[ab 11 6,bx 12 11 1,ab 6 12]
abbrev ytW:zR:=[ab 13 5,ab 14 0,ab 15 1,ab 16 6,aQ 17 1 15 16,ah 18 1 17,cw 19 pR 14 18,o 20 (.lit 1 [.int .i64 0] [(0,.t 19)]),o 21 (.append 1 az 8 (.t 13) (.t 20)),ab 5 21]
abbrev ytX:zR:=[ab 7 6,ab 8 1,aS 9 8,bM 10 7 9]
abbrev Hq:an:=.seq (.seq (.ae ytX) (.cond (.t 10) .skip (.exit 0))) (.seq (.block 1 [] (.ae ytW)) (.ae ytV))
abbrev T9:aM:=⟨.seq (.ae BB) (.seq (.ae Ha) (.seq (.seq (.ae qH) (.block 0 Pn (.loop OT Hq))) (.seq (.ae Qf) .ret))),23,[.tmp 4]⟩
abbrev yuc:zI:=[.code (.seq (.ae Qf) .ret)]
abbrev yud(x0 x1 x5 x6:AV)(h:List Ob)(e:Cx:=cx):aw:=bg pP (.code Hq::.inLoop OT Hq::.inBlock 0 Pn::yuc) (x0::x1::U::U::U::x5::x6::(by(iterate 16 refine U::?_);exact[])) h e
@[simp] theorem SZ:aH Tryz.prog pP=some T9:=by kernel_rfl
@[simp] theorem apk:aD Tryz.prog pP=true:=by kernel_rfl
abbrev yuk:zR:=[ab 17 0,ab 18 5,aQ 19 1 17 18,ah 20 1 19,ab 21 1,ab 22 5,aQ 23 1 21 22,ah 24 1 23,o 25 (.cmp .neq (.sc .int) (.t 20) (.t 24))]
abbrev yul:an:=.seq (.aR [O,O,O,O,O,O,O,O,O] [10,10,10,10,10,10,10,10,10] yuk) (.cond (.t 25) n9 .skip)
abbrev Gq:an:=.seq (.seq (.ae Ph) (.cond (.t 14) .skip (.exit 0))) (.seq (.block 1 [] yul) (.ae Gs))
abbrev Yz:aM:=⟨.seq (.ae kc) (.seq (.seq (.ae PM) (.cond (.t 10) n9 .skip)) (.seq (.seq (.ae mf) (.block 0 A6 (.loop Bo Gq))) (.seq (.ae sv) .ret))),26,[.tmp 4]⟩
abbrev yuu(x0 x1 x5:AV)(h:List Ob)(e:Cx:=cx):aw:=bg rn (.code Gq::.inLoop Bo Gq::.inBlock 0 A6::Bu) (x0::x1::U::U::U::x5::(by(iterate 20 refine U::?_);exact[])) h e
@[simp] theorem Uw:aH Tryz.prog rn=some Yz:=by kernel_rfl
@[simp] theorem aqb:aD Tryz.prog rn=true:=by kernel_rfl
abbrev PA:zR:=[ab 26 0,ab 4 26]
abbrev yuw:zR:=[ab 17 0,ab 18 0,o 19 (.cap (.t 18)),o 20 (.slice 1 (.t 17) none (some (.t 19))),ab 21 1,o 22 (.tP 1 au 16 (.str []) (.t 20) (.t 21)),ab 23 0,aS 24 23,o 25 (.slice 1 (.t 22) none (some (.t 24))),ab 0 25]
abbrev QS:zR:=[ab 15 1,o 16 (.cmp .gtr (.sc .int) (.t 15) (.c (.int .i64 0)))]
abbrev QK:zR:=[ab 8 1,ab 9 0,o 10 (.cap (.t 9)),ab 11 0,aS 12 11,o 13 (.aV .sub (.t 10) (.t 12)),o 14 (.aV .sub (.t 8) (.t 13)),ab 1 14]
abbrev Ov:zR:=[o 7 (.oE au (.c (.str [99,97,110,110,111,116,32,98,101,32,110,101,103,97,116,105,118,101]))),q (.panic (.t 7))]
abbrev Qc:zR:=[ab 5 1,o 6 (.cmp .lss (.sc .int) (.t 5) (.c (.int .i64 0)))]
abbrev yuB:zR:=[o 4 (.eN 1 au)]
abbrev RF:aM:=⟨.seq (.ae yuB) (.seq (.seq (.ae Qc) (.cond (.t 6) (.ae Ov) .skip)) (.seq (.seq (.ae QK) (.seq (.ae QS) (.cond (.t 16) (.ae yuw) .skip))) (.seq (.ae PA) .ret))),27,[.tmp 4]⟩
@[simp] theorem H7:aH Tryz.prog Cg=some RF:=by kernel_rfl
@[simp] theorem aoz:aD Tryz.prog Cg=true:=by kernel_rfl
abbrev yuC:zR:=[o 3 (.jl (.func vh) [] [.t 1]),ab 2 3]
abbrev Qp:zR:=[o 1 (.box 1 (.t 0)),o 2 (.mv (.c .ei))]
abbrev TM:aM:=⟨.seq (.ae Qp) (.seq (.ae yuC) .ret),4,[.tmp 2]⟩
@[simp] theorem SQ:aH Tryz.prog Cw=some TM:=by kernel_rfl
@[simp] theorem apf:aD Tryz.prog Cw=true:=by kernel_rfl
abbrev yuE:zR:=[ab 5 0,ab 6 1,cw 7 sF 5 6,o 8 (.cmp .geq (.sc .int) (.t 7) (.c (.int .i64 0))),ab 4 8]
abbrev Rt:aM:=⟨.seq (.ae kc) (.seq (.ae yuE) .ret),9,[.tmp 4]⟩
@[simp] theorem Rj:aH Tryz.prog xB=some Rt:=by kernel_rfl
@[simp] theorem aos:aD Tryz.prog xB=true:=by kernel_rfl
abbrev yuM:zR:=[ab 11 1,ab 12 0,ab 13 5,aQ 14 5 12 13,aK 15 5 14,o 16 (.call (.t 11) [.t 15])]
abbrev yuO:an:=.seq (.ae FM) (.seq (.ae yuM) (.cond (.t 16) G5 .skip))
abbrev Gg:an:=.seq (.ae GA) (.seq (.cond (.t 9) .skip (.exit 0)) (.seq (.block 1 [] yuO) (.ae G4)))
abbrev Rg:aM:=⟨.seq (.ae n6) (.seq (.seq (.ae Bm) (.block 0 l_ (.loop qJ Gg))) (.seq (.ae si) .ret)),19,[.tmp 4]⟩
abbrev yuU(x0 x1 x7 x8:AV)(h:List Ob)(e:Cx:=cx):aw:=bg u7 (.code Gg::.inLoop qJ Gg::.inBlock 0 l_::xh) [x0,x1,U,U,U,U,U,x7,x8,U,U,U,U,U,U,U,U,U,U] h e
@[simp] theorem Re:aH Tryz.prog u7=some Rg:=by kernel_rfl
@[simp] theorem aom:aD Tryz.prog u7=true:=by kernel_rfl
abbrev yuV:zR:=[ab 4 0,o 5 (.cmp .neq (.sc .str) (.t 4) (.c (.str []))),ab 6 5,cY 7 6 0,oy 8 6 (.oQ (.t 7)),oy 9 6 (.cmp .leq (.sc .int) (.t 8) (.c (.int .i64 40))),bS 10 6 9,ab 11 10,cY 12 11 0,cY 13 11 3,oy 14 11 (.call (.f xG) [.t 12,.t 13]),oy 15 11 (.cmp .lss (.sc .int) (.t 14) (.c (.int .i64 0))),bS 16 11 15,ab 2 16]
abbrev yuW:zR:=[o 3 (.mv (.f qT))]
abbrev R_:aM:=⟨.seq (.ae yk) (.seq (.ae yuW) (.seq (.ae yuV) .ret)),17,[.tmp 2]⟩
@[simp] theorem RY:aH Tryz.prog xI=some R_:=by kernel_rfl
@[simp] theorem aoN:aD Tryz.prog xI=true:=by kernel_rfl
abbrev yuY:zR:=[ab 4 0,aj 5 2 1,ah 6 1 5,aS 7 6,cw 8 zq 4 7,o 9 (.not (.t 8)),ab 3 9]
abbrev Ox:zR:=[pv 3]
abbrev U1:aM:=⟨.seq (.ae Ox) (.seq (.ae yuY) .ret),10,[.tmp 3]⟩
@[simp] theorem Tm:aH Tryz.prog xV=some U1:=by kernel_rfl
@[simp] theorem apB:aD Tryz.prog xV=true:=by kernel_rfl
abbrev yva:zR:=[ab 5 0,o 6 (.oQ (.t 5)),ab 7 1,o 8 (.cmp .eql (.sc .int) (.t 6) (.t 7)),ab 9 8,cY 10 9 0,oy 11 9 (.call (.f Cr) [.t 10,.c (.str [48,49,45])]),oy 12 9 (.cmp .eql (.sc .str) (.t 11) (.c (.str []))),bS 13 9 12,ab 4 13]
abbrev Z8:aM:=⟨.seq (.ae kc) (.seq (.ae yva) .ret),14,[.tmp 4]⟩
@[simp] theorem W9:aH Tryz.prog zq=some Z8:=by kernel_rfl
@[simp] theorem aqF:aD Tryz.prog zq=true:=by kernel_rfl
abbrev yvc:zR:=[ab 13 6,ab 14 13,cY 15 14 1,oy 16 14 (.cT 2 1 (.t 5) (.c (.int .i64 0))),bW 17 14 1 16,oy 18 14 (.cmp .geq (.sc .int) (.t 15) (.t 17)),bS 19 14 18,ab 20 19,cY 21 20 1,oy 22 20 (.cT 2 1 (.t 5) (.c (.int .i64 1))),bW 23 20 1 22,oy 24 20 (.cmp .leq (.sc .int) (.t 21) (.t 23)),bS 25 20 24,ab 4 25]
abbrev yvd:zR:=[o 8 (.load false 1 (.g 1)),ab 9 0,o 10 (.lookup (.sc .int) (.agg [.int .i64 0,.int .i64 0]) (.t 8) (.t 9) true),ab 7 10,cn 11 7 0,cn 12 7 1,o 5 (.alloc [.int .i64 0,.int .i64 0]),aI 2 5 11,ab 6 12]
abbrev ZR:aM:=⟨.seq (.ae kc) (.seq (.ae yvd) (.seq (.ae yvc) .ret)),26,[.tmp 4]⟩
@[simp] theorem JV:aH Tryz.prog th=some ZR:=by kernel_rfl
@[simp] theorem aqH:aD Tryz.prog th=true:=by kernel_rfl
abbrev yvf:zR:=[ab 5 0,ab 6 1,cw 7 u_ 5 6,o 8 (.cmp .geq (.sc .int) (.t 7) (.c (.int .i64 0))),ab 4 8]
abbrev Rh:aM:=⟨.seq (.ae kc) (.seq (.ae yvf) .ret),9,[.tmp 4]⟩
@[simp] theorem Rf:aH Tryz.prog u9=some Rh:=by kernel_rfl
@[simp] theorem aon:aD Tryz.prog u9=true:=by kernel_rfl
abbrev On:zR:=[ab 31 4,ab 2 31,bu 3 0]
abbrev P':zB:=I::O::O::O::I::(by(iterate 27 refine O::?_);exact[])
abbrev Pd:zB:=O::O::O::O::I::(by(iterate 27 refine O::?_);exact[])
abbrev yvk:zR:=[ab 21 0,o 22 (.aV .quo (.t 21) (.c (.int .i64 10))),ab 0 22]
abbrev yvl:zR:=[ab 23 0,o 24 (.aV .rem (.t 23) (.c (.int .i64 10))),o 25 (.aV .add (.c (.int .i64 48)) (.t 24)),o 26 (.conv .u8 (.t 25)),o 27 (.lit 1 [.int .u8 0] [(0,.t 26)]),o 28 (.toStr (.t 27)),ab 29 4,o 30 (.concat (.t 28) (.t 29)),ab 4 30]
abbrev yvm:zR:=[ab 19 0,o 20 (.cmp .gtr (.sc .int) (.t 19) (.c (.int .i64 0)))]
abbrev FL:an:=.seq (.seq (.ae yvm) (.cond (.t 20) .skip (.exit 0))) (.seq (.block 1 [] (.ae yvl)) (.ae yvk))
abbrev yvo:zR:=[ab 17 0,o 18 (.aV .quo (.t 17) (.c (.int .i64 10))),ab 0 18]
abbrev yvp:zR:=[ab 11 0,o 12 (.aV .rem (.t 11) (.c (.int .i64 10))),o 13 (.aV .add (.c (.int .i64 48)) (.t 12)),o 14 (.conv .u8 (.t 13)),o 15 (.lit 1 [.int .u8 0] [(0,.t 14)]),o 16 (.toStr (.t 15)),ab 4 16]
abbrev yvq:zR:=[o 2 (.mv (.c (.str []))),bu 3 3]
abbrev yvr:an:=.seq (.ae yvq) .ret
abbrev yvs:zR:=[ab 5 0,o 6 (.cmp .lss (.sc .int) (.t 5) (.c (.int .i64 0))),ab 7 6,on 8 7 (.mv (.t 0)),on 9 7 (.cmp .gtr (.sc .int) (.t 8) (.c (.int .i64 2147483647))),o 10 (.pick (.t 7) (.c (.bool true)) (.t 9))]
abbrev yvt:zR:=[o 2 (.mv (.c (.str []))),bu 3 0]
abbrev Z0:aM:=⟨.seq (.ae yvt) (.seq (.seq (.ae yvs) (.cond (.t 10) yvr .skip)) (.seq (.ae yvp) (.seq (.seq (.ae yvo) (.block 0 Pd (.loop P' FL))) (.seq (.ae On) .ret)))),32,[.tmp 2,.tmp 3]⟩
abbrev yvu:zI:=[.code (.seq (.ae On) .ret)]
abbrev yvv(x0 x4:AV)(h:List Ob)(e:Cx:=cx):aw:=bg te (.code FL::.inLoop P' FL::.inBlock 0 Pd::yvu) (x0::U::U::U::x4::(by(iterate 27 refine U::?_);exact[])) h e
@[simp] theorem VW:aH Tryz.prog te=some Z0:=by kernel_rfl
@[simp] theorem aqN:aD Tryz.prog te=true:=by kernel_rfl
abbrev PQ:zB:=[I,I,O,O,O,I,O,O,O,O,O,O,O,O,O,O,O,O]
abbrev yvz:zR:=[ab 10 5,bx 11 10 1,ab 5 11]
abbrev yvB:an:=.seq (.ae sv) .ret
abbrev yvC:zR:=[ab 12 0,ab 13 5,aQ 14 1 12 13,ah 15 1 14,ab 16 1,o 17 (.cmp .eql (.sc .str) (.t 15) (.t 16))]
abbrev yvD:an:=.seq (.ae yvC) (.cond (.t 17) yvB .skip)
abbrev yvE:zR:=[ab 6 5,ab 7 0,aS 8 7,bM 9 6 8]
abbrev F_:an:=.seq (.seq (.ae yvE) (.cond (.t 9) .skip (.exit 0))) (.seq (.block 1 [] yvD) (.ae yvz))
abbrev Zp:aM:=⟨.seq (.ae kc) (.seq (.seq (.ae mf) (.block 0 Bp (.loop PQ F_))) (.seq (.ae kc) .ret)),18,[.tmp 4]⟩
abbrev yvI:zI:=[.code (.seq (.ae kc) .ret)]
abbrev yvJ(x0 x1 x5:AV)(h:List Ob)(e:Cx:=cx):aw:=bg tm (.code F_::.inLoop PQ F_::.inBlock 0 Bp::yvI) [x0,x1,U,U,U,x5,U,U,U,U,U,U,U,U,U,U,U,U] h e
@[simp] theorem VS:aH Tryz.prog tm=some Zp:=by kernel_rfl
@[simp] theorem aqB:aD Tryz.prog tm=true:=by kernel_rfl
abbrev yvK:zR:=[ab 4 0,o 5 (.cmp .lss (.sc .int) (.t 4) (.c (.int .i64 0))),ab 6 5,on 7 6 (.mv (.t 0)),on 8 6 (.load false 1 (.t 1)),on 9 6 (.cmp .geq (.sc .int) (.t 7) (.t 8)),o 10 (.pick (.t 6) (.c (.bool true)) (.t 9)),ab 3 10]
abbrev TW:aM:=⟨.seq (.ae Ox) (.seq (.ae yvK) .ret),11,[.tmp 3]⟩
@[simp] theorem S9:aH Tryz.prog xN=some TW:=by kernel_rfl
@[simp] theorem apg:aD Tryz.prog xN=true:=by kernel_rfl
abbrev yvM:zR:=[ab 3 0,o 4 (.cmp .lss (.sc .int) (.t 3) (.c (.int .i64 0))),ab 5 4,on 6 5 (.mv (.t 0)),on 7 5 (.cmp .gtr (.sc .int) (.t 6) (.c (.int .i64 2))),o 8 (.pick (.t 5) (.c (.bool true)) (.t 7)),ab 2 8]
abbrev Us:aM:=⟨.seq (.ae yk) (.seq (.ae yvM) .ret),9,[.tmp 2]⟩
@[simp] theorem S_:aH Tryz.prog xP=some Us:=by kernel_rfl
@[simp] theorem aph:aD Tryz.prog xP=true:=by kernel_rfl
abbrev yvO:zR:=[ab 5 0,ab 6 1,cw 7 ve 5 6,o 8 (.cmp .geq (.sc .int) (.t 7) (.c (.int .i64 0))),ab 4 8]
abbrev Rx:aM:=⟨.seq (.ae kc) (.seq (.ae yvO) .ret),9,[.tmp 4]⟩
@[simp] theorem Rs:aH Tryz.prog sE=some Rx:=by kernel_rfl
@[simp] theorem aow:aD Tryz.prog sE=true:=by kernel_rfl
abbrev yvQ:zR:=[ab 3 0,bf 4 vo 3,o 5 (.not (.t 4)),ab 2 5]
abbrev Ur:aM:=⟨.seq (.ae yk) (.seq (.ae yvQ) .ret),6,[.tmp 2]⟩
@[simp] theorem S7:aH Tryz.prog xS=some Ur:=by kernel_rfl
@[simp] theorem apb:aD Tryz.prog xS=true:=by kernel_rfl
abbrev yvS:zR:=[ab 49 3,ab 2 49]
abbrev yvT:zB:=O::I::O::I::(by(iterate 16 refine O::?_);exact I::I::I::(by(iterate 27 refine O::?_);exact[]))
abbrev yvU:zB:=O::O::O::I::(by(iterate 46 refine O::?_);exact[])
abbrev yvV:zR:=[bx 48 22 1,ab 22 48]
abbrev yvW:zR:=[ab 38 3,o 39 (.bG (.t 38)),aj 40 5 39,ah 41 1 40,aK 42 2 5,aK 43 5 1,bf 44 mz 43,ab 45 4,o 46 (.aV .add (.t 44) (.t 45)),o 47 (.aV .mul (.c (.int .i64 2)) (.t 46)),q (.bA (.gQ [.int,.int]) (.t 41) (.t 42) (.t 47))]
abbrev yvX:zR:=[ab 36 7,o 37 (.not (.t 36))]
abbrev yvY:zR:=[ab 28 3,o 29 (.bG (.t 28)),aj 30 5 29,ah 31 1 30,aK 32 2 5,o 33 (.lookup (.gQ [.int,.int]) (.int .i64 0) (.t 31) (.t 32) true),ab 27 33,cn 34 27 0,cn 35 27 1,ab 6 34,ab 7 35]
abbrev yvZ:zR:=[ab 24 22,aQ 25 2 20 22,aK 26 2 25,o 5 (.alloc [.int .i64 0,.int .i64 0]),ab 4 24,aI 2 5 26]
abbrev ywa:an:=.seq (.ae yvZ) (.seq (.aR [O,O,O,O,O,O,O,O,O,O,O] [12,12,12,12,12,12,12,12,12,12,12] yvY) (.seq (.ae yvX) (.cond (.t 37) (.aR [O,O,O,I,I,O,O,O,O,O,O] [11,11,11,11,11,7,11,11,11,11,12] yvW) .skip)))
abbrev ywb:zR:=[bM 23 22 21]
abbrev ywc:an:=.seq (.ae ywb) (.seq (.cond (.t 23) .skip (.exit 0)) (.seq (.block 1 [] ywa) (.ae yvV)))
abbrev ywd:zR:=[aj 19 3 1,ah 20 1 19,aS 21 20,bu 22 0]
abbrev ywe:zR:=[ab 12 3,aj 13 3 1,ah 14 1 13,bf 15 xC 14,o 16 (.bG (.t 12)),aj 17 0 16,aj 18 3 17,aI 1 18 15]
abbrev ywf:zR:=[aK 8 5 1,o 9 (.mkMap),o 10 (.build [.int .i64 0,.list true 0 [],.list true 0 [],.list true 0 [],.list true 0 [],.eu,.list true 0 []] [(0,5,.t 8),(5,1,.t 9)]),o 11 (.box 7 (.t 10)),ab 3 11]
abbrev Xc:aM:=⟨.seq (.ae QH) (.seq (.ae ywf) (.seq (.ae ywe) (.seq (.seq (.ae ywd) (.block 0 yvU (.loop yvT ywc))) (.seq (.ae yvS) .ret)))),50,[.tmp 2]⟩
@[simp] theorem TG:aH Tryz.prog x_=some Xc:=by kernel_rfl
@[simp] theorem apD:aD Tryz.prog x_=true:=by kernel_rfl
abbrev ywh:zR:=[o 5 (.lit 1 [] []),ab 6 0,o 7 (.append 1 az 8 (.t 5) (.t 6)),ab 2 7]
abbrev GH:zR:=[o 2 (.eN 1 az)]
abbrev ywj:an:=.seq (.ae GH) .ret
abbrev RP:aM:=⟨.seq (.ae GH) (.seq (.seq (.ae G9) (.cond (.t 4) ywj .skip)) (.seq (.ae ywh) .ret)),8,[.tmp 2]⟩
@[simp] theorem RL:aH Tryz.prog xD=some RP:=by kernel_rfl
@[simp] theorem aoD:aD Tryz.prog xD=true:=by kernel_rfl
abbrev Pe:zR:=[ab 24 5,ab 4 24]
abbrev PW:zB:=[O,O,O,O,O,I,I,O,O,O,O,I,I,I,O,O,O,O,O,O,O,O,O,O,O]
abbrev P0:zB:=O::O::O::O::O::I::(by(iterate 19 refine O::?_);exact[])
abbrev ywp:zR:=[bx 23 13 1,ab 13 23]
abbrev ywq:zR:=[ab 17 5,ab 18 6,ab 19 8,o 20 (.call (.t 18) [.t 19]),o 21 (.lit 1 [.int .i64 0] [(0,.t 20)]),o 22 (.append 1 az 8 (.t 17) (.t 21)),ab 5 22]
abbrev ywr:zR:=[aQ 15 1 11 13,ah 16 1 15,ab 8 16]
abbrev yws:an:=.seq (.ae ywr) (.ae ywq)
abbrev ywt:zR:=[bM 14 13 12]
abbrev FN:an:=.seq (.ae ywt) (.seq (.cond (.t 14) .skip (.exit 0)) (.seq (.block 1 [] yws) (.ae ywp)))
abbrev ywv:zR:=[ab 11 1,aS 12 11,bu 13 0]
abbrev yww:zR:=[ab 9 0,o 10 (.jl (.func np) [.t 9] []),ab 6 10]
abbrev Sj:aM:=⟨.seq (.ae BB) (.seq (.ae Ha) (.seq (.ae yww) (.seq (.seq (.ae ywv) (.block 0 P0 (.loop PW FN))) (.seq (.ae Pe) .ret)))),25,[.tmp 4]⟩
abbrev ywz:zI:=[.code (.seq (.ae Pe) .ret)]
abbrev Qs(x5 x6 x11 x12 x13:AV)(h:List Ob)(e:Cx:=cx):aw:=bg qV (.code FN::.inLoop PW FN::.inBlock 0 P0::ywz) [U,U,U,U,U,x5,x6,U,U,U,U,x11,x12,x13,U,U,U,U,U,U,U,U,U,U,U] h e
@[simp] theorem Ie:aH Tryz.prog qV=some Sj:=by kernel_rfl
@[simp] theorem aoS:aD Tryz.prog qV=true:=by kernel_rfl
abbrev ywB:zR:=[o 5 (.jl (.func oq) [] [.t 2,.t 3]),ab 4 5]
abbrev ywC:zR:=[o 2 (.box 5 (.t 0)),o 3 (.box 1 (.t 1)),o 4 (.mv (.c .ei))]
abbrev Uc:aM:=⟨.seq (.ae ywC) (.seq (.ae ywB) .ret),6,[.tmp 4]⟩
@[simp] theorem SN:aH Tryz.prog Cz=some Uc:=by kernel_rfl
@[simp] theorem apj:aD Tryz.prog Cz=true:=by kernel_rfl
abbrev ywD:zR:=[ab 5 0,o 6 (.cmp .geq (.sc .int) (.t 5) (.c (.int .i64 0))),ab 7 6,cY 8 7 0,cY 9 7 1,oy 10 7 (.aV .mul (.c (.int .i64 2)) (.t 9)),oy 11 7 (.cmp .lss (.sc .int) (.t 8) (.t 10)),bS 12 7 11,ab 4 12]
abbrev Ue:aM:=⟨.seq (.ae kc) (.seq (.ae ywD) .ret),13,[.tmp 4]⟩
@[simp] theorem SO:aH Tryz.prog qZ=some Ue:=by kernel_rfl
@[simp] theorem api:aD Tryz.prog qZ=true:=by kernel_rfl
abbrev O7:zR:=[ab 20 0,o 21 (.oQ (.t 20)),o 22 (.cmp .geq (.sc .int) (.t 21) (.c (.int .i64 1))),ab 23 22,cY 24 23 0,oy 25 23 (.oQ (.t 24)),oy 26 23 (.cmp .leq (.sc .int) (.t 25) (.c (.int .i64 40))),bS 27 23 26,ab 2 27]
abbrev Qy:zB:=I::O::O::I::(by(iterate 24 refine O::?_);exact[])
abbrev Qe:zB:=I::(by(iterate 27 refine O::?_);exact[])
abbrev ywL:zR:=[ab 10 0,ab 11 3,o 12 (.wy (.t 10) (.t 11)),o 13 (.cmp .lss (.sc .int) (.t 12) (.c (.int .u8 33))),ab 14 13,on 15 14 (.mv (.t 0)),on 16 14 (.mv (.t 3)),on 17 14 (.wy (.t 15) (.t 16)),on 18 14 (.cmp .gtr (.sc .int) (.t 17) (.c (.int .u8 126))),o 19 (.pick (.t 14) (.c (.bool true)) (.t 18))]
abbrev ywM:an:=.seq (.ae ywL) (.cond (.t 19) ym .skip)
abbrev ywN:zR:=[ab 4 3,ab 5 0,o 6 (.oQ (.t 5)),bM 7 4 6]
abbrev G1:an:=.seq (.seq (.ae ywN) (.cond (.t 7) .skip (.exit 0))) (.seq (.block 1 [] ywM) (.ae FQ))
abbrev Xx:aM:=⟨.seq (.ae yk) (.seq (.seq (.ae xa) (.block 0 Qe (.loop Qy G1))) (.seq (.ae O7) .ret)),28,[.tmp 2]⟩
abbrev ywR:zI:=[.code (.seq (.ae O7) .ret)]
abbrev ywS(x0 x3:AV)(h:List Ob)(e:Cx:=cx):aw:=bg vD (.code G1::.inLoop Qy G1::.inBlock 0 Qe::ywR) (x0::U::U::x3::(by(iterate 24 refine U::?_);exact[])) h e
@[simp] theorem UE:aH Tryz.prog vD=some Xx:=by kernel_rfl
@[simp] theorem aqt:aD Tryz.prog vD=true:=by kernel_rfl
abbrev Br:zR:=[ab 77 3,ab 2 77]
abbrev BI:zB:=O::I::O::I::O::O::I::(by(iterate 71 refine O::?_);exact[])
abbrev B1:zB:=O::O::O::I::(by(iterate 74 refine O::?_);exact[])
abbrev ywW:zR:=[ab 50 6,o 51 (.aV .sub (.t 50) (.c (.int .i64 1))),ab 6 51]
abbrev ywX:zR:=[ab 68 3,aj 69 3 1,ah 70 1 69,ab 71 6,aQ 72 2 70 71,o 73 (.cT 2 1 (.t 72) (.c (.int .i64 1))),ah 74 1 73,o 75 (.aV .quo (.t 74) (.c (.int .i64 2))),aQ 76 1 68 75,q (.store 1 (.t 76) (.c (.bool true)))]
abbrev ywY:zR:=[ab 59 3,aj 60 3 1,ah 61 1 60,ab 62 6,aQ 63 2 61 62,o 64 (.cT 2 1 (.t 63) (.c (.int .i64 0))),ah 65 1 64,o 66 (.aV .quo (.t 65) (.c (.int .i64 2))),aQ 67 1 59 66,q (.store 1 (.t 67) (.c (.bool true)))]
abbrev ywZ:an:=.seq (.ae ywY) (.ae ywX)
abbrev yxa:zR:=[ab 52 3,aK 53 5 1,bf 54 gM 53,ab 55 6,o 56 (.aV .add (.t 54) (.t 55)),aQ 57 1 52 56,ah 58 1 57]
abbrev yxb:an:=.seq (.ae yxa) (.cond (.t 58) ywZ .skip)
abbrev yxc:zR:=[ab 48 6,o 49 (.cmp .geq (.sc .int) (.t 48) (.c (.int .i64 0)))]
abbrev w_:an:=.seq (.seq (.ae yxc) (.cond (.t 49) .skip (.exit 4))) (.seq (.block 5 [] yxb) (.ae ywW))
abbrev Gw:zR:=[aj 44 3 1,ah 45 1 44,aS 46 45,o 47 (.aV .sub (.t 46) (.c (.int .i64 1))),ab 6 47]
abbrev GV:zB:=O::I::O::I::O::I::(by(iterate 72 refine O::?_);exact[])
abbrev wQ:zB:=O::I::O::I::(by(iterate 74 refine O::?_);exact[])
abbrev yxh:zR:=[ab 34 5,bx 35 34 1,ab 5 35]
abbrev yxi:zR:=[ab 36 3,aj 37 4 1,ah 38 1 37,ab 39 5,aQ 40 1 38 39,ah 41 1 40,o 42 (.aV .quo (.t 41) (.c (.int .i64 2))),aQ 43 1 36 42,q (.store 1 (.t 43) (.c (.bool true)))]
abbrev yxj:zR:=[ab 29 5,aj 30 4 1,ah 31 1 30,aS 32 31,bM 33 29 32]
abbrev Be:an:=.seq (.seq (.ae yxj) (.cond (.t 33) .skip (.exit 2))) (.seq (.block 3 [] (.ae yxi)) (.ae yxh))
abbrev O1:zB:=O::I::O::I::I::(by(iterate 73 refine O::?_);exact[])
abbrev yxo:zR:=[ab 19 4,bx 20 19 1,ab 4 20]
abbrev yxp:zR:=[ab 21 3,aj 22 1 1,ah 23 1 22,ab 24 4,aQ 25 1 23 24,ah 26 1 25,o 27 (.aV .quo (.t 26) (.c (.int .i64 2))),aQ 28 1 21 27,q (.store 1 (.t 28) (.c (.bool true)))]
abbrev yxq:zR:=[ab 14 4,aj 15 1 1,ah 16 1 15,aS 17 16,bM 18 14 17]
abbrev Hx:an:=.seq (.seq (.ae yxq) (.cond (.t 18) .skip (.exit 0))) (.seq (.block 1 [] (.ae yxp)) (.ae yxo))
abbrev yxt:zR:=[aK 7 5 1,bf 8 gM 7,aj 9 3 1,ah 10 1 9,aS 11 10,o 12 (.aV .add (.t 8) (.t 11)),o 13 (.mkSlice 1 fW 1 (.bool false) (.t 12) (.t 12)),ab 3 13]
abbrev Zj:aM:=⟨.seq (.ae Om) (.seq (.aR [O,O,O,I,O,O,O,O] [2,7,7,7,7,7,9,9] yxt) (.seq (.seq (.ae n6) (.block 0 wQ (.loop O1 Hx))) (.seq (.seq (.ae mf) (.block 2 wQ (.loop GV Be))) (.seq (.seq (.ae Gw) (.block 4 B1 (.loop BI w_))) (.seq (.ae Br) .ret))))),78,[.tmp 2]⟩
abbrev yxv:zI:=[.code (.seq (.ae Br) .ret)]
abbrev yxw(x1 x3 x6:AV)(h:List Ob)(e:Cx:=cx):aw:=bg rq (.code w_::.inLoop BI w_::.inBlock 4 B1::yxv) (U::x1::U::x3::U::U::x6::(by(iterate 71 refine U::?_);exact[])) h e
abbrev yxx:zI:=[.code (.seq (.seq (.ae Gw) (.block 4 B1 (.loop BI w_))) (.seq (.ae Br) .ret))]
abbrev yxy(x1 x3 x5:AV)(h:List Ob)(e:Cx:=cx):aw:=bg rq (.code Be::.inLoop GV Be::.inBlock 2 wQ::yxx) (U::x1::U::x3::U::x5::(by(iterate 72 refine U::?_);exact[])) h e
abbrev yxz:zI:=[.code (.seq (.seq (.ae mf) (.block 2 wQ (.loop GV Be))) (.seq (.seq (.ae Gw) (.block 4 B1 (.loop BI w_))) (.seq (.ae Br) .ret)))]
abbrev yxA(x1 x3 x4:AV)(h:List Ob)(e:Cx:=cx):aw:=bg rq (.code Hx::.inLoop O1 Hx::.inBlock 0 wQ::yxz) (U::x1::U::x3::x4::(by(iterate 73 refine U::?_);exact[])) h e
@[simp] theorem WY:aH Tryz.prog rq=some Zj:=by kernel_rfl
@[simp] theorem aq4:aD Tryz.prog rq=true:=by kernel_rfl
@[simp] theorem aoZ:aD Tryz.prog Cr=true:=by kernel_rfl
abbrev OO:zB:=[I,I,O,I,O,O,O,O,O,O,O,O]
abbrev PJ:zB:=[O,O,O,O,O,O,O,O,O,O,O,O]
abbrev yxD:zR:=[ab 10 3,bx 11 10 1,ab 3 11]
abbrev yxE:zR:=[ab 4 0,ah 5 1 1,ab 6 3,bf 7 Cq 6,o 8 (.concat (.t 5) (.t 7)),o 9 (.call (.t 4) [.t 8])]
abbrev Gd:an:=.seq (.seq (.aR [O,I,O,O,O,O] [6,6,4,6,6,7] yxE) (.cond (.t 9) .skip (.exit 0))) (.seq (.block 1 [] .skip) (.ae yxD))
abbrev yxG:zR:=[bu 3 1]
abbrev SF:aM:=⟨.seq (.ae yxG) (.block 0 PJ (.loop OO Gd)),12,[]⟩
abbrev P_:zI:=[]
abbrev QO(x0 x1 x3:AV)(h:List Ob)(e:Cx:=cx):aw:=bg vh (.code Gd::.inLoop OO Gd::.inBlock 0 PJ::P_) [x0,x1,U,x3,U,U,U,U,U,U,U,U] h e
@[simp] theorem Sr:aH Tryz.prog vh=some SF:=by kernel_rfl
@[simp] theorem aoV:aD Tryz.prog vh=true:=by kernel_rfl
@[simp] theorem ao1:aD Tryz.prog Cq=true:=by kernel_rfl
abbrev yxJ:zR:=[ab 3 0,o 4 (.cmp .leq (.sc .int) (.t 3) (.c (.int .i32 32))),ab 5 4,on 6 5 (.mv (.t 0)),on 7 5 (.cmp .gtr (.sc .int) (.t 6) (.c (.int .i32 126))),o 8 (.pick (.t 5) (.c (.bool true)) (.t 7)),ab 2 8]
abbrev R0:aM:=⟨.seq (.ae yk) (.seq (.ae yxJ) .ret),9,[.tmp 2]⟩
@[simp] theorem RQ:aH Tryz.prog qT=some R0:=by kernel_rfl
@[simp] theorem aoH:aD Tryz.prog qT=true:=by kernel_rfl
abbrev yxL:zR:=[ab 5 0,ab 6 1,o 7 (.call (.f vg) [.t 5,.t 6,.c (.bool true)]),ab 4 7]
abbrev R2:aM:=⟨.seq (.ae n6) (.seq (.ae yxL) .ret),8,[.tmp 4]⟩
@[simp] theorem RR:aH Tryz.prog xG=some R2:=by kernel_rfl
@[simp] theorem aoJ:aD Tryz.prog xG=true:=by kernel_rfl
abbrev yxT:zR:=[ab 11 1,ab 12 0,ab 13 5,aQ 14 1 12 13,ah 15 1 14,o 16 (.call (.t 11) [.t 15])]
abbrev yxV:an:=.seq (.ae FM) (.seq (.ae yxT) (.cond (.t 16) G5 .skip))
abbrev uC:an:=.seq (.ae GA) (.seq (.cond (.t 9) .skip (.exit 0)) (.seq (.block 1 [] yxV) (.ae G4)))
abbrev Ro:aM:=⟨.seq (.ae n6) (.seq (.seq (.ae Bm) (.block 0 l_ (.loop qJ uC))) (.seq (.ae si) .ret)),19,[.tmp 4]⟩
abbrev yyb(x0 x1 x7 x8:AV)(h:List Ob)(e:Cx:=cx):aw:=bg u_ (.code uC::.inLoop qJ uC::.inBlock 0 l_::xh) [x0,x1,U,U,U,U,U,x7,x8,U,U,U,U,U,U,U,U,U,U] h e
@[simp] theorem Ri:aH Tryz.prog u_=some Ro:=by kernel_rfl
@[simp] theorem aor:aD Tryz.prog u_=true:=by kernel_rfl
abbrev RH:aM:=⟨.seq (.ae n6) (.seq (.seq (.ae Bm) (.block 0 l_ (.loop qJ uC))) (.seq (.ae si) .ret)),19,[.tmp 4]⟩
abbrev yyq(x0 x1 x7 x8:AV)(h:List Ob)(e:Cx:=cx):aw:=bg ve (.code uC::.inLoop qJ uC::.inBlock 0 l_::xh) [x0,x1,U,U,U,U,U,x7,x8,U,U,U,U,U,U,U,U,U,U] h e
@[simp] theorem RB:aH Tryz.prog ve=some RH:=by kernel_rfl
@[simp] theorem aoB:aD Tryz.prog ve=true:=by kernel_rfl
abbrev yyr:zR:=[o 5 (.lit 2 [] []),ab 6 0,o 7 (.append 2 bI 16 (.t 5) (.t 6)),ab 2 7]
abbrev P5:zR:=[o 2 (.eN 2 bI)]
abbrev yyt:an:=.seq (.ae P5) .ret
abbrev RG:aM:=⟨.seq (.ae P5) (.seq (.seq (.ae G9) (.cond (.t 4) yyt .skip)) (.seq (.ae yyr) .ret)),8,[.tmp 2]⟩
@[simp] theorem RD:aH Tryz.prog xC=some RG:=by kernel_rfl
@[simp] theorem aoA:aD Tryz.prog xC=true:=by kernel_rfl
abbrev yyw:zR:=[o 7 (.alloc [.int .i64 0,.int .i64 0]),aI 2 7 28]
abbrev yyx:zR:=[ab 6 27]
abbrev yyy:zR:=[ah 29 1 2,aK 30 5 1,bf 31 mz 30,ab 32 6,o 33 (.aV .add (.t 31) (.t 32)),aQ 34 1 29 33,ah 35 1 34,ab 36 35,bW 37 36 1 3,oy 38 36 (.cT 2 1 (.t 7) (.c (.int .i64 0))),bW 39 36 1 38,oy 40 36 (.call (.t 37) [.t 39]),oy 41 36 (.not (.t 40)),cY 42 36 41,on 43 42 (.load false 1 (.t 3)),on 44 42 (.cT 2 1 (.t 7) (.c (.int .i64 1))),on 45 42 (.load false 1 (.t 44)),on 46 42 (.call (.t 43) [.t 45]),on 47 42 (.not (.t 46)),oy 48 36 (.pick (.t 42) (.c (.bool true)) (.t 47)),bS 49 36 48]
abbrev yyz:an:=.seq (.aR (I::(by(iterate 20 refine O::?_);exact[])) [12,3,12,12,12,12,12,12,12,12,12,18,18,18,18,18,18,22,22,22,22] yyy) (.cond (.t 49) .ret .skip)
abbrev HE:an:=.seq (.ae yyx) (.ae yyw)
abbrev Hk:an:=.block 3 [] yyz
abbrev Ol:an:=.rangeFunc (.t 26) [27,28] (O::I::I::I::(by(iterate 46 refine O::?_);exact[])) HE Hk
abbrev Oe:zR:=[aj 24 3 1,ah 25 1 24,bf 26 Cf 25]
abbrev OC:zB:=O::I::I::I::O::O::O::O::O::O::O::O::O::I::I::I::(by(iterate 34 refine O::?_);exact[])
abbrev Qi:zB:=O::I::I::I::(by(iterate 46 refine O::?_);exact[])
abbrev yyG:zR:=[bx 23 15 1,ab 15 23]
abbrev yyH:zR:=[ah 19 1 3,ab 20 5,o 21 (.call (.t 19) [.t 20]),o 22 (.not (.t 21))]
abbrev yyI:zR:=[aQ 17 1 13 15,ah 18 1 17,ab 5 18]
abbrev yyJ:an:=.seq (.ae yyI) (.seq (.ae yyH) (.cond (.t 22) .ret .skip))
abbrev yyK:zR:=[bM 16 15 14]
abbrev Hy:an:=.seq (.ae yyK) (.seq (.cond (.t 16) .skip (.exit 0)) (.seq (.block 1 [] yyJ) (.ae yyG)))
abbrev yyM:zR:=[aj 8 1 1,ah 9 1 8,aj 10 4 1,ah 11 1 10,o 12 (.lit 1 [.list true 0 [],.list true 0 []] [(0,.t 9),(1,.t 11)]),bf 13 pO 12,aS 14 13,bu 15 0]
abbrev yyN:zR:=[o 3 (.box 1 (.t 0))]
abbrev SJ:aM:=⟨.seq (.ae yyN) (.seq (.seq (.ae yyM) (.block 0 Qi (.loop OC Hy))) (.seq (.ae Oe) (.block 2 [] Ol))),50,[]⟩
abbrev P3:zI:=[.code (.seq (.ae Oe) (.block 2 [] Ol))]
abbrev yyP(x1 x2 x3 x13 x14 x15:AV)(h:List Ob)(e:Cx:=cx):aw:=bg oq (.code Hy::.inLoop OC Hy::.inBlock 0 Qi::P3) (U::x1::x2::x3::U::U::U::U::U::U::U::U::U::x13::x14::x15::(by(iterate 34 refine U::?_);exact[])) h e
abbrev Hr(x1 x2 x3:AV)(h:List Ob)(e:Cx:=cx):aw:=bg oq P3 (U::x1::x2::x3::(by(iterate 46 refine U::?_);exact[])) h e
@[simp] theorem Sp:aH Tryz.prog oq=some SJ:=by kernel_rfl
@[simp] theorem aoU:aD Tryz.prog oq=true:=by kernel_rfl
abbrev yyV:zR:=[ab 31 6,ab 32 8,o 33 (.append 1 az 8 (.t 31) (.t 32)),ab 6 33]
abbrev yyX:an:=.seq (.ae OE) (.ae yyV)
abbrev Ba:an:=.seq (.ae Bj) (.seq (.cond (.t 28) .skip (.exit 2)) (.seq (.block 3 [] yyX) (.ae Pm)))
abbrev OM:zR:=[ab 23 3,o 24 (.call (.f Ch) [.c (.list true 0 []),.t 23]),ab 6 24]
abbrev RO:aM:=⟨.seq (.ae GH) (.seq (.ae xa) (.seq (.seq (.ae Pr) (.block 0 Bk (.loop BO uE))) (.seq (.ae OM) (.seq (.seq (.ae BT) (.block 2 uD (.loop uI Ba))) (.seq (.ae w8) .ret))))),36,[.tmp 2]⟩
abbrev Oc(x6 x25 x26 x27:AV)(h:List Ob)(e:Cx:=cx):aw:=bg pO (.code Ba::.inLoop uI Ba::.inBlock 2 uD::Ow) (U::U::U::U::U::U::x6::(by(iterate 18 refine U::?_);exact[x25,x26,x27,U,U,U,U,U,U,U,U])) h e
abbrev yzr:zI:=[.code (.seq (.ae OM) (.seq (.seq (.ae BT) (.block 2 uD (.loop uI Ba))) (.seq (.ae w8) .ret)))]
abbrev Ot(x0 x3 x9 x10 x11:AV)(h:List Ob)(e:Cx:=cx):aw:=bg pO (.code uE::.inLoop BO uE::.inBlock 0 Bk::yzr) (x0::U::U::x3::U::U::U::U::U::x9::x10::x11::(by(iterate 24 refine U::?_);exact[])) h e
@[simp] theorem H8:aH Tryz.prog pO=some RO:=by kernel_rfl
@[simp] theorem aoC:aD Tryz.prog pO=true:=by kernel_rfl
abbrev yzt:zR:=[o 3 (.jl (.func vc) [] [.t 1]),ab 2 3]
abbrev Rw:aM:=⟨.seq (.ae Qp) (.seq (.ae yzt) .ret),4,[.tmp 2]⟩
@[simp] theorem Rq:aH Tryz.prog Cf=some Rw:=by kernel_rfl
@[simp] theorem aou:aD Tryz.prog Cf=true:=by kernel_rfl
abbrev Ql:zR:=[o 6 (.mv (.c (.int .i64 (-1))))]
abbrev P8:zB:=[O,I,I,O,O,O,O,O,O,O,I,O,O,O,O,O,O,O,O,O,O]
abbrev Px:zB:=(by(iterate 21 refine O::?_);exact[])
abbrev yzy:zR:=[ab 20 7,ab 6 20]
abbrev yzz:an:=.seq (.ae yzy) .ret
abbrev yzA:zR:=[ab 15 1,ab 16 8,o 17 (.call (.t 15) [.t 16]),ab 18 2,o 19 (.cmp .eql (.sc .bool) (.t 17) (.t 18))]
abbrev yzB:zR:=[cn 13 11 1,cn 14 11 2,ab 7 13,ab 8 14]
abbrev yzC:an:=.seq (.ae yzB) (.seq (.ae yzA) (.cond (.t 19) yzz .skip))
abbrev yzD:zR:=[o 11 (.next (.t 10)),cn 12 11 0]
abbrev F4:an:=.seq (.ae yzD) (.seq (.cond (.t 12) .skip (.exit 0)) (.block 1 [] yzC))
abbrev yzF:zR:=[ab 9 0,o 10 (.range (.t 9))]
abbrev R5:aM:=⟨.seq (.ae qH) (.seq (.seq (.ae yzF) (.block 0 Px (.loop P8 F4))) (.seq (.ae Ql) .ret)),21,[.tmp 6]⟩
abbrev yzH:zI:=[.code (.seq (.ae Ql) .ret)]
abbrev yzI(x1 x2 x10:AV)(h:List Ob)(e:Cx:=cx):aw:=bg vg (.code F4::.inLoop P8 F4::.inBlock 0 Px::yzH) [U,x1,x2,U,U,U,U,U,U,U,x10,U,U,U,U,U,U,U,U,U,U] h e
@[simp] theorem RU:aH Tryz.prog vg=some R5:=by kernel_rfl
@[simp] theorem aoK:aD Tryz.prog vg=true:=by kernel_rfl
abbrev yzK:zR:=[ab 17 0,ab 18 0,o 19 (.cap (.t 18)),o 20 (.slice 1 (.t 17) none (some (.t 19))),ab 21 1,o 22 (.tP 1 az 8 (.int .i64 0) (.t 20) (.t 21)),ab 23 0,aS 24 23,o 25 (.slice 1 (.t 22) none (some (.t 24))),ab 0 25]
abbrev RW:aM:=⟨.seq (.ae BB) (.seq (.seq (.ae Qc) (.cond (.t 6) (.ae Ov) .skip)) (.seq (.seq (.ae QK) (.seq (.ae QS) (.cond (.t 16) (.ae yzK) .skip))) (.seq (.ae PA) .ret))),27,[.tmp 4]⟩
@[simp] theorem H_:aH Tryz.prog Ch=some RW:=by kernel_rfl
@[simp] theorem aoE:aD Tryz.prog Ch=true:=by kernel_rfl
abbrev Oz:zB:=I::I::O::I::(by(iterate 15 refine O::?_);exact[])
abbrev yzS:zR:=[ab 9 3,o 10 (.aV .sub (.t 9) (.c (.int .i64 1))),ab 3 10]
abbrev yzT:zR:=[ab 11 0,ab 12 3,ah 13 1 1,ab 14 3,aQ 15 2 13 14,aK 16 2 15,o 17 (.call (.t 11) [.t 12,.t 16]),o 18 (.not (.t 17))]
abbrev yzU:an:=.seq (.ae yzT) (.cond (.t 18) .ret .skip)
abbrev yzV:zR:=[ab 7 3,o 8 (.cmp .geq (.sc .int) (.t 7) (.c (.int .i64 0)))]
abbrev GB:an:=.seq (.seq (.ae yzV) (.cond (.t 8) .skip (.exit 0))) (.seq (.block 1 [] yzU) (.ae yzS))
abbrev yzX:zR:=[ah 4 1 1,aS 5 4,o 6 (.aV .sub (.t 5) (.c (.int .i64 1))),ab 3 6]
abbrev Rr:aM:=⟨.seq (.ae yzX) (.block 0 l_ (.loop Oz GB)),19,[]⟩
abbrev yzZ(x0 x1 x3:AV)(h:List Ob)(e:Cx:=cx):aw:=bg vc (.code GB::.inLoop Oz GB::.inBlock 0 l_::P_) (x0::x1::U::x3::(by(iterate 15 refine U::?_);exact[])) h e
@[simp] theorem Rk:aH Tryz.prog vc=some Rr:=by kernel_rfl
@[simp] theorem aot:aD Tryz.prog vc=true:=by kernel_rfl
abbrev yAa:zR:=[ab 5 1,aj 6 0 2,o 7 (.cT 2 1 (.t 6) (.c (.int .i64 0))),ah 8 1 7,o 9 (.lookup (.sc .int) (.str []) (.t 5) (.t 8) false),ab 10 1,aj 11 0 2,o 12 (.cT 2 1 (.t 11) (.c (.int .i64 1))),ah 13 1 12,o 14 (.lookup (.sc .int) (.str []) (.t 10) (.t 13) false),o 15 (.lit 1 [.str [],.str []] [(0,.t 9),(1,.t 14)]),o 16 (.build [.str [],.int .i64 0,.list true 0 [],.list true 0 [],.bool false] [(1,1,.c (.int .i64 4)),(2,1,.t 15)]),aI 5 4 16]
abbrev yAb:zR:=[o 2 (.box 2 (.t 0)),o 4 (.alloc [.str [],.int .i64 0,.own 1 au [],.own 1 au [],.bool false])]
abbrev Sl:aM:=⟨.seq (.ae yAb) (.seq (.ae yAa) .ret),17,[.cell 4 true 5]⟩
@[simp] theorem R4:aH Tryz.prog xJ=some Sl:=by kernel_rfl
@[simp] theorem aoR:aD Tryz.prog xJ=true:=by kernel_rfl
abbrev yAc:zR:=[o 8 (.build [.str [],.int .i64 0,.list true 0 [],.list true 0 [],.bool false] [(1,1,.c (.int .i64 0))]),aI 5 4 8]
abbrev yAd:zR:=[o 7 (.build [.str [],.int .i64 0,.list true 0 [],.list true 0 [],.bool false] [(1,1,.c (.int .i64 1))]),aI 5 4 7]
abbrev yAe:an:=.seq (.ae yAd) .ret
abbrev yAf:zR:=[aj 5 0 2,ah 6 1 5]
abbrev Oj:zR:=[o 2 (.box 1 (.t 0)),o 4 (.alloc [.str [],.int .i64 0,.own 1 au [],.own 1 au [],.bool false])]
abbrev RT:aM:=⟨.seq (.ae Oj) (.seq (.seq (.ae yAf) (.cond (.t 6) yAe .skip)) (.seq (.ae yAc) .ret)),9,[.cell 4 true 5]⟩
@[simp] theorem RM:aH Tryz.prog xF=some RT:=by kernel_rfl
@[simp] theorem aoG:aD Tryz.prog xF=true:=by kernel_rfl
abbrev yAh:zR:=[ab 5 1,aj 6 0 2,ah 7 1 6,o 8 (.aV .xor (.t 7) (.c (.int .i64 1))),o 9 (.lookup (.sc .int) (.str []) (.t 5) (.t 8) false),o 10 (.lit 1 [.str []] [(0,.t 9)]),o 11 (.build [.str [],.int .i64 0,.list true 0 [],.list true 0 [],.bool false] [(1,1,.c (.int .i64 3)),(2,1,.t 10)]),aI 5 4 11]
abbrev R6:aM:=⟨.seq (.ae Oj) (.seq (.ae yAh) .ret),12,[.cell 4 true 5]⟩
@[simp] theorem RV:aH Tryz.prog xH=some R6:=by kernel_rfl
@[simp] theorem aoI:aD Tryz.prog xH=true:=by kernel_rfl
end Go.Proofs.YtchjijfjidlpjaaGreatDoor
