/- The abstract machine: va -/
import Derived.WalkKit
set_option linter.unusedSimpArgs false
set_option linter.unusedVariables false
namespace Go.AM
abbrev an:=@Option.some.injEq
abbrev aB:=@Bool.and_eq_true
abbrev aT:=@Nat.le_refl
abbrev aW:=@List.getElem?_eq_getElem
abbrev a8:=@List.mem_append
abbrev bj:=@decide_eq_true_eq
abbrev bx:=@List.drop_eq_nil_of_le
abbrev bz:=@List.getD_eq_getElem?_getD
abbrev bA:=@List.getElem_mem
abbrev bC:=@List.length_append
abbrev bD:=@List.mem_cons
abbrev bG:=@eq_true
abbrev bJ:=@List.drop_eq_getElem_cons
abbrev bL:=@List.length_cons
abbrev bX:=@List.map_cons
abbrev b9:=@Prod.mk.injEq
abbrev cd:=@List.mem_map
abbrev cj:=@List.take_of_length_le
abbrev cm:=@Option.map_eq_some_iff
abbrev cE:=@if_true
abbrev cF:=@List.getElem?_append_left
abbrev cL:=@List.mem_singleton
abbrev cR:=@List.append_assoc
abbrev cV:=@List.getElem?_eq_some_iff
abbrev c_:=@List.length_nil
abbrev dq:=@if_false
abbrev dB:=@List.getElem?_append_right
abbrev dC:=@Option.map_some
abbrev dH:=@List.mem_cons_of_mem
abbrev dS:=@List.mem_range
abbrev dW:=@List.getElem?_set_ne
abbrev dX:=@List.mem_filter
abbrev eh:=@List.all_eq_true
abbrev eo:=@Int.toNat_natCast
abbrev ey:=@List.append_nil
abbrev eH:=@List.cons_append
abbrev fe:=@Bool.false_eq_true
abbrev ff:=@List.getElem?_set_self
abbrev fw:=@List.length_take
abbrev fy:=@List.length_map
abbrev fL:=@Bool.or_eq_true
abbrev fM:=@List.drop_zero
abbrev gb:=@List.getElem_of_mem
abbrev gy:=@List.getElem?_eq_none
abbrev gU:=@Nat.add_mul
abbrev gV:=@Bool.eq_iff_iff
abbrev gW:=@Int.eq_ofNat_of_zero_le
abbrev iz:=@Nat.add_zero
abbrev iA:=@List.take_succ_eq_append_getElem
abbrev iW:=@List.map_map
abbrev iX:=@List.ext_getElem?
abbrev iY:=@Array.getD_eq_getD_getElem?
abbrev jv:=@Array.ext'
abbrev jw:=@Nat.zero_add
abbrev jz:=@List.mem_of_getElem?
abbrev jA:=@List.map_append
abbrev jB:=@decide_eq_false_iff_not
abbrev jC:=@eq_false
abbrev jO:=@List.map_nil
abbrev jP:=@List.getElem?_map
abbrev j4:=@Bool.not_eq_true'
abbrev kD:=@List.length_set
abbrev kE:=@List.mem_of_mem_drop
abbrev kF:=@List.nil_append
abbrev kH:=@Option.getD_some
abbrev kJ:=@Array.getElem?_eq_getElem
abbrev lq:=@List.length_eq_zero_iff
abbrev lr:=@List.mem_of_mem_take
abbrev lu:=@Nat.add_assoc
abbrev lv:=@Option.bind_some
abbrev lx:=@Bool.or_eq_false_iff
abbrev lX:=@Nat.lt_of_lt_of_le
abbrev lY:=@List.take_append_drop
abbrev lZ:=@List.set_append_left
abbrev l0:=@List.nodup_cons
abbrev mE:=@List.replicate_succ
abbrev mF:=@Nat.lt_or_ge
abbrev mG:=@Nat.mul_le_mul_right
abbrev mH:=@List.nodup_append
abbrev nA:=@beq_iff_eq
abbrev nB:=@List.map_congr_left
abbrev nC:=@List.getElem?_take_of_lt
abbrev nD:=@decide_false
abbrev nE:=@List.mem_append_left
abbrev oB:=@List.getElem?_cons_succ
abbrev oC:=@Bool.and_self
abbrev oD:=@List.flatMap_cons
abbrev oE:=@Iff.rfl
abbrev pn:=@Array.getElem?_eq_none
abbrev po:=@or_false
abbrev pq:=@List.getElem?_drop
abbrev pr:=@Bool.false_or
abbrev pt:=@Option.bind_eq_some_iff
abbrev pv:=@List.mem_cons_self
abbrev pw:=@Bool.and_assoc
abbrev px:=@List.not_mem_nil
abbrev qo:=@and_true
abbrev qp:=@List.getElem_take
abbrev qt:=@Bool.and_true
abbrev qu:=@List.mem_or_eq_of_mem_set
abbrev qv:=@List.getElem?_toArray
abbrev qw:=@List.length_range
abbrev qx:=@List.length_replicate
abbrev qy:=@List.getElem?_set
abbrev qz:=@Option.bind_eq_bind
abbrev qA:=@List.mem_flatMap
abbrev rQ:=@List.set_cons_succ
abbrev rR:=@Nat.min_eq_left
abbrev rS:=@List.getElem?_take
abbrev rT:=@Bool.not_true
abbrev rU:=@List.size_toArray
abbrev rV:=@List.getElem?_cons_zero
abbrev rW:=@List.length_pos_iff
abbrev rX:=@List.map_set
abbrev rY:=@Nat.add_sub_cancel_left
abbrev rZ:=@List.mem_map_of_mem
abbrev r8:=@List.filter_cons
abbrev tu:=@Nat.le_trans
abbrev tv:=@List.foldl_cons
abbrev tw:=@List.all_cons
abbrev tx:=@List.mapM_cons
abbrev tz:=@List.singleton_append
abbrev tA:=@Bool.true_and
abbrev tB:=@Array.all_toList
abbrev tE:=@List.getElem_cons_succ
abbrev tF:=@List.take_left'
abbrev tG:=@List.set_set
abbrev tH:=@decide_eq_true
abbrev u_:=@Option.map_none
abbrev vc:=@List.drop_append
abbrev vd:=@List.cons.injEq
abbrev ve:=@List.length_singleton
abbrev vf:=@Option.getD_none
abbrev vg:=@Array.getElem?_setIfInBounds
abbrev xu:=@Nat.zero_le
abbrev xv:=@List.set_cons_zero
abbrev xx:=@Go.block_lt_of_cell
abbrev xy:=@List.drop_length
abbrev xz:=@List.take_length
abbrev xA:=@Nat.zero_mul
abbrev xB:=@true_and
abbrev xC:=@Bool.not_false
abbrev xD:=@List.take_zero
abbrev xE:=@Array.length_toList
abbrev xF:=@List.getElem_append_left
abbrev xG:=@Array.getElem?_toList
abbrev xH:=@List.zip_cons_cons
abbrev xI:=@List.contains_eq_mem
abbrev xJ:=@List.mem_iff_getElem?
abbrev xK:=@List.filterMap_cons
abbrev xL:=@Decidable.byContradiction
abbrev xM:=@List.mem_append_right
abbrev xN:=@beq_eq_false_iff_ne
abbrev xO:=@Nat.xor_zero
abbrev xP:=@Int.natCast_add
abbrev xQ:=@List.getElem_inj
abbrev xR:=@List.set_append_right
abbrev xS:=@decide_eq_false
abbrev Bu:=@List.tail_drop
abbrev Bv:=@List.getElem?_modify
abbrev Bw:=@Bool.not_eq_false
abbrev Bx:=@List.filter_eq_self
abbrev Bz:=@Bool.eq_false_iff
abbrev BA:=@Int.natCast_ediv
abbrev BB:=@Int.natCast_emod
abbrev BC:=@Function.comp_def
abbrev BD:=@of_decide_eq_true
abbrev Fk:=@List.length_drop
abbrev Fl:=@Array.foldl_toList
abbrev Fo:=@Decidable.not_not
abbrev Fp:=@Nat.sub_zero
abbrev Fq:=@List.getElem_append_right
abbrev Fs:=@Nat.sub_self
abbrev Ft:=@List.length_pos_of_mem
abbrev Fu:=@List.exists_mem_of_length_pos
abbrev Fv:=@List.contains_iff_mem
abbrev Fw:=@Bool.not_eq_false'
abbrev Fx:=@List.range_succ
abbrev Fy:=@List.getElem_cons_zero
abbrev Fz:=@Nat.succ_mul
abbrev FA:=@List.length_filter_le
abbrev FB:=@List.zip_append
abbrev FC:=@List.nodup_iff_pairwise_ne
abbrev LS:=@List.take_succ_cons
abbrev LU:=@Nat.lt_trichotomy
abbrev LV:=@Array.toList_setIfInBounds
abbrev LW:=@Option.isSome_iff_exists
abbrev LX:=@Nat.mul_eq_zero
abbrev LY:=@beq_self_eq_true
abbrev LZ:=@List.nodup_range
abbrev L0:=@UInt8.toNat_inj
abbrev L4:=@List.getElem?_range
abbrev L5:=@List.getElem?_replicate
abbrev L6:=@Option.pure_def
abbrev L7:=@BitVec.toNat_ofInt
abbrev L8:=@List.append_eq_nil_iff
abbrev L9:=@forall_eq_or_imp
abbrev L_:=@List.getElem_set_ne
abbrev L':=@List.eq_nil_iff_forall_not_mem
abbrev Ma:=@Classical.byContradiction
abbrev Mb:=@List.of_mem_zip
abbrev X':=@List.forall_mem_cons
abbrev Ya:=@List.length_erase_of_mem
abbrev Yb:=@List.mem_zipIdx_iff_getElem?
abbrev Yc:=@List.reverse_singleton
abbrev Yd:=@Array.getElem?_replicate
abbrev Ye:=@Nat.eq_zero_or_pos
abbrev Yf:=@List.count_pos_iff
abbrev Yg:=@decide_eq_true_iff
abbrev Yh:=@List.mem_replicate
abbrev Yi:=@List.mem_iff_getElem
abbrev aCh:=@Std.Legacy.Range.forIn_eq_forIn_range'
inductive AV where
 |undef
 |bool (b:Bool)
 |int (k:IntKind) (n:Int)
 |str (s:List UInt8)
 |jn|dk|dn|fv
 |list (full:Bool) (k:Nat) (es:List AV)
 |own (k:Nat) (E:TypeId) (es:List AV)
 |sl (i off n:Nat)
 |dw (a:AV) (k ix off:Nat)
 |ptr (i off:Nat)
 |eP (g off:Nat)
 |mp (i:Nat)
 |dG (ks vs:List AV)
 |it (i:Nat)
 |agg (cs:List AV)
 |aH (vs:List AV)
 |fn (f:Fn) (first cap:List AV)
 |de (i:Nat)
 |bW (t:TypeId) (v:AV)
 deriving Inhabited,Repr
def lG:Value->AV
 |.bool b=>.bool b
 |.int k n=>.int k n
 |.string s=>.str s.data.toList
 |.pointer none=>.jn
 |.map none=>.dk
 |.nilFunc=>.dn
 |.nilIface=>.fv
 |.slice none 0 0=>.list true 0 []
 |_=>.undef
def ia:Value->AV
 |.agg cs=>.agg (cs.toList.map lG)
 |.iface t v=>.bW t (lG v)
 |.tuple vs=>.aH (vs.toList.map lG)
 |v=>lG v
def AV.cells:AV->List AV
 |.agg cs=>cs
 |a=>[a]
def AV.ok:AV->Bool
 |.aH _|.undef|.own _ _ _=>false
 |_=>true
def AV.one:AV->Bool
 |.agg _|.aH _|.undef|.own _ _ _=>false
 |_=>true
inductive AX where
 |t (i:Nat)
 |c (v:AV)
 |g (n:Nat)
 |f (n:Nat)
 deriving Inhabited,Repr
inductive CK where
 |eql|neq|lss|leq|gtr|geq
 deriving DecidableEq,Inhabited,Repr
inductive IB where
 |add|sub|mul|quo|rem|and|or|xor|andNot|shl|shr
 deriving DecidableEq,Inhabited,Repr
inductive SK where
 |int|str|bool
 deriving DecidableEq,Inhabited,Repr
inductive EK where
 |sc (s:SK)
 |km (ks:List SK)
 |iface
 |nil
 deriving DecidableEq,Inhabited,Repr
inductive AO where
 |mv (x:AX)
 |cS (k:Nat) (E:TypeId)
 |pick (c a b:AX)
 |alloc (z:List AV)
 |box (n:Nat) (x:AX)
 |build (z:List AV) (parts:List (Nat×Nat×AX))
 |lit (k:Nat) (zs:List AV) (parts:List (Nat×AX))
 |load (agg:Bool) (sz:Nat) (a:AX)
 |store (sz:Nat) (a x:AX)
 |bw (x:AX)
 |cp (op:IB) (x y:AX)
 |cmp (op:CK) (e:EK) (x y:AX)
 |concat (x y:AX)
 |not (x:AX)
 |neg (x:AX)
 |JF (x:AX)
 |conv (k:IntKind) (x:AX)
 |same (x:AX)
 |kT (neg:Bool) (x:AX)
 |mark (x:AX)
 |Aq (E:TypeId) (x:AX)
 |toStr (x:AX)
 |kM (t:TypeId) (x:AX)
 |fO (f:Fn) (first cap:List AX)
 |mkMap
 |mkSlice (k:Nat) (E:TypeId) (bytes:Nat) (z:AV) (n c:AX)
 |CV (x:AX) (lo hi:Option AX)
 |slice (k:Nat) (x:AX) (lo hi:Option AX)
 |slice3 (k:Nat) (x:AX) (lo:Option AX) (hi mx:AX)
 |off (n:Nat) (x:AX)
 |Lb (agg:Bool) (off sz:Nat) (x:AX)
 |rb (k:Nat) (x i:AX)
 |gh (n k:Nat) (x i:AX)
 |uK (x i:AX)
 |Jx (n:Nat) (agg:Bool) (k:Nat) (x i:AX)
 |lookup (e:EK) (z:AV) (x i:AX) (ok:Bool)
 |bP (e:EK) (m k x:AX)
 |range (x:AX)
 |next (x:AX)
 |um (x:AX) (t:TypeId) (z:AV) (ok:Bool)
 |extract (x:AX) (i:Nat)
 |len (x:AX)
 |nS (x:AX)
 |cap (x:AX)
 |Jv (n:Nat)
 |uv (x:AX)
 |append (k:Nat) (E:TypeId) (bytes:Nat) (x y:AX)
 |sx (k:Nat) (E:TypeId) (bytes:Nat) (z:AV) (x n:AX)
 |delete (e:EK) (m k:AX)
 |clear (k:Nat) (z:AV) (x:AX)
 |min (xs:List AX)
 |max (xs:List AX)
 |recover
 |panic (x:AX)
 |call (f:AX) (args:List AX)
 |invoke (x:AX) (name:String) (args:List AX)
 |defer (f:AX) (args:List AX)
 deriving Inhabited,Repr
structure AG where
 dst:Option Nat
 guard:Option (Nat×Bool)
 op:AO
 deriving Inhabited,Repr
inductive aj where
 |skip
 |av (ops:List AG)
 |aR (loose:List Bool) (fin:List Nat) (ops:List AG)
 |gM (h2:List (List Nat)) (ops:List AG)
 |seq (a b:aj)
 |cond (c:AX) (a b:aj)
 |block (id:Nat) (mask:List Bool) (c:aj)
 |loop (mask:List Bool) (c:aj)
 |rangeFunc (f:AX) (params:List Nat) (mask:List Bool) (assign body:aj)
 |exit (id:Nat)
 |ret
 |bad
 deriving Inhabited,Repr
inductive rE where
 |tmp (t:Nat)
 |cell (a:Nat) (agg:Bool) (sz:Nat)
 deriving Inhabited,Repr
structure aF where
 body:aj
 nt:Nat
 res:List rE
 deriving Inhabited,Repr
inductive Jump where
 |none
 |ret
 |exit (id:Nat)
 deriving DecidableEq,Inhabited,Repr
inductive Ob where
 |gone
 |cells (vs:List AV)
 |row (k:Nat) (E:TypeId) (es:List AV) (g:Option Nat) (fl sh:Bool)
 |map (es:List (AV×AV)) (fl:Bool)
 |jf (s:List UInt8) (pos:Nat)
 |loop (st:LoopState) (h2:Jump) (fn:FuncId) (nt:List AV) (params:List Nat) (assign body:aj)
 |bK (live:Bool)
 deriving Inhabited,Repr
def ax(t:List AV):AX->AV
 |.t i=>t.getD i .undef
 |.c v=>v
 |.g n=>.eP n 0
 |.f n=>.fn (.func n) [] []
mutual
def aK(n:Nat):AV->Bool
 |.sl i _ _=>decide (i<n)
 |.ptr i _=>decide (i<n)
 |.mp i=>decide (i<n)
 |.it i=>decide (i<n)
 |.de i=>decide (i<n)
 |.dw a _ _ _=>aK n a
 |.agg cs=>aN n cs
 |.aH cs=>aN n cs
 |.fn _ a b=>aN n a&&aN n b
 |.bW _ v=>aK n v
 |.own _ _ _=>false
 |.list _ _ es=>aN n es
 |.dG ks vs=>aN n ks&&aN n vs
 |_=>true
def aN(n:Nat):List AV->Bool
 |[]=>true
 |a::as=>aK n a&&aN n as
end
def cr:List AV->Bool
 |[]=>true
 |a::as=>a.one&&cr as
def cG:List AV->Nat->Bool
 |[],_=>true
 |a::as,k=>decide (a.cells.length=k)&&cr a.cells&&aN 0 a.cells&&cG as k
mutual
theorem zT{n m:Nat}(h:n<=m):∀{a:AV},aK n a=true->aK m a=true
 |.undef,_|.bool _,_|.int _ _,_|.str _,_|.jn,_|.dk,_|.dn,_|.fv,_|.eP _ _,_=>rfl
 |.list _ _ es,hb=>by simp only[aK]at hb⊢;exact sn h hb
 |.own _ _ _,hb=>by simp[aK]at hb
 |.sl _ _ _,hb|.ptr _ _,hb|.mp _,hb|.it _,hb|.de _,hb=>by simp only[aK,bj]at hb⊢;omega
 |.dw a _ _ _,hb=>by simp only[aK]at hb⊢;exact zT h hb
 |.dG _ _,hb|.fn _ _ _,hb=>by simp only[aK,aB]at hb⊢;exact⟨sn h hb.1,sn h hb.2⟩
 |.agg _,hb|.aH _,hb=>by simp only[aK]at hb⊢;exact sn h hb
 |.bW _ _,hb=>by simp only[aK]at hb⊢;exact zT h hb
theorem sn{n m:Nat}(h:n<=m):∀{as:List AV},aN n as=true->aN m as=true
 |[],_=>rfl
 |a::as,hb=>by simp only[aN,aB]at hb⊢;exact⟨zT h hb.1,sn h hb.2⟩
end
theorem ade{n:Nat}{a:AV}(h:aN n a.cells=true):aK n a=true:=by
 cases a<;>simp_all [AV.cells,aK,aN]
theorem j7{n k:Nat}:∀{es:List AV},cG es k=true->aN n es=true
 |[],_=>rfl
 |a::as,h=>by
  simp only[cG,aB]at h;simp only[aN,aB];exact⟨zT (xu _) (ade h.1.2),j7 h.2⟩
def cW(es:List AV)(g:Option Nat)(off n:Nat):Bool:=
 match g with
 |none=>decide (off+n<=es.length)
 |some lo=>decide (lo<=off)&&off+n==es.length
def elems(h:List Ob):AV->Option (List AV)
 |.list _ _ es=>some es
 |.sl i off n=>
  match h[i]? with
  |some (.row _ _ es g _ _)=>if cW es g off n then some ((es.drop off).take n)else none
  |_=>none
 |_=>none
def lD(h:List Ob):AV->Option (Nat×List AV)
 |.list _ k es=>some (k,es)
 |.sl i off n=>
  match h[i]? with
  |some (.row k _ es g _ _)=>if cW es g off n then some (k,(es.drop off).take n)else none
  |_=>none
 |_=>none
def pY:AV->Option Nat
 |.list _ _ es=>some es.length
 |.sl _ _ n=>some n
 |_=>none
def wJ(h:List Ob):AV->Option (Nat×List AV)
 |.list _ k es=>some (k,es)
 |.sl i off n=>
  match h[i]? with
  |some (.row k _ es g true _)=>if cW es g off n then some (k,(es.drop off).take n)else none
  |_=>none
 |_=>none
mutual
def view(h:List Ob):AV->Option AV
 |.list _ k es=>some (.list false k es)
 |.sl i off n=>(wJ h (.sl i off n)).map fun p=>.list false p.1 p.2
 |.agg cs=>(cy h cs).map .agg
 |.aH cs=>(cy h cs).map .aH
 |.fn f a b=>
  match cy h a,cy h b with
  |some a',some b'=>some (.fn f a' b')
  |_,_=>none
 |.bW t v=>(view h v).map (.bW t)
 |.ptr _ _|.mp _|.it _|.de _|.dw _ _ _ _|.own _ _ _=>none
 |.dG ks vs=>if aN 0 ks&&aN 0 vs then some (.dG ks vs)else none
 |a=>some a
def cy(h:List Ob):List AV->Option (List AV)
 |[]=>some []
 |a::as=>
  match view h a,cy h as with
  |some a',some h2=>some (a'::h2)
  |_,_=>none
end
mutual
def rowsOf:AV->List Nat
 |.sl i _ _=>[i]
 |.agg cs=>b_ cs
 |.aH cs=>b_ cs
 |.fn _ a b=>b_ a++b_ b
 |.bW _ v=>rowsOf v
 |_=>[]
def b_:List AV->List Nat
 |[]=>[]
 |a::as=>rowsOf a++b_ as
end
def eI:Ob->Ob
 |.row k E es g fl _=>.row k E es g fl true
 |o=>o
def share:List Nat->List Ob->List Ob
 |[],h=>h
 |i::is,h=>share is (h.modify i eI)
inductive R where
 |val (v:AV) (h:List Ob)
 |skip (h:List Ob)
 |dF (v:AV)
 |call (f:FuncId) (args:List AV)
 |s8
 |bK (f:FuncId) (args:List AV)
 |yield (l:Nat) (args:List AV)
 |either
 |bad
 deriving Inhabited
def fR:SK->AV->AV->Option Bool
 |.int,.int k a,.int j b=>if k=j then some (a==b)else none
 |.str,.str a,.str b=>some (a==b)
 |.bool,.bool a,.bool b=>some (a==b)
 |_,_,_=>none
def iH:List SK->List AV->List AV->Option Bool
 |[],[],[]=>some true
 |s::ss,a::as,b::bs=>
  match fR s a b with
  |some true=>iH ss as bs
  |some false=>some false
  |none=>none
 |_,_,_=>none
def bV:SK->AV->Bool
 |.int,.int _ _|.str,.str _|.bool,.bool _=>true
 |_,_=>false
def bM:List SK->List AV->Bool
 |[],[]=>true
 |s::ss,a::as=>bV s a&&bM ss as
 |_,_=>false
def isKey:EK->AV->Bool
 |.sc s,a=>bV s a
 |.km ss,.agg cs=>bM ss cs
 |_,_=>false
def cC(e:EK)(x y:AV):Option Bool:=
 match e with
 |.km ss=>match x,y with
  |.agg as,.agg bs=>if bM ss as&&bM ss bs then iH ss as bs else none
  |_,_=>none
 |.sc s=>fR s x y
 |.iface=>match x,y with
  |.fv,.bW _ _=>some false
  |.bW _ _,.fv=>some false
  |_,_=>none
 |.nil=>match x,y with
  |.dn,.dn=>some true
  |.dn,.fn _ _ _=>some false
  |.fn _ _ _,.dn=>some false
  |_,_=>none
def fg(e:EK)(k:AV):List (AV×AV)->Option (Option AV)
 |[]=>some none
 |(a,v)::es=>
  match cC e k a with
  |some true=>some (some v)
  |some false=>fg e k es
  |none=>none
def gG(e:EK)(k v:AV):List (AV×AV)->Option (List (AV×AV))
 |[]=>some [(k,v)]
 |(a,u)::es=>
  match cC e k a with
  |some true=>some ((k,v)::es)
  |some false=>(gG e k v es).map ((a,u)::·)
  |none=>none
def n4(e:EK)(k:AV):List (AV×AV)->Option (List (AV×AV))
 |[]=>some []
 |(a,u)::es=>
  match cC e k a with
  |some true=>some es
  |some false=>(n4 e k es).map ((a,u)::·)
  |none=>none
def n9(op:CK)(a b:Int):Bool:=
 match op with
 |.eql=>a==b
 |.neq=>a !=b
 |.lss=>decide (a<b)
 |.leq=>decide (a<=b)
 |.gtr=>decide (a>b)
 |.geq=>decide (a≥b)
def iv(op:IB)(k:IntKind)(x y:Int):Option Int:=
 match op with
 |.add=>some (k.wrap (x+y))
 |.sub=>some (k.wrap (x-y))
 |.mul=>some (k.wrap (x*y))
 |.quo=>if y=0 then none else some (k.wrap (x.tdiv y))
 |.rem=>if y=0 then none else some (x.tmod y)
 |.and=>some (k.wrap ((BitVec.ofInt k.bits x)&&&(BitVec.ofInt k.bits y)).toNat)
 |.or=>some (k.wrap ((BitVec.ofInt k.bits x)|||(BitVec.ofInt k.bits y)).toNat)
 |.xor=>some (k.wrap ((BitVec.ofInt k.bits x)^^^(BitVec.ofInt k.bits y)).toNat)
 |.andNot=>some (k.wrap ((BitVec.ofInt k.bits x)&&&~~~(BitVec.ofInt k.bits y)).toNat)
 |.shl=>if y<0 then none else some (k.wrap (x*2^(min y.toNat k.bits)))
 |.shr=>if y<0 then none else some (x.fdiv (2^(min y.toNat k.bits)))
def n8(agg:Bool)(sz off:Nat)(cs:List AV):Option AV:=
 if agg then(if off+sz<=cs.length then some (.agg ((cs.drop off).take sz))else none)
 else if sz=1 then cs[off]? else none
def over(cs:List AV)(off:Nat)(new:List AV):List AV:=cs.take off++new++cs.drop (off+new.length)
def fN:List AV->AV->AV
 |cs,.agg _=>.agg cs
 |[c],_=>c
 |_,_=>.undef
def rn(Γ:Nat->Option AV)(h:List Ob)(agg:Bool)(sz:Nat):AV->Option AV
 |.ptr i off=>
  match h[i]? with
  |some (.cells cs)=>n8 agg sz off cs
  |_=>none
 |.dw a k ix off=>
  match lD h a with
  |some (k',es)=>if k'=k then es[ix]?.bind fun e=>n8 agg sz off e.cells else none
  |none=>none
 |.eP n off=>(Γ n).bind fun v=>n8 agg sz off v.cells
 |_=>none
def wG(h:List Ob)(sz:Nat)(p x:AV):Option (List Ob):=
 if x.cells.length=sz/\cr x.cells=true then
  match p with
  |.ptr i off=>
   match h[i]? with
   |some (.cells cs)=>if off+sz<=cs.length then some (h.set i (.cells (over cs off x.cells)))else none
   |_=>none
  |.dw (.sl i o n) k' ix off=>
   match h[i]? with
   |some (.row k E es g fl false)=>
    if k'=k/\cW es g o n=true/\ix<n then
     match es[o+ix]? with
     |some e=>
      if off+sz<=k then
       some (h.set i (.row k E (es.set (o+ix) (fN (over e.cells off x.cells) e)) g (fl&&aN 0 x.cells) false))
      else none
     |none=>none
    else none
   |_=>none
  |_=>none
 else none
def ja(h:List Ob)(k:Nat)(E:TypeId)(bytes:Nat)(x:AV)(ys:List AV)(ea:Bool):R:=
 match x with
 |.list true k' es=>
  if(es.length+ys.length)*bytes<=2^47/\(k'=k\/es=[])then
   match ys with
   |[]=>.val x h
   |_::_=>.val (.sl h.length 0 (es.length+ys.length)) (h++[.row k E (es++ys) none ea false])
  else .bad
 |.sl i off n=>
  match h[i]? with
  |some (.row k' E' es g fl sh)=>
   if k'=k/\E'=E/\cW es g off n=true/\(n+ys.length)*bytes<=2^47 then
    if off+n=es.length then
     .val (.sl i off (n+ys.length)) (h.set i (.row k E (es++ys) (if ys.isEmpty then g else some off) (fl&&ea) sh))
    else if off+n+ys.length<=es.length/\sh=false then
     .val (.sl i off (n+ys.length)) (h.set i (.row k E (es.take (off+n)++ys++es.drop (off+n+ys.length)) g (fl&&ea) false))
    else .bad
   else .bad
  |_=>.bad
 |_=>.bad
def gm(b:UInt8):AV:=.int .u8 b.toNat
def DO:AV->Option UInt8
 |.int .u8 n=>some (UInt8.ofNat n.toNat)
 |_=>none
def qR:List AV->Option (List UInt8)
 |[]=>some []
 |a::as=>
  match DO a,qR as with
  |some b,some bs=>some (b::bs)
  |_,_=>none
def bound(t:List AV)(d:Nat):Option AX->Option Nat
 |none=>some d
 |some x=>match ax t x with
  |.int _ n=>if 0<=n then some n.toNat else none
  |_=>none
def uL(cells:List AV):List (Nat×Nat×AV)->Option (List AV)
 |[]=>some cells
 |(off,sz,v)::r=>if v.ok=true/\v.cells.length=sz/\off+sz<=cells.length then uL (over cells off v.cells) r else none
def oZ(k:Nat)(es:List AV):List (Nat×AV)->Option (List AV)
 |[]=>some es
 |(i,v)::r=>if i<es.length/\v.cells.length=k/\cr v.cells=true then oZ k (es.set i v) r else none
def ni:AV->List AV->Option AV
 |.int k a,.int j b::r=>if k=j then ni (.int k (if b<a then b else a)) r else none
 |.int k a,[]=>some (.int k a)
 |_,_=>none
def rG:AV->List AV->Option AV
 |.int k a,.int j b::r=>if k=j then rG (.int k (if a<b then b else a)) r else none
 |.int k a,[]=>some (.int k a)
 |_,_=>none
def pJ(h:List Ob):List (Nat×AV)->Option (List (Nat×AV)×List Ob)
 |[]=>some ([],h)
 |(i,v)::r=>
  match view h v with
  |some v'=>
   match pJ (share (rowsOf v) h) r with
   |some (ps,h')=>some ((i,v')::ps,h')
   |none=>none
  |none=>none
def fh(n:Nat):AV->AV×List Ob
 |.own k E es=>(.sl n 0 es.length,[.row k E es none true false])
 |a=>(a,[])
def cu(n:Nat):List AV->List AV×List Ob
 |[]=>([],[])
 |a::as=>((fh n a).1::(cu (n+(fh n a).2.length) as).1,(fh n a).2++(cu (n+(fh n a).2.length) as).2)
def er(n:Nat):AV->AV×List Ob
 |.aH vs=>(.aH (cu n vs).1,(cu n vs).2)
 |a=>fh n a
def dY(t:List AV):Option (Nat×Bool)->Option Bool
 |none=>some true
 |some (j,b)=>match t.getD j .undef with
  |.bool x=>some (x==b)
  |.aH []=>some false
  |_=>none
def iu(P:Program)(t:TypeId):Option Bool:=(P.underlying t).map fun|.struct _|.array _ _=>true|_=>false
def bH(P:Program)(t:TypeId):Option Nat:=(P.info? t).map (·.size)
def DU(P:Program)(t:TypeId)(f:FuncId)(ptr:Bool):Option (FuncId×Option (Bool×Nat)):=match P.underlying t with
 |some (.pointer e)=>if ptr then some (f,none)else match iu P e,bH P e with
  |some a,some s=>some (f,some (a,s))
  |_,_=>none
 |some (.interface _)=>none
 |some _=>if ptr then none else some (f,none)
 |none=>none
def kj(P:Program)(t:TypeId)(name:String):Option (FuncId×Option (Bool×Nat)):=match P.info? t with
 |some i=>match i.methods.find? (·.name==name)with
  |some m=>match m.func with
   |some (f,ptr)=>if m.path.isEmpty then DU P t f ptr else none
   |none=>none
  |none=>none
 |none=>none
def dv(P:Program)(f:FuncId):Bool:=match P.funcs[f]? with
 |some fn=>fn.body.isSome&&fn.name != "runtime.NumGoroutine"
 |none=>false
def o7(P:Program)(Γ:Nat->Option AV)(h:List Ob)(ty:TypeId)(name:String)(v:AV)(args:List AV):R:=
 match kj P ty name with
 |some (f,none)=>.call f (v::args)
 |some (f,some (agg,sz))=>match v with
  |.ptr i o=>match rn Γ h agg sz (.ptr i o)with
   |some x=>.call f (x::args)
   |none=>.bad
  |_=>.bad
 |none=>.bad
def aD(P:Program)(Γ:Nat->Option AV)(t:List AV)(h:List Ob):AO->R
 |.mv x=>.val (ax t x) h
 |.cS k E=>.val (.sl h.length 0 0) (h++[.row k E [] none true false])
 |.pick c a b=>match ax t c with
  |.bool true=>.val (ax t a) h
  |.bool false=>.val (ax t b) h
  |_=>.bad
 |.alloc z=>.val (.ptr h.length 0) (h++.cells (cu (h.length+1) z).1::(cu (h.length+1) z).2)
 |.box n x=>if(ax t x).cells.length=n/\cr (ax t x).cells=true then .val (.ptr h.length 0) (h++[.cells (ax t x).cells])else .bad
 |.build z parts=>match uL z (parts.map fun p=>(p.1,p.2.1,ax t p.2.2))with
  |some cs=>.val (.agg cs) h
  |none=>.bad
 |.lit k zs parts=>match pJ h (parts.map fun p=>(p.1,ax t p.2))with
  |some (ps,h')=>match oZ k zs ps with
   |some es=>if cG es k=true then .val (.list true k es) h' else .bad
   |none=>.bad
  |none=>.bad
 |.load agg sz a=>match rn Γ h agg sz (ax t a)with
  |some v=>.val v h
  |none=>.bad
 |.store sz a x=>match wG h sz (ax t a) (ax t x)with
  |some h'=>.skip h'
  |none=>.bad
 |.bw x=>match ax t x with
  |.ptr i o=>.val (.ptr i o) h
  |.dw a k i o=>.val (.dw a k i o) h
  |.eP i o=>.val (.eP i o) h
  |.fn (.func f) a b=>.val (.fn (.func f) a b) h
  |.bW ty v=>.val (.bW ty v) h
  |.fn (.method m) [.bW ty v] b=>match kj P ty m with
   |some (_,none)=>.val (.fn (.method m) [.bW ty v] b) h
   |_=>.bad
  |_=>.bad
 |.cp op x y=>match ax t x,ax t y with
  |.int k a,.int j b=>if k=j\/op=.shl\/op=.shr then(match iv op k a b with
   |some n=>.val (.int k n) h
   |none=>.bad)else .bad
  |_,_=>.bad
 |.cmp op e x y=>match e with
  |.sc .int=>match ax t x,ax t y with
   |.int k a,.int j b=>if k=j then .val (.bool (n9 op a b)) h else .bad
   |_,_=>.bad
  |e=>match op with
   |.eql=>match cC e (ax t x) (ax t y)with
    |some b=>.val (.bool b) h
    |none=>.bad
   |.neq=>match cC e (ax t x) (ax t y)with
    |some b=>.val (.bool !b) h
    |none=>.bad
   |_=>.bad
 |.concat x y=>match ax t x,ax t y with
  |.str a,.str b=>if a.length+b.length<=2^47 then .val (.str (a++b)) h else .bad
  |_,_=>.bad
 |.not x=>match ax t x with
  |.bool b=>.val (.bool !b) h
  |_=>.bad
 |.neg x=>match ax t x with
  |.int k n=>.val (.int k (k.wrap (0-n))) h
  |_=>.bad
 |.JF x=>match ax t x with
  |.int k n=>.val (.int k (k.wrap ((BitVec.ofInt k.bits (if k.signed then-1 else k.max))^^^(BitVec.ofInt k.bits n)).toNat)) h
  |_=>.bad
 |.conv k x=>match ax t x with
  |.int _ n=>.val (.int k (k.wrap n)) h
  |_=>.bad
 |.same x=>match ax t x with
  |.str s=>.val (.str s) h
  |_=>.bad
 |.kT neg x=>match pY (ax t x)with
  |some (_+1)=>.val (.bool neg) h
  |some 0=>.either
  |none=>.bad
 |.mark x=>match ax t x with
  |.sl i o n=>match h[i]? with
   |some (.row 1 _ es none _ _)=>if n=0\/o≠0\/n≠es.length then .bad else .val (.sl i o n) h
   |_=>.bad
  |_=>.bad
 |.Aq E x=>match ax t x with
  |.str s=>if s.length<=2^47 then .val (.sl h.length 0 s.length) (h++[.row 1 E (s.map gm) none true false])else .bad
  |_=>.bad
 |.toStr x=>match elems h (ax t x)with
  |some es=>match qR es with
   |some s=>.val (.str s) h
   |none=>.bad
  |none=>.bad
 |.kM ty x=>.val (.bW ty (ax t x)) h
 |.fO f a b=>.val (.fn f (a.map (ax t)) (b.map (ax t))) h
 |.mkMap=>.val (.mp h.length) (h++[.map [] true])
 |.mkSlice k E bytes z n c=>match ax t n,ax t c with
  |.int _ n,.int _ c=>if 0<=n/\n=c/\c*bytes<=2^47/\c<=2^47 then .val (.sl h.length 0 n.toNat) (h++[.row k E (List.replicate n.toNat z) none true false])else .bad
  |_,_=>.bad
 |.CV x lo hi=>match ax t x with
  |.str s=>match bound t 0 lo,bound t s.length hi with
   |some l,some u=>if l<=u/\u<=s.length then .val (.str ((s.take u).drop l)) h else .bad
   |_,_=>.bad
  |_=>.bad
 |.slice k x lo hi=>match ax t x with
  |.list f k' es=>match bound t 0 lo,bound t es.length hi with
   |some l,some u=>if l<=u/\u<=es.length/\(k'=k\/es=[])then .val (.list (f&&u==es.length) k' ((es.take u).drop l)) h else .bad
   |_,_=>.bad
  |.sl i off n=>match bound t 0 lo,bound t n hi with
   |some l,some u=>if l<=u/\u<=n then(match h[i]? with
    |some (.row k' _ es g _ _)=>if k'=k/\cW es g off n=true then .val (.sl i (off+l) (u-l)) h else .bad
    |_=>.bad)else .bad
   |_,_=>.bad
  |_=>.bad
 |.slice3 k x lo hi mx=>match view h (ax t x)with
  |some (.list _ k' es)=>match bound t 0 lo,bound t 0 (some hi),bound t 0 (some mx)with
   |some l,some u,some m=>if l<=u/\u<=es.length/\m=u/\(k'=k\/es=[])then .val (.list true k' ((es.take u).drop l)) (share (rowsOf (ax t x)) h)else .bad
   |_,_,_=>.bad
  |_=>.bad
 |.off n x=>match ax t x with
  |.ptr i o=>.val (.ptr i (o+n)) h
  |.dw a k i o=>.val (.dw a k i (o+n)) h
  |.eP g o=>.val (.eP g (o+n)) h
  |_=>.bad
 |.Lb agg off sz x=>match ax t x with
  |.agg cs=>match n8 agg sz off cs with
   |some v=>.val v h
   |none=>.bad
  |_=>.bad
 |.rb k x i=>match pY (ax t x),ax t i with
  |some m,.int _ n=>if 0<=n/\n<m then .val (.dw (ax t x) k n.toNat 0) h else .bad
  |_,_=>.bad
 |.gh len k x i=>match ax t i with
  |.int _ n=>if 0<=n/\n<len then(match ax t x with
   |.ptr j o=>.val (.ptr j (o+n.toNat*k)) h
   |.dw a k' j o=>.val (.dw a k' j (o+n.toNat*k)) h
   |.eP g o=>.val (.eP g (o+n.toNat*k)) h
   |_=>.bad)else .bad
  |_=>.bad
 |.uK x i=>match ax t x,ax t i with
  |.str s,.int _ n=>if 0<=n then(match s[n.toNat]? with
   |some b=>.val (gm b) h
   |none=>.bad)else .bad
  |_,_=>.bad
 |.Jx len agg k x i=>match ax t x,ax t i with
  |.agg cs,.int _ n=>if 0<=n/\n<len then(match n8 agg k (n.toNat*k) cs with
   |some v=>.val v h
   |none=>.bad)else .bad
  |_,_=>.bad
 |.lookup e z x i ok=>
  let es:=match ax t x with
   |.dk=>some []
   |.dG ks vs=>some (ks.zip vs)
   |.mp j=>match h[j]? with
    |some (.map es _)=>some es
    |_=>none
   |_=>none
  match es with
  |some es=>if isKey e (ax t i)=false then .bad else match fg e (ax t i) es with
   |some (some v)=>.val (if ok then .aH [v,.bool true]else v) h
   |some none=>.val (if ok then .aH [z,.bool false]else z) h
   |none=>.bad
  |none=>.bad
 |.bP e m k x=>match ax t m with
  |.mp j=>match h[j]? with
   |some (.map es fl)=>if isKey e (ax t k)=false then .bad else match gG e (ax t k) (ax t x) es with
    |some es'=>.skip (h.set j (.map es' (fl&&aK 0 (ax t x))))
    |none=>.bad
   |_=>.bad
  |_=>.bad
 |.range x=>match ax t x with
  |.str s=>.val (.it h.length) (h++[.jf s 0])
  |_=>.bad
 |.next x=>match ax t x with
  |.it i=>match h[i]? with
   |some (.jf s pos)=>
    if pos<s.length then
     (let r:=Utf8.decode ⟨s.toArray⟩ pos
     .val (.aH [.bool true,.int .i64 pos,.int .i32 r.1]) (h.set i (.jf s (pos+r.2))))
    else .val (.aH [.bool false]) h
   |_=>.bad
  |_=>.bad
 |.um x ty z ok=>match ax t x with
  |.bW u v=>if u=ty then .val (if ok then .aH [v,.bool true]else v) h
   else if ok then .val (.aH [z,.bool false]) h else .bad
  |.fv=>if ok then .val (.aH [z,.bool false]) h else .bad
  |_=>.bad
 |.extract x i=>match ax t x with
  |.aH vs=>match vs[i]? with
   |some v=>.val v h
   |none=>.bad
  |_=>.bad
 |.nS x=>match ax t x with
  |.str s=>.val (.int .i64 s.length) h
  |_=>.bad
 |.len x=>match ax t x with
  |.list _ _ es=>.val (.int .i64 es.length) h
  |.sl _ _ n=>.val (.int .i64 n) h
  |_=>.bad
 |.cap x=>match ax t x with
  |.list true _ es=>.val (.int .i64 es.length) h
  |_=>.bad
 |.Jv n=>.val (.int .i64 n) h
 |.uv x=>match ax t x with
  |.dk=>.val (.int .i64 0) h
  |.dG ks _=>.val (.int .i64 ks.length) h
  |.mp j=>match h[j]? with
   |some (.map es _)=>.val (.int .i64 es.length) h
   |_=>.bad
  |_=>.bad
 |.append k E bytes x y=>match ax t y with
  |.list _ k' es=>if k'=k\/es=[]then ja h k E bytes (ax t x) es true else .bad
  |.sl i o n=>match lD h (.sl i o n),h[i]? with
   |some (k',es),some (.row _ _ _ _ fl _)=>if k'=k then ja h k E bytes (ax t x) es fl else .bad
   |_,_=>.bad
  |.str s=>if k=1 then ja h 1 E bytes (ax t x) (s.map gm) true else .bad
  |_=>.bad
 |.sx k E bytes z x n=>match ax t n with
  |.int _ n=>if 0<=n/\n<=2^47 then ja h k E bytes (ax t x) (List.replicate n.toNat z) true else .bad
  |_=>.bad
 |.delete e m k=>match ax t m with
  |.mp j=>match h[j]? with
   |some (.map es fl)=>if isKey e (ax t k)=false then .bad else match n4 e (ax t k) es with
    |some es'=>.val (.aH []) (h.set j (.map es' fl))
    |none=>.bad
   |_=>.bad
  |_=>.bad
 |.clear k z x=>match ax t x with
  |.sl i off n=>match h[i]? with
   |some (.row k' E es none fl false)=>if k'=k/\off+n<=es.length then .val (.aH []) (h.set i (.row k E (es.take off++List.replicate n z++es.drop (off+n)) none fl false))else .bad
   |_=>.bad
  |_=>.bad
 |.min xs=>match xs.map (ax t)with
  |a::r=>match ni a r with
   |some v=>.val v h
   |none=>.bad
  |[]=>.bad
 |.max xs=>match xs.map (ax t)with
  |a::r=>match rG a r with
   |some v=>.val v h
   |none=>.bad
  |[]=>.bad
 |.recover=>.s8
 |.panic x=>match ax t x with
  |.bW ty v=>.dF (.bW ty v)
  |_=>.bad
 |.call f args=>match ax t f with
  |.fn (.func n) a b=>.call n (a++args.map (ax t)++b)
  |.fn (.methodOf ty name) a b=>match a++args.map (ax t),b with
   |r::as,[]=>o7 P Γ h ty name r as
   |_,_=>.bad
  |.de l=>.yield l (args.map (ax t))
  |_=>.bad
 |.invoke x name args=>match ax t x with
  |.bW ty v=>o7 P Γ h ty name v (args.map (ax t))
  |_=>.bad
 |.defer f args=>match ax t f with
  |.fn (.func n) a b=>.bK n (a++args.map (ax t)++b)
  |_=>.bad
inductive It where
 |code (c:aj)
 |inBlock (id:Nat) (mask:List Bool)
 |inLoop (mask:List Bool) (c:aj)
 |ops (os:List AG)
 |j8 (l:Nat)
 |wb (l:Nat)
 |beginRound
 deriving Inhabited
inductive dO where
 |call (f:FuncId) (args:List AV)
 |mark (i:Nat)
 deriving Inhabited
inductive Md where
 |run
 |ret
 |dF (v:AV) (rc:Bool)
 deriving Inhabited
inductive FK where
 |norm
 |bK
 |round (l:Nat)
 deriving DecidableEq,Inhabited
structure Fr where
 md:Md
 fn:FuncId
 its:List It
 t:List AV
 ds:List dO
 kind:FK
 base:Nat
 deriving Inhabited
inductive ar where
 |fr (f:Fr) (up:List Fr) (h:List Ob)
 |cl (f:FuncId) (args:List AV) (up:List Fr) (h:List Ob)
 |back (up:List Fr) (v:AV) (h:List Ob)
 |die (up:List Fr) (v:AV) (h:List Ob)
 |bad
 deriving Inhabited
def bl(t:List AV):Option Nat->AV->List AV
 |some d,v=>t.set d v
 |none,_=>t
def dJ:List Bool->List AV->List AV
 |true::ms,a::as=>a::dJ ms as
 |false::ms,_::as=>.undef::dJ ms as
 |[],as=>as
 |_,[]=>[]
def kf(t:List AV):List Nat->List AV->List AV
 |p::ps,a::as=>kf (t.set p a) ps as
 |_,_=>t
def pR(id:Nat):List It->Option (List It×List Bool)
 |.inBlock i m::k=>if i=id then some (k,m)else pR id k
 |_::k=>pR id k
 |[]=>none
def enter(f:FuncId)(F:aF)(args:List AV)(kind:FK)(h:List Ob):Fr:=
 {md:=.run,fn:=f,its:=[.code F.body],t:=args++List.replicate (F.nt-args.length) .undef,ds:=[],kind,base:=h.length}
def Fr.finish(f:Fr)(v:AV):Option Fr:=
 match f.its with
 |.ops (o::os)::k=>some {f with its:=.ops os::k,t:=bl f.t o.dst v}
 |.j8 l::k=>some {f with its:=.wb l::k}
 |_=>none
def wj(Γ:Nat->Option AV)(t:List AV)(h:List Ob):rE->Option AV
 |.tmp i=>some (t.getD i .undef)
 |.cell a agg sz=>rn Γ h agg sz (t.getD a .undef)
def uh(Γ:Nat->Option AV)(t:List AV)(h:List Ob):List rE->Option (List AV)
 |[]=>some []
 |r::rs=>
  match wj Γ t h r,uh Γ t h rs with
  |some v,some vs=>some (v::vs)
  |_,_=>none
def C7(Γ:Nat->Option AV)(t:List AV)(h:List Ob)(rs:List rE):Option AV:=
 match uh Γ t h rs with
 |some [v]=>some v
 |some vs=>some (.aH vs)
 |none=>none
def leave(f:Fr)(up:List Fr)(h:List Ob)(j:Jump):ar:=
 match f.kind with
 |.round l=>match h[l]? with
  |some (.loop _ _ fn t ps a b)=>.back up (.bool (j==.none)) (h.set l (.loop (if j=.none then .ready else .done) j fn t ps a b))
  |_=>.bad
 |_=>match j with
  |.exit _=>.bad
  |_=>.fr {f with md:=.ret} up h
def wR(f:Fr)(up:List Fr):Option (AV×List Fr):=
 match f.kind with
 |.bK=>match up with
  |c::rest=>match c.md with
   |.dF v false=>some (v,{c with md:=.dF v true}::rest)
   |_=>some (.fv,up)
  |[]=>some (.fv,up)
 |.norm=>some (.fv,up)
 |.round _=>none
def gS(P:Program)(f:Fr)(up:List Fr)(h:List Ob)(o:AG)(os:List AG)(k:List It):R->ar
 |.val v h'=>.fr {f with its:=.ops os::k,t:=bl f.t o.dst v} up h'
 |.skip h'=>.fr {f with its:=.ops os::k,t:=bl f.t o.dst (.aH [])} up h'
 |.dF v=>.fr {f with md:=.dF v false} up h
 |.call g args=>if dv P g=true then .cl g args (f::up) h else .bad
 |.s8=>match wR f up with
  |some (v,up')=>.fr {f with its:=.ops os::k,t:=bl f.t o.dst v} up' h
  |none=>.bad
 |.bK g args=>match f.kind with
  |.round _=>.bad
  |_=>.fr {f with its:=.ops os::k,t:=bl f.t o.dst (.aH []),ds:=.call g args::f.ds} up h
 |.yield l args=>match h[l]? with
  |some (.loop _ _ fi t ps a b)=>
   if args.length=ps.length then
    .fr {md:=.run,fn:=fi,its:=[.code a,.beginRound,.code b],t:=kf t ps args,ds:=[],kind:=.round l,base:=h.length} (f::up) h
   else .bad
  |_=>.bad
 |.either=>.fr f up h
 |.bad=>.bad
def jE(P:Program)(Γ:Nat->Option AV)(f:Fr)(up:List Fr)(h:List Ob):List It->ar
 |.code .skip::k=>.fr {f with its:=k} up h
 |.code (.av os)::k=>.fr {f with its:=.ops os::k} up h
 |.code (.aR _ _ _)::_=>.bad
 |.code (.gM _ _)::_=>.bad
 |.code (.seq a b)::k=>.fr {f with its:=.code a::.code b::k} up h
 |.code (.cond x a b)::k=>match ax f.t x with
  |.bool v=>.fr {f with its:=.code (if v then a else b)::k} up h
  |_=>.bad
 |.code (.block id m b)::k=>.fr {f with its:=.code b::.inBlock id m::k} up h
 |.inBlock _ m::k=>.fr {f with its:=k,t:=dJ m f.t} up h
 |.code (.loop m b)::k=>.fr {f with its:=.code b::.inLoop m b::k,t:=dJ m f.t} up h
 |.inLoop m b::k=>.fr {f with its:=.code b::.inLoop m b::k,t:=dJ m f.t} up h
 |.code (.exit id)::k=>match pR id k with
  |some (k',m)=>.fr {f with its:=k',t:=dJ m f.t} up h
  |none=>leave f up h (.exit id)
 |.code .ret::_=>leave f up h .ret
 |[]=>leave f up h .none
 |.code .bad::_=>.bad
 |.ops []::k=>.fr {f with its:=k} up h
 |.ops (o::os)::k=>match dY f.t o.guard with
  |some true=>gS P f up h o os k (aD P Γ f.t h o.op)
  |some false=>.fr {f with its:=.ops os::k,t:=bl f.t o.dst (.aH [])} up h
  |none=>.bad
 |.code (.rangeFunc x ps m a b)::k=>match ax f.t x with
  |.fn (.func g) fs cs=>if dv P g=false then .bad else match f.kind with
   |.round _=>
    .cl g (fs++.de h.length::cs) ({f with its:=.j8 h.length::k}::up) (h++[.loop .ready .none f.fn (dJ m f.t) ps a b])
   |_=>
    .cl g (fs++.de (h.length+1)::cs) ({f with its:=.j8 (h.length+1)::k,ds:=.mark h.length::f.ds}::up)
     (h++[.bK true,.loop .ready .none f.fn (dJ m f.t) ps a b])
  |_=>.bad
 |.j8 _::_=>.bad
 |.beginRound::k=>match f.kind with
  |.round l=>match h[l]? with
   |some (.loop .ready j fn t ps a b)=>.fr {f with its:=k} up (h.set l (.loop .busy j fn t ps a b))
   |_=>.bad
  |_=>.bad
 |.wb l::k=>match h[l]? with
  |some (.loop st j fn t ps a b)=>
   if st=.busy then .bad
   else .fr {f with its:=(match j with|.none=>k|.ret=>.code .ret::k|.exit id=>.code (.exit id)::k)} up (h.set l (.loop .exhausted j fn t ps a b))
  |_=>.bad
def fC(n:Nat):List (AV×AV)->Bool
 |[]=>true
 |(a,b)::r=>aK n a&&aK n b&&fC n r
def iL(n:Nat):Ob->Bool
 |.cells cs=>aN n cs
 |.row _ _ es _ fl _=>fl||aN n es
 |.map es _=>fC n es
 |.loop _ _ _ t _ _ _=>aN n t
 |_=>true
def cz(n:Nat):List Ob->Bool
 |[]=>true
 |o::os=>iL n o&&cz n os
def lQ(n:Nat):List dO->Bool
 |[]=>true
 |.call _ args::ds=>aN n args&&lQ n ds
 |.mark i::ds=>decide (i<n)&&lQ n ds
def ir(n:Nat):List It->Bool
 |[]=>true
 |.j8 l::k=>decide (l<n)&&ir n k
 |.wb l::k=>decide (l<n)&&ir n k
 |_::k=>ir n k
mutual
def j0(i m:Nat):AV->Bool
 |.sl j off n=>!(j==i)||off+n==m
 |.dw a _ _ _=>j0 i m a
 |.agg cs=>dx i m cs
 |.aH cs=>dx i m cs
 |.fn _ a b=>dx i m a&&dx i m b
 |.bW _ v=>j0 i m v
 |.dG ks vs=>aN 0 ks&&aN 0 vs
 |_=>true
def dx(i m:Nat):List AV->Bool
 |[]=>true
 |a::as=>j0 i m a&&dx i m as
end
def o_(i m:Nat):List (AV×AV)->Bool
 |[]=>true
 |(a,b)::r=>j0 i m a&&j0 i m b&&o_ i m r
def nh(i m:Nat):Ob->Bool
 |.cells cs=>dx i m cs
 |.row _ _ es _ fl _=>fl||dx i m es
 |.map es _=>o_ i m es
 |.loop _ _ _ t _ _ _=>dx i m t
 |_=>true
def c8(i m:Nat):List Ob->Bool
 |[]=>true
 |o::os=>nh i m o&&c8 i m os
def pV(i m:Nat):List dO->Bool
 |[]=>true
 |.call _ args::ds=>dx i m args&&pV i m ds
 |.mark _::ds=>pV i m ds
def qW(h:List Ob)(all:List Nat):AV->Option AV
 |.sl i off n=>
  match h[i]? with
  |some (.row k E es g true sh)=>
   if cW es g off n=true then
    if off=0/\n=es.length/\sh=false/\all.count i=1 then some (.own k E es)else some (.list false k ((es.drop off).take n))
   else none
  |_=>none
 |.list f k es=>some (.list f k es)
 |a=>view h a
def kY(h:List Ob)(all:List Nat):List AV->Option (List AV)
 |[]=>some []
 |a::as=>
  match qW h all a,kY h all as with
  |some a',some h2=>some (a'::h2)
  |_,_=>none
def wU(h:List Ob):AV->Option AV
 |.aH vs=>(kY h (b_ vs) vs).map .aH
 |a=>qW h (rowsOf a) a
mutual
def eS:AV->Bool
 |.list _ _ es=>es.isEmpty
 |.dG _ _=>false
 |.own _ _ es=>fF es
 |.agg cs=>fF cs
 |.aH cs=>fF cs
 |.fn _ a b=>fF a&&fF b
 |.bW _ v=>eS v
 |.dw a _ _ _=>eS a
 |_=>true
def fF:List AV->Bool
 |[]=>true
 |a::as=>eS a&&fF as
end
def eV(h:List Ob)(args:List AV)(r:AV):List Ob:=
 (if eS r=true then h else share (b_ args) h)++(er h.length r).2
def dK:AO->Nat
 |.load _ _ _|.slice _ _ _ _|.toStr _|.lookup _ _ _ _ _|.uv _=>1
 |.cS _ _|.alloc _|.box _ _|.lit _ _ _|.store _ _ _|.Aq _ _|.mkMap|.mkSlice _ _ _ _ _ _|.slice3 _ _ _ _ _|.bP _ _ _ _|.range _|.next _
 |.append _ _ _ _ _|.sx _ _ _ _ _ _|.delete _ _ _|.clear _ _ _|.mark _|.call _ _|.invoke _ _ _=>2
 |.recover|.panic _|.defer _ _|.kT _ _=>3
 |_=>0
def g_:AO->Bool
 |.call _ _|.invoke _ _ _=>true
 |_=>false
def lg(q:Bool)(o:AO):Nat:=if q&&g_ o then 1 else dK o
inductive jM where
 |fn (f:FuncId)
 |yl (l:Nat)
 deriving Inhabited
def jM.cfg:jM->List AV->List Fr->List Ob->ar
 |.fn f,args,up,h=>.cl f args up h
 |.yl l,args,up,h=>match h[l]? with
  |some (.loop _ _ fi t ps a b)=>
   if args.length=ps.length then
    .fr {md:=.run,fn:=fi,its:=[.code a,.beginRound,.code b],t:=kf t ps args,ds:=[],kind:=.round l,base:=h.length} up h
   else .bad
  |_=>.bad
def jM.ok(P:Program):jM->Bool
 |.fn f=>dv P f
 |.yl _=>true
def R.E8:R->Option (jM×List AV)
 |.call f as=>some (.fn f,as)
 |.yield l as=>some (.yl l,as)
 |_=>none
structure iw where
 f:jM
 args:List AV
 h:List Ob
 v:AV
 h':List Ob
 deriving Inhabited
def jm(P:Program)(Γ:Nat->Option AV):List (AV×List Ob)->List AG->List AV->List Ob->Option (List AV×List Ob×List iw×List (List Ob))
 |_,[],t,h=>some (t,h,[],[])
 |h2,o::os,t,h=>
  match dY t o.guard with
  |some true=>
   match aD P Γ t h o.op with
   |.val v h'=>(jm P Γ h2 os (bl t o.dst v) h').map fun r=>(r.1,r.2.1,r.2.2.1,h'::r.2.2.2)
   |.skip h'=>(jm P Γ h2 os (bl t o.dst (.aH [])) h').map fun r=>(r.1,r.2.1,r.2.2.1,h'::r.2.2.2)
   |.call f args=>if dv P f=false then none else match h2 with
    |(v,h')::h2=>(jm P Γ h2 os (bl t o.dst v) h').map fun r=>(r.1,r.2.1,⟨.fn f,args,h,v,h'⟩::r.2.2.1,h'::r.2.2.2)
    |[]=>none
   |.yield l args=>match h2 with
    |(v,h')::h2=>(jm P Γ h2 os (bl t o.dst v) h').map fun r=>(r.1,r.2.1,⟨.yl l,args,h,v,h'⟩::r.2.2.1,h'::r.2.2.2)
    |[]=>none
   |_=>none
  |some false=>(jm P Γ h2 os (bl t o.dst (.aH [])) h).map fun r=>(r.1,r.2.1,r.2.2.1,h::r.2.2.2)
  |none=>none
def calm(P:Program)(Γ:Nat->Option AV)(obls:List iw)(hs:List (List Ob)):List Bool->List Nat->List (AV×List Ob)->List AG->List AV->List Ob->Prop
 |_,_,_,[],_,_=>True
 |l,ws,h2,o::os,t,h=>
  match dY t o.guard with
  |some true=>
   match aD P Γ t h o.op with
   |.val v h'=>(l.headD true=true->dK o.op=1->∀g∈hs.take (ws.headD 0),aD P Γ t g o.op=.val v g)/\calm P Γ obls hs l.tail ws.tail h2 os (bl t o.dst v) h'
   |.skip h'=>calm P Γ obls hs l.tail ws.tail h2 os (bl t o.dst (.aH [])) h'
   |.call f args=>match h2 with
    |(v,h')::h2=>(l.headD true=true->h'=h/\∀g∈hs.take (ws.headD 0),aD P Γ t g o.op=.call f args/\⟨.fn f,args,g,v,g⟩∈obls)/\calm P Γ obls hs l.tail ws.tail h2 os (bl t o.dst v) h'
    |[]=>False
   |.yield _ _=>match h2 with
    |(v,h')::h2=>l.headD true=false/\calm P Γ obls hs l.tail ws.tail h2 os (bl t o.dst v) h'
    |[]=>False
   |_=>False
  |some false=>calm P Γ obls hs l.tail ws.tail h2 os (bl t o.dst (.aH [])) h
  |none=>False
def ay:Operand->AX
 |.tmp t=>.t t
 |.const v=>.c (ia v)
 |.global g=>.g g
 |.func f=>.f f
def mU(P:Program)(t:TypeId):Option Nat:=(P.info? t).map (·.bytes)
def eB(P:Program)(t:TypeId):Option AV:=((P.info? t).bind (·.zero)).map ia
def mi(P:Program)(t:TypeId):Option TypeId:=match P.underlying t with|some (.slice e)=>some e|_=>none
def lT(k:Nat)(z:AV):Bool:=decide (z.cells.length=k)&&cr z.cells&&aN 0 z.cells
def DG(P:Program):Nat->TypeId->Option (List AV)
 |0,_=>none
 |n+1,t=>match P.underlying t with
  |some (.slice e)=>match bH P e with
   |some (k+1)=>some [.own (k+1) e []]
   |_=>none
  |some (.struct fs)=>(fs.toList.mapM fun f=>DG P n f.type).map List.flatten
  |some (.array k e)=>(DG P n e).map fun c=>(List.replicate k c).flatten
  |_=>(eB P t).map AV.cells
def Dg:AV->Value->AV
 |.own (k+1) E [],.slice none 0 0=>.own (k+1) E []
 |_,v=>lG v
def rC:List AV->List Value->Option (List AV)
 |[],[]=>some []
 |a::as,v::vs=>(rC as vs).map (Dg a v::·)
 |_,_=>none
def l9(P:Program)(t:TypeId):Option SK:=if P.cellsOf t==1 then(match P.underlying t with
 |some (.int _)=>some .int
 |some .string=>some .str
 |some .bool=>some .bool
 |_=>none)else none
def uG(P:Program):Nat->List Field->Option (List SK)
 |_,[]=>some []
 |i,f::fs=>match l9 P f.type,uG P (i+1) fs with
  |some s,some ss=>if f.name != "_" &&f.offset==i then some (s::ss)else none
  |_,_=>none
def wP(P:Program)(t:TypeId):Option (List SK):=match P.underlying t with
 |some (.struct fs)=>if !P.stoodInHeld t then uG P 0 fs.toList else none
 |some (.array n e)=>(l9 P e).map fun s=>List.replicate n s
 |_=>none
def jR(P:Program)(t:TypeId):Option EK:=match l9 P t with
 |some s=>some (.sc s)
 |none=>(wP P t).map .km
def qX(P:Program)(t:TypeId):Option EK:=match l9 P t with
 |some s=>some (.sc s)
 |none=>match P.underlying t with
  |some (.struct _)|some (.array _ _)=>if !P.eqGuardType P.depth t then(wP P t).map .km else none
  |some (.interface _)=>some .iface
  |some (.func _ _ _)=>some .nil
  |_=>none
def sR:BinOp->Option CK
 |.eql=>some .eql|.neq=>some .neq|.lss=>some .lss|.leq=>some .leq|.gtr=>some .gtr|.geq=>some .geq
 |_=>none
def J2:BinOp->Option IB
 |.add=>some .add|.sub=>some .sub|.mul=>some .mul|.quo=>some .quo|.rem=>some .rem|.and=>some .and
 |.or=>some .or|.xor=>some .xor|.andNot=>some .andNot|.shl=>some .shl|.shr=>some .shr
 |_=>none
def placeOf(P:Program)(t:TypeId)(i:Nat):Option (Nat×Nat):=match P.underlying t with
 |some (.struct fs)=>match fs[i]? with
  |some f=>(bH P f.type).map fun s=>(f.offset,s)
  |none=>none
 |some (.array _ e)=>(bH P e).map fun s=>(i*s,s)
 |_=>none
def zS(P:Program)(t:TypeId):Bool:=match P.underlying t with
 |some (.struct fs)=>fs.toList.all fun f=>(bH P f.type).isSome
 |some (.array _ e)=>(bH P e).isSome
 |_=>false
def q_(P:Program)(t:TypeId)(ps:List (Nat×Operand)):Option (List (Nat×Nat×AX)):=
 ps.mapM fun(i,x)=>(placeOf P t i).map fun(o,s)=>(o,s,ay x)
def nY(P:Program)(c:Call):Option AO:=match c.callee with
 |.value f=>some (.call (ay f) (c.args.toList.map ay))
 |.invoke x name=>some (.invoke (ay x) name (c.args.toList.map ay))
 |.builtin b=>
  match b,c.args.toList,c.argTypes.toList with
  |.len,[x],[t]=>match P.underlying t with
   |some .string=>some (.nS (ay x))
   |some (.slice _)=>some (.len (ay x))
   |some (.array n _)=>some (.Jv n)
   |some (.map _ _)=>some (.uv (ay x))
   |_=>none
  |.cap,[x],[t]=>match P.underlying t with
   |some (.slice _)=>some (.cap (ay x))
   |_=>none
  |.append,[x,y],[t,u]=>do
   let e<-mi P t
   let k<-bH P e
   let b<-mU P e
   let z<-eB P e
   if k=0\/b=0\/lT k z=false then none
   match P.underlying u with
   |some (.int _)=>some (.sx k e b z (ay x) (ay y))
   |some _=>some (.append k e b (ay x) (ay y))
   |none=>none
  |.delete,[m,k],[t,_]=>match P.underlying t with
   |some (.map key _)=>(jR P key).map fun e=>.delete e (ay m) (ay k)
   |_=>none
  |.clear,[x],[t]=>do
   let e<-mi P t
   let k<-bH P e
   let z<-eB P e
   if k=0\/lT k z=false then none
   some (.clear k z (ay x))
  |.min,xs,_=>some (.min (xs.map ay))
  |.max,xs,_=>some (.max (xs.map ay))
  |.recover,[],_=>some .recover
  |_,_,_=>none
def cg(P:Program)(o:Oper):Option AO:=match o.op with
 |.move x=>some (.mv (ay x))
 |.assign x=>match x with
  |.const (.slice none 0 0)=>do
   let e<-mi P o.type
   let k<-bH P e
   if k=0 then none
   some (.cS k e)
  |_=>some (.mv (ay x))
 |.pick c a b=>some (.pick (ay c) (ay a) (ay b))
 |.alloc t=>do
  let z<-(P.info? t).bind (·.zero)
  some (.alloc (<-rC (<-DG P 8 t) z.cells.toList))
 |.box t x=>do some (.box (<-bH P t) (ay x))
 |.build t ps=>do
  let z<-eB P t
  if zS P t then some (.build z.cells (<-q_ P t ps.toList))else none
 |.buildSlice t n ps=>do
  let e<-mi P t
  let k<-bH P e
  let z<-eB P e
  if k=0\/n*k>2^24\/lT k z=false then none
  some (.lit k (List.replicate n z) (ps.toList.map fun(i,x)=>(i,ay x)))
 |.load t a=>do some (.load (<-iu P t) (<-bH P t) (ay a))
 |.store t a x=>do some (.store (<-bH P t) (ay a) (ay x))
 |.nilCheck x=>some (.bw (ay x))
 |.binOp op t x y _=>match P.underlying t with
  |some (.int _)=>match sR op with
   |some c=>some (.cmp c (.sc .int) (ay x) (ay y))
   |none=>(J2 op).map fun b=>.cp b (ay x) (ay y)
  |some .string=>if op=.add then some (.concat (ay x) (ay y))else match sR op,qX P t with
   |some c,some e=>some (.cmp c e (ay x) (ay y))
   |_,_=>none
  |some (.slice _)=>match op,x,y with
   |.eql,x,.const (.slice none 0 0)=>some (.kT false (ay x))
   |.neq,x,.const (.slice none 0 0)=>some (.kT true (ay x))
   |_,_,_=>none
  |_=>match sR op,qX P t with
   |some c,some e=>some (.cmp c e (ay x) (ay y))
   |_,_=>none
 |.unOp op _ x=>match op with
  |.not=>some (.not (ay x))
  |.neg=>some (.neg (ay x))
  |.xor=>some (.JF (ay x))
  |.plus=>none
 |.convert s d x=>match P.underlying s,P.underlying d with
  |some (.int _),some (.int k)=>some (.conv k (ay x))
  |some .string,some .string=>some (.same (ay x))
  |some .string,some (.slice e)=>match P.underlying e with
   |some (.int .u8)=>if bH P e=some 1 then some (.Aq e (ay x))else none
   |_=>none
  |some (.slice _),some (.slice e)=>match P.underlying e with
   |some (.int .u8)=>if s=d then some (.mark (ay x))else none
   |_=>none
  |some (.slice e),some .string=>match P.underlying e with
   |some (.int .u8)=>some (.toStr (ay x))
   |_=>none
  |_,_=>none
 |.makeInterface t x=>match P.underlying t with
  |some (.interface _)|none=>none
  |_=>some (.kM t (ay x))
 |.makeFunc f a b=>some (.fO f (a.toList.map ay) (b.toList.map ay))
 |.makeMap t none=>match P.underlying t with
  |some (.map _ _)=>some .mkMap
  |_=>none
 |.makeSlice t n c=>do
  let e<-mi P t
  let k<-bH P e
  let z<-eB P e
  if k=0\/lT k z=false then none
  some (.mkSlice k e (<-mU P e) z (ay n) (ay c))
 |.slice t x lo hi none=>match P.underlying t with
  |some .string=>some (.CV (ay x) (lo.map ay) (hi.map ay))
  |some (.slice e)=>match bH P e with
   |some (k+1)=>some (.slice (k+1) (ay x) (lo.map ay) (hi.map ay))
   |_=>none
  |_=>none
 |.slice t x lo (some hi) (some mx)=>match P.underlying t with
  |some (.slice e)=>match bH P e with
   |some (k+1)=>some (.slice3 (k+1) (ay x) (lo.map ay) (ay hi) (ay mx))
   |_=>none
  |_=>none
 |.fieldAddr t x i=>match P.underlying t with
  |some (.struct fs)=>match fs[i]? with
   |some f=>match bH P f.type with
    |some (_+1)=>some (.off f.offset (ay x))
    |_=>none
   |none=>none
  |_=>none
 |.field t x i=>match P.underlying t with
  |some (.struct fs)=>match fs[i]? with
   |some f=>do some (.Lb (<-iu P f.type) f.offset (<-bH P f.type) (ay x))
   |none=>none
  |_=>none
 |.indexAddr t x i=>match P.underlying t with
  |some (.slice e)=>match bH P e with
   |some (k+1)=>some (.rb (k+1) (ay x) (ay i))
   |_=>none
  |some (.array n e)=>match bH P e with
   |some (k+1)=>some (.gh n (k+1) (ay x) (ay i))
   |_=>none
  |_=>none
 |.index t x i=>match P.underlying t with
  |some .string=>some (.uK (ay x) (ay i))
  |some (.array n e)=>do some (.Jx n (<-iu P e) (<-bH P e) (ay x) (ay i))
  |_=>none
 |.lookup t x i ok=>match P.underlying t with
  |some (.map k e)=>do some (.lookup (<-jR P k) (<-eB P e) (ay x) (ay i) ok)
  |_=>none
 |.mapUpdate t m k x|.insert t m k x=>match P.underlying t with
  |some (.map key _)=>(jR P key).map fun e=>.bP e (ay m) (ay k) (ay x)
  |_=>none
 |.range t x=>match P.underlying t with
  |some .string=>some (.range (ay x))
  |_=>none
 |.next x true=>some (.next (ay x))
 |.typeAssert x _ t ok=>match P.underlying t with
  |some (.interface _)|none=>none
  |_=>do some (.um (ay x) t (<-eB P t) ok)
 |.extract x i=>some (.extract (ay x) i)
 |.call c=>nY P c
 |.defer c=>match c.callee with
  |.value f=>some (.defer (ay f) (c.args.toList.map ay))
  |_=>none
 |.panic x=>some (.panic (ay x))
 |_=>none
def DE(ops:List Oper)(o:Oper):Option (Option (Nat×Bool)):=match o.guard with
 |none=>some none
 |some (j,b)=>match(ops[j]?).bind (·.dst)with
  |some d=>some (some (d,b))
  |none=>none
def pf(P:Program)(ops:List Oper)(o:Oper):Option AG:=do
 let g<-DE ops o
 some ⟨o.dst,g,<-cg P o⟩
def eW:AX->List Nat
 |.t i=>[i]
 |_=>[]
def l_:AO->List Nat
 |.mv x|.box _ x|.load _ _ x|.bw x|.not x|.neg x|.JF x|.conv _ x|.same x|.kT _ x|.mark x|.Aq _ x|.toStr x|.kM _ x|.off _ x|.Lb _ _ _ x
 |.range x|.next x|.um x _ _ _|.extract x _|.len x|.nS x|.cap x|.uv x|.clear _ _ x|.panic x=>eW x
 |.pick c a b|.bP _ c a b=>eW c++eW a++eW b
 |.build _ ps=>ps.flatMap fun p=>eW p.2.2
 |.lit _ _ ps=>ps.flatMap fun p=>eW p.2
 |.store _ a x|.cp _ a x|.cmp _ _ a x|.concat a x|.rb _ a x|.gh _ _ a x|.uK a x|.Jx _ _ _ a x|.lookup _ _ a x _|.append _ _ _ a x
 |.sx _ _ _ _ a x|.delete _ a x|.mkSlice _ _ _ _ a x=>eW a++eW x
 |.fO _ a b=>a.flatMap eW++b.flatMap eW
 |.CV x lo hi|.slice _ x lo hi=>eW x++(lo.map eW).getD []++(hi.map eW).getD []
 |.slice3 _ x lo hi mx=>eW x++(lo.map eW).getD []++eW hi++eW mx
 |.min xs|.max xs=>xs.flatMap eW
 |.call f xs|.defer f xs=>eW f++xs.flatMap eW
 |.invoke x _ xs=>eW x++xs.flatMap eW
 |.alloc _|.cS _ _|.mkMap|.Jv _|.recover=>[]
def uk(g:AG):List Nat:=(g.guard.map fun x=>[x.1]).getD []++l_ g.op
def Tz(b:Array Nat)(i j:Nat):Bool:=if j<i then(b.getD i 0).testBit j else(b.getD j 0).testBit i
def quietAt(b:Array Nat)(gs:List AG)(i:Nat):Bool:=
 match gs[i]? with
 |none=>false
 |some gi=>g_ gi.op&&(List.range gs.length).any fun j=>
  match gs[j]? with
  |none=>false
  |some gj=>dK gj.op==2&&!g_ gj.op&&!Tz b i j
def nU(qi qj:Bool)(gi gj:AG)(mA:Bool):Bool:=
 (gi.dst.isNone||gi.dst !=gj.dst)&&
 (mA||((match gj.dst with|some d=>!(uk gi).contains d|none=>true)&&(match gi.dst with|some d=>!(uk gj).contains d|none=>true)&&
  !(lg qi gi.op==2&&lg qj gj.op==2)))
def wi(ops:Array Oper)(gs:List AG):Bool:=
 let b:=Region.before ops
 (List.range gs.length).all fun i=>
  match gs[i]? with
  |none=>false
  |some gi=>dK gi.op !=3&&(List.range i).all fun j=>
   match gs[j]? with
   |none=>false
   |some gj=>nU (quietAt b gs i) (quietAt b gs j) gi gj ((b.getD i 0).testBit j)
def looseAt(b:Array Nat)(gs:List AG)(i:Nat):Bool:=
 match gs[i]? with
 |none=>true
 |some gi=>if g_ gi.op then quietAt b gs i else dK gi.op==1&&(List.range gs.length).any fun j=>
  match gs[j]? with
  |none=>true
  |some gj=>lg (quietAt b gs j) gj.op==2&&!Tz b i j
def nT(ops:Array Oper)(gs:List AG):List Bool:=(List.range gs.length).map (looseAt (Region.before ops) gs)
def DV(b:Array Nat)(gs:List AG)(i:Nat):Nat:=
 ((List.range gs.length).find? fun j=>decide (i<j)&&(match gs[j]? with
  |none=>false
  |some gj=>lg (quietAt b gs j) gj.op==2&&(b.getD j 0).testBit i)).getD gs.length+1
def wX(ops:Array Oper)(gs:List AG):List Nat:=(List.range gs.length).map (DV (Region.before ops) gs)
def pI(ops:Array Oper):Bool:=ops.toList.zipIdx.all fun x=>x.1.after.all fun e=>!Region.binds .any e||decide (e.on<x.2)
def Ar(P:Program)(ops:Array Oper)(gs:List AG):Bool:=wi ops gs&&pI ops&&(P.follows .mixedOrders||!Region.departs ops)
def oQ(ops:Array Oper):List (List Nat):=ops.toList.map fun o=>(o.after.toList.filter (Region.binds .any)).map (·.on)
def gE(P:Program):Code->aj
 |.skip|.label _=>.skip
 |.region _ ops draw=>match ops.toList.mapM (pf P ops.toList)with
  |some gs=>if draw then(if Ar P ops gs then .aR (nT ops gs) (wX ops gs) gs else if pI ops&&(P.follows .mixedOrders||!Region.departs ops)then .gM (oQ ops) gs else .bad)else .av gs
  |none=>.bad
 |.seq a b=>.seq (gE P a) (gE P b)
 |.cond c a b=>.cond (ay c) (gE P a) (gE P b)
 |.block id c=>.block id [] (gE P c)
 |.loop c=>.loop [] (gE P c)
 |.exit id=>.exit id
 |.ret=>.ret
 |.rangeFunc f ps a b=>.rangeFunc (ay f) ps.toList [] (gE P a) (gE P b)
 |.scope _|.goto _|.refuse _=>.bad
def ins(x:Nat)(l:List Nat):List Nat:=if l.contains x then l else x::l
def uR(xs l:List Nat):List Nat:=xs.foldl (fun l x=>ins x l) l
def Rh:List AG->List Nat->List Nat
 |[],out=>out
 |o::os,out=>
  let l:=Rh os out
  let l:=match o.dst with
   |some d=>l.filter (· !=d)
   |_=>l
  uR ((o.guard.map fun g=>[g.1]).getD []) (uR (l_ o.op) l)
def live(rs:List Nat):aj->List (Nat×List Nat)->List Nat->List Nat
 |.skip,_,out=>out
 |.av os,_,out|.aR _ _ os,_,out|.gM _ os,_,out=>Rh os out
 |.seq a b,E,out=>live rs a E (live rs b E out)
 |.cond x a b,E,out=>uR (eW x) (uR (live rs a E out) (live rs b E out))
 |.block id _ c,E,out=>live rs c ((id,out)::E) out
 |.loop _ c,E,_=>
  let x:=live rs c E []
  let x:=live rs c E x
  live rs c E x
 |.rangeFunc f ps _ a b,_,out=>
  uR (eW f) (uR ((live rs a [] (live rs b [] rs)).filter fun s=>!ps.contains s) (uR rs out))
 |.exit id,E,_=>(E.lookup id).getD rs
 |.ret,_,_=>rs
 |.bad,_,_=>[]
def Jh(nt:Nat)(x:List Nat):List Bool:=(List.range nt).map x.contains
def aji:aj->Bool
 |.loop _ _=>true
 |_=>false
def ic(rs:List Nat)(nt:Nat):aj->List (Nat×List Nat)->List Nat->aj
 |.seq a b,E,out=>.seq (ic rs nt a E (live rs b E out)) (ic rs nt b E out)
 |.cond x a b,E,out=>.cond x (ic rs nt a E out) (ic rs nt b E out)
 |.block id _ c,E,out=>.block id (if aji c then Jh nt out else[]) (ic rs nt c ((id,out)::E) out)
 |.loop _ c,E,out=>
  let x:=live rs (.loop [] c) E out
  .loop (Jh nt x) (ic rs nt c E x)
 |.rangeFunc f ps _ a b,_,_=>
  let x:=live rs b [] rs
  .rangeFunc f ps (Jh nt ((live rs a [] x).filter fun s=>!ps.contains s)) (ic rs nt a [] x) (ic rs nt b [] rs)
 |c,_,_=>c
def pW(P:Program):ResultVar->Option rE
 |.tmp t=>some (.tmp t)
 |.cell a t=>do some (.cell a (<-iu P t) (<-bH P t))
def ahs:rE->Nat
 |.tmp t=>t
 |.cell a _ _=>a
def nb(P:Program)(f:FuncId):Option aF:=do
 let fn<-P.funcs[f]?
 let b<-fn.body
 let rs<-fn.results.toList.mapM (pW P)
 let sl:=rs.map ahs
 some {body:=ic sl fn.ntmps (gE P b) [] sl,nt:=fn.ntmps,res:=rs}
def oL(P:Program)(Γ:Nat->Option AV)(f:Fr)(up:List Fr)(h:List Ob):ar:=
 match f.ds with
 |.mark i::ds=>match h[i]? with
  |some (.bK true)=>.fr {f with ds} up (h.set i (.bK false))
  |_=>.bad
 |.call g args::ds=>if dv P g=false then .bad else match nb P g with
  |some F=>.fr (enter g F args .bK h) ({f with ds}::up) h
  |none=>.bad
 |[]=>match f.md with
  |.run=>.bad
  |.dF v rc=>if rc then .bad else .die up v h
  |.ret=>match nb P f.fn with
   |some F=>match C7 Γ f.t h F.res with
    |some v=>match f.kind with
     |.norm=>.back up v h
     |.bK=>match up with
      |c::rest=>match c.md with
       |.dF _ true=>.fr {c with md:=.ret} rest h
       |.dF _ false=>.fr c rest h
       |.ret=>.fr c rest h
       |.run=>.bad
      |[]=>.bad
     |.round _=>.bad
    |none=>.bad
   |none=>.bad
def iG(P:Program)(Γ:Nat->Option AV):ar->ar
 |.fr f up h=>match f.md with
  |.run=>jE P Γ f up h f.its
  |_=>oL P Γ f up h
 |.cl g args up h=>match nb P g with
  |some F=>.fr (enter g F args .norm h) up h
  |none=>.bad
 |.back (c::up) v h=>match c.finish v with
  |some c'=>.fr c' up h
  |none=>.bad
 |.back [] v h=>.back [] v h
 |.die (c::up) v h=>match c.md with
  |.run=>.fr {c with md:=.dF v false} up h
  |_=>.bad
 |.die [] v h=>.die [] v h
 |.bad=>.bad
open Go.RowKit
structure G where
 ρ:Nat->Option (Nat×Nat×Nat)
 M:Nat->Nat->Option Value
 MM:Nat->Option (Array MapEntry×Nat)
def E5(g:G)(h:List Ob)(i off n:Nat)(v:Value):Prop:=
 ∃k E es gr fl sh,h[i]? =some (.row k E es gr fl sh)/\off+n<=es.length/\∃a cap,v=.slice a n cap/\n<=cap/\(0<n->∃b o,a=some ⟨b,o,none⟩)/\
  (cW es gr off n=true->es.length<=off+cap/\(
   (n=0/\cap=0)\/∃b sz st,g.ρ i=some (b,sz,st)/\st<=off/\a=some ⟨b,(off-st)*k,none⟩/\((off-st)+cap)*k<=sz))
def isCells(h:List Ob)(i:Nat):Prop:=∃vs,h[i]? =some (.cells vs)
def isMap(h:List Ob)(i:Nat):Prop:=∃es fl,h[i]? =some (.map es fl)
def SI(h:List Ob)(i:Nat):Prop:=∃s p,h[i]? =some (.jf s p)
def Jm(h:List Ob)(i:Nat):Prop:=∃st j fn t ps a b,h[i]? =some (.loop st j fn t ps a b)
def DS:Value->Option Addr
 |.slice a _ _=>a
 |_=>none
mutual
def V(g:G)(h:List Ob):AV->Value->Prop
 |.undef,_=>True
 |.bool b,v=>v=.bool b
 |.int k n,v=>v=.int k n
 |.str s,v=>v=.string ⟨s.toArray⟩
 |.jn,v=>v=.pointer none
 |.dk,v=>v=.map none
 |.dn,v=>v=.nilFunc
 |.fv,v=>v=.nilIface
 |.list full k es,v=>cG es k=true/\∃a cap,v=.slice a es.length cap/\(full=true->cap=es.length)/\es.length<=cap/\
  (es=[]\/∃b o vs,a=some ⟨b,o,none⟩/\VE g h es vs/\∀j(hj:j<vs.length),g.M b (o+j)=some vs[j])
 |.own _ _ _,_=>False
 |.sl i off n,v=>E5 g h i off n v
 |.dw a k ix off,v=>∃u b o,V g h a u/\DS u=some ⟨b,o,none⟩/\(∃m,pY a=some m/\ix<m)/\v=.pointer (some ⟨b,o+ix*k+off,none⟩)
 |.ptr i off,v=>isCells h i/\∃b sz,g.ρ i=some (b,sz,0)/\v=.pointer (some ⟨b,off,none⟩)
 |.eP n off,v=>v=.pointer (some ⟨n,off,none⟩)
 |.mp i,v=>isMap h i/\∃b sz,g.ρ i=some (b,sz,0)/\v=.map (some b)
 |.dG ks us,v=>∃b es ck,v=.map (some b)/\g.MM b=some (es,ck)/\VL g h ks (es.toList.map (·.key))/\VL g h us (es.toList.map (·.val))
 |.it i,v=>SI h i/\∃b sz,g.ρ i=some (b,sz,0)/\v=.pointer (some ⟨b,0,none⟩)
 |.de i,v=>Jm h i/\∃b sz,g.ρ i=some (b,sz,0)/\v=.func (.yield b) #[] #[]
 |.agg cs,v=>∃vs,v=.agg vs.toArray/\VL g h cs vs
 |.aH cs,v=>∃vs,v=.tuple vs.toArray/\VL g h cs vs
 |.fn f a b,v=>∃xs ys,v=.func f xs.toArray ys.toArray/\VL g h a xs/\VL g h b ys
 |.bW t a,v=>∃x,v=.iface t x/\V g h a x
def VL(g:G)(h:List Ob):List AV->List Value->Prop
 |[],vs=>vs=[]
 |a::as,vs=>∃v vs',vs=v::vs'/\V g h a v/\VL g h as vs'
def VE(g:G)(h:List Ob):List AV->List Value->Prop
 |[],vs=>vs=[]
 |e::es,vs=>∃v vs',V g h e v/\vs=v.cells.toList++vs'/\VE g h es vs'
end
section
variable{g:G}{h:List Ob}
theorem gX:∀{as:List AV}{vs:List Value},VL g h as vs->vs.length=as.length
 |[],vs,hv=>by simp only[VL]at hv;simp[hv]
 |a::as,vs,hv=>by
  simp only[VL]at hv;obtain⟨v,vs',rfl,_,hr⟩:=hv;simp[gX hr]
theorem uy:∀{as:List AV}{vs:List Value}(i:Nat),VL g h as vs->V g h (as.getD i .undef) (vs.getD i undef)
 |[],vs,i,hv=>by simp[V]
 |a::as,vs,i,hv=>by
  simp only[VL]at hv;obtain⟨v,vs',rfl,h1,hr⟩:=hv
  cases i with
  |zero=>simpa using h1
  |succ i=>simpa using uy i hr
theorem sy:∀{as:List AV}{vs:List Value}{i:Nat}{a:AV},VL g h as vs->as[i]? =some a->∃v,vs[i]? =some v/\V g h a v
 |[],vs,i,a,hv,ha=>by simp at ha
 |b::as,vs,i,a,hv,ha=>by
  simp only[VL]at hv;obtain⟨v,vs',rfl,h1,hr⟩:=hv
  cases i with
  |zero=>simp at ha;subst ha;exact⟨v,by simp,h1⟩
  |succ i=>simp at ha;obtain⟨u,h2,h3⟩:=sy hr ha;exact⟨u,by simpa using h2,h3⟩
theorem ra:∀{as:List AV}{vs:List Value}(i:Nat){a:AV}{v:Value},VL g h as vs->V g h a v->VL g h (as.set i a) (vs.set i v)
 |[],vs,i,a,v,hv,ha=>by simp only[VL]at hv;simp[hv,VL]
 |b::as,vs,i,a,v,hv,ha=>by
  simp only[VL]at hv;obtain⟨u,vs',rfl,h1,hr⟩:=hv
  cases i with
  |zero=>simp only[xv,VL];exact⟨v,vs',rfl,ha,hr⟩
  |succ i=>simp only[rQ,VL];exact⟨u,_,rfl,h1,ra i hr ha⟩
theorem l7:∀{as bs:List AV}{vs ws:List Value},VL g h as vs->VL g h bs ws->VL g h (as++bs) (vs++ws)
 |[],bs,vs,ws,hv,hw=>by simp only[VL]at hv;subst hv;simpa using hw
 |a::as,bs,vs,ws,hv,hw=>by
  simp only[VL]at hv;obtain⟨v,vs',rfl,h1,hr⟩:=hv;simp only[eH,VL];exact⟨v,vs'++ws,rfl,h1,l7 hr hw⟩
theorem Dt:∀{as:List AV}{vs:List Value}(n:Nat),VL g h as vs->VL g h (as.take n) (vs.take n)
 |[],vs,n,hv=>by simp only[VL]at hv;subst hv;simp[VL]
 |a::as,vs,n,hv=>by
  simp only[VL]at hv;obtain⟨v,vs',rfl,h1,hr⟩:=hv
  cases n with
  |zero=>simp[VL]
  |succ n=>simp only[LS,VL];exact⟨v,_,rfl,h1,Dt n hr⟩
theorem Du:∀{as:List AV}{vs:List Value}(n:Nat),VL g h as vs->VL g h (as.drop n) (vs.drop n)
 |[],vs,n,hv=>by simp only[VL]at hv;subst hv;simp[VL]
 |a::as,vs,n,hv=>by
  have h2:=hv;simp only[VL]at hv;obtain⟨v,vs',rfl,h1,hr⟩:=hv
  cases n with
  |zero=>simpa using h2
  |succ n=>simpa using Du n hr
theorem rh{α:Type}{f:α->AV}{e:α->Value}(hf:∀x,V g h (f x) (e x)):∀(l:List α),VL g h (l.map f) (l.map e)
 |[]=>by simp[VL]
 |x::l=>by simp only[bX,VL];exact⟨_,_,rfl,hf x,rh hf l⟩
theorem QY:∀(n:Nat)(vs:List Value),vs.length=n->VL g h (List.replicate n .undef) vs
 |0,vs,hl=>by
  have:vs=[]:=lq.1 hl;simp[this,VL]
 |n+1,vs,hl=>by
  cases vs with
  |nil=>simp at hl
  |cons v vs=>simp only[mE,VL];exact⟨v,vs,rfl,by simp[V],QY n vs (by simpa using hl)⟩
theorem qT:∀(m:List Bool){as:List AV}{vs:List Value},VL g h as vs->VL g h (dJ m as) vs
 |[],as,vs,hv=>by cases as<;>simpa[dJ]using hv
 |_::_,[],vs,hv=>by simpa[dJ]using hv
 |b::m,a::as,vs,hv=>by
  simp only[VL]at hv;obtain⟨v,vs',rfl,h1,hr⟩:=hv
  cases b
  ·simp only[dJ,VL];exact⟨v,vs',rfl,by simp[V],qT m hr⟩
  ·simp only[dJ,VL];exact⟨v,vs',rfl,h1,qT m hr⟩
theorem GI{a:AV}{v:Value}(ho:a.one=true)(hv:V g h a v):v.cells=#[v]:=by
 cases a<;>simp only[V,AV.one,fe]at hv ho
 case sl=>obtain⟨_,_,_,_,_,_,_,_,a,cap,rfl,_⟩:=hv;rfl
 case dw=>obtain⟨_,_,_,_,_,_,rfl⟩:=hv;rfl
 case ptr=>obtain⟨_,_,_,_,rfl⟩:=hv;rfl
 case mp=>obtain⟨_,_,_,_,rfl⟩:=hv;rfl
 case dG=>obtain⟨_,_,_,rfl,_⟩:=hv;rfl
 case it=>obtain⟨_,_,_,_,rfl⟩:=hv;rfl
 case de=>obtain⟨_,_,_,_,rfl⟩:=hv;rfl
 case list=>obtain⟨_,_,_,rfl,_⟩:=hv;rfl
 case fn=>obtain⟨_,_,rfl,_⟩:=hv;rfl
 case bW=>obtain⟨_,rfl,_⟩:=hv;rfl
 all_goals (first|(subst hv;rfl)|exact hv.elim)
theorem aaL{a:AV}{v:Value}(ho:a.one=true)(hv:V g h a v):v.oneCell'=true:=by
 cases a<;>simp only[V,AV.one,fe]at hv ho
 case sl=>obtain⟨_,_,_,_,_,_,_,_,a,cap,rfl,_⟩:=hv;rfl
 case dw=>obtain⟨_,_,_,_,_,_,rfl⟩:=hv;rfl
 case ptr=>obtain⟨_,_,_,_,rfl⟩:=hv;rfl
 case mp=>obtain⟨_,_,_,_,rfl⟩:=hv;rfl
 case dG=>obtain⟨_,_,_,rfl,_⟩:=hv;rfl
 case it=>obtain⟨_,_,_,_,rfl⟩:=hv;rfl
 case de=>obtain⟨_,_,_,_,rfl⟩:=hv;rfl
 case list=>obtain⟨_,_,_,rfl,_⟩:=hv;rfl
 case fn=>obtain⟨_,_,rfl,_⟩:=hv;rfl
 case bW=>obtain⟨_,rfl,_⟩:=hv;rfl
 all_goals (first|(subst hv;rfl)|exact hv.elim)
theorem qV{a:AV}{v:Value}(ho:a.ok=true)(hv:V g h a v):VL g h a.cells v.cells.toList:=by
 by_cases ha:∃cs,a=.agg cs
 ·obtain⟨cs,rfl⟩:=ha;simp only[V]at hv;obtain⟨vs,rfl,hl⟩:=hv;simpa[AV.cells,Value.cells]using hl
 ·have hc:a.cells=[a]:=by
   cases a<;>first|rfl|exact absurd ⟨_,rfl⟩ ha
  have h1:a.one=true:=by
   cases a<;>first|rfl|exact absurd ⟨_,rfl⟩ ha|simp[AV.ok]at ho
  rw[hc];rw[GI h1 hv];simp only[VL];exact⟨v,[],rfl,hv,rfl⟩
theorem si{a:AV}(h:cr a.cells=true):a.ok=true:=by
 cases a<;>first|rfl|simp[AV.cells,cr,AV.one]at h
theorem F4:∀{as:List AV}{vs:List Value},cr as=true->VL g h as vs->∀v∈vs,v.oneCell'=true
 |[],vs,_,hv=>by simp only[VL]at hv;subst hv;simp
 |a::as,vs,ho,hv=>by
  simp only[VL]at hv;obtain⟨v,vs',rfl,h1,hr⟩:=hv;simp only[cr,aB]at ho;intro u hu
  rcases bD.1 hu with rfl|hu
  ·exact aaL ho.1 h1
  ·exact F4 ho.2 hr u hu
end
structure Ext(n:Nat)(g:G)(h:List Ob)(g':G)(h':List Ob):Prop where
 M:∀b o v,g.M b o=some v->g'.M b o=some v
 MM:∀b x,g.MM b=some x->g'.MM b=some x
 cells:∀i vs,i<n->h[i]? =some (.cells vs)->(∃vs',h'[i]? =some (.cells vs'))/\∀x,g.ρ i=some x->g'.ρ i=some x
 map:∀i es fl,i<n->h[i]? =some (.map es fl)->(∃es' fl',h'[i]? =some (.map es' fl'))/\∀x,g.ρ i=some x->g'.ρ i=some x
 iter:∀i s p,i<n->h[i]? =some (.jf s p)->(∃s' p',h'[i]? =some (.jf s' p'))/\∀x,g.ρ i=some x->g'.ρ i=some x
 loop:∀i st j fn t ps a b,i<n->h[i]? =some (.loop st j fn t ps a b)->(∃h2 j',h'[i]? =some (.loop h2 j' fn t ps a b))/\∀x,g.ρ i=some x->g'.ρ i=some x
 bK:∀i l,i<n->h[i]? =some (.bK l)->(∃l',h'[i]? =some (.bK l'))/\∀x,g.ρ i=some x->g'.ρ i=some x
 row:∀i k E es gr fl sh,i<n->h[i]? =some (.row k E es gr fl sh)->∃E' es' gr' fl' sh',h'[i]? =some (.row k E' es' gr' fl' sh')/\es.length<=es'.length/\
  ∀off m,off+m<=es.length->cW es' gr' off m=true->cW es gr off m=true/\es'.length=es.length/\∀x,g.ρ i=some x->g'.ρ i=some x
theorem Ext.refl(n:Nat)(g:G)(h:List Ob):Ext n g h g h:=
 ⟨fun _ _ _ x=>x,fun _ _ x=>x,fun _ _ _ x=>⟨⟨_,x⟩,fun _ x=>x⟩,fun _ _ _ _ x=>⟨⟨_,_,x⟩,fun _ x=>x⟩,fun _ _ _ _ x=>⟨⟨_,_,x⟩,fun _ x=>x⟩,
  fun _ _ _ _ _ _ _ _ _ x=>⟨⟨_,_,x⟩,fun _ x=>x⟩,fun _ _ _ x=>⟨⟨_,x⟩,fun _ x=>x⟩,
  fun _ _ _ _ _ _ _ _ x=>⟨_,_,_,_,_,x,aT _,fun _ _ _ h=>⟨h,rfl,fun _ x=>x⟩⟩⟩
theorem Ext.mono{n m:Nat}{g g':G}{h h':List Ob}(a:Ext n g h g' h')(hm:m<=n):Ext m g h g' h':=
 ⟨a.M,a.MM,fun i vs hi=>a.cells i vs (by omega),fun i es fl hi=>a.map i es fl (by omega),fun i s p hi=>a.iter i s p (by omega),
  fun i st j fn t ps x y hi=>a.loop i st j fn t ps x y (by omega),fun i l hi=>a.bK i l (by omega),fun i k E es gr fl sh hi=>a.row i k E es gr fl sh (by omega)⟩
theorem Ext.trans{n:Nat}{g g' hj:G}{h h' hl:List Ob}(a:Ext n g h g' h')(b:Ext n g' h' hj hl):Ext n g h hj hl:=by
 refine⟨fun _ _ _ x=>b.M _ _ _ (a.M _ _ _ x),fun _ _ x=>b.MM _ _ (a.MM _ _ x),?_,?_,?_,?_,?_,?_⟩
 ·intro i vs hn hi;obtain⟨⟨vs',h1⟩,r1⟩:=a.cells i vs hn hi;obtain⟨h2,r2⟩:=b.cells i vs' hn h1;exact⟨h2,fun x hx=>r2 x (r1 x hx)⟩
 ·intro i es fl hn hi;obtain⟨⟨es',fl',h1⟩,r1⟩:=a.map i es fl hn hi;obtain⟨h2,r2⟩:=b.map i _ _ hn h1;exact⟨h2,fun x hx=>r2 x (r1 x hx)⟩
 ·intro i es fl hn hi;obtain⟨⟨es',fl',h1⟩,r1⟩:=a.iter i es fl hn hi;obtain⟨h2,r2⟩:=b.iter i _ _ hn h1;exact⟨h2,fun x hx=>r2 x (r1 x hx)⟩
 ·intro i st j fn t ps x y hn hi;obtain⟨⟨hp,j',h1⟩,r1⟩:=a.loop i st j fn t ps x y hn hi;obtain⟨h2,r2⟩:=b.loop i _ _ _ _ _ _ _ hn h1;exact⟨h2,fun x hx=>r2 x (r1 x hx)⟩
 ·intro i l hn hi;obtain⟨⟨l',h1⟩,r1⟩:=a.bK i l hn hi;obtain⟨h2,r2⟩:=b.bK i _ hn h1;exact⟨h2,fun x hx=>r2 x (r1 x hx)⟩
 ·intro i k E es gr fl sh hn hi;obtain⟨E',es',gr',fl',sh',h1,l1,q1⟩:=a.row i _ _ _ _ _ _ hn hi;obtain⟨E'',hv,hb,hc,hk,h2,l2,q2⟩:=b.row i _ _ _ _ _ _ hn h1;refine⟨E'',hv,hb,hc,hk,h2,tu l1 l2,?_⟩;intro off m h4 ih;obtain⟨x2,hf,r2⟩:=q2 off m (by omega) ih;obtain⟨x1,hy,r1⟩:=q1 off m h4 x2;exact⟨x1,hf.trans hy,fun x hx=>r2 x (r1 x hx)⟩
theorem ahd{n:Nat}{g g':G}{h h':List Ob}(x:Ext n g h g' h'){i off m:Nat}(hb:i<n){v:Value}(hv:E5 g h i off m v):E5 g' h' i off m v:=by
 obtain⟨k,E,es,gr,fl,sh,hi,hle,a,cap,rfl,hc,hn,hq⟩:=hv;obtain⟨E',es',gr',fl',sh',h1,hl,q⟩:=x.row i _ _ _ _ _ _ hb hi;refine⟨k,E',es',gr',fl',sh',h1,tu hle hl,a,cap,rfl,hc,hn,fun hr=>?_⟩;obtain⟨hx,hk,hρ⟩:=q _ _ hle hr;obtain⟨hj,hq⟩:=hq hx;refine⟨by omega,?_⟩
 rcases hq with h0|⟨b,sz,st,h2,h3⟩
 ·exact Or.inl h0
 ·exact Or.inr ⟨b,sz,st,hρ _ h2,h3⟩
mutual
theorem gZ{n:Nat}{g g':G}{h h':List Ob}(x:Ext n g h g' h'):∀{a:AV}{v:Value},aK n a=true->V g h a v->V g' h' a v
 |.undef,_,_,_=>by simp[V]
 |.bool _,_,_,hv=>by simpa only [V]using hv
 |.int _ _,_,_,hv=>by simpa only [V]using hv
 |.str _,_,_,hv=>by simpa only [V]using hv
 |.jn,_,_,hv=>by simpa only [V]using hv
 |.dk,_,_,hv=>by simpa only [V]using hv
 |.dn,_,_,hv=>by simpa only [V]using hv
 |.fv,_,_,hv=>by simpa only [V]using hv
 |.eP _ _,_,_,hv=>by simpa only [V]using hv
 |.list full k es,v,hb,hv=>by
  simp only[V]at hv⊢;obtain⟨hk,a,cap,rfl,hf,hc,h1⟩:=hv;refine⟨hk,a,cap,rfl,hf,hc,?_⟩
  rcases h1 with h1|⟨b,o,vs,rfl,he,hm⟩
  ·exact Or.inl h1
  ·refine Or.inr ⟨b,o,vs,rfl,gY x ?_ he,fun j hj=>x.M _ _ _ (hm j hj)⟩;exact j7 hk
 |.own _ _ _,_,_,hv=>by simp only[V]at hv
 |.sl _ _ _,_,hb,hv=>by
  simp only[aK,bj]at hb
  simp only[V]at hv⊢;exact ahd x hb hv
 |.dw a _ _ _,_,hb,hv=>by
  simp only[V]at hv⊢;simp only[aK]at hb;obtain⟨u,b,o,h1,h2,h4,rfl⟩:=hv;exact⟨u,b,o,gZ x hb h1,h2,h4,rfl⟩
 |.ptr i _,_,hb,hv=>by
  simp only[V]at hv⊢;simp only[aK,bj]at hb;obtain⟨⟨vs,hi⟩,b,sz,hρ,rfl⟩:=hv;obtain⟨h1,h2⟩:=x.cells i vs hb hi;exact⟨h1,b,sz,h2 _ hρ,rfl⟩
 |.mp i,_,hb,hv=>by
  simp only[V]at hv⊢;simp only[aK,bj]at hb;obtain⟨⟨es,fl,hi⟩,b,sz,hρ,rfl⟩:=hv;obtain⟨h1,h2⟩:=x.map i es fl hb hi;exact⟨h1,b,sz,h2 _ hρ,rfl⟩
 |.dG ks us,_,hb,hv=>by
  simp only[V]at hv⊢;obtain⟨b,es,ck,rfl,h1,h2,h3⟩:=hv;simp only[aK,aB]at hb;exact⟨b,es,ck,rfl,x.MM _ _ h1,cM x hb.1 h2,cM x hb.2 h3⟩
 |.it i,_,hb,hv=>by
  simp only[V]at hv⊢;simp only[aK,bj]at hb;obtain⟨⟨es,fl,hi⟩,b,sz,hρ,rfl⟩:=hv;obtain⟨h1,h2⟩:=x.iter i es fl hb hi;exact⟨h1,b,sz,h2 _ hρ,rfl⟩
 |.de i,_,hb,hv=>by
  simp only[V]at hv⊢;simp only[aK,bj]at hb;obtain⟨⟨st,j,fn,t,ps,p,q,hi⟩,b,sz,hρ,rfl⟩:=hv;obtain⟨⟨hx,j',h1⟩,h2⟩:=x.loop i st j fn t ps p q hb hi;exact⟨⟨_,_,_,_,_,_,_,h1⟩,b,sz,h2 _ hρ,rfl⟩
 |.agg cs,_,hb,hv=>by
  simp only[V]at hv⊢;simp only[aK]at hb;obtain⟨vs,rfl,h1⟩:=hv;exact⟨vs,rfl,cM x hb h1⟩
 |.aH cs,_,hb,hv=>by
  simp only[V]at hv⊢;simp only[aK]at hb;obtain⟨vs,rfl,h1⟩:=hv;exact⟨vs,rfl,cM x hb h1⟩
 |.fn f a b,_,hb,hv=>by
  simp only[V]at hv⊢;simp only[aK,aB]at hb;obtain⟨xs,ys,rfl,h1,h2⟩:=hv;exact⟨xs,ys,rfl,cM x hb.1 h1,cM x hb.2 h2⟩
 |.bW t a,_,hb,hv=>by
  simp only[V]at hv⊢;simp only[aK]at hb;obtain⟨y,rfl,h1⟩:=hv;exact⟨y,rfl,gZ x hb h1⟩
theorem cM{n:Nat}{g g':G}{h h':List Ob}(x:Ext n g h g' h'):∀{as:List AV}{vs:List Value},aN n as=true->VL g h as vs->VL g' h' as vs
 |[],_,_,hv=>by simpa only [VL]using hv
 |a::as,_,hb,hv=>by
  simp only[VL]at hv⊢;simp only[aN,aB]at hb;obtain⟨v,vs',rfl,h1,h2⟩:=hv;exact⟨v,vs',rfl,gZ x hb.1 h1,cM x hb.2 h2⟩
theorem gY{n:Nat}{g g':G}{h h':List Ob}(x:Ext n g h g' h'):∀{as:List AV}{vs:List Value},aN n as=true->VE g h as vs->VE g' h' as vs
 |[],_,_,hv=>by simpa only [VE]using hv
 |a::as,_,hb,hv=>by
  simp only[VE]at hv⊢;simp only[aN,aB]at hb;obtain⟨v,vs',h1,rfl,h2⟩:=hv;exact⟨v,vs',gZ x hb.1 h1,rfl,gY x hb.2 h2⟩
end
def CR(P:Program):Code->aj->Prop
 |_,.bad=>True
 |.skip,.skip=>True
 |.label _,.skip=>True
 |.region _ ops false,.av gs=>ops.toList.mapM (pf P ops.toList)=some gs
 |.region _ ops true,.aR l ws gs=>ops.toList.mapM (pf P ops.toList)=some gs/\Ar P ops gs=true/\l=nT ops gs/\ws=wX ops gs
 |.region _ ops true,.gM as gs=>ops.toList.mapM (pf P ops.toList)=some gs/\pI ops=true/\(P.follows .mixedOrders||!Region.departs ops)=true/\as=oQ ops
 |.seq a b,.seq a' b'=>CR P a a'/\CR P b b'
 |.cond c a b,.cond x a' b'=>x=ay c/\CR P a a'/\CR P b b'
 |.block id c,.block h2 _ c'=>id=h2/\CR P c c'
 |.loop c,.loop _ c'=>CR P c c'
 |.rangeFunc f ps a b,.rangeFunc x qs _ a' b'=>x=ay f/\qs=ps.toList/\CR P a a'/\CR P b b'
 |.exit i,.exit j=>i=j
 |.ret,.ret=>True
 |_,_=>False
theorem qM(P:Program):∀c:Code,CR P c (gE P c)
 |.skip=>by simp[gE,CR]
 |.label _=>by simp[gE,CR]
 |.region _ ops draw=>by
  simp only[gE]
  cases hm:ops.toList.mapM (pf P ops.toList)with
  |none=>simp[CR]
  |some gs=>
   cases draw
   ·simp[CR,hm]
   ·by_cases ho:Ar P ops gs=true
    ·simp[CR,hm,ho]
    ·by_cases he:(pI ops&&(P.follows .mixedOrders||!Region.departs ops))=true
     ·have h2:=he;rw[aB]at h2;simp only[ho,he,cE,fe,dq,CR];exact⟨hm,h2.1,h2.2,trivial⟩
     ·simp[CR,ho,he]
 |.seq a b=>by simp only[gE,CR];exact⟨qM P a,qM P b⟩
 |.cond c a b=>by simp only[gE,CR];exact⟨trivial,qM P a,qM P b⟩
 |.block id c=>by simp only[gE,CR];exact⟨trivial,qM P c⟩
 |.loop c=>by simp only[gE,CR];exact qM P c
 |.rangeFunc f ps a b=>by simp only[gE,CR];exact⟨trivial,trivial,qM P a,qM P b⟩
 |.exit i=>by simp[gE,CR]
 |.ret=>by simp[gE,CR]
 |.scope _=>by simp[gE,CR]
 |.goto _=>by simp[gE,CR]
 |.refuse _=>by simp[gE,CR]
theorem qO(P:Program)(rs:List Nat)(nt:Nat):∀(a:aj)(c:Code)(E:List (Nat×List Nat))(out:List Nat),CR P c a->CR P c (ic rs nt a E out)
 |.seq a b,c,E,out,h=>by cases c<;>simp only[CR,ic]at h⊢;exact⟨qO P rs nt a _ _ _ h.1,qO P rs nt b _ _ _ h.2⟩
 |.cond x a b,c,E,out,h=>by cases c<;>simp only[CR,ic]at h⊢;exact⟨h.1,qO P rs nt a _ _ _ h.2.1,qO P rs nt b _ _ _ h.2.2⟩
 |.block id m a,c,E,out,h=>by cases c<;>simp only[CR,ic]at h⊢;exact⟨h.1,qO P rs nt a _ _ _ h.2⟩
 |.loop m a,c,E,out,h=>by cases c<;>simp only[CR,ic]at h⊢;exact qO P rs nt a _ _ _ h
 |.rangeFunc f ps m a b,c,E,out,h=>by
  cases c<;>simp only[CR,ic]at h⊢
  exact⟨h.1,h.2.1,qO P rs nt a _ _ _ h.2.2.1,qO P rs nt b _ _ _ h.2.2.2⟩
 |.skip,c,E,out,h=>by simpa only [ic]using h
 |.av _,c,E,out,h=>by simpa only [ic]using h
 |.aR _ _ _,c,E,out,h=>by simpa only [ic]using h
 |.gM _ _,c,E,out,h=>by simpa only [ic]using h
 |.exit _,c,E,out,h=>by simpa only [ic]using h
 |.ret,c,E,out,h=>by simpa only [ic]using h
 |.bad,c,E,out,h=>by simpa only [ic]using h
def od(c:Array Value)(fz:Nat×Nat):Prop:=fz.1=fz.2\/c.size<=fz.1
theorem od.at{c:Array Value}{fz:Nat×Nat}(h:od c fz){o:Nat}(ho:o<c.size):(fz.1<=o&&o<fz.2)=false:=by
 rcases h with h|h
 ·rw[h];by_cases h2:fz.2<=o<;>simp[h2]<;>omega
 ·have:¬fz.1<=o:=by omega
  simp[this]
def JR:Jump->Option Code->Prop
 |.none,c=>c=none
 |.ret,c=>c=some .ret
 |.exit id,c=>c=some (.exit id)
def OV(P:Program)(g:G)(h:List Ob)(w:World)(i:Nat):Ob->Prop
 |.gone=>True
 |.cells vs=>∀b sz st,g.ρ i=some (b,sz,st)->∃c E fz,w.heap[b]? =some (.cells c E fz)/\od c fz/\VL g h vs c.toList
 |.row k _ es gr fl _=>0<k/\(∀e∈es,e.cells.length=k/\cr e.cells=true)/\(fl=true->cG es k=true)/\gr.getD 0<=es.length/\
  match g.ρ i with
  |none=>es=[]
  |some (b,sz,st)=>st<=gr.getD 0/\∃c E fz vs,w.heap[b]? =some (.cells c E fz)/\c.size=sz/\od c fz/\VE g h (es.drop (gr.getD 0)) vs/\
   ∀j(hj:j<vs.length),c[(gr.getD 0-st)*k+j]? =some vs[j]
 |.map es fl=>(fl=true->aN 0 (es.map (·.2))=true)/\
  ∀b sz st,g.ρ i=some (b,sz,st)->∃bn ck,w.heap[b]? =some (.map bn ck)/\VL g h (es.map (·.1)) (bn.toList.map (·.key))/\VL g h (es.map (·.2)) (bn.toList.map (·.val))
 |.jf s p=>∀b sz st,g.ρ i=some (b,sz,st)->w.heap[b]? =some (.stringIter ⟨s.toArray⟩ p)
 |.loop st j fn t ps a b=>∀bk sz h2,g.ρ i=some (bk,sz,h2)->∃L:Loop,w.heap[bk]? =some (.loop L)/\L.state=st/\JR j L.pending/\L.fn=fn/\VL g h t L.tmps.toList/\
  L.params.toList=ps/\CR P L.assign a/\CR P L.body b/\∃F,P.funcs[fn]? =some F
 |.bK live=>∀b sz st,g.ρ i=some (b,sz,st)->w.heap[b]? =some (.deferred (if live then some []else none))
structure Env where
 K:Nat->Option Obj
 M0:Nat->Nat->Option Value
 MM:Nat->Option (Array MapEntry×Nat)
 w0:World
def JS(Γ:Nat->Option AV)(N:Env):Prop:=∀n(zs:List Int),zs≠[]->Γ n=some (.agg (zs.map fun z=>AV.int .u64 z))->∃t q,N.K n=some (Obj.cells (zs.map fun z=>Value.int .u64 z).toArray t q)
structure Inv(P:Program)(Γ:Nat->Option AV)(N:Env)(g:G)(h:List Ob)(w:World):Prop where
 os:w.os=N.w0.os
 tape:w.tape=N.w0.tape
 output:w.output=N.w0.output
 gp:∀b o,N.K b=some o->w.heap[b]? =some o
 own:∀i b x,g.ρ i=some (b,x)->N.K b=none/\b<w.heap.size
 inj:∀i j b x y,g.ρ i=some (b,x)->g.ρ j=some (b,y)->i=j
 ql:∀i,h.length<=i->g.ρ i=none
 mem:∀b o v,g.M b o=some v->w.cell? ⟨b,o,none⟩=some v
 mm:∀b es ck,g.MM b=some (es,ck)->w.heap[b]? =some (.map es ck)/\∀i x,g.ρ i≠some (b,x)
 fo:∀i b sz st o v,g.ρ i=some (b,sz,st)->g.M b o=some v->∃k E es gr fl,h[i]? =some (.row k E es gr fl true)/\o<(es.length-st)*k
 ob:∀i o,h[i]? =some o->OV P g h w i o
 mo:∀n a,Γ n=some a->aN 0 a.cells=true/\∃vs,VL g h a.cells vs/\∀j(hj:j<vs.length),g.M n j=some vs[j]
 mK:∀b o v B,g.M b o=some v->N.K b=some B->N.M0 b o=some v
 ky:g.MM=N.MM
 mz:JS Γ N
theorem bd{α:Type}{l:List α}{i:Nat}{a:α}(h:l[i]? =some a):i<l.length:=by
 rcases mF i l.length with hi|hi
 ·exact hi
 ·simp[gy hi]at h
mutual
theorem mj{g:G}{h:List Ob}:∀{a:AV}{v:Value},V g h a v->aK h.length a=true
 |.undef,_,_|.bool _,_,_|.int _ _,_,_|.str _,_,_|.jn,_,_|.dk,_,_|.dn,_,_|.fv,_,_|.eP _ _,_,_=>rfl
 |.list _ _ es,_,hv=>by
  simp only[V]at hv;simp only[aK];exact j7 hv.1
 |.own _ _ _,_,hv=>by simp only[V]at hv
 |.sl i _ _,_,hv=>by
  simp only[V]at hv;obtain⟨_,_,_,_,_,_,hi,_⟩:=hv;simp only[aK,bj];exact bd hi
 |.dw a _ _ _,_,hv=>by
  simp only[V]at hv;obtain⟨u,b,o,h1,_⟩:=hv
  simp only[aK];exact mj h1
 |.ptr i _,_,hv=>by
  simp only[V]at hv;obtain⟨⟨vs,hi⟩,_⟩:=hv
  simp only[aK,bj];exact bd hi
 |.mp i,_,hv=>by
  simp only[V]at hv;obtain⟨⟨_,_,hi⟩,_⟩:=hv
  simp only[aK,bj];exact bd hi
 |.it i,_,hv=>by
  simp only[V]at hv;obtain⟨⟨_,_,hi⟩,_⟩:=hv
  simp only[aK,bj];exact bd hi
 |.de i,_,hv=>by
  simp only[V]at hv;obtain⟨⟨_,_,_,_,_,_,_,hi⟩,_⟩:=hv
  simp only[aK,bj];exact bd hi
 |.dG _ _,_,hv=>by
  simp only[V]at hv;obtain⟨_,_,_,_,_,h1,h2⟩:=hv
  simp only[aK,aB];exact⟨dM h1,dM h2⟩
 |.agg _,_,hv|.aH _,_,hv=>by
  simp only[V]at hv;obtain⟨_,_,h1⟩:=hv
  simp only[aK];exact dM h1
 |.fn _ _ _,_,hv=>by
  simp only[V]at hv;obtain⟨_,_,_,h1,h2⟩:=hv
  simp only[aK,aB];exact⟨dM h1,dM h2⟩
 |.bW _ _,_,hv=>by
  simp only[V]at hv;obtain⟨_,_,h1⟩:=hv
  simp only[aK];exact mj h1
theorem dM{g:G}{h:List Ob}:∀{as:List AV}{vs:List Value},VL g h as vs->aN h.length as=true
 |[],_,_=>rfl
 |a::as,_,hv=>by
  simp only[VL]at hv;obtain⟨_,_,_,h1,h2⟩:=hv
  simp only[aN,aB];exact⟨mj h1,dM h2⟩
end
theorem lH{g:G}{h:List Ob}:∀{as:List AV}{vs:List Value},VE g h as vs->aN h.length as=true
 |[],_,_=>rfl
 |a::as,_,hv=>by
  simp only[VE]at hv;obtain⟨_,_,h1,_,h2⟩:=hv
  simp only[aN,aB];exact⟨mj h1,lH h2⟩
theorem oN{P:Program}{g g':G}{h h':List Ob}{w w':World}(x:Ext h.length g h g' h'){i:Nat}{o:Ob}(hρ:g'.ρ i=g.ρ i)
 (hw:∀b y,g.ρ i=some (b,y)->w'.heap[b]? =w.heap[b]?)(ho:OV P g h w i o):OV P g' h' w' i o:=by
 cases o with
 |gone=>trivial
 |cells vs=>
  intro b sz st hb;rw[hρ]at hb;obtain⟨c,E,fz,h1,h2,h3⟩:=ho b sz st hb;exact⟨c,E,fz,by rw[hw _ _ hb];exact h1,h2,cM x (dM h3) h3⟩
 |row k E es gr fl sh=>
  simp only[OV]at ho⊢;obtain⟨h1,h2,h3,h4,h5⟩:=ho;refine⟨h1,h2,h3,h4,?_⟩;rw[hρ]
  cases hr:g.ρ i with
  |none=>rw[hr]at h5;exact h5
  |some y=>
   obtain⟨b,sz,st⟩:=y;rw[hr]at h5;simp only at h5⊢;obtain⟨h6,c,E',fz,vs,h7,h8,h9,hv,hc⟩:=h5;exact⟨h6,c,E',fz,vs,by rw[hw _ _ hr];exact h7,h8,h9,gY x (lH hv) hv,hc⟩
 |map es fl=>
  obtain⟨h1,h3⟩:=ho;refine⟨h1,fun b sz st hb=>?_⟩;rw[hρ]at hb;obtain⟨bn,ck,h4,h5,h6⟩:=h3 b sz st hb;exact⟨bn,ck,by rw[hw _ _ hb];exact h4,cM x (dM h5) h5,cM x (dM h6) h6⟩
 |jf s p=>
  intro b sz st hb;rw[hρ]at hb
  rw[hw _ _ hb];exact ho b sz st hb
 |loop st j fn t ps a b=>
  intro bk sz hx hb;rw[hρ]at hb;obtain⟨L,h1,h2,h3,h4,h5,h6⟩:=ho bk sz hx hb;exact⟨L,by rw[hw _ _ hb];exact h1,h2,h3,h4,cM x (dM h5) h5,h6⟩
 |bK live=>
  intro b sz st hb;rw[hρ]at hb
  rw[hw _ _ hb];exact ho b sz st hb
theorem vB{w w':World}{b o:Nat}(h:w'.heap[b]? =w.heap[b]?):w'.cell? ⟨b,o,none⟩=w.cell? ⟨b,o,none⟩:=by
 simp only[World.cell?,h]
theorem Inv.world{P:Program}{Γ:Nat->Option AV}{N:Env}{g:G}{h:List Ob}{w w':World}(H:Inv P Γ N g h w)(hh:w'.heap=w.heap)(ho:w'.os=w.os)(ht:w'.tape=w.tape)
 (hp:w'.output=w.output):Inv P Γ N g h w':=by
 have hc:∀a,w'.cell? a=w.cell? a:=fun a=>by simp only[World.cell?,hh]
 refine⟨ho.trans H.os,ht.trans H.tape,hp.trans H.output,fun b o hb=>by rw[hh];exact H.gp b o hb,fun i b x hi=>by rw[hh];exact H.own i b x hi,H.inj,H.ql,
  fun b o v hv=>by rw[hc];exact H.mem b o v hv,fun b es ck hb=>by rw[hh];exact H.mm b es ck hb,H.fo,?_,H.mo,H.mK,H.ky,H.mz⟩
 intro i o hi;exact oN (Ext.refl _ _ _) rfl (fun b y _=>by rw[hh]) (H.ob i o hi)
def G.bP(g:G)(i:Nat)(r:Option (Nat×Nat×Nat)):G:={g with ρ:=fun j=>if j=i then r else g.ρ j}
theorem du(g:G)(i:Nat)(r:Option (Nat×Nat×Nat)):(g.bP i r).ρ i=r:=by simp[G.bP]
theorem iZ(g:G){i j:Nat}(r:Option (Nat×Nat×Nat))(h:j≠i):(g.bP i r).ρ j=g.ρ j:=by simp[G.bP,h]
theorem Inv.set{P:Program}{Γ:Nat->Option AV}{N:Env}{g:G}{h:List Ob}{w w':World}(H:Inv P Γ N g h w){i:Nat}{o':Ob}{r:Option (Nat×Nat×Nat)}
 (hi:i<h.length)(hE:Ext h.length g h (g.bP i r) (h.set i o'))
 (ho:w'.os=w.os)(ht:w'.tape=w.tape)(hp:w'.output=w.output)
 (hw:∀b,b<w.heap.size->(∀x,g.ρ i≠some (b,x))->w'.heap[b]? =w.heap[b]?)(ih:w.heap.size<=w'.heap.size)
 (hr:∀b x,r=some (b,x)->((∃y,g.ρ i=some (b,y))\/w.heap.size<=b)/\b<w'.heap.size)
 (hM:∀b y o v,g.ρ i=some (b,y)->g.M b o=some v->w'.cell? ⟨b,o,none⟩=some v)
 (hm:∀b sz st o v,r=some (b,sz,st)->g.M b o=some v->∃k E es gr fl,o'=.row k E es gr fl true/\o<(es.length-st)*k)
 (hf:OV P (g.bP i r) (h.set i o') w' i o'):Inv P Γ N (g.bP i r) (h.set i o') w':=by
 have q1:∀b o,N.K b=some o->b<w.heap.size:=fun b o hb=>by
  have:=H.gp b o hb
  rcases mF b w.heap.size with h1|h1
  ·exact h1
  ·simp[pn h1]at this
 have h4:∀b,w.heap.size<=b->N.K b=none:=fun b hb=>by
  cases hk:N.K b with
  |none=>rfl
  |some o=>have:=q1 b o hk;omega
 refine⟨ho.trans H.os,ht.trans H.tape,hp.trans H.output,?_,?_,?_,?_,?_,?_,?_,?_,?_,H.mK,H.ky,H.mz⟩
 ·intro b o hb;rw[hw b (q1 b o hb) fun x hx=>by have:=(H.own i b x hx).1;simp[hb]at this];exact H.gp b o hb
 ·intro j b x hj
  by_cases hc:j=i
  ·subst hc;rw[du]at hj;obtain⟨h1,h2⟩:=hr b x hj;refine⟨?_,h2⟩
   rcases h1 with⟨y,hy⟩|h1
   ·exact(H.own j b y hy).1
   ·exact h4 b h1
  ·rw[iZ _ _ hc]at hj;exact⟨(H.own j b x hj).1,lX (H.own j b x hj).2 ih⟩
 ·intro j k b x y hj hk
  by_cases hc:j=i
  ·by_cases hl:k=i
   ·rw[hc,hl]
   ·subst hc;rw[du]at hj;rw[iZ _ _ hl]at hk
    rcases(hr b x hj).1 with⟨z,hz⟩|h1
    ·exact H.inj _ _ b z y hz hk
    ·have:=(H.own k b y hk).2;omega
  ·rw[iZ _ _ hc]at hj
   by_cases hl:k=i
   ·subst hl;rw[du]at hk
    rcases(hr b y hk).1 with⟨z,hz⟩|h1
    ·exact H.inj _ _ b x z hj hz
    ·have:=(H.own j b x hj).2;omega
   ·rw[iZ _ _ hl]at hk;exact H.inj _ _ b x y hj hk
 ·intro j hj;rw[kD]at hj;rw[iZ _ _ (by omega)];exact H.ql j hj
 ·intro b o v hv
  by_cases hb:∃y,g.ρ i=some (b,y)
  ·obtain⟨y,hy⟩:=hb;exact hM b y o v hy hv
  ·have h0:=H.mem b o v hv;rw[vB (hw b (xx h0) fun x hx=>hb ⟨x,hx⟩)];exact h0
 ·intro b es ck hb;obtain⟨h1,h2⟩:=H.mm b es ck hb
  have q1:b<w.heap.size:=by
   rcases mF b w.heap.size with h3|h3
   ·exact h3
   ·simp[pn h3]at h1
  refine⟨by rw[hw b q1 (h2 i)];exact h1,?_⟩;intro j x hj
  by_cases hc:j=i
  ·subst hc;rw[du]at hj
   rcases(hr b x hj).1 with⟨y,hy⟩|h3
   ·exact h2 _ _ hy
   ·omega
  ·rw[iZ _ _ hc]at hj;exact h2 j x hj
 ·intro j b sz st o v hj hv
  by_cases hc:j=i
  ·subst hc;rw[du]at hj;obtain⟨k,E,es,gr,fl,h1,h2⟩:=hm b sz st o v hj hv;exact⟨k,E,es,gr,fl,by rw[ff hi,h1],h2⟩
  ·rw[iZ _ _ hc]at hj;obtain⟨k,E,es,gr,fl,h1,h2⟩:=H.fo j b sz st o v hj hv;exact⟨k,E,es,gr,fl,by rw[dW (by omega)];exact h1,h2⟩
 ·intro j o hj
  by_cases hc:j=i
  ·subst hc;rw[ff hi]at hj
   cases hj
   exact hf
  ·rw[dW (by omega)]at hj;refine oN hE (iZ _ _ hc) ?_ (H.ob j o hj);intro b y hb
   refine hw b (H.own j b y hb).2 fun x hx=>hc (H.inj _ _ b y x hb hx)
 ·intro n a hn;obtain⟨h1,vs,h2,h3⟩:=H.mo n a hn;exact⟨h1,vs,cM hE (dM h2) h2,h3⟩
theorem Ext.push{g:G}{h:List Ob}(o:List Ob)(r:Option (Nat×Nat×Nat)):Ext h.length g h (g.bP h.length r) (h++o):=by
 have h2:∀{i x},h[i]? =some x->(h++o)[i]? =some x:=fun{i x} hx=>by rw[cF (bd hx)];exact hx
 have hρ:∀{i},i<h.length->∀x,g.ρ i=some x->(g.bP h.length r).ρ i=some x:=fun hi x hx=>by rw[iZ _ _ (by omega)];exact hx
 exact⟨fun _ _ _ x=>x,fun _ _ x=>x,fun i vs hn hi=>⟨⟨_,h2 hi⟩,hρ hn⟩,fun i es fl hn hi=>⟨⟨_,_,h2 hi⟩,hρ hn⟩,fun i s p hn hi=>⟨⟨_,_,h2 hi⟩,hρ hn⟩,
  fun i st j fn t ps a b hn hi=>⟨⟨_,_,h2 hi⟩,hρ hn⟩,fun i l hn hi=>⟨⟨_,h2 hi⟩,hρ hn⟩,
  fun i k E es gr fl sh hn hi=>⟨_,_,_,_,_,h2 hi,aT _,fun _ _ _ hk=>⟨hk,rfl,hρ hn⟩⟩⟩
theorem Inv.push{P:Program}{Γ:Nat->Option AV}{N:Env}{g:G}{h:List Ob}{w w':World}(H:Inv P Γ N g h w){o':Ob}{os:List Ob}{r:Option (Nat×Nat×Nat)}
 (ho:w'.os=w.os)(ht:w'.tape=w.tape)(hp:w'.output=w.output)
 (hw:∀b,b<w.heap.size->w'.heap[b]? =w.heap[b]?)(ih:w.heap.size<=w'.heap.size)
 (hr:∀b x,r=some (b,x)->w.heap.size<=b/\b<w'.heap.size)
 (hf:OV P (g.bP h.length r) (h++o'::os) w' h.length o')
 (q1:∀j o,os[j]? =some o->OV P (g.bP h.length r) (h++o'::os) w' (h.length+1+j) o):Inv P Γ N (g.bP h.length r) (h++o'::os) w':=by
 have hl:∀b o,N.K b=some o->b<w.heap.size:=fun b o hb=>by
  have:=H.gp b o hb
  rcases mF b w.heap.size with h1|h1
  ·exact h1
  ·simp[pn h1]at this
 have hE:=Ext.push (g:=g) (h:=h) (o'::os) r;refine⟨ho.trans H.os,ht.trans H.tape,hp.trans H.output,?_,?_,?_,?_,?_,?_,?_,?_,?_,H.mK,H.ky,H.mz⟩
 ·intro b o hb
  rw[hw b (hl b o hb)];exact H.gp b o hb
 ·intro j b x hj
  by_cases hc:j=h.length
  ·subst hc;rw[du]at hj;obtain⟨h1,h2⟩:=hr b x hj;refine⟨?_,h2⟩
   cases hk:N.K b with
   |none=>rfl
   |some o=>have:=hl b o hk;omega
  ·rw[iZ _ _ hc]at hj;exact⟨(H.own j b x hj).1,lX (H.own j b x hj).2 ih⟩
 ·intro j k b x y hj hk
  by_cases hc:j=h.length
  ·by_cases hx:k=h.length
   ·rw[hc,hx]
   ·subst hc;rw[du]at hj;rw[iZ _ _ hx]at hk
    have:=(hr b x hj).1;have:=(H.own k b y hk).2;omega
  ·rw[iZ _ _ hc]at hj
   by_cases hx:k=h.length
   ·subst hx;rw[du]at hk
    have:=(hr b y hk).1;have:=(H.own j b x hj).2;omega
   ·rw[iZ _ _ hx]at hk;exact H.inj _ _ b x y hj hk
 ·intro j hj;rw[bC,bL]at hj;rw[iZ _ _ (by omega)];exact H.ql j (by omega)
 ·intro b o v hv;have h0:=H.mem b o v hv;rw[vB (hw b (xx h0))];exact h0
 ·intro b es ck hb;obtain⟨h1,h2⟩:=H.mm b es ck hb
  have hl:b<w.heap.size:=by
   rcases mF b w.heap.size with h3|h3
   ·exact h3
   ·simp[pn h3]at h1
  refine⟨by rw[hw b hl];exact h1,?_⟩;intro j x hj
  by_cases hc:j=h.length
  ·subst hc;rw[du]at hj
   have:=(hr b x hj).1;omega
  ·rw[iZ _ _ hc]at hj;exact h2 j x hj
 ·intro j b sz st o v hj hv
  by_cases hc:j=h.length
  ·subst hc;rw[du]at hj
   have:=(hr b _ hj).1;have:b<w.heap.size:=xx (H.mem b o v hv)
   omega
  ·rw[iZ _ _ hc]at hj;obtain⟨k,E,es,gr,fl,h1,h2⟩:=H.fo j b sz st o v hj hv;exact⟨k,E,es,gr,fl,by rw[cF (bd h1)];exact h1,h2⟩
 ·intro j o hj
  rcases LU j h.length with h4|rfl|h4
  ·rw[cF h4]at hj;exact oN hE (iZ _ _ (by omega)) (fun b y hb=>hw b (H.own j b y hb).2) (H.ob j o hj)
  ·simp at hj;subst hj;exact hf
  ·obtain⟨q,rfl⟩:∃q,j=h.length+1+q:=⟨j-h.length-1,by omega⟩;rw[dB (by omega),show h.length+1+q-h.length=q+1 by omega,oB]at hj;exact q1 q o hj
 ·intro n a hn;obtain⟨h1,vs,h2,h3⟩:=H.mo n a hn;exact⟨h1,vs,cM hE (dM h2) h2,h3⟩
theorem wh(g:G)(h:List Ob):∀v:Value,V g h (lG v) v:=by
 intro v;unfold lG
 split
 all_goals (first|(simp only[V];done)|skip)
 ·simp only[V];exact⟨rfl,none,0,rfl,fun _=>rfl,aT _,Or.inl trivial⟩
theorem oM(g:G)(h:List Ob):∀v:Value,V g h (ia v) v:=by
 intro v;unfold ia
 split
 ·simp only[V];rename_i cs;exact⟨cs.toList,by simp,by have:=rh (g:=g) (h:=h) (f:=lG) (e:=id) (wh g h) cs.toList;simpa using this⟩
 ·simp only[V];exact⟨_,rfl,wh g h _⟩
 ·simp only[V];rename_i cs;exact⟨cs.toList,by simp,by have:=rh (g:=g) (h:=h) (f:=lG) (e:=id) (wh g h) cs.toList;simpa using this⟩
 ·exact wh g h v
theorem Ea{g:G}{h:List Ob}{t:List AV}{a:Act}(ht:VL g h t a.tmps.toList)(x:Operand):V g h (ax t (ay x)) (a.eval x):=by
 cases x with
 |tmp i=>
  have:=uy i ht;simpa[ay,ax,Act.eval]using this
 |const v=>exact oM g h v
 |global n=>simp[ay,ax,Act.eval,V]
 |func f=>simp only[ay,ax,Act.eval,V];exact⟨[],[],rfl,by simp[VL],by simp[VL]⟩
def aO(P:Program)(Γ:Nat->Option AV)(N:Env)(r:Operand->Value)(o:Oper)(w:World)(g:G)(h h':List Ob)(res:Option AV):Prop:=
 ∃g' w' nx,(execOp r o).run P w=.ok nx w'/\Inv P Γ N g' h' w'/\Ext h.length g h g' h'/\
  match res with
  |some a=>∃u,nx=.value u/\V g' h' a u
  |none=>nx=.skip
section
variable{P:Program}{Γ:Nat->Option AV}{N:Env}{g:G}{h:List Ob}{w:World}{r:Operand->Value}{o:Oper}{t:List AV}
theorem aO.same(H:Inv P Γ N g h w){a:AV}{u:Value}(hr:(execOp r o).run P w=.ok (.value u) w)(hv:V g h a u):aO P Γ N r o w g h h (some a):=
 ⟨g,w,_,hr,H,Ext.refl _ _ _,u,rfl,hv⟩
theorem jQ{t:TypeId}{s:Nat}(h:bH P t=some s)(w:World):(sizeOf t).run P w=.ok s w:=by
 unfold bH at h
 cases hi:P.info? t with
 |none=>simp[hi]at h
 |some i=>simp[hi]at h;simp[sizeOf,typeInfo,hi,h]
theorem Dl{t:TypeId}{b:Bool}(h:iu P t=some b)(w:World):(isAgg t).run P w=.ok b w:=by
 unfold iu at h
 cases hi:P.underlying t with
 |none=>simp[hi]at h
 |some d=>
  simp only[hi,dC,an]at h;simp only[isAgg,Sem.run_bind,run_underlying hi,Result.andThen_ok]
  cases d<;>simp_all
theorem H3{t:TypeId}{z:AV}(h:eB P t=some z)(w:World):∃v,(zeroValue t).run P w=.ok v w/\z=ia v:=by
 unfold eB at h
 cases hi:P.info? t with
 |none=>simp[hi]at h
 |some i=>
  cases hz:i.zero with
  |none=>simp[hi,hz]at h
  |some v=>simp[hi,hz]at h;exact⟨v,by simp[zeroValue,typeInfo,hi,hz],h.symm⟩
theorem eN{k:IntKind}{n:Int}{v:Value}(h1:V g h (.int k n) v):v=.int k n:=by simpa only [V]using h1
theorem mP{b:Bool}{v:Value}(h1:V g h (.bool b) v):v=.bool b:=by simpa only [V]using h1
theorem kq{s:List UInt8}{v:Value}(h1:V g h (.str s) v):v=.string ⟨s.toArray⟩:=by simpa only [V]using h1
theorem S5(H:Inv P Γ N g h w){x:Operand}(ho:o.op=.move x\/o.op=.assign x)(hx:V g h (ax t (ay x)) (r x)):aO P Γ N r o w g h h (some (ax t (ay x))):=by
 refine aO.same H ?_ hx
 rcases ho with ho|ho<;>simp[execOp,ho]
theorem Q'(H:Inv P Γ N g h w){c x y:Operand}(ho:o.op=.pick c x y){b:Bool}(hc:r c=.bool b){a:AV}(ha:V g h a (if b then r x else r y)):
 aO P Γ N r o w g h h (some a):=by
 refine aO.same H (u:=if b then r x else r y) ?_ ha;simp[execOp,ho,hc,asBool]
theorem zZ(H:Inv P Γ N g h w){x:Operand}(ho:o.op=.nilCheck x){a:AV}(ha:V g h a (r x))
 (hk:match a with|.ptr _ _|.dw _ _ _ _|.eP _ _|.fn (.func _) _ _|.bW _ _=>True|_=>False):aO P Γ N r o w g h h (some a):=by
 refine aO.same H (u:=r x) ?_ ha
 match a,ha,hk with
 |.dw _ _ _ _,ha,_=>
  simp only[V]at ha;obtain⟨_,_,_,_,_,_,hx⟩:=ha;simp[execOp,ho,hx]
 |.ptr _ _,ha,_=>
  simp only[V]at ha;obtain⟨_,_,_,_,hx⟩:=ha;simp[execOp,ho,hx]
 |.eP _ _,ha,_=>simp only[V]at ha;simp[execOp,ho,ha]
 |.bW _ _,ha,_=>
  simp only[V]at ha;obtain⟨_,hx,_⟩:=ha;simp[execOp,ho,hx]
 |.fn (.func _) _ _,ha,_=>
  simp only[V]at ha;obtain⟨_,_,hx,_⟩:=ha;simp[execOp,ho,hx]
theorem iB{op:BinOp}{ty:TypeId}{x y:Operand}{a b:Value}(h1:a≠.nilIface\/b≠.nilIface)(h2:(∀c,a≠.agg c)\/∀c,b≠.agg c)(w:World):
 (eqGuard op ty x y a b).run P w=.ok () w:=by
 unfold eqGuard
 cases op<;>simp
 all_goals
  split
  ·simp at h1
  ·simp at h2
  ·rfl
theorem aju(H:Inv P Γ N g h w){op:BinOp}{ib:IB}{ty hb:TypeId}{x y:Operand}(ho:o.op=.binOp op ty x y hb)(h2:J2 op=some ib){k j:IntKind}{a b n:Int}
 (hx:r x=.int k a)(hy:r y=.int j b)(hv:k=j\/ib=.shl\/ib=.shr)(hn:iv ib k a b=some n):aO P Γ N r o w g h h (some (.int k n)):=by
 refine aO.same H (u:=.int k n) ?_ (by simp[V]);simp only[execOp,ho,hx,hy,Sem.run_bind];rw[iB (by simp) (by simp)]
 cases op<;>simp only[J2,an,reduceCtorEq]at h2
 all_goals
  subst h2;simp only[reduceCtorEq,po,or_self,or_true]at hv;simp only[iv]at hn
  try subst hv
 all_goals (first
  |(simp only[an]at hn;subst hn;simp[binOp,Op.intArith,Op.intBits];done)
  |(split at hn
    ·simp at hn
    ·rename_i h0;simp only[an]at hn
     simp[binOp,Op.intDiv,Op.shift,h0,hn]))
theorem ahR(H:Inv P Γ N g h w){op:BinOp}{c:CK}{ty hv:TypeId}{x y:Operand}(ho:o.op=.binOp op ty x y hv)(h2:sR op=some c){k:IntKind}{a b:Int}
 (hx:r x=.int k a)(hy:r y=.int k b):aO P Γ N r o w g h h (some (.bool (n9 c a b))):=by
 refine aO.same H (u:=.bool (n9 c a b)) ?_ (by simp[V]);simp only[execOp,ho,hx,hy,Sem.run_bind];rw[iB (by simp) (by simp)]
 cases op<;>simp only[sR,an,reduceCtorEq]at h2
 all_goals
  subst h2;simp[binOp,Op.intCmp,n9]
theorem Dd(a b:List UInt8):((⟨a.toArray⟩:ByteArray).toList==(⟨b.toArray⟩:ByteArray).toList)=(a==b):=by
 have h:∀l:List UInt8,(⟨l.toArray⟩:ByteArray).toList=l:=fun l=>by
  rw[ByteArray.toList_eq]
 rw[h,h]
theorem aeA(H:Inv P Γ N g h w){ty hv:TypeId}{x y:Operand}(ho:o.op=.binOp .add ty x y hv){a b:List UInt8}
 (hx:r x=.string ⟨a.toArray⟩)(hy:r y=.string ⟨b.toArray⟩)(hl:a.length+b.length<=2^47):aO P Γ N r o w g h h (some (.str (a++b))):=by
 refine aO.same H (u:=.string ⟨(a++b).toArray⟩) ?_ (by simp[V]);simp only[execOp,ho,hx,hy,Sem.run_bind];rw[iB (by simp) (by simp)]
 have h1:(⟨a.toArray⟩:ByteArray).size=a.length:=by simp[ByteArray.size]
 have h2:(⟨b.toArray⟩:ByteArray).size=b.length:=by simp[ByteArray.size]
 have h3:¬(9223372036854775807<((a.length:Int)+(b.length:Int))):=by
  have:a.length+b.length<=140737488355328:=by simpa using hl
  omega
 simp only[Result.andThen_ok,binOp,Op.stringOp,h1,h2];simp[h3];apply ByteArray.ext;apply jv;simp
end
section
variable{P:Program}{Γ:Nat->Option AV}{N:Env}{g:G}{h:List Ob}{w:World}{r:Operand->Value}{o:Oper}{t:List AV}
theorem we(s:List UInt8):(⟨s.toArray⟩:ByteArray).size=s.length:=by simp[ByteArray.size]
theorem ajT(H:Inv P Γ N g h w){ty:TypeId}{x:Operand}(ho:o.op=.unOp .not ty x){b:Bool}(hx:r x=.bool b):aO P Γ N r o w g h h (some (.bool !b)):=
 aO.same H (u:=.bool !b) (by simp[execOp,ho,hx,Op.unary]) (by simp[V])
theorem akP(H:Inv P Γ N g h w){ty:TypeId}{x:Operand}(ho:o.op=.unOp .neg ty x){k:IntKind}{n:Int}(hx:r x=.int k n):aO P Γ N r o w g h h (some (.int k (k.wrap (0-n)))):=
 aO.same H (u:=.int k (k.wrap (0-n))) (by simp[execOp,ho,hx,Op.unary,Op.intArith]) (by simp[V])
theorem ahI(H:Inv P Γ N g h w){ty:TypeId}{x:Operand}(ho:o.op=.unOp .xor ty x){k:IntKind}{n:Int}(hx:r x=.int k n):
 aO P Γ N r o w g h h (some (.int k (k.wrap ((BitVec.ofInt k.bits (if k.signed then-1 else k.max))^^^(BitVec.ofInt k.bits n)).toNat))):=
 aO.same H (u:=.int k (k.wrap ((BitVec.ofInt k.bits (if k.signed then-1 else k.max))^^^(BitVec.ofInt k.bits n)).toNat)) (by simp[execOp,ho,hx,Op.unary,Op.intBits]) (by simp[V])
theorem aio(H:Inv P Γ N g h w){s d:TypeId}{x:Operand}(ho:o.op=.convert s d x){j k k':IntKind}{n:Int}(hs:P.underlying s=some (.int j))(hd:P.underlying d=some (.int k))
 (hx:r x=.int k' n):aO P Γ N r o w g h h (some (.int k (k.wrap n))):=
 aO.same H (u:=.int k (k.wrap n)) (by simp[execOp,ho,hx,convert,run_underlying hs,run_underlying hd,Conv.intToInt]) (by simp[V])
theorem aiy(H:Inv P Γ N g h w){s d:TypeId}{x:Operand}(ho:o.op=.convert s d x){l:List UInt8}(hs:P.underlying s=some .string)(hd:P.underlying d=some .string)
 (hx:r x=.string ⟨l.toArray⟩):aO P Γ N r o w g h h (some (.str l)):=
 aO.same H (u:=.string ⟨l.toArray⟩) (by simp[execOp,ho,hx,convert,run_underlying hs,run_underlying hd]) (by simp[V])
theorem adv(H:Inv P Γ N g h w){ty:TypeId}{x:Operand}(ho:o.op=.makeInterface ty x){d:TypeDesc}(hd:P.underlying ty=some d)(h2:∀ms,d≠.interface ms){a:AV}
 (ha:V g h a (r x)):aO P Γ N r o w g h h (some (.bW ty a)):=by
 refine aO.same H (u:=.iface ty (r x)) ?_ (by simp only[V];exact⟨_,rfl,ha⟩)
 cases d<;>first
  |(exfalso;exact h2 _ rfl)
  |simp[execOp,ho,Instr.makeInterface,run_underlying hd]
theorem aem(H:Inv P Γ N g h w){f:Fn}{a b:Array Operand}(ho:o.op=.makeFunc f a b)(he:∀x,V g h (ax t (ay x)) (r x)):
 aO P Γ N r o w g h h (some (.fn f ((a.toList.map ay).map (ax t)) ((b.toList.map ay).map (ax t)))):=by
 refine aO.same H (u:=.func f (a.map r) (b.map r)) (by simp[execOp,ho,Instr.makeFunc]) ?_;simp only[V];refine⟨a.toList.map r,b.toList.map r,?_,?_,?_⟩
 ·congr 1<;>apply jv<;>simp
 ·rw[iW];exact rh he _
 ·rw[iW];exact rh he _
theorem adn(H:Inv P Γ N g h w){x:Operand}{i:Nat}(ho:o.op=.extract x i){vs:List AV}(hx:V g h (.aH vs) (r x)){a:AV}(ha:vs[i]? =some a):aO P Γ N r o w g h h (some a):=by
 simp only[V]at hx;obtain⟨us,hu,hl⟩:=hx;obtain⟨u,h1,h2⟩:=sy hl ha;exact aO.same H (u:=u) (by simp[execOp,ho,hu,Instr.extract,h1]) h2
theorem PA{ty:TypeId}{agg:Bool}{sz off:Nat}{cs:List AV}{a:AV}(hp:n8 agg sz off cs=some a)(h1:iu P ty=some agg)(h2:bH P ty=some sz){vs:List Value}
 (hv:VL g h cs vs)(w:World):∃u,(part ty vs.toArray off).run P w=.ok u w/\V g h a u:=by
 unfold n8 at hp
 cases agg
 ·simp only[fe,dq]at hp
  split at hp
  ·obtain⟨u,hu,h3⟩:=sy hv hp;refine⟨u,?_,h3⟩;simp[part,Dl h1,hu]
  ·simp at hp
 ·simp only[cE]at hp
  split at hp
  ·rename_i hle;simp only[an]at hp;subst hp;refine⟨.agg ((vs.drop off).take sz).toArray,?_,?_⟩
   ·simp only[part,Sem.run_bind,Dl h1,jQ h2,Result.andThen_ok,cE];simp only[Sem.run_pure];congr 3;simp
   ·simp only[V];exact⟨_,rfl,Dt _ (Du _ hv)⟩
  ·simp at hp
theorem akM(H:Inv P Γ N g h w){ty:TypeId}{x:Operand}{i:Nat}(ho:o.op=.field ty x i){fs:Array Field}{f:Field}(hu:P.underlying ty=some (.struct fs))(hf:fs[i]? =some f)
 {agg:Bool}{sz:Nat}(h1:iu P f.type=some agg)(h2:bH P f.type=some sz){cs:List AV}(hx:V g h (.agg cs) (r x)){a:AV}(hp:n8 agg sz f.offset cs=some a):
 aO P Γ N r o w g h h (some a):=by
 simp only[V]at hx;obtain⟨vs,hv,hl⟩:=hx;obtain⟨u,h3,h4⟩:=PA hp h1 h2 hl w;exact aO.same H (u:=u) (by simp[execOp,ho,hv,Instr.field,run_underlying hu,hf,asAgg,h3]) h4
theorem ahf(H:Inv P Γ N g h w){ty e:TypeId}{x i:Operand}(ho:o.op=.index ty x i){n:Nat}(hu:P.underlying ty=some (.array n e))
 {agg:Bool}{sz:Nat}(h1:iu P e=some agg)(h2:bH P e=some sz){cs:List AV}(hx:V g h (.agg cs) (r x)){k:IntKind}{m:Int}(hi:r i=.int k m)(hm:0<=m/\m<n)
 {a:AV}(hp:n8 agg sz (m.toNat*sz) cs=some a):aO P Γ N r o w g h h (some a):=by
 simp only[V]at hx;obtain⟨vs,hv,hl⟩:=hx;obtain⟨u,h3,h4⟩:=PA hp h1 h2 hl w;exact aO.same H (u:=u) (by simp[execOp,ho,hv,hi,Instr.index,asIntOf,run_underlying hu,hm,jQ h2,h3]) h4
theorem agF(H:Inv P Γ N g h w){ty:TypeId}{x i:Operand}(ho:o.op=.index ty x i)(hu:P.underlying ty=some .string){s:List UInt8}(hx:r x=.string ⟨s.toArray⟩)
 {k:IntKind}{m:Int}(hi:r i=.int k m)(hm:0<=m){b:UInt8}(hb:s[m.toNat]? =some b):aO P Γ N r o w g h h (some (gm b)):=by
 refine aO.same H (u:=.int .u8 b.toNat) ?_ (by simp[gm,V])
 have h1:(⟨s.toArray⟩:ByteArray)[m.toNat]? =some b:=by
  have hl:=bd hb
  have h2:(⟨s.toArray⟩:ByteArray).size=s.length:=by simp[ByteArray.size]
  rw[getElem?_pos _ _ (by rw[h2];exact hl)];rw[aW hl]at hb;simp only[an]at hb;rw[<-hb];rfl
 simp[execOp,ho,hx,hi,Instr.index,asIntOf,run_underlying hu,hm,h1]
theorem l8(b o n:Nat):(⟨b,o,none⟩:Addr).add n=⟨b,o+n,none⟩:=by unfold Addr.add;split<;>simp_all
theorem Jk(H:Inv P Γ N g h w){ty:TypeId}{x:Operand}{i:Nat}(ho:o.op=.fieldAddr ty x i){fs:Array Field}{f:Field}(hu:P.underlying ty=some (.struct fs))(hf:fs[i]? =some f)
 {sz:Nat}(h2:bH P f.type=some (sz+1)){b m:Nat}(hx:r x=.pointer (some ⟨b,m,none⟩)){a:AV}(ha:V g h a (.pointer (some ⟨b,m+f.offset,none⟩))):
 aO P Γ N r o w g h h (some a):=by
 refine aO.same H ?_ ha;simp[execOp,ho,hx,Instr.fieldAt,run_underlying hu,hf,Instr.sureAddr,fieldPlace,jQ h2,l8]
theorem Hb(H:Inv P Γ N g h w){ty e:TypeId}{x i:Operand}(ho:o.op=.indexAddr ty x i){n:Nat}(hu:P.underlying ty=some (.array n e)){sz:Nat}(h2:bH P e=some sz)
 {b m:Nat}(hx:r x=.pointer (some ⟨b,m,none⟩)){k:IntKind}{q:Int}(hi:r i=.int k q)(hq:0<=q/\q<n){a:AV}
 (ha:V g h a (.pointer (some ⟨b,m+q.toNat*sz,none⟩))):aO P Γ N r o w g h h (some a):=by
 refine aO.same H ?_ ha;simp[execOp,ho,hx,hi,Instr.indexAt,asIntOf,run_underlying hu,Instr.sureAddr,hq,jQ h2,l8]
theorem ae0(H:Inv P Γ N g h w){ty e:TypeId}{x i:Operand}(ho:o.op=.indexAddr ty x i)(hu:P.underlying ty=some (.slice e)){sz:Nat}(h2:bH P e=some sz)
 {a:AV}(hx:V g h a (r x)){m:Nat}(hm:pY a=some m){k:IntKind}{q:Int}(hi:r i=.int k q)(hq:0<=q/\q<m):
 aO P Γ N r o w g h h (some (.dw a sz q.toNat 0)):=by
 have hb:∃b p cap,r x=.slice (some ⟨b,p,none⟩) m cap:=by
  cases a<;>simp only[pY,an,reduceCtorEq]at hm
  case list f k es=>
   subst hm;simp only[V]at hx;obtain⟨_,ad,cap,hv,_,_,h3⟩:=hx
   rcases h3 with rfl|⟨b,p,vs,rfl,_⟩
   ·simp at hq;omega
   ·exact⟨b,p,cap,hv⟩
  case sl i' off n=>
   subst hm;simp only[V]at hx;obtain⟨k,E,es,gr,fl,sh,hk,hle,ad,cap,hv,hc,hn,_⟩:=hx;obtain⟨b,p,rfl⟩:=hn (by omega);exact⟨b,p,cap,hv⟩
 obtain⟨b,p,cap,hv⟩:=hb;refine aO.same H (u:=.pointer (some ⟨b,p+q.toNat*sz,none⟩)) ?_ ?_
 ·simp[execOp,ho,hv,hi,Instr.indexAt,asIntOf,run_underlying hu,hq,jQ h2,l8]
 ·simp only[V];exact⟨r x,b,p,hx,by simp[hv,DS],⟨m,hm,by omega⟩,by simp⟩
theorem Aw(H:Inv P Γ N g h w){x:Operand}{ty:TypeId}(ho:o.op=.call ⟨.builtin .len,#[x],#[ty]⟩)
 {n:Nat}(hk:(∃s:List UInt8,P.underlying ty=some .string/\r x=.string ⟨s.toArray⟩/\n=s.length)\/(∃e a c,P.underlying ty=some (.slice e)/\r x=.slice a n c)\/
  (∃e,P.underlying ty=some (.array n e))\/(∃k e,P.underlying ty=some (.map k e)/\r x=.map none/\n=0)):aO P Γ N r o w g h h (some (.int .i64 n)):=by
 refine aO.same H (u:=.int .i64 n) ?_ (by simp[V])
 rcases hk with⟨s,hu,hx,rfl⟩|⟨e,a,c,hu,hx⟩|⟨e,hu⟩|⟨k,e,hu,hx,rfl⟩
 ·simp[execOp,ho,resolve,invoke,builtin,Builtin.len_,hx,run_underlying hu,goInt,we]
 ·simp[execOp,ho,resolve,invoke,builtin,Builtin.len_,hx,run_underlying hu,goInt]
 ·simp[execOp,ho,resolve,invoke,builtin,Builtin.len_,run_underlying hu,goInt]
 ·simp[execOp,ho,resolve,invoke,builtin,Builtin.len_,hx,run_underlying hu,goInt]
theorem akE(H:Inv P Γ N g h w){x:Operand}{ty e:TypeId}(ho:o.op=.call ⟨.builtin .cap,#[x],#[ty]⟩)(hu:P.underlying ty=some (.slice e)){a:Option Addr}{l c:Nat}
 (hx:r x=.slice a l c):aO P Γ N r o w g h h (some (.int .i64 c)):=by
 refine aO.same H (u:=.int .i64 c) ?_ (by simp[V]);simp[execOp,ho,resolve,invoke,builtin,Builtin.cap_,hx,run_underlying hu,goInt]
theorem Nb(s:List UInt8)(l u:Nat):(⟨s.toArray⟩:ByteArray).extract l u=⟨((s.take u).drop l).toArray⟩:=by
 apply ByteArray.ext;apply jv;simp[ByteArray.data_extract,List.drop_take]
theorem NP(isSlice:Bool)(len cap l u:Nat)(lo hi:Option Value)(h1:match lo with|none=>l=0|some v=>∃k,v=.int k l)(h2:match hi with|none=>u=len|some v=>∃k,v=.int k u)
 (hv:l<=u)(hu:u<=cap)(w:World):(Instr.sliceBounds isSlice len cap lo hi none).run P w=.ok (l,u,cap) w:=by
 cases lo<;>cases hi<;>simp only at h1 h2
 ·subst h1;subst h2;simp[Instr.sliceBounds]
 ·obtain⟨k,rfl⟩:=h2;subst h1;simp[Instr.sliceBounds,run_sliceBound,hu]
 ·obtain⟨k,rfl⟩:=h1;subst h2
  simp only[Instr.sliceBounds,Sem.run_bind,Sem.run_pure,Result.andThen_ok,Option.isSome_none,fe,dq];rw[run_sliceBound w k l u _ (by omega) (by omega)];simp
 ·obtain⟨k,rfl⟩:=h1;obtain⟨k',rfl⟩:=h2
  simp only[Instr.sliceBounds,Sem.run_bind,Sem.run_pure,Result.andThen_ok,Option.isSome_none,fe,dq];rw[run_sliceBound w k' u cap _ (by omega) (by omega)];simp only[Result.andThen_ok,eo];rw[run_sliceBound w k l u _ (by omega) (by omega)];simp
theorem qH{d n:Nat}{x:Option Operand}(hb:bound t d (x.map ay)=some n)(he:∀x,V g h (ax t (ay x)) (r x)):
 match x.map r with|none=>n=d|some v=>∃k,v=.int k n:=by
 cases x with
 |none=>simp only[u_,bound,an]at hb;simp[hb]
 |some x=>
  simp only[dC,bound]at hb
  split at hb
  ·rename_i k m hm
   split at hb
   ·rename_i h0;simp only[an]at hb;have:=he x;rw[hm]at this;refine⟨k,?_⟩;rw[eN this];congr 1;omega
   ·simp at hb
  ·simp at hb
theorem acn(H:Inv P Γ N g h w){ty:TypeId}{x:Operand}{lo hi:Option Operand}(ho:o.op=.slice ty x lo hi none)(hu:P.underlying ty=some .string){s:List UInt8}
 (hx:r x=.string ⟨s.toArray⟩)(he:∀x,V g h (ax t (ay x)) (r x)){l u:Nat}(hl:bound t 0 (lo.map ay)=some l)(hh:bound t s.length (hi.map ay)=some u)(h2:l<=u/\u<=s.length):
 aO P Γ N r o w g h h (some (.str ((s.take u).drop l))):=by
 refine aO.same H (u:=.string ⟨((s.take u).drop l).toArray⟩) ?_ (by simp[V]);have:=NP (P:=P) false s.length s.length l u (lo.map r) (hi.map r) (qH hl he) (qH hh he) h2.1 h2.2 w;simp[execOp,ho,hx,Instr.sliceAt,Instr.slice,run_underlying hu,we,this,Nb]
end
def eC(k:Nat)(es:List AV):Prop:=∀e∈es,e.cells.length=k/\cr e.cells=true
theorem ly:∀{es:List AV}{k:Nat},cG es k=true->eC k es
 |[],_,_=>fun e he=>by simp at he
 |a::as,k,h=>by
  simp only[cG,aB,bj]at h;intro e he
  rcases bD.1 he with rfl|he
  ·exact⟨h.1.1.1,h.1.1.2⟩
  ·exact ly h.2 e he
theorem Hg{es:List AV}{k:Nat}:cG es k=true↔eC k es/\∀e∈es,aN 0 e.cells=true:=by
 induction es with
 |nil=>simp[cG,eC]
 |cons a as ih=>
  simp only[cG,aB,bj,ih,eC,X'];constructor
  ·rintro⟨⟨⟨a1,a2⟩,a3⟩,a4,a5⟩;exact⟨⟨⟨a1,a2⟩,a4⟩,a3,a5⟩
  ·rintro⟨⟨⟨a1,a2⟩,a4⟩,a3,a5⟩;exact⟨⟨⟨a1,a2⟩,a3⟩,a4,a5⟩
theorem vx{es fs:List AV}{k:Nat}:cG (es++fs) k=true↔cG es k=true/\cG fs k=true:=by
 induction es with
 |nil=>simp[cG]
 |cons a as ih=>simp only[eH,cG,aB,ih,and_assoc]
theorem qJ{es fs:List AV}{k:Nat}(h:cG es k=true)(hs:∀e∈fs,e∈es):cG fs k=true:=by
 rw[Hg]at h⊢;exact⟨fun e he=>h.1 e (hs e he),fun e he=>h.2 e (hs e he)⟩
section
variable{g:G}{h:List Ob}
theorem Gf{a:AV}{v:Value}(ho:cr a.cells=true)(hv:V g h a v):v.cells.toList.length=a.cells.length:=gX (qV (si ho) hv)
theorem jD{k:Nat}:∀{es:List AV}{vs:List Value},eC k es->VE g h es vs->vs.length=es.length*k
 |[],vs,_,hv=>by simp only[VE]at hv;simp[hv]
 |e::es,vs,hk,hv=>by
  simp only[VE]at hv;obtain⟨v,vs',h1,rfl,h2⟩:=hv;have:=hk e (by simp);rw[bC,Gf this.2 h1,this.1,jD (fun x hx=>hk x (by simp[hx])) h2,bL,gU];omega
theorem qL:∀{as bs:List AV}{vs ws:List Value},VE g h as vs->VE g h bs ws->VE g h (as++bs) (vs++ws)
 |[],bs,vs,ws,hv,hw=>by simp only[VE]at hv;subst hv;simpa using hw
 |a::as,bs,vs,ws,hv,hw=>by
  simp only[VE]at hv;obtain⟨v,vs',h1,rfl,hr⟩:=hv;simp only[eH,VE];exact⟨v,vs'++ws,h1,by simp,qL hr hw⟩
theorem Gj:∀{as bs:List AV}{vs:List Value},VE g h (as++bs) vs->∃xs ys,vs=xs++ys/\VE g h as xs/\VE g h bs ys
 |[],bs,vs,hv=>⟨[],vs,rfl,by simp[VE],by simpa using hv⟩
 |a::as,bs,vs,hv=>by
  simp only[eH,VE]at hv;obtain⟨v,vs',h1,rfl,hr⟩:=hv;obtain⟨xs,ys,rfl,h2,h3⟩:=Gj hr;exact⟨v.cells.toList++xs,ys,by simp,by simp only[VE];exact⟨v,xs,h1,rfl,h2⟩,h3⟩
theorem wu{k:Nat}{es:List AV}{vs:List Value}(hk:eC k es)(hv:VE g h es vs)(n:Nat):VE g h (es.drop n) (vs.drop (n*k)):=by
 by_cases hn:n<=es.length
 ·have h1:es=es.take n++es.drop n:=(lY n es).symm;rw[h1]at hv;obtain⟨xs,ys,rfl,h2,h3⟩:=Gj hv;have hl:=jD (k:=k) (fun e he=>hk e (lr he)) h2;rw[fw,rR hn]at hl;rw[vc,<-hl,xy];simpa using h3
 ·have hl:=jD hk hv;rw[bx (by omega),bx (by rw[hl];exact mG _ (by omega))];simp[VE]
theorem Ai{k:Nat}{es:List AV}{vs:List Value}(hk:eC k es)(hv:VE g h es vs)(n:Nat):VE g h (es.take n) (vs.take (n*k)):=by
 by_cases hn:n<=es.length
 ·have h1:es=es.take n++es.drop n:=(lY n es).symm;rw[h1]at hv;obtain⟨xs,ys,rfl,h2,h3⟩:=Gj hv;have hl:=jD (k:=k) (fun e he=>hk e (lr he)) h2;rw[fw,rR hn]at hl;rw[List.take_append,<-hl,xz];simpa using h2
 ·have hl:=jD hk hv;rw[cj (by omega),cj (by rw[hl];exact mG _ (by omega))];exact hv
theorem Jg{k:Nat}:∀{es:List AV}{vs:List Value}{i:Nat}{e:AV},eC k es->VE g h es vs->es[i]? =some e->
 ∃v,V g h e v/\∀j u,v.cells.toList[j]? =some u->vs[i*k+j]? =some u
 |[],vs,i,e,_,hv,he=>by simp at he
 |a::as,vs,i,e,hk,hv,he=>by
  simp only[VE]at hv;obtain⟨v,vs',h1,rfl,hr⟩:=hv;have ha:=hk a (by simp)
  have hl:v.cells.toList.length=k:=by rw[Gf ha.2 h1,ha.1]
  cases i with
  |zero=>
   simp at he;subst he;refine⟨v,h1,fun j u hu=>?_⟩;rw[xA,jw,cF (bd hu)];exact hu
  |succ i=>
   simp at he;obtain⟨u,h2,h3⟩:=Jg (fun x hx=>hk x (by simp[hx])) hr he;refine⟨u,h2,fun j x hx=>?_⟩;rw[gU,dB (by omega)];rw[<-h3 j x hx];congr 1;omega
theorem Sk{k:Nat}:∀{es:List AV}{vs:List Value},VE g h es vs->eC 1 es->(∀e∈es,e.one=true)->k=1->VL g h es vs
 |[],vs,hv,_,_,_=>by simpa only [VE,VL]using hv
 |e::es,vs,hv,hk,ho,h1=>by
  simp only[VE]at hv;obtain⟨v,vs',h2,rfl,hr⟩:=hv;simp only[VL];refine⟨v,vs',?_,h2,Sk hr (fun x hx=>hk x (by simp[hx])) (fun x hx=>ho x (by simp[hx])) h1⟩;rw[GI (ho e (by simp)) h2];rfl
end
section
variable{P:Program}{Γ:Nat->Option AV}{N:Env}{g:G}{h:List Ob}{w:World}{r:Operand->Value}{o:Oper}{t:List AV}
theorem GS{ty:TypeId}{agg:Bool}{sz off:Nat}{cs:List AV}{a:AV}(hp:n8 agg sz off cs=some a)(h1:iu P ty=some agg)(h2:bH P ty=some sz){vs:List Value}
 (hv:VL g h cs vs){b m:Nat}(hc:∀j v,vs[j]? =some v->w.cell? ⟨b,m+j,none⟩=some v):∃u,(loadVar ty ⟨b,m+off,none⟩).run P w=.ok u w/\V g h a u:=by
 unfold n8 at hp
 cases agg
 ·simp only[fe,dq]at hp
  split at hp
  ·obtain⟨u,hu,h3⟩:=sy hv hp;refine⟨u,?_,h3⟩;simp[loadVar,Dl h1,hc _ _ hu]
  ·simp at hp
 ·simp only[cE]at hp
  split at hp
  ·rename_i hle;simp only[an]at hp;subst hp;have hl:=gX hv;refine⟨.agg ((vs.drop off).take sz).toArray,?_,?_⟩
   ·have:=run_loadCells_list (P:=P) w ⟨b,m+off,none⟩ ((vs.drop off).take sz) (by
     intro j v hj;rw[l8,lu];apply hc;rw[rS]at hj
     split at hj
     ·rw[pq]at hj;exact hj
     ·simp at hj)
    have hb:((vs.drop off).take sz).length=sz:=by simp;omega
    rw[hb]at this;simp[loadVar,Dl h1,jQ h2,this]
   ·simp only[V];exact⟨_,rfl,Dt _ (Du _ hv)⟩
  ·simp at hp
theorem OI(H:Inv P Γ N g h w){i off n:Nat}{v:Value}(hv:V g h (.sl i off n) v){k:Nat}{E:TypeId}{es:List AV}{gr:Option Nat}{fl sh:Bool}
 (hi:h[i]? =some (.row k E es gr fl sh))(hx:cW es gr off n=true):
 eC k es/\∃a cap vs,v=.slice a n cap/\VE g h ((es.drop off).take n) vs/\(n=0\/∃b p,a=some ⟨b,p,none⟩/\∀j u,vs[j]? =some u->w.cell? ⟨b,p+j,none⟩=some u):=by
 have ho:=H.ob i _ hi;simp only[OV]at ho;obtain⟨h5,hk,ht,hd,hb⟩:=ho;have hK:eC k es:=hk;refine⟨hK,?_⟩;simp only[V]at hv;obtain⟨k',E',es',gr',fl',sh',hl,hle,a,cap,rfl,hc,hn,hq⟩:=hv;rw[hi]at hl;simp only[an,Ob.row.injEq]at hl;obtain⟨rfl,rfl,rfl,rfl,rfl,rfl⟩:=hl
 by_cases h0:n=0
 ·subst h0;exact⟨a,cap,[],rfl,by simp[VE],Or.inl rfl⟩
 ·rcases(hq hx).2 with⟨h1,_⟩|⟨b,sz,st,hρ,hg,rfl,hf⟩
  ·exact absurd h1 h0
  ·rw[hρ]at hb;simp only at hb;obtain⟨hy,c,E',fz,vs,hw,q2,q1,hE,h2⟩:=hb
   have ps:gr.getD 0<=off:=by
    cases gr with
    |none=>simp
    |some lo=>
     simp only[cW,aB,bj]at hx;simpa using hx.1
   have hp:eC k (es.drop (gr.getD 0)):=fun e he=>hK e (kE he)
   have h4:=Ai (k:=k) (fun e he=>hK e (kE (kE he))) (wu hp hE (off-gr.getD 0)) n;rw[List.drop_drop,show gr.getD 0+(off-gr.getD 0)=off by omega]at h4;refine⟨_,cap,_,rfl,h4,Or.inr ⟨b,(off-st)*k,rfl,?_⟩⟩;intro j u hj;rw[rS]at hj
   split at hj
   ·rw[pq]at hj;have ih:=bd hj;rw[aW ih,an]at hj;have:=h2 _ ih;rw[hj]at this;rw[cell_of_row w b _ c E' fz hw,<-this];congr 1
    have e1:(off-st)*k=(gr.getD 0-st)*k+(off-gr.getD 0)*k:=by rw[<-gU];congr 1;omega
    omega
   ·simp at hj
theorem zm(H:Inv P Γ N g h w){a:AV}{v:Value}(hv:V g h a v){k:Nat}{es:List AV}(he:lD h a=some (k,es)):
 eC k es/\∃ad cap vs,v=.slice ad es.length cap/\VE g h es vs/\(es=[]\/∃b p,ad=some ⟨b,p,none⟩/\∀j u,vs[j]? =some u->w.cell? ⟨b,p+j,none⟩=some u):=by
 cases a<;>simp only[lD,reduceCtorEq,an,b9]at he
 case list f k' es'=>
  obtain⟨rfl,rfl⟩:=he;simp only[V]at hv;obtain⟨hk,ad,cap,rfl,_,_,h3⟩:=hv;refine⟨ly hk,?_⟩
  rcases h3 with rfl|⟨b,p,vs,rfl,h4,h5⟩
  ·exact⟨ad,cap,[],rfl,by simp[VE],Or.inl rfl⟩
  ·refine⟨_,cap,vs,rfl,h4,Or.inr ⟨b,p,rfl,fun j u hj=>?_⟩⟩;have hl:=bd hj;rw[aW hl,an]at hj;exact H.mem b _ u (hj▸h5 j hl)
 case sl i off n=>
  split at he
  ·rename_i k' E es' gr fl sh hi
   split at he
   ·rename_i hb;simp only[an,b9]at he;obtain⟨rfl,rfl⟩:=he;obtain⟨hK,ad,cap,vs,rfl,h1,h2⟩:=OI H hv hi hb
    have hc:((es'.drop off).take n).length=n:=by
     have:off+n<=es'.length:=by
      cases gr with
      |none=>simpa[cW]using hb
      |some lo=>simp only[cW,aB,bj,nA]at hb;omega
     simp;omega
    refine⟨fun e he=>hK e (kE (lr he)),ad,cap,vs,by rw[hc],h1,?_⟩
    rcases h2 with h2|h2
    ·left;apply lq.1;rw[hc,h2]
    ·exact Or.inr h2
   ·simp at he
  ·simp at he
theorem GU(H:Inv P Γ N g h w){ty:TypeId}{agg:Bool}{sz:Nat}(h1:iu P ty=some agg)(h2:bH P ty=some sz){a p:AV}{v:Value}(hp:V g h p v)
 (hl:rn Γ h agg sz p=some a):∃ad u,v=.pointer (some ad)/\(loadVar ty ad).run P w=.ok u w/\V g h a u:=by
 cases p<;>simp only[rn,reduceCtorEq]at hl
 case ptr i off=>
  simp only[V]at hp;obtain⟨⟨ih,hi⟩,b,s,hρ,rfl⟩:=hp;rw[hi]at hl;simp only at hl;obtain⟨c,E,fz,hw,_,hv⟩:=H.ob i _ hi b s 0 hρ
  have:=GS (w:=w) hl h1 h2 hv (b:=b) (m:=0) (by
   intro j u hj;rw[cell_of_row w b _ c E fz hw]
   simpa using hj)
  obtain⟨u,h3,h4⟩:=this;exact⟨_,u,rfl,by simpa using h3,h4⟩
 case dw a' k ix off=>
  simp only[V]at hp;obtain⟨u,b,p,hu,hb,⟨m,hm,hf⟩,rfl⟩:=hp
  split at hl
  ·rename_i k' es he
   split at hl
   ·rename_i hk;subst hk;obtain⟨hK,ad,cap,vs,rfl,h3,h4⟩:=zm H hu he
    cases hc:es[ix]? with
    |none=>simp[hc]at hl
    |some e=>
     simp only[hc,lv]at hl;obtain⟨x,h5,h6⟩:=Jg hK h3 hc
     have q1:es≠[]:=by rintro rfl;simp at hc
     rcases h4 with h4|⟨b',p',rfl,h7⟩
     ·exact absurd h4 q1
     ·simp only[DS,an,Addr.mk.injEq,qo]at hb;obtain⟨rfl,rfl⟩:=hb
      have:=GS (w:=w) hl h1 h2 (qV (si (hK e (jz hc)).2) h5) (b:=b') (m:=p'+ix*k') (by
       intro j y hj;rw[lu]
       exact h7 _ _ (h6 j y hj))
      obtain⟨y,h8,h9⟩:=this;exact⟨_,y,rfl,h8,h9⟩
   ·simp at hl
  ·simp at hl
 case eP n off=>
  simp only[V]at hp;subst hp
  cases hn:Γ n with
  |none=>simp[hn]at hl
  |some a'=>
   simp only[hn,lv]at hl;obtain⟨_,vs,hv,hm⟩:=H.mo n a' hn
   have:=GS (w:=w) hl h1 h2 hv (b:=n) (m:=0) (by
    intro j u hj;have hx:=bd hj;rw[aW hx,an]at hj;rw[jw]
    exact H.mem n j u (hj▸hm j hx))
   obtain⟨u,h3,h4⟩:=this;exact⟨_,u,rfl,by simpa using h3,h4⟩
theorem aiL(H:Inv P Γ N g h w){ty:TypeId}{x:Operand}(ho:o.op=.load ty x){agg:Bool}{sz:Nat}(h1:iu P ty=some agg)(h2:bH P ty=some sz){a p:AV}
 (hx:V g h p (r x))(hl:rn Γ h agg sz p=some a):aO P Γ N r o w g h h (some a):=by
 obtain⟨ad,u,h3,h4,h5⟩:=GU H h1 h2 hx hl;exact aO.same H (u:=u) (by simp[execOp,ho,h3,Instr.loadAt,Instr.sureAddr,h4]) h5
theorem MZ:∀{es:List AV}{s:List UInt8},qR es=some s->(∀e∈es,e.one=true)/\∀(g:G)(h:List Ob)(vs:List Value),VL g h es vs->
 ∃ns:List Int,vs=ns.map (Value.int .u8)/\ns.map (fun n=>UInt8.ofNat n.toNat)=s
 |[],s,hs=>by
  simp only[qR,an]at hs;subst hs;exact⟨by simp,fun g h vs hv=>⟨[],by simp only[VL]at hv;simp[hv],rfl⟩⟩
 |a::as,s,hs=>by
  simp only[qR]at hs
  split at hs
  ·rename_i b bs hb hc;simp only[an]at hs;subst hs;obtain⟨h1,h2⟩:=MZ hc
   cases a<;>simp only[DO,reduceCtorEq]at hb
   case int k n=>
    cases k<;>simp only[reduceCtorEq,an]at hb
    refine⟨by intro e he;rcases bD.1 he with rfl|he;·rfl
              ·exact h1 e he,fun g h vs hv=>?_⟩
    simp only[VL,V]at hv;obtain⟨v,vs',rfl,rfl,hr⟩:=hv;obtain⟨ns,rfl,h4⟩:=h2 g h vs' hr;exact⟨n::ns,rfl,by simp[hb,h4]⟩
  ·simp at hs
theorem foldl_push:∀(ns:List Int)(s:ByteArray),(ns.foldl (fun r n=>r.push (UInt8.ofNat n.toNat)) s)=⟨(s.data.toList++ns.map (fun n=>UInt8.ofNat n.toNat)).toArray⟩
 |[],s=>by simp
 |n::ns,s=>by
  rw[tv,foldl_push];apply ByteArray.ext;apply jv;simp[ByteArray.data_push]
theorem aaK{a:AV}{es:List AV}(he:elems h a=some es):∃k,lD h a=some (k,es):=by
 cases a<;>simp only[elems,reduceCtorEq]at he
 case list f k es'=>simp only[an]at he;subst he;exact⟨k,rfl⟩
 case sl i off n=>
  split at he
  ·rename_i k E es' gr fl sh hi;refine⟨k,?_⟩;simp only[lD,hi]
   split at he
   ·rename_i h2;simp only[an]at he;simp[h2,he]
   ·simp at he
  ·simp at he
theorem agf(H:Inv P Γ N g h w){s d e:TypeId}{x:Operand}(ho:o.op=.convert s d x)(hs:P.underlying s=some (.slice e))(he:P.underlying e=some (.int .u8))
 (hd:P.underlying d=some .string){a:AV}(hx:V g h a (r x)){es:List AV}(hc:elems h a=some es){l:List UInt8}(hl:qR es=some l):aO P Γ N r o w g h h (some (.str l)):=by
 obtain⟨k,hk⟩:=aaK hc;obtain⟨hK,ad,cap,vs,hv,h3,h4⟩:=zm H hx hk;obtain⟨h5,h6⟩:=MZ hl;refine aO.same H (u:=.string ⟨l.toArray⟩) ?_ (by simp[V])
 have h2:(convert s d (r x)).run P w=.ok (.string ⟨l.toArray⟩) w:=by
  rw[hv,run_convert_bytes_string w s d e ad es.length cap hs he hd]
  rcases h4 with rfl|⟨b,p,rfl,h7⟩
  ·simp only[qR,an]at hl;subst hl
   cases ad with
   |none=>simp[Conv.bytesToString];rfl
   |some b=>
    have:=run_bytesToString (P:=P) w b 0 cap [] (by simp[loadCells,loadCellsFrom]);simp only[c_,this];rfl
  ·have q1:eC 1 es:=fun e he=>⟨by
    have:=h5 e he
    cases e<;>first|rfl|simp[AV.one]at this,(hK e he).2⟩
   have hb:=Sk (k:=1) h3 q1 h5 rfl;obtain⟨ns,rfl,h8⟩:=h6 g h vs hb
   have hlen:ns.length=es.length:=by have:=gX hb;simpa using this
   have h9:=run_loadCells_list (P:=P) w ⟨b,p,none⟩ (ns.map (Value.int .u8)) (fun j v hj=>by rw[l8];exact h7 j v hj);rw[fy,hlen]at h9;rw[run_bytesToString w _ _ _ ns h9,foldl_push];simp only[h8];congr 3
 simp[execOp,ho,h2]
end
section
variable{P:Program}{Γ:Nat->Option AV}{N:Env}{g:G}{h:List Ob}{w:World}{r:Operand->Value}{o:Oper}{t:List AV}
theorem OF{ty e:TypeId}{k:Nat}(hu:P.underlying ty=some (.slice e))(hk:bH P e=some k){a:Option Addr}{n cap l u:Nat}{lo hi:Option Value}
 (h1:match lo with|none=>l=0|some v=>∃k,v=.int k l)(h2:match hi with|none=>u=n|some v=>∃k,v=.int k u)(hv:l<=u)(hc:u<=cap):
 (Instr.sliceAt ty (.slice a n cap) lo hi none).run P w=.ok (.slice (if cap=l then a else a.map (·.add (l*k))) (u-l) (cap-l)) w:=by
 have:=NP (P:=P) true n cap l u lo hi h1 h2 hv hc w;simp[Instr.sliceAt,Instr.slice,run_underlying hu,jQ hk,this]
theorem abK{f:Bool}{k:Nat}{es:List AV}{a:Option Addr}{n cap l u s:Nat}(hv:V g h (.list f k es) (.slice a n cap))(hy:l<=u)(hu:u<=es.length)(hk:k=s\/es=[]):
 V g h (.list (f&&u==es.length) k ((es.take u).drop l)) (.slice (if cap=l then a else a.map (·.add (l*s))) (u-l) (cap-l)):=by
 simp only[V]at hv⊢;obtain⟨h2,a',hx,he,hf,q1,h3⟩:=hv;simp only[Value.slice.injEq]at he;obtain⟨rfl,rfl,rfl⟩:=he;refine⟨qJ h2 (fun e he=>lr (kE he)),(if cap=l then a else a.map (·.add (l*s))),cap-l,?_,?_,?_,?_⟩
 ·congr 1;simp;omega
 ·intro hb;simp only[aB,nA]at hb;have:=hf hb.1
  simp;omega
 ·simp;omega
 ·by_cases hp:u=l
  ·left;apply lq.1
   simp;omega
  ·right
   have hc:es≠[]:=by rintro rfl;simp at hu;omega
   rcases h3 with h3|⟨b,p,vs,rfl,h4,h5⟩
   ·exact absurd h3 hc
   ·have ih:k=s:=hk.resolve_right hc;subst ih;have hK:=ly h2;have h6:=wu (fun e he=>hK e (lr he)) (Ai hK h4 u) l;refine⟨b,p+l*k,_,?_,h6,?_⟩
    ·rw[if_neg (by omega)];simp[l8]
    ·intro j hj;have hl:=jD hK h4;simp only[Fk,fw]at hj;rw[List.getElem_drop,qp,lu];exact h5 _ _
theorem ac8{i off n l u s:Nat}{a:Option Addr}{m cap:Nat}(hv:V g h (.sl i off n) (.slice a m cap))(q1:l<=u)(hu:u<=n){E:TypeId}{es:List AV}{gr:Option Nat}{fl sh:Bool}
 (hi:h[i]? =some (.row s E es gr fl sh))(hk:cW es gr off n=true):
 V g h (.sl i (off+l) (u-l)) (.slice (if cap=l then a else a.map (·.add (l*s))) (u-l) (cap-l)):=by
 simp only[V]at hv⊢;obtain⟨k,E',es',gr',fl',sh',hx,hle,a',hj,he,hc,hn,hq⟩:=hv;rw[hi]at hx;simp only[an,Ob.row.injEq]at hx;obtain⟨rfl,rfl,rfl,rfl,rfl,rfl⟩:=hx;simp only[Value.slice.injEq]at he;obtain⟨rfl,rfl,rfl⟩:=he;refine⟨_,_,_,_,_,_,hi,by omega,_,_,rfl,by omega,?_,?_⟩
 ·intro h0;obtain⟨b,p,rfl⟩:=hn (by omega)
  by_cases hb:cap=l
  ·exact⟨b,p,by simp[hb]⟩
  ·exact⟨b,p+l*s,by simp[hb,l8]⟩
 ·intro hl;obtain⟨ih,hq⟩:=hq hk;refine⟨by omega,?_⟩
  rcases hq with⟨h1,h2⟩|⟨b,sz,st,h1,h2,rfl,h4⟩
  ·left;omega
  ·by_cases hb:cap=l
   ·left;omega
   ·right;refine⟨b,sz,st,h1,by omega,?_,?_⟩
    ·rw[if_neg hb];simp only[dC,l8,an,Addr.mk.injEq,xB,qo]
     rw[<-gU];congr 1;omega
    ·have:off+l-st+(cap-l)=off-st+cap:=by omega
     rw[this];exact h4
theorem abe(H:Inv P Γ N g h w){ty e:TypeId}{x:Operand}{lo hi:Option Operand}(ho:o.op=.slice ty x lo hi none)(hu:P.underlying ty=some (.slice e)){s:Nat}(hs:bH P e=some s)
 {f:Bool}{k:Nat}{es:List AV}(hx:V g h (.list f k es) (r x))(he:∀x,V g h (ax t (ay x)) (r x)){l u:Nat}(hl:bound t 0 (lo.map ay)=some l)(hh:bound t es.length (hi.map ay)=some u)
 (h2:l<=u/\u<=es.length/\(k=s\/es=[])):aO P Γ N r o w g h h (some (.list (f&&u==es.length) k ((es.take u).drop l))):=by
 have hb:=hx;simp only[V]at hb;obtain⟨_,a,cap,hv,_,hc,_⟩:=hb;rw[hv]at hx;refine aO.same H ?_ (abK hx h2.1 h2.2.1 h2.2.2);have:=OF (w:=w) hu hs (a:=a) (n:=es.length) (cap:=cap) (qH hl he) (qH hh he) h2.1 (by omega);simp[execOp,ho,hv,this]
theorem ace(H:Inv P Γ N g h w){ty e:TypeId}{x:Operand}{lo hi:Option Operand}(ho:o.op=.slice ty x lo hi none)(hu:P.underlying ty=some (.slice e)){s:Nat}(hs:bH P e=some s)
 {i off n:Nat}(hx:V g h (.sl i off n) (r x))(he:∀x,V g h (ax t (ay x)) (r x)){l u:Nat}(hl:bound t 0 (lo.map ay)=some l)(hh:bound t n (hi.map ay)=some u)
 (h2:l<=u/\u<=n){E:TypeId}{es:List AV}{gr:Option Nat}{fl sh:Bool}(hc:h[i]? =some (.row s E es gr fl sh))(hk:cW es gr off n=true):
 aO P Γ N r o w g h h (some (.sl i (off+l) (u-l))):=by
 have hb:=hx;simp only[V]at hb;obtain⟨_,_,_,_,_,_,_,_,a,cap,hv,hj,_⟩:=hb;rw[hv]at hx;refine aO.same H ?_ (ac8 hx h2.1 h2.2 hc hk);have:=OF (w:=w) hu hs (a:=a) (n:=n) (cap:=cap) (qH hl he) (qH hh he) h2.1 (by omega);simp[execOp,ho,hv,this]
inductive F2{α β:Type}(R:α->β->Prop):List α->List β->Prop
 |nil:F2 R [] []
 |cons {a:α} {b:β} {as:List α} {bs:List β}:R a b->F2 R as bs->F2 R (a::as) (b::bs)
theorem HK(off:Nat):∀(l:List Value)(k:Nat)(cells:Array Value),off+k+l.length<=cells.size->
 ((l.zipIdx k).foldl (fun cs (x:Value×Nat)=>cs.setIfInBounds (off+x.2) x.1) cells).toList=cells.toList.take (off+k)++l++cells.toList.drop (off+k+l.length)
 |[],k,cells,_=>by simp
 |v::l,k,cells,hl=>by
  simp only[bL]at hl;rw[List.zipIdx_cons,tv,HK off l (k+1) _ (by simp;omega)];rw[LV];have e:=list_seg_step cells.toList (off+k) v l (by simp;omega);simpa[lu]using e
theorem Rk{cs new:List AV}{vs ns:List Value}{off:Nat}(h1:VL g h cs vs)(h2:VL g h new ns):VL g h (over cs off new) (vs.take off++ns++vs.drop (off+ns.length)):=by
 unfold over;rw[gX h2];exact l7 (l7 (Dt _ h1) h2) (Du _ h1)
theorem Hi(place:Nat->Option (Nat×Nat)):∀(ps:List (Nat×Nat×AV))(parts:List (Nat×Value))(cs out:List AV)(zs:Array Value),
 F2 (fun(p:Nat×Nat×AV) (q:Nat×Value)=>place q.1=some (p.1,p.2.1)/\V g h p.2.2 q.2) ps parts->
 uL cs ps=some out->VL g h cs zs.toList->∃us,Instr.fill place zs parts=some us/\VL g h out us.toList
 |[],parts,cs,out,zs,hf,ho,hv=>by
  cases hf
  simp only[uL,an]at ho;subst ho;exact⟨zs,rfl,hv⟩
 |(off,sz,a)::ps,parts,cs,out,zs,hf,ho,hv=>by
  cases hf with
  |cons hq hf=>
   rename_i q parts;obtain⟨i,v⟩:=q;obtain⟨hp,ha⟩:=hq;simp only[uL]at ho
   split at ho
   ·rename_i hc;obtain⟨hj,q1,hle⟩:=hc;have hb:=qV hj ha;have hl:=gX hb;have ih:=gX hv
    have h1:v.cells.size=sz:=by rw[<-q1,<-hl];simp
    have h2:¬(off+v.cells.size>zs.size):=by
     have:zs.toList.length=zs.size:=by simp
     omega
    have hx:=HK off v.cells.toList 0 zs (by simp;omega)
    have hk:v.cells.zipIdx.foldl (fun cs (x:Value×Nat)=>cs.setIfInBounds (off+x.2) x.1) zs=(v.cells.toList.zipIdx 0).foldl (fun cs (x:Value×Nat)=>cs.setIfInBounds (off+x.2) x.1) zs:=by
     rw[<-Fl,Array.toList_zipIdx]
    obtain⟨us,h3,h4⟩:=Hi place ps parts _ out (v.cells.zipIdx.foldl (fun cs (x:Value×Nat)=>cs.setIfInBounds (off+x.2) x.1) zs) hf ho (by
     rw[hk,hx];have:=Rk (off:=off) hv hb
     simpa using this)
    refine⟨us,?_,h4⟩;simp only[Instr.fill,hp];rw[if_neg (by simp only[fL,bj,ne_eq,not_or,Fo];exact⟨h1,h2⟩)];exact h3
   ·simp at ho
theorem GW(g:G)(h:List Ob)(v:Value):VL g h (ia v).cells v.cells.toList:=by
 by_cases ha:∃cs,v=.agg cs
 ·obtain⟨cs,rfl⟩:=ha;have:=rh (g:=g) (h:=h) (f:=lG) (e:=id) (wh g h) cs.toList;simpa[ia,AV.cells,Value.cells]using this
 ·have h1:v.cells=#[v]:=by cases v<;>first|rfl|exact absurd ⟨_,rfl⟩ ha
  have h2:(ia v).cells=[ia v]:=by
   have:∀cs,ia v≠.agg cs:=by
    intro cs hc;unfold ia at hc
    split at hc<;>first|exact ha ⟨_,rfl⟩|cases hc|(unfold lG at hc;split at hc<;>cases hc)
   revert this
   cases ia v<;>intro this<;>first|rfl|exact absurd rfl (this _)
  rw[h1,h2];simp only[VL];exact⟨v,[],rfl,oM g h v,rfl⟩
theorem Nn:∀{fs:List Field},fs.all (fun f=>(bH P f.type).isSome)=true->∀w:World,
 (fs.mapM (m:=Sem) fun f=>Prod.mk f.offset<$>sizeOf f.type).run P w=.ok (fs.map fun f=>(f.offset,(bH P f.type).getD 0)) w
 |[],_,_=>rfl
 |f::fs,hf,w=>by
  simp only[tw,aB]at hf;obtain⟨s,hs⟩:=LW.1 hf.1;simp[tx,jQ hs,Nn hf.2,hs]
theorem agZ(H:Inv P Γ N g h w){ty:TypeId}{ps:Array (Nat×Operand)}(ho:o.op=.build ty ps){z:AV}(hz:eB P ty=some z)(hc:zS P ty=true){hb:List (Nat×Nat×AX)}
 (q1:q_ P ty ps.toList=some hb)(he:∀x,V g h (ax t (ay x)) (r x)){cs:List AV}(hf:uL z.cells (hb.map fun p=>(p.1,p.2.1,ax t p.2.2))=some cs):
 aO P Γ N r o w g h h (some (.agg cs)):=by
 obtain⟨zv,hj,rfl⟩:=H3 hz w
 have hF:∀(l:List (Nat×Operand))(hb:List (Nat×Nat×AX)),q_ P ty l=some hb->
  F2 (fun(p:Nat×Nat×AV) (q:Nat×Value)=>placeOf P ty q.1=some (p.1,p.2.1)/\V g h p.2.2 q.2) (hb.map fun p=>(p.1,p.2.1,ax t p.2.2)) (l.map fun p=>(p.1,r p.2)):=by
  intro l
  induction l with
  |nil=>intro hb hl;simp[q_]at hl;subst hl;exact .nil
  |cons q l ih=>
   intro hb hl;simp only[q_,tx]at hl;obtain⟨i,x⟩:=q
   cases hp:placeOf P ty i with
   |none=>simp[hp]at hl
   |some os=>
    obtain⟨of,s⟩:=os
    cases hm:q_ P ty l with
    |none=>simp only[q_]at hm;simp[hp,hm]at hl
    |some hx=>
     have h4:=hm;simp only[q_]at hm;simp[hp,hm]at hl;subst hl;exact .cons ⟨hp,he x⟩ (ih hx h4)
 have hF:=hF ps.toList hb q1
 have hv:(ps.map fun(p:Nat×Operand)=>(p.1,r p.2)).toList=ps.toList.map fun p=>(p.1,r p.2):=by simp
 cases hu:P.underlying ty with
 |none=>simp[zS,hu]at hc
 |some d=>
  cases d<;>simp only[zS,hu,fe]at hc
  case struct fs=>
   have hy:=Nn (P:=P) (fs:=fs.toList) hc w
   obtain⟨us,h1,h2⟩:=Hi (fun i=>((fs.toList.map fun f=>(f.offset,(bH P f.type).getD 0)).toArray)[i]?) _ _ _ cs zv.cells (by
    have:∀{l:List (Nat×Nat×AV)}{m:List (Nat×Value)},F2 (fun(p:Nat×Nat×AV) (q:Nat×Value)=>placeOf P ty q.1=some (p.1,p.2.1)/\V g h p.2.2 q.2) l m->
     F2 (fun(p:Nat×Nat×AV) (q:Nat×Value)=>((fs.toList.map fun f=>(f.offset,(bH P f.type).getD 0)).toArray)[q.1]? =some (p.1,p.2.1)/\V g h p.2.2 q.2) l m:=by
     intro l m hk
     induction hk with
     |nil=>exact .nil
     |cons hq _ ih=>
      refine .cons ⟨?_,hq.2⟩ ih;have hq:=hq.1;simp only[placeOf,hu]at hq
      split at hq
      ·rename_i f h5;simp only[cm]at hq;obtain⟨s,hs1,ht⟩:=hq;simp[h5,hs1,<-ht]
      ·simp at hq
    exact this hF) hf (GW g h zv)
   refine aO.same H (u:=.agg us) ?_ (by simp only[V];exact⟨us.toList,by simp,h2⟩);rw[<-hv]at h1;simp[execOp,ho,Instr.build,run_underlying hu,hj,Array.mapM_eq_mapM_toList,hy];simp at h1;rw[h1];simp
  case array n e=>
   cases hs:bH P e with
   |none=>
    simp[hs]at hc
   |some s=>
    obtain⟨us,h1,h2⟩:=Hi (fun i=>some (i*s,s)) _ _ _ cs zv.cells (by
     have:∀{l:List (Nat×Nat×AV)}{m:List (Nat×Value)},F2 (fun(p:Nat×Nat×AV) (q:Nat×Value)=>placeOf P ty q.1=some (p.1,p.2.1)/\V g h p.2.2 q.2) l m->
      F2 (fun(p:Nat×Nat×AV) (q:Nat×Value)=>(fun i=>some (i*s,s)) q.1=some (p.1,p.2.1)/\V g h p.2.2 q.2) l m:=by
      intro l m hk
      induction hk with
      |nil=>exact .nil
      |cons hq _ ih=>
       refine .cons ⟨?_,hq.2⟩ ih;have hq:=hq.1;simp only[placeOf,hu,hs,dC]at hq;exact hq
     exact this hF) hf (GW g h zv)
    refine aO.same H (u:=.agg us) ?_ (by simp only[V];exact⟨us.toList,by simp,h2⟩);rw[<-hv]at h1;simp[execOp,ho,Instr.build,run_underlying hu,hj,jQ hs];simp at h1;rw[h1];simp
end
section
variable{P:Program}{Γ:Nat->Option AV}{N:Env}{g:G}{h:List Ob}{w:World}{r:Operand->Value}{o:Oper}{t:List AV}
theorem G8(H:Inv P Γ N g h w){x:Operand}{ty hk:TypeId}{ok:Bool}(ho:o.op=.typeAssert x hk ty ok){d:TypeDesc}(hd:P.underlying ty=some d)(h2:∀ms,d≠.interface ms){z:AV}
 (hz:eB P ty=some z){a:AV}(ha:V g h a (r x)){v:AV}
 (hv:(∃u b,a=.bW u b/\((u=ty/\v=if ok then .aH [b,.bool true]else b)\/(u≠ty/\ok=true/\v=.aH [z,.bool false])))\/(a=.fv/\ok=true/\v=.aH [z,.bool false])):
 aO P Γ N r o w g h h (some v):=by
 obtain⟨zv,hc,rfl⟩:=H3 hz w
 have hl:∀(x:Value),(match d,x with|.interface _,.nilIface=>false|_,_=>true)=true:=by intro x;cases d<;>first|rfl|exact absurd rfl (h2 _)
 rcases hv with⟨u,b,rfl,h1⟩|⟨rfl,rfl,rfl⟩
 ·simp only[V]at ha;obtain⟨y,hx,hb⟩:=ha
  rcases h1 with⟨rfl,rfl⟩|⟨hj,rfl,rfl⟩
  ·cases ok
   ·refine aO.same H (u:=y) ?_ hb
    cases d<;>first
     |exact absurd rfl (h2 _)
     |simp[execOp,ho,hx,Instr.typeAssert,run_underlying hd]
   ·refine aO.same H (u:=.tuple #[y,.bool true]) ?_ (by simp only[cE,V,VL];exact⟨[y,.bool true],rfl,_,_,rfl,hb,_,_,rfl,rfl,rfl⟩)
    cases d<;>first
     |exact absurd rfl (h2 _)
     |simp[execOp,ho,hx,Instr.typeAssert,run_underlying hd]
  ·refine aO.same H (u:=.tuple #[zv,.bool false]) ?_ (by simp only[V,VL];exact⟨[zv,.bool false],rfl,_,_,rfl,oM g h zv,_,_,rfl,rfl,rfl⟩)
   cases d<;>first
    |exact absurd rfl (h2 _)
    |simp[execOp,ho,hx,Instr.typeAssert,run_underlying hd,hj,hc]
 ·simp only[V]at ha;refine aO.same H (u:=.tuple #[zv,.bool false]) ?_ (by simp only[V,VL];exact⟨[zv,.bool false],rfl,_,_,rfl,oM g h zv,_,_,rfl,rfl,rfl⟩)
  cases d<;>first
   |exact absurd rfl (h2 _)
   |simp[execOp,ho,ha,Instr.typeAssert,run_underlying hd,hc]
theorem On:∀{xs:List AV}{a v:AV}{vs:List Value}{u:Value},ni a xs=some v->V g h a u->VL g h xs vs->∃y,(vs.foldlM Builtin.min2 u).run P w=.ok y w/\V g h v y
 |[],a,v,vs,u,hm,ha,hx=>by
  simp only[VL]at hx;subst hx
  cases a<;>simp only[ni,reduceCtorEq,an]at hm
  subst hm;exact⟨u,by simp,ha⟩
 |b::xs,a,v,vs,u,hm,ha,hx=>by
  simp only[VL]at hx;obtain⟨y,vs',rfl,hb,hr⟩:=hx
  cases a<;>try (simp only[ni,reduceCtorEq]at hm;done)
  cases b<;>simp only[ni,reduceCtorEq]at hm
  split at hm
  ·rename_i hk;subst hk;rw[eN ha,eN hb];obtain⟨z,h1,h2⟩:=On (u:=.int _ _) hm (by simp only[V];rfl) hr;exact⟨z,by rw[List.foldlM_cons];simp[Builtin.min2,h1],h2⟩
  ·simp at hm
theorem Pm:∀{xs:List AV}{a v:AV}{vs:List Value}{u:Value},rG a xs=some v->V g h a u->VL g h xs vs->∃y,(vs.foldlM Builtin.max2 u).run P w=.ok y w/\V g h v y
 |[],a,v,vs,u,hm,ha,hx=>by
  simp only[VL]at hx;subst hx
  cases a<;>simp only[rG,reduceCtorEq,an]at hm
  subst hm;exact⟨u,by simp,ha⟩
 |b::xs,a,v,vs,u,hm,ha,hx=>by
  simp only[VL]at hx;obtain⟨y,vs',rfl,hb,hr⟩:=hx
  cases a<;>try (simp only[rG,reduceCtorEq]at hm;done)
  cases b<;>simp only[rG,reduceCtorEq]at hm
  split at hm
  ·rename_i hk;subst hk;rw[eN ha,eN hb];obtain⟨z,h1,h2⟩:=Pm (u:=.int _ _) hm (by simp only[V];rfl) hr;exact⟨z,by rw[List.foldlM_cons];simp[Builtin.max2,h1],h2⟩
  ·simp at hm
theorem akx(H:Inv P Γ N g h w){xs:Array Operand}{ts:Array TypeId}(ho:o.op=.call ⟨.builtin .min,xs,ts⟩)(he:∀x,V g h (ax t (ay x)) (r x)){a v:AV}{as:List AV}
 (hx:(xs.toList.map ay).map (ax t)=a::as)(hv:ni a as=some v):aO P Γ N r o w g h h (some v):=by
 have h1:VL g h (a::as) (xs.toList.map r):=by rw[<-hx,iW];exact rh he _
 simp only[VL]at h1;obtain⟨u,vs,h2,h3,h4⟩:=h1;obtain⟨y,h5,h6⟩:=On (P:=P) (w:=w) hv h3 h4;refine aO.same H (u:=y) ?_ h6
 have h7:(xs.map r).toList=u::vs:=by simpa using h2
 simp[execOp,ho,resolve,invoke,builtin,Builtin.min_,h2,h5]
theorem akA(H:Inv P Γ N g h w){xs:Array Operand}{ts:Array TypeId}(ho:o.op=.call ⟨.builtin .max,xs,ts⟩)(he:∀x,V g h (ax t (ay x)) (r x)){a v:AV}{as:List AV}
 (hx:(xs.toList.map ay).map (ax t)=a::as)(hv:rG a as=some v):aO P Γ N r o w g h h (some v):=by
 have h1:VL g h (a::as) (xs.toList.map r):=by rw[<-hx,iW];exact rh he _
 simp only[VL]at h1;obtain⟨u,vs,h2,h3,h4⟩:=h1;obtain⟨y,h5,h6⟩:=Pm (P:=P) (w:=w) hv h3 h4;refine aO.same H (u:=y) ?_ h6
 have h7:(xs.map r).toList=u::vs:=by simpa using h2
 simp[execOp,ho,resolve,invoke,builtin,Builtin.max_,h2,h5]
theorem qD{ty:TypeId}{s:SK}(hs:l9 P ty=some s):P.cellsOf ty=1/\match s with|.int=>∃k,P.underlying ty=some (.int k)|.str=>P.underlying ty=some .string|.bool=>P.underlying ty=some .bool:=by
 unfold l9 at hs
 split at hs
 ·rename_i hc;refine⟨by simpa using hc,?_⟩
  split at hs<;>simp only[an,reduceCtorEq]at hs<;>subst hs<;>simp_all
 ·simp at hs
theorem Z7{ty:TypeId}{s:SK}(hs:l9 P ty=some s)(w:World):(isAgg ty).run P w=.ok false w:=by
 obtain⟨_,h1⟩:=qD hs
 cases s<;>simp only at h1
 ·obtain⟨k,hk⟩:=h1;simp[isAgg,run_underlying hk]
 ·simp[isAgg,run_underlying h1]
 ·simp[isAgg,run_underlying h1]
theorem vu{ty:TypeId}{s:SK}(hs:l9 P ty=some s){xs:Array Value}{i:Nat}{x:Value}(hx:xs[i]? =some x)(w:World):(part ty xs i).run P w=.ok x w:=by
 simp[part,Z7 hs,hx]
theorem Pe(a b:List UInt8):((⟨a.toArray⟩:ByteArray)==⟨b.toArray⟩)=(a==b):=by
 rw[beq_toListBytes,Dd]
theorem CG{ty:TypeId}{s:SK}(hs:l9 P ty=some s){a b:AV}{c:Bool}(hc:fR s a b=some c){x y:Value}(hx:V g h a x)(hy:V g h b y)(d:Nat)(w:World):
 (Op.equalIn (d+1) ty x y).run P w=.ok c w:=by
 obtain⟨_,h1⟩:=qD hs
 cases s<;>simp only at h1<;>cases a<;>cases b<;>simp only[fR,reduceCtorEq,an]at hc
 ·obtain⟨k,hk⟩:=h1
  split at hc
  ·rename_i h2;subst h2;simp only[an]at hc;rw[eN hx,eN hy,run_equalIn_int w d ty _ k _ _ hk,hc]
  ·simp at hc
 ·rw[kq hx,kq hy,run_equalIn_string w d ty _ _ h1,Dd,hc]
 ·rw[mP hx,mP hy,run_equalIn_bool w d ty _ _ h1,hc]
theorem MQ{d:Nat}:∀{fs:List Field}{ss:List SK}{i:Nat}{as bs:List AV}{xs ys:Array Value}{c:Bool},uG P i fs=some ss->VL g h as (xs.toList.drop i)->VL g h bs (ys.toList.drop i)->
 iH ss as bs=some c->∀w:World,(Op.eqFields (d+1) xs ys fs).run P w=.ok c w
 |[],ss,i,as,bs,xs,ys,c,hf,hx,hy,hc,w=>by
  simp only[uG,an]at hf;subst hf
  cases as<;>cases bs<;>simp only[iH,reduceCtorEq,an]at hc
  subst hc;simp[Op.eqFields]
 |f::fs,ss,i,as,bs,xs,ys,c,hf,hx,hy,hc,w=>by
  simp only[uG]at hf
  split at hf
  ·rename_i s q2 hs hb
   split at hf
   ·rename_i hn;simp only[aB,bne_iff_ne,ne_eq,nA]at hn;simp only[an]at hf;subst hf
    cases as with
    |nil=>simp[iH]at hc
    |cons a as=>
     cases bs with
     |nil=>simp[iH]at hc
     |cons b bs=>
      simp only[VL]at hx hy;obtain⟨x,hk,h2,hj,hl⟩:=hx;obtain⟨y,q1,hv,h4,ih⟩:=hy
      have hp:xs[i]? =some x:=by
       have:=congrArg (·[0]?) h2;simp[pq]at this;exact this
      have h5:ys[i]? =some y:=by
       have:=congrArg (·[0]?) hv;simp[pq]at this;exact this
      have hq:xs.toList.drop (i+1)=hk:=by rw[<-Bu,h2];rfl
      have ht:ys.toList.drop (i+1)=q1:=by rw[<-Bu,hv];rfl
      simp only[iH]at hc
      cases he:fR s a b with
      |none=>simp[he]at hc
      |some e=>
       have h1:=CG hs he hj h4 d w;simp only[he]at hc;have hd:=vu hs hp w;have hg:=vu hs h5 w;simp only[Op.eqFields,hn.1,ne_eq,not_false_eq_true,cE,Sem.run_bind,Result.andThen_ok,hn.2,hd,hg,h1]
       cases e
       ·simp only[an]at hc;subst hc;simp
       ·simp only at hc;simp only[rT,fe,dq];exact MQ hb (by rw[hq];exact hl) (by rw[ht];exact ih) hc w
   ·simp at hf
  ·simp at hf
def uo(d:Nat)(e:TypeId)(n:Nat)(xs ys:Array Value):List Nat->Sem Bool
 |[]=>pure true
 |i::is=>do
  let a<-part e xs (i*n)
  let b<-part e ys (i*n)
  let r<-Op.equalIn d e a b
  if(!r)=true then pure false else uo d e n xs ys is
theorem run_equalIn_array(d:Nat)(ty e:TypeId)(len s:Nat)(xs ys:Array Value)(ht:P.underlying ty=some (.array len e))(hs:bH P e=some s)(w:World):
 (Op.equalIn (d+1) ty (.agg xs) (.agg ys)).run P w=(uo d e s xs ys (List.range' 0 len)).run P w:=by
 simp only[Op.equalIn,Sem.run_bind,run_underlying ht,Result.andThen_ok,jQ hs];rw[aCh];simp only[Std.Legacy.Range.size,Fp,Nat.add_sub_cancel,Nat.div_one];generalize List.range' 0 len=is
 induction is generalizing w with
 |nil=>simp[uo]
 |cons i is ih=>
  simp only[List.forIn_cons,uo,Sem.run_bind,Sem.run_ite];generalize(part e xs (i*s)).run P w=r1
  cases r1 with
  |ok a w1=>
   simp only[Result.andThen_ok];generalize(part e ys (i*s)).run P w1=r2
   cases r2 with
   |ok b w2=>
    simp only[Result.andThen_ok];generalize(Op.equalIn d e a b).run P w2=r3
    cases r3 with
    |ok r w3=>
     cases r
     ·simp only[Result.andThen_ok,xC,cE,Sem.run_pure]
     ·simp only[Result.andThen_ok,rT,fe,dq,Sem.run_pure];exact ih w3
    |halt x w3=>simp[Result.andThen]
   |halt x w2=>simp[Result.andThen]
  |halt x w1=>simp[Result.andThen]
theorem Nh{d:Nat}{e:TypeId}{s:SK}(hs:l9 P e=some s):∀{n i:Nat}{as bs:List AV}{xs ys:Array Value}{c:Bool},VL g h as (xs.toList.drop i)->VL g h bs (ys.toList.drop i)->
 iH (List.replicate n s) as bs=some c->∀w:World,(uo (d+1) e 1 xs ys (List.range' i n)).run P w=.ok c w
 |0,i,as,bs,xs,ys,c,hx,hy,hc,w=>by
  simp only[List.replicate_zero]at hc
  cases as<;>cases bs<;>simp only[iH,reduceCtorEq,an]at hc
  subst hc;simp[uo]
 |n+1,i,as,bs,xs,ys,c,hx,hy,hc,w=>by
  simp only[mE]at hc
  cases as with
  |nil=>simp[iH]at hc
  |cons a as=>
   cases bs with
   |nil=>simp[iH]at hc
   |cons b bs=>
    simp only[VL]at hx hy;obtain⟨x,hb,h2,hk,hj⟩:=hx;obtain⟨y,hl,hv,q1,h4⟩:=hy
    have ih:xs[i]? =some x:=by
     have:=congrArg (·[0]?) h2;simp[pq]at this;exact this
    have hf:ys[i]? =some y:=by
     have:=congrArg (·[0]?) hv;simp[pq]at this;exact this
    have hp:xs.toList.drop (i+1)=hb:=by rw[<-Bu,h2];rfl
    have h5:ys.toList.drop (i+1)=hl:=by rw[<-Bu,hv];rfl
    simp only[iH]at hc
    cases he:fR s a b with
    |none=>simp[he]at hc
    |some e'=>
     have h1:=CG hs he hk q1 d w;simp only[he]at hc;have hq:=vu hs ih w;have ht:=vu hs hf w;simp only[List.range'_succ,uo,Sem.run_bind,Result.andThen_ok,Nat.mul_one,hq,ht,h1]
     cases e'
     ·simp only[an]at hc;subst hc;simp
     ·simp only at hc;simp only[rT,fe,dq];exact Nh hs (by rw[hp];exact hj) (by rw[h5];exact h4) hc w
theorem cellsOf_size{ty:TypeId}{s:SK}(hs:l9 P ty=some s):bH P ty=some 1:=by
 obtain⟨h1,h2⟩:=qD hs
 have hu:∃d,P.underlying ty=some d:=by
  cases s<;>simp only at h2
  ·exact⟨_,h2.choose_spec⟩
  ·exact⟨_,h2⟩
  ·exact⟨_,h2⟩
 unfold Program.cellsOf at h1;unfold bH
 cases hi:P.info? ty with
 |none=>simp[hi]at h1
 |some i=>simp[hi]at h1;simp[h1]
theorem Pr{ty:TypeId}{ss:List SK}(hs:wP P ty=some ss){as bs:List AV}{xs ys:List Value}{c:Bool}(hx:VL g h as xs)(hy:VL g h bs ys)(hc:iH ss as bs=some c)(d:Nat)(w:World):
 (Op.equalIn (d+2) ty (.agg xs.toArray) (.agg ys.toArray)).run P w=.ok c w:=by
 unfold wP at hs
 split at hs
 ·rename_i fs hu
  split at hs
  ·rename_i hb
   have h2:P.stoodInHeld ty=false:=by simpa using hb
   have hv:P.fieldsOf ty=fs:=by simp[Program.fieldsOf,hu]
   rw[run_equalIn_struct w (d+1) ty _ _ (by rw[hv];exact hu) h2,hv];exact MQ hs (by simpa using hx) (by simpa using hy) hc w
  ·simp at hs
 ·rename_i n e hu;simp only[cm]at hs;obtain⟨s,h1,rfl⟩:=hs;rw[run_equalIn_array (d+1) ty e n 1 _ _ hu (cellsOf_size h1)];exact Nh h1 (by simpa using hx) (by simpa using hy) hc w
 ·simp at hs
theorem afG{ty:TypeId}{e:EK}(hk:jR P ty=some e){a b:AV}{c:Bool}(hc:cC e a b=some c){x y:Value}(hx:V g h a x)(hy:V g h b y)(w:World):
 (Op.equal ty x y).run P w=.ok c w:=by
 unfold jR at hk
 split at hk
 ·rename_i s hs;simp only[an]at hk;subst hk;exact CG hs hc hx hy 9999 w
 ·simp only[cm]at hk;obtain⟨ss,h2,rfl⟩:=hk
  cases a<;>cases b<;>simp only[cC,reduceCtorEq]at hc
  split at hc
  ·simp only[V]at hx hy;obtain⟨xs,rfl,hx⟩:=hx;obtain⟨ys,rfl,hy⟩:=hy;exact Pr h2 hx hy hc 9998 w
  ·simp at hc
end
section
variable{P:Program}{Γ:Nat->Option AV}{N:Env}{g:G}{h:List Ob}{w:World}{r:Operand->Value}{o:Oper}{t:List AV}
theorem abM{ty:TypeId}{ms:Array (String×TypeId)}(hu:P.underlying ty=some (.interface ms))(u:TypeId)(v:Value)(d:Nat)(w:World):
 (Op.equalIn (d+1) ty .nilIface (.iface u v)).run P w=.ok false w/\(Op.equalIn (d+1) ty (.iface u v) .nilIface).run P w=.ok false w:=by
 constructor<;>simp[Op.equalIn,run_underlying hu]
theorem Cr{ty:TypeId}{ms:Array (String×TypeId)}(hu:P.underlying ty=some (.interface ms))(u:TypeId)(v:Value)(w:World):
 (Op.equal ty .nilIface (.iface u v)).run P w=.ok false w/\(Op.equal ty (.iface u v) .nilIface).run P w=.ok false w:=abM hu u v 9999 w
theorem acd{ty:TypeId}{p q:Array TypeId}{v:Bool}(hu:P.underlying ty=some (.func p q v))(f:Fn)(a b:Array Value)(d:Nat)(w:World):
 (Op.equalIn (d+1) ty .nilFunc .nilFunc).run P w=.ok true w/\(Op.equalIn (d+1) ty .nilFunc (.func f a b)).run P w=.ok false w/\(Op.equalIn (d+1) ty (.func f a b) .nilFunc).run P w=.ok false w:=by
 refine⟨?_,?_,?_⟩<;>simp[Op.equalIn,run_underlying hu]
theorem vU{ty:TypeId}{p q:Array TypeId}{v:Bool}(hu:P.underlying ty=some (.func p q v))(f:Fn)(a b:Array Value)(w:World):
 (Op.equal ty .nilFunc .nilFunc).run P w=.ok true w/\(Op.equal ty .nilFunc (.func f a b)).run P w=.ok false w/\(Op.equal ty (.func f a b) .nilFunc).run P w=.ok false w:=acd hu f a b 9999 w
theorem ua{ty:TypeId}{x y:Value}{c:Bool}(h1:binOp .eql ty x y=(do pure (.bool (<-Op.equal ty x y))))(h2:(Op.equal ty x y).run P w=.ok c w):(binOp .eql ty x y).run P w=.ok (.bool c) w:=by
 rw[h1,Sem.run_bind,h2];rfl
theorem tZ{ty:TypeId}{x y:Value}{c:Bool}(h1:binOp .neq ty x y=(do pure (.bool (!(<-Op.equal ty x y)))))(h2:(Op.equal ty x y).run P w=.ok c w):(binOp .neq ty x y).run P w=.ok (.bool !c) w:=by
 rw[h1,Sem.run_bind,h2];rfl
theorem Ps{ty:TypeId}{e:EK}(hk:qX P ty=some e){x y:Operand}{a b:AV}{c:Bool}(hc:cC e a b=some c)(hx:V g h a (r x))(hy:V g h b (r y))(w:World):
 (do eqGuard .eql ty x y (r x) (r y);binOp .eql ty (r x) (r y):Sem Value).run P w=.ok (.bool c) w/\
 (do eqGuard .neq ty x y (r x) (r y);binOp .neq ty (r x) (r y):Sem Value).run P w=.ok (.bool !c) w:=by
 unfold qX at hk
 split at hk
 ·rename_i s hs;simp only[an]at hk;subst hk;have hq:=CG hs hc hx hy 9999;obtain⟨_,h1⟩:=qD hs
  cases s<;>simp only at h1<;>cases a<;>cases b<;>simp only[cC,fR,reduceCtorEq,an]at hc
  ·obtain⟨k,hk⟩:=h1
   split at hc
   ·rename_i hv;subst hv;simp only[an]at hc;subst hc;rw[eN hx,eN hy];constructor
    ·simp only[Sem.run_bind];rw[iB (by simp) (by simp)];simp[binOp,Op.intCmp]
    ·simp only[Sem.run_bind];rw[iB (by simp) (by simp)];simp[binOp,Op.intCmp,bne]
   ·simp at hc
  ·rw[kq hx,kq hy];subst hc;constructor
   ·simp only[Sem.run_bind];rw[iB (by simp) (by simp)];simp only[Result.andThen_ok,binOp,Op.stringOp,Dd];rfl
   ·simp only[Sem.run_bind];rw[iB (by simp) (by simp)];simp only[Result.andThen_ok,binOp,Op.stringOp,Dd];rfl
  ·rw[mP hx,mP hy]at*;subst hc;constructor
   ·simp only[Sem.run_bind];rw[iB (by simp) (by simp)];exact ua rfl (run_equal_bool w ty _ _ h1)
   ·simp only[Sem.run_bind];rw[iB (by simp) (by simp)];exact tZ rfl (run_equal_bool w ty _ _ h1)
 ·split at hk
  iterate 2
   ·split at hk
    ·rename_i hg
     have h2:P.eqGuardType P.depth ty=false:=by simpa using hg
     simp only[cm]at hk;obtain⟨ss,hb,rfl⟩:=hk
     cases a<;>cases b<;>simp only[cC,reduceCtorEq]at hc
     split at hc
     ·simp only[V]at hx hy;obtain⟨xs,hj,hx⟩:=hx;obtain⟨ys,hl,hy⟩:=hy;have:=Pr hb hx hy hc 9998 w;rw[hj,hl];constructor
      ·simp only[Sem.run_bind];rw[run_eqGuard_agg w .eql ty x y _ _ h2];simp only[Result.andThen_ok,run_eql_struct,this]
      ·simp only[Sem.run_bind];rw[run_eqGuard_agg w .neq ty x y _ _ h2];simp only[Result.andThen_ok,run_neq_struct,this]
     ·simp at hc
    ·simp at hk
  ·rename_i ms hu;simp only[an]at hk;subst hk
   cases a<;>cases b<;>simp only[cC,reduceCtorEq,an]at hc
   all_goals
    subst hc;simp only[V]at hx hy
   ·obtain⟨y',hy,_⟩:=hy;rw[hx,hy];constructor
    ·simp only[Sem.run_bind];rw[iB (by simp) (by simp)];exact ua rfl (Cr hu _ _ w).1
    ·simp only[Sem.run_bind];rw[iB (by simp) (by simp)];exact tZ rfl (Cr hu _ _ w).1
   ·obtain⟨y',hx,_⟩:=hx;rw[hx,hy];constructor
    ·simp only[Sem.run_bind];rw[iB (by simp) (by simp)];exact ua rfl (Cr hu _ _ w).2
    ·simp only[Sem.run_bind];rw[iB (by simp) (by simp)];exact tZ rfl (Cr hu _ _ w).2
  ·rename_i p q v hu;simp only[an]at hk;subst hk
   cases a<;>cases b<;>simp only[cC,reduceCtorEq,an]at hc
   all_goals
    subst hc;simp only[V]at hx hy
   ·rw[hx,hy];constructor
    ·simp only[Sem.run_bind];rw[iB (by simp) (by simp)];exact ua rfl (vU hu (.func 0) #[] #[] w).1
    ·simp only[Sem.run_bind];rw[iB (by simp) (by simp)];exact tZ rfl (vU hu (.func 0) #[] #[] w).1
   ·obtain⟨_,_,hy,_⟩:=hy;rw[hx,hy];constructor
    ·simp only[Sem.run_bind];rw[iB (by simp) (by simp)];exact ua rfl (vU hu _ _ _ w).2.1
    ·simp only[Sem.run_bind];rw[iB (by simp) (by simp)];exact tZ rfl (vU hu _ _ _ w).2.1
   ·obtain⟨_,_,hx,_⟩:=hx;rw[hx,hy];constructor
    ·simp only[Sem.run_bind];rw[iB (by simp) (by simp)];exact ua rfl (vU hu _ _ _ w).2.2
    ·simp only[Sem.run_bind];rw[iB (by simp) (by simp)];exact tZ rfl (vU hu _ _ _ w).2.2
  ·simp at hk
theorem akn(H:Inv P Γ N g h w){ty h2:TypeId}{x y:Operand}(ho:o.op=.binOp .eql ty x y h2){e:EK}(hk:qX P ty=some e){a b:AV}{c:Bool}(hc:cC e a b=some c)
 (hx:V g h a (r x))(hy:V g h b (r y)):aO P Γ N r o w g h h (some (.bool c)):=by
 refine aO.same H (u:=.bool c) ?_ (by simp[V]);have:=(Ps hk hc hx hy w).1;simp only[execOp,ho];rw[Sem.run_bind,this];rfl
theorem ajK(H:Inv P Γ N g h w){ty h2:TypeId}{x y:Operand}(ho:o.op=.binOp .neq ty x y h2){e:EK}(hk:qX P ty=some e){a b:AV}{c:Bool}(hc:cC e a b=some c)
 (hx:V g h a (r x))(hy:V g h b (r y)):aO P Γ N r o w g h h (some (.bool !c)):=by
 refine aO.same H (u:=.bool !c) ?_ (by simp[V]);have:=(Ps hk hc hx hy w).2;simp only[execOp,ho];rw[Sem.run_bind,this];rfl
theorem FT{ty:TypeId}{s:SK}(hs:l9 P ty=some s)(em:Bool)(n:Nat)(x:Value)(w:World):(Instr.checkKey em (n+1) ty x).run P w=.ok () w:=by
 obtain⟨_,h1⟩:=qD hs
 cases s<;>simp only at h1
 ·obtain⟨k,hk⟩:=h1;simp[Instr.checkKey,run_underlying hk]
 ·simp[Instr.checkKey,run_underlying h1]
 ·simp[Instr.checkKey,run_underlying h1]
theorem Nc{em:Bool}{n:Nat}:∀{fs:List Field}{ss:List SK}{i:Nat}{as:List AV}{xs:Array Value},uG P i fs=some ss->VL g h as (xs.toList.drop i)->bM ss as=true->
 ∀w:World,(forIn (m:=Sem) fs PUnit.unit fun f _=>
  if f.name≠ "_" then do
   let x<-part f.type xs f.offset
   Instr.checkKey em (n+1) f.type x
   pure (ForInStep.yield PUnit.unit)
  else pure (ForInStep.yield PUnit.unit)).run P w=.ok PUnit.unit w
 |[],ss,i,as,xs,hf,hx,hc,w=>by simp
 |f::fs,ss,i,as,xs,hf,hx,hc,w=>by
  simp only[uG]at hf
  split at hf
  ·rename_i s h4 hs hv
   split at hf
   ·rename_i hn;simp only[aB,bne_iff_ne,ne_eq,nA]at hn;simp only[an]at hf;subst hf
    cases as with
    |nil=>simp[bM]at hc
    |cons a as=>
     simp only[VL]at hx;obtain⟨x,hb,h2,hy,hk⟩:=hx
     have hj:xs[i]? =some x:=by
      have:=congrArg (·[0]?) h2;simp[pq]at this;exact this
     have hl:xs.toList.drop (i+1)=hb:=by rw[<-Bu,h2];rfl
     simp only[bM,aB]at hc;have q1:=vu hs hj w;have ih:=Nc (em:=em) (n:=n) (xs:=xs) hv (by rw[hl];exact hk) hc.2 w;rw[List.forIn_cons];simp only[Sem.run_bind,hn.1,ne_eq,not_false_eq_true,cE,hn.2,q1,Result.andThen_ok,FT hs,Sem.run_pure];exact ih
   ·simp at hf
  ·simp at hf
theorem NH{em:Bool}{n:Nat}{e:TypeId}{s:SK}(hs:l9 P e=some s):∀{m i:Nat}{as:List AV}{xs:Array Value},VL g h as (xs.toList.drop i)->bM (List.replicate m s) as=true->
 ∀w:World,(forIn (m:=Sem) (List.range' i m) PUnit.unit fun i _=>do
  Instr.checkKey em (n+1) e (<-part e xs (i*(<-sizeOf e)))
  pure (ForInStep.yield PUnit.unit)).run P w=.ok PUnit.unit w
 |0,i,as,xs,hx,hc,w=>by simp
 |m+1,i,as,xs,hx,hc,w=>by
  cases as with
  |nil=>simp[mE,bM]at hc
  |cons a as=>
   simp only[VL]at hx;obtain⟨x,hv,h2,q1,hb⟩:=hx
   have hk:xs[i]? =some x:=by
    have:=congrArg (·[0]?) h2;simp[pq]at this;exact this
   have hj:xs.toList.drop (i+1)=hv:=by rw[<-Bu,h2];rfl
   simp only[mE,bM,aB]at hc;have hl:=vu hs hk w;have ih:=NH (em:=em) (n:=n) hs (xs:=xs) (by rw[hj];exact hb) hc.2 w;rw[List.range'_succ,List.forIn_cons];simp only[Sem.run_bind,jQ (cellsOf_size hs),Nat.mul_one,hl,Result.andThen_ok,FT hs,Sem.run_pure];exact ih
theorem aaE{ty:TypeId}{e:EK}(hk:jR P ty=some e){a:AV}(ha:isKey e a=true){x:Value}(hx:V g h a x)(em:Bool)(n:Nat)(w:World):(Instr.checkKey em (n+2) ty x).run P w=.ok () w:=by
 unfold jR at hk
 split at hk
 ·rename_i s hs;exact FT hs em (n+1) x w
 ·simp only[cm]at hk;obtain⟨ss,h2,rfl⟩:=hk
  cases a<;>simp only[isKey,fe]at ha
  simp only[V]at hx;obtain⟨xs,rfl,hx⟩:=hx;unfold wP at h2
  split at h2
  ·rename_i fs hu
   split at h2
   ·have:=Nc (em:=em) (n:=n) (xs:=xs.toArray) h2 (by simpa using hx) ha w;rw[show n+2=(n+1)+1 from rfl,Instr.checkKey];simp only[Sem.run_bind,run_underlying hu,Result.andThen_ok];rw[<-Array.forIn_toList];rw[this];rfl
   ·simp at h2
  ·rename_i m e hu;simp only[cm]at h2;obtain⟨s,h1,rfl⟩:=h2;have:=NH (em:=em) (n:=n) h1 (i:=0) (xs:=xs.toArray) (by simpa using hx) ha w;rw[show n+2=(n+1)+1 from rfl,Instr.checkKey];simp only[Sem.run_bind,run_underlying hu,Result.andThen_ok];rw[aCh];simp only[Std.Legacy.Range.size,Fp,Nat.add_sub_cancel,Nat.div_one];rw[this];rfl
  ·simp at h2
theorem run_checkKey{ty:TypeId}{e:EK}(hk:jR P ty=some e){a:AV}(ha:isKey e a=true){x:Value}(hx:V g h a x)(em:Bool)(w:World):(Instr.checkKey em 10000 ty x).run P w=.ok () w:=
 aaE hk ha hx em 9998 w
def findAt(e:EK)(k:AV):List (AV×AV)->Option (Option Nat)
 |[]=>some none
 |(a,_)::es=>
  match cC e k a with
  |some true=>some (some 0)
  |some false=>(findAt e k es).map (·.map (·+1))
  |none=>none
theorem Oq{e:EK}{k:AV}:∀{es:List (AV×AV)}{q:Option AV},fg e k es=some q->∃p,findAt e k es=some p/\match p with|none=>q=none|some i=>∃x,es[i]? =some x/\q=some x.2
 |[],q,hq=>by simp only[fg,an]at hq;exact⟨none,rfl,hq.symm⟩
 |(a,v)::es,q,hq=>by
  simp only[fg]at hq;simp only[findAt]
  split at hq
  ·rename_i h1;simp only[an]at hq;exact⟨some 0,by first|rw[h1]|rfl,_,rfl,hq.symm⟩
  ·rename_i h1;obtain⟨p,h2,h3⟩:=Oq hq
   first|rw[h1,h2]|rw[h2]
   cases p with
   |none=>exact⟨none,rfl,h3⟩
   |some i=>exact⟨some (i+1),rfl,by simpa using h3⟩
  ·simp at hq
theorem PG{e:EK}{k v:AV}:∀{es es':List (AV×AV)},gG e k v es=some es'->∃p,findAt e k es=some p/\match p with|none=>es'=es++[(k,v)]|some i=>i<es.length/\es'=es.set i (k,v)
 |[],es',hq=>by simp only[gG,an]at hq;exact⟨none,rfl,by simp[<-hq]⟩
 |(a,u)::es,es',hq=>by
  simp only[gG]at hq;simp only[findAt]
  split at hq
  ·rename_i h1;simp only[an]at hq;exact⟨some 0,by first|rw[h1]|rfl,by simp,by simp[<-hq]⟩
  ·rename_i h1;simp only[cm]at hq;obtain⟨hv,h4,h5⟩:=hq;obtain⟨p,h2,h3⟩:=PG h4
   first|rw[h1,h2]|rw[h2]
   cases p with
   |none=>exact⟨none,rfl,by simp[<-h5,h3]⟩
   |some i=>exact⟨some (i+1),rfl,by simpa using h3.1,by simp[<-h5,h3.2]⟩
  ·simp at hq
theorem Qc{e:EK}{k:AV}:∀{es es':List (AV×AV)},n4 e k es=some es'->∃p,findAt e k es=some p/\match p with|none=>es'=es|some i=>i<es.length/\es'=es.eraseIdx i
 |[],es',hq=>by simp only[n4,an]at hq;exact⟨none,rfl,by simp[<-hq]⟩
 |(a,u)::es,es',hq=>by
  simp only[n4]at hq;simp only[findAt]
  split at hq
  ·rename_i h1;simp only[an]at hq;exact⟨some 0,by first|rw[h1]|rfl,by simp,by simp[<-hq]⟩
  ·rename_i h1;simp only[cm]at hq;obtain⟨hv,h4,h5⟩:=hq;obtain⟨p,h2,h3⟩:=Qc h4
   first|rw[h1,h2]|rw[h2]
   cases p with
   |none=>exact⟨none,rfl,by simp[<-h5,h3]⟩
   |some i=>exact⟨some (i+1),rfl,by simpa using h3.1,by simp[<-h5,h3.2]⟩
  ·simp at hq
theorem MG{ty:TypeId}{e:EK}(hk:jR P ty=some e){k:AV}{x:Value}(hx:V g h k x):∀{es:List (AV×AV)}{bn:List MapEntry}{p:Option Nat}(j:Nat),VL g h (es.map (·.1)) (bn.map (·.key))->
 findAt e k es=some p->∀w:World,(Instr.findAsking ty x bn j).run P w=.ok (p.bind fun i=>(bn[i]?).map fun m=>(j+i,m.val)) w
 |[],bn,p,j,hv,hp,w=>by
  simp only[jO,VL]at hv
  have:bn=[]:=by simpa using hv
  subst this;simp only[findAt,an]at hp;subst hp;simp[Instr.findAsking]
 |(a,v)::es,bn,p,j,hv,hp,w=>by
  simp only[bX,VL]at hv;obtain⟨y,ys,h1,h2,h3⟩:=hv
  cases bn with
  |nil=>simp at h1
  |cons m bn=>
   simp only[bX,vd]at h1;obtain⟨rfl,rfl⟩:=h1;simp only[findAt]at hp
   cases he:cC e k a with
   |none=>simp[he]at hp
   |some c=>
    have hq:=afG hk he hx h2 w;simp only[he]at hp;simp only[Instr.findAsking,Sem.run_bind,hq,Result.andThen_ok]
    cases c
    ·simp only[cm]at hp;obtain⟨p',hb,rfl⟩:=hp;simp only[fe,dq];rw[MG hk hx (j+1) h3 hb w]
     cases p' with
     |none=>simp
     |some i=>simp[lu,Nat.add_comm 1 i]
    ·simp only[an]at hp;subst hp;simp
theorem findNow_spec{ty:TypeId}{s:SK}(hs:l9 P ty=some s){d:TypeDesc}(hd:P.underlying ty=some d){k:AV}{x:Value}(hx:V g h k x):
 ∀{es:List (AV×AV)}{bn:List MapEntry}{p:Option Nat}(j:Nat),VL g h (es.map (·.1)) (bn.map (·.key))->
 findAt (.sc s) k es=some p->Instr.findNow d x bn j=some (p.bind fun i=>(bn[i]?).map fun m=>(j+i,m.val))
 |[],bn,p,j,hv,hp=>by
  simp only[jO,VL]at hv
  have:bn=[]:=by simpa using hv
  subst this;simp only[findAt,an]at hp;subst hp;simp[Instr.findNow]
 |(a,v)::es,bn,p,j,hv,hp=>by
  simp only[bX,VL]at hv;obtain⟨y,ys,h1,h2,h3⟩:=hv
  cases bn with
  |nil=>simp at h1
  |cons m bn=>
   simp only[bX,vd]at h1;obtain⟨rfl,rfl⟩:=h1;simp only[findAt]at hp
   cases he:cC (.sc s) k a with
   |none=>simp[he]at hp
   |some c=>
    have hq:Instr.sameNow d x m.key=some c:=by
     obtain⟨_,h1⟩:=qD hs;simp only[cC]at he
     cases s<;>simp only at h1<;>cases k<;>cases a<;>simp only[fR,reduceCtorEq,an]at he
     ·obtain⟨k',hb⟩:=h1;rw[hb]at hd;simp only[an]at hd;subst hd;rw[eN hx,eN h2];simpa[Instr.sameNow]using he
     ·rw[h1]at hd;simp only[an]at hd;subst hd;rw[kq hx,kq h2];simp only[Instr.sameNow,Pe,he]
     ·rw[h1]at hd;simp only[an]at hd;subst hd;rw[mP hx,mP h2];simp only[Instr.sameNow,he]
    simp only[he]at hp;simp only[Instr.findNow,hq]
    cases c
    ·simp only[cm]at hp;obtain⟨p',hc,rfl⟩:=hp;simp only;rw[findNow_spec hs hd hx (j+1) h3 hc]
     cases p' with
     |none=>simp
     |some i=>simp[lu,Nat.add_comm 1 i]
    ·simp only[an]at hp;subst hp;simp
theorem acR{d:TypeDesc}{x:Value}(hd:(∃fs,d=.struct fs)\/∃n e,d=.array n e):∀(bn:List MapEntry)(j:Nat),Instr.findNow d x bn j=if bn=[]then some none else none
 |[],j=>by simp[Instr.findNow]
 |m::bn,j=>by
  have:Instr.sameNow d x m.key=none:=by
   rcases hd with⟨fs,rfl⟩|⟨n,e,rfl⟩<;>cases x<;>cases m.key<;>rfl
  simp[Instr.findNow,this]
theorem run_findKey{ty:TypeId}{e:EK}(hk:jR P ty=some e){k:AV}{x:Value}(hx:V g h k x){es:List (AV×AV)}{bn:List MapEntry}{p:Option Nat}(hv:VL g h (es.map (·.1)) (bn.map (·.key)))
 (hp:findAt e k es=some p)(w:World):(Instr.findKey ty x bn).run P w=.ok (p.bind fun i=>(bn[i]?).map fun m=>(i,m.val)) w:=by
 have hc:=hk;unfold jR at hk
 split at hk
 ·rename_i s hs;simp only[an]at hk;subst hk
  have hu:∃d,P.underlying ty=some d:=by
   obtain⟨_,h2⟩:=qD hs
   cases s<;>simp only at h2
   ·exact⟨_,h2.choose_spec⟩
   ·exact⟨_,h2⟩
   ·exact⟨_,h2⟩
  obtain⟨d,hd⟩:=hu;simp[Instr.findKey,run_underlying hd,findNow_spec hs hd hx 0 hv hp]
 ·simp only[cm]at hk;obtain⟨ss,hb,rfl⟩:=hk
  have hu:∃d,P.underlying ty=some d/\((∃fs,d=.struct fs)\/∃n e,d=.array n e):=by
   unfold wP at hb
   split at hb
   ·rename_i fs hu;exact⟨_,hu,Or.inl ⟨_,rfl⟩⟩
   ·rename_i n e hu;exact⟨_,hu,Or.inr ⟨_,_,rfl⟩⟩
   ·simp at hb
  obtain⟨d,hd,hj⟩:=hu;have h1:=MG hc hx 0 hv hp w;simp only[jw]at h1;simp only[Instr.findKey,Sem.run_bind,run_underlying hd,Result.andThen_ok,acR hj]
  by_cases h0:bn=[]
  ·subst h0
   have:es=[]:=by
    have:=gX hv;simpa using this.symm
   subst this;simp only[findAt,an]at hp;subst hp;simp
  ·simp only[h0,dq];exact h1
theorem G4{es:List (AV×AV)}{bn:List MapEntry}(hv:VL g h (es.map (·.1)) (bn.map (·.key))):bn.length=es.length:=by have:=gX hv;simpa using this
theorem OQ(H:Inv P Γ N g h w){ty kt et:TypeId}{x i:Operand}{ok:Bool}(ho:o.op=.lookup ty x i ok)(hu:P.underlying ty=some (.map kt et)){e:EK}(hk:jR P kt=some e){z:AV}
 (hz:eB P et=some z){k:AV}(hi:V g h k (r i))(hy:isKey e k=true){es:List (AV×AV)}{a:AV}(hx:V g h a (r x))
 (ha:(a=.dk/\es=[])\/(∃ks vs,a=.dG ks vs/\es=ks.zip vs)\/∃j fl,a=.mp j/\h[j]? =some (.map es fl)){q:Option AV}(hq:fg e k es=some q){v:AV}
 (hv:v=match q with|some u=>(if ok then .aH [u,.bool true]else u)|none=>if ok then .aH [z,.bool false]else z):aO P Γ N r o w g h h (some v):=by
 obtain⟨zv,hd,rfl⟩:=H3 hz w
 have hm:∃(bn:Array MapEntry),VL g h (es.map (·.1)) (bn.toList.map (·.key))/\VL g h (es.map (·.2)) (bn.toList.map (·.val))/\
  ((r x=.map none/\bn=#[])\/∃b ck,r x=.map (some b)/\w.heap[b]? =some (.map bn ck)):=by
  rcases ha with⟨rfl,rfl⟩|⟨ks,vs,rfl,rfl⟩|⟨j,fl,rfl,hj⟩
  ·simp only[V]at hx;exact⟨#[],by simp[VL],by simp[VL],Or.inl ⟨hx,rfl⟩⟩
  ·simp only[V]at hx;obtain⟨b,bn,ck,h1,h2,h3,h4⟩:=hx
   have hl:ks.length=vs.length:=by
    have a1:=gX h3;have a2:=gX h4
    simp at a1 a2;omega
   refine⟨bn,?_,?_,Or.inr ⟨b,ck,h1,(H.mm b bn ck h2).1⟩⟩
   ·rw[List.map_fst_zip (by omega)];exact h3
   ·rw[List.map_snd_zip (by omega)];exact h4
  ·simp only[V]at hx;obtain⟨_,b,sz,hρ,h1⟩:=hx;obtain⟨_,h2⟩:=H.ob j _ hj;obtain⟨bn,ck,h3,h4,h5⟩:=h2 b sz 0 hρ;exact⟨bn,h4,h5,Or.inr ⟨b,ck,h1,h3⟩⟩
 obtain⟨bn,h1,h2,h3⟩:=hm;obtain⟨p,e2,hp⟩:=Oq hq;have hf:=run_findKey hk hi h1 e2 w
 have hc:=fun em=>run_checkKey hk hy hi em w
 have ht:∃u,(Instr.lookup ty (r x) (r i) ok).run P w=.ok u w/\V g h v u:=by
  have q2:∀(y:Value)(b:Bool),p.bind (fun i=>(bn.toList[i]?).map fun m=>(i,m.val))=(if b then p.map fun i=>(i,y)else none)->(b=false->p=none/\y=zv)->(b=true->p.isSome)->
   (Instr.lookup ty (r x) (r i) ok).run P w=.ok (if ok then .tuple #[y,.bool b]else y) w:=by
   intro y b hb ps e1;rw[hb]at hf
   rcases h3 with⟨h3,rfl⟩|⟨bk,ck,h3,h4⟩
   ·cases b
    ·obtain⟨rfl,rfl⟩:=ps rfl;simp[Instr.lookup,run_underlying hu,h3,hc,hf,hd]
    ·obtain⟨j,rfl⟩:=LW.1 (e1 rfl);simp[Instr.lookup,run_underlying hu,h3,hc,hf]
   ·have hg:(getObj bk).run P w=.ok (.map bn ck) w:=by simp only[getObj,Sem.run,h4]
    cases b
    ·obtain⟨rfl,rfl⟩:=ps rfl;simp[Instr.lookup,run_underlying hu,h3,hg,hc,hf,hd]
    ·obtain⟨j,rfl⟩:=LW.1 (e1 rfl);simp[Instr.lookup,run_underlying hu,h3,hg,hc,hf]
  cases p with
  |none=>
   simp only at hp;subst hp;subst hv;refine⟨_,q2 zv false (by simp) (fun _=>⟨rfl,rfl⟩) (by simp),?_⟩
   cases ok
   ·exact oM g h zv
   ·simp only[cE,V,VL];exact⟨[zv,.bool false],rfl,_,_,rfl,oM g h zv,_,_,rfl,rfl,rfl⟩
  |some j=>
   obtain⟨y,h6,rfl⟩:=hp;obtain⟨u,q1,ih⟩:=sy (i:=j) (a:=y.2) h2 (by simp[h6]);simp only[jP,cm]at q1;obtain⟨m,ys,rfl⟩:=q1;subst hv;refine⟨_,q2 m.val true (by simp only[lv,ys,dC,cE]) (by simp) (by simp),?_⟩
   cases ok
   ·exact ih
   ·simp only[cE,V,VL];exact⟨[m.val,.bool true],rfl,_,_,rfl,ih,_,_,rfl,rfl,rfl⟩
 obtain⟨u,q1,ih⟩:=ht;exact aO.same H (u:=u) (by simp[execOp,ho,q1]) ih
end
section
variable{P:Program}{Γ:Nat->Option AV}{N:Env}{g:G}{h:List Ob}{w:World}{r:Operand->Value}{o:Oper}{t:List AV}
theorem v8(c:Array Value):od c (0,0):=Or.inl rfl
theorem mM(w:World)(o:Obj):(w.alloc o).heap[w.heap.size]? =some o:=by
 show(w.heap.push o)[w.heap.size]? =_
 simp
theorem Aa(w:World)(o:Obj):∀b,b<w.heap.size->(w.alloc o).heap[b]? =w.heap[b]? :=fun b hb=>Below.heap_alloc w o b hb
theorem aO.make(H:Inv P Γ N g h w){x:AV}{u:Value}{w':World}(hh:w'.heap=w.heap)(hk:w'.os=w.os)(hj:w'.tape=w.tape)(h2:w'.output=w.output){b:Obj}{o':Ob}{os:List Ob}{sz:Nat}
 (hr:(execOp r o).run P w=.ok (.value u) (w'.alloc b))
 (hl:OV P (g.bP h.length (some (w.heap.size,sz,0))) (h++o'::os) (w'.alloc b) h.length o')
 (hc:∀j o,os[j]? =some o->OV P (g.bP h.length (some (w.heap.size,sz,0))) (h++o'::os) (w'.alloc b) (h.length+1+j) o)
 (hv:V (g.bP h.length (some (w.heap.size,sz,0))) (h++o'::os) x u):aO P Γ N r o w g h (h++o'::os) (some x):=by
 have hs:w'.heap.size=w.heap.size:=by rw[hh]
 refine⟨_,_,_,hr,H.push hk hj h2 (fun b' hb=>?_) ?_ ?_ hl hc,Ext.push _ _,u,rfl,hv⟩
 ·rw[Aa _ _ _ (by omega),hh]
 ·simp;omega
 ·intro b' x hx;simp only[an,b9]at hx;obtain⟨rfl,_⟩:=hx
  simp;omega
theorem sw(h:List Ob)(o:Ob)(os:List Ob):(h++o::os)[h.length]? =some o:=by simp
theorem Nz(h:List Ob)(o:Ob)(os:List Ob)(j:Nat):(h++o::os)[h.length+1+j]? =os[j]? :=by
 rw[dB (by omega),show h.length+1+j-h.length=j+1 by omega,oB]
theorem aks(H:Inv P Γ N g h w){ty:TypeId}{x:Operand}(ho:o.op=.box ty x){a:AV}(ha:V g h a (r x))(h1:cr a.cells=true):
 aO P Γ N r o w g h (h++[.cells a.cells]) (some (.ptr h.length 0)):=by
 have hc:=qV (si h1) ha;refine aO.make H (w':=w) rfl rfl rfl rfl (b:=.cells (r x).cells ty) (sz:=0) (u:=.pointer (some ⟨w.heap.size,0,none⟩)) ?_ ?_ (by simp) ?_
 ·simp[execOp,ho,Instr.box,newVar,newRow]
 ·intro b sz st hb;rw[du]at hb;simp only[an,b9]at hb;obtain⟨rfl,rfl,rfl⟩:=hb;exact⟨_,_,_,mM _ _,v8 _,cM (Ext.push _ _) (dM hc) hc⟩
 ·simp only[V];exact⟨⟨_,sw _ _ _⟩,_,_,du _ _ _,rfl⟩
theorem CQ{g':G}{h':List Ob}:∀{as:List AV}{vs:List Value}{z:List AV}{n:Nat},rC as vs=some z->(∀j o,(cu n z).2[j]? =some o->h'[n+j]? =some o)->
 VL g' h' (cu n z).1 vs/\∀o∈(cu n z).2,∃k E,o=.row (k+1) E [] none true false
 |[],[],z,n,hz,_=>by simp only[rC,an]at hz;subst hz;simp[cu,VL]
 |[],_::_,z,n,hz,_=>by simp[rC]at hz
 |_::_,[],z,n,hz,_=>by simp[rC]at hz
 |a::as,v::vs,z,n,hz,hh=>by
  simp only[rC,cm]at hz;obtain⟨z',hb,rfl⟩:=hz
  have hv:(∃k E,fh n (Dg a v)=(.sl n 0 0,[.row (k+1) E [] none true false])/\v=.slice none 0 0)\/fh n (Dg a v)=(lG v,[]):=by
   unfold Dg
   split
   ·left;exact⟨_,_,rfl,rfl⟩
   ·right
    have:∀k E es,lG v≠.own k E es:=by
     intro k E es hc;unfold lG at hc
     split at hc<;>cases hc
    revert this
    cases lG v<;>intro this<;>first|rfl|exact absurd rfl (this _ _ _)
  simp only[cu]at hh⊢
  rcases hv with⟨k,E,h1,rfl⟩|h1
  ·rw[h1]at hh⊢;simp only[ve,tz]at hh⊢
   obtain⟨h2,h3⟩:=CQ (n:=n+1) hb (by
    intro j o hj;have:=hh (j+1) o (by simpa using hj)
    rwa[show n+(j+1)=n+1+j by omega]at this)
   refine⟨?_,?_⟩
   ·simp only[VL,V];refine⟨_,_,rfl,?_,h2⟩;have:=hh 0 _ (by simp;rfl);exact⟨k+1,E,[],none,true,false,by simpa using this,by simp,none,0,rfl,by simp,by simp,fun _=>⟨by simp,Or.inl ⟨rfl,rfl⟩⟩⟩
   ·intro o ho
    rcases bD.1 ho with rfl|ho
    ·exact⟨k,E,rfl⟩
    ·exact h3 o ho
  ·rw[h1]at hh⊢;simp only[c_,kF,iz]at hh⊢;obtain⟨h2,h3⟩:=CQ (n:=n) hb hh;refine⟨?_,h3⟩;simp only[VL];exact⟨_,_,rfl,wh _ _ _,h2⟩
theorem ag9(H:Inv P Γ N g h w){ty:TypeId}(ho:o.op=.alloc ty){zv:Value}(hz:(P.info? ty).bind (·.zero)=some zv){as z:List AV}(h2:rC as zv.cells.toList=some z):
 aO P Γ N r o w g h (h++.cells (cu (h.length+1) z).1::(cu (h.length+1) z).2) (some (.ptr h.length 0)):=by
 have hv:(zeroValue ty).run P w=.ok zv w:=by
  cases hi:P.info? ty with
  |none=>simp[hi]at hz
  |some i=>simp[hi]at hz;simp[zeroValue,typeInfo,hi,hz]
 refine aO.make H (w':=w) rfl rfl rfl rfl (b:=.cells zv.cells ty) (sz:=0) (u:=.pointer (some ⟨w.heap.size,0,none⟩)) ?_ ?_ ?_ ?_
 ·simp[execOp,ho,Instr.alloc,hv,newVar,newRow]
 ·intro b sz st hb;rw[du]at hb;simp only[an,b9]at hb;obtain⟨rfl,rfl,rfl⟩:=hb;exact⟨_,_,_,mM _ _,v8 _,(CQ h2 (fun j o hj=>by rw[Nz];exact hj)).1⟩
 ·intro j o hj;obtain⟨k,E,rfl⟩:=(CQ (g':=g) (h':=h++.gone::(cu (h.length+1) z).2) h2 (fun j o hj=>by rw[Nz];exact hj)).2 o (jz hj);simp only[OV];refine⟨by omega,by simp,fun _=>rfl,by simp,?_⟩;rw[iZ _ _ (by omega),H.ql _ (by omega)];trivial
 ·simp only[V];exact⟨⟨_,sw _ _ _⟩,_,_,du _ _ _,rfl⟩
theorem afe(H:Inv P Γ N g h w)(ho:o.op=.assign (.const (.slice none 0 0)))(hr:r (.const (.slice none 0 0))=.slice none 0 0){k:Nat}(hk:0<k)(E:TypeId):
 aO P Γ N r o w g h (h++[.row k E [] none true false]) (some (.sl h.length 0 0)):=by
 refine⟨g.bP h.length none,w,.value (.slice none 0 0),by simp[execOp,ho,hr],H.push rfl rfl rfl (fun _ _=>rfl) (aT _) (by simp) ?_ (by simp),Ext.push _ _,_,rfl,?_⟩
 ·simp only[OV];exact⟨hk,by simp,fun _=>rfl,by simp,by rw[du];trivial⟩
 ·simp only[V];exact⟨k,E,[],none,true,false,sw _ _ _,by simp,none,0,rfl,by simp,by simp,fun _=>⟨by simp,Or.inl ⟨rfl,rfl⟩⟩⟩
theorem ahx(H:Inv P Γ N g h w){ty:TypeId}(ho:o.op=.makeMap ty none):aO P Γ N r o w g h (h++[.map [] true]) (some (.mp h.length)):=by
 refine aO.make H (w':=w) rfl rfl rfl rfl (b:=.map #[] 0) (sz:=0) (u:=.map (some w.heap.size)) ?_ ?_ (by simp) ?_
 ·simp[execOp,ho,Instr.makeMap]
 ·refine⟨fun _=>rfl,?_⟩;intro b sz st hb;rw[du]at hb;simp only[an,b9]at hb;obtain⟨rfl,rfl,rfl⟩:=hb;exact⟨_,_,mM _ _,by simp[VL],by simp[VL]⟩
 ·simp only[V];exact⟨⟨_,_,sw _ _ _⟩,_,_,du _ _ _,rfl⟩
theorem ahj(H:Inv P Γ N g h w){ty:TypeId}{x:Operand}(ho:o.op=.range ty x)(hu:P.underlying ty=some .string){s:List UInt8}(hx:r x=.string ⟨s.toArray⟩):
 aO P Γ N r o w g h (h++[.jf s 0]) (some (.it h.length)):=by
 refine aO.make H (w':=w) rfl rfl rfl rfl (b:=.stringIter ⟨s.toArray⟩ 0) (sz:=0) (u:=.pointer (some ⟨w.heap.size,0,none⟩)) ?_ ?_ (by simp) ?_
 ·simp[execOp,ho,hx,Instr.range,run_underlying hu]
 ·intro b sz st hb;rw[du]at hb;simp only[an,b9]at hb;obtain⟨rfl,rfl,rfl⟩:=hb;exact mM _ _
 ·simp only[V];exact⟨⟨_,_,sw _ _ _⟩,_,_,du _ _ _,rfl⟩
theorem Dr{g':G}{w':World}{k:Nat}{E ty:TypeId}{es:List AV}{cs:List Value}{rest:List Value}{fz:Nat×Nat}{b sz:Nat}(hk:0<k)(hK:eC k es){fl:Bool}(hv:fl=true->cG es k=true)
 (hb:g'.ρ h.length=some (b,sz,0))(hw:w'.heap[b]? =some (.cells (cs++rest).toArray ty fz))(hc:sz=(cs++rest).length)(h2:od (cs++rest).toArray fz)
 {os:List Ob}{sh:Bool}(hE:VE g' (h++.row k E es none fl sh::os) es cs):OV P g' (h++.row k E es none fl sh::os) w' h.length (.row k E es none fl sh):=by
 simp only[OV];refine⟨hk,hK,hv,by simp,?_⟩;rw[hb];simp only;refine⟨by simp,_,_,_,cs,hw,by simp[hc],h2,by simpa using hE,?_⟩;intro j hj;simp[cF hj,hj]
theorem CO{g':G}{k:Nat}{E:TypeId}{es:List AV}{b sz cap:Nat}(hb:g'.ρ h.length=some (b,sz,0))(h2:es.length<=cap)(hv:cap*k<=sz){os:List Ob}{fl sh:Bool}:
 V g' (h++.row k E es none fl sh::os) (.sl h.length 0 es.length) (.slice (some ⟨b,0,none⟩) es.length cap):=by
 simp only[V];refine⟨k,E,es,none,fl,sh,sw _ _ _,by simp,_,cap,rfl,h2,fun _=>⟨b,0,rfl⟩,fun _=>⟨by omega,Or.inr ⟨b,sz,0,hb,by simp,by simp,by simpa using hv⟩⟩⟩
theorem vz{a:AV}{v:Value}(ha:V g h a v):∀n:Nat,VE g h (List.replicate n a) (List.replicate n v.cells.toList).flatten
 |0=>by simp[VE]
 |n+1=>by
  simp only[mE,List.flatten_cons,VE];exact⟨v,_,ha,rfl,vz ha n⟩
theorem vr{a:AV}{k:Nat}(h1:a.cells.length=k)(h2:cr a.cells=true)(h3:aN 0 a.cells=true):∀n:Nat,cG (List.replicate n a) k=true
 |0=>rfl
 |n+1=>by simp only[mE,cG,aB,bj];exact⟨⟨⟨h1,h2⟩,h3⟩,vr h1 h2 h3 n⟩
end
theorem vX{c d:Array Value}{fz:Nat×Nat}(h:od c fz)(hs:d.size=c.size):od d fz:=h.imp id fun h=>by omega
theorem BX(P:Program)(b o:Nat)(E:TypeId)(fz:Nat×Nat):∀(vs:List Value)(i:Nat)(cur:Array Value)(w:World),w.heap[b]? =some (.cells cur E fz)->od cur fz->
 o+i+vs.length<=cur.size->(∀v∈vs,v.oneCell'=true)->
 (storeCells ⟨b,o,none⟩ vs i).run P w=.ok () (w.setRow b (cur.toList.take (o+i)++vs++cur.toList.drop (o+i+vs.length)).toArray)
 |[],i,cur,w,hg,_,_,_=>by
  simp only[storeCells,ey,c_,iz,lY,Array.toArray_toList];rw[setRow_self w b cur E fz hg];rfl
 |v::rest,i,cur,w,hg,hf,hl,h1=>by
  have hi:o+i<cur.size:=by simp at hl;omega
  have h2:w.cell? ⟨b,o+i,none⟩=some cur[o+i]:=by simp[World.cell?,hg,hi]
  have hv:w.frozen? ⟨b,o+i,none⟩=false:=by
   simp only[World.frozen?,hg];exact hf.at hi
  have hb:(store ((⟨b,o,none⟩:Addr).add i) v).run P w=.ok () (w.setRow b (cur.setIfInBounds (o+i) v)):=by
   rw[l8,run_store P w _ v _ (h1 v (by simp)),h2];simp[hv,setCell_eq_setRow w b (o+i) cur E fz v hg]
  have ih:=BX P b o E fz rest (i+1) (cur.setIfInBounds (o+i) v) (w.setRow b (cur.setIfInBounds (o+i) v)) (setRow_heap w b cur _ E _ hg) (vX hf (by simp)) (by simp at hl⊢;omega)
   (fun x hx=>h1 x (by simp[hx]))
  simp only[storeCells,Sem.run_bind,hb,Result.andThen_ok,ih,setRow_setRow];congr 3;have e:=list_seg_step cur.toList (o+i) v rest (by simp at hl⊢;omega);simpa[LV,lu]using e
def eX{α:Type}(l:List α)(m:Nat)(s:List α):List α:=l.take m++s++l.drop (m+s.length)
theorem oK{α:Type}{l s:List α}{m:Nat}(hm:m+s.length<=l.length)(x:Nat):(eX l m s)[x]? =if x<m then l[x]? else if x<m+s.length then s[x-m]? else l[x]? :=by
 unfold eX
 have hv:min m l.length=m:=by omega
 by_cases h1:x<m
 ·rw[if_pos h1,cR,cF (by simp;omega),rS,if_pos h1]
 ·rw[if_neg h1]
  by_cases h2:x<m+s.length
  ·rw[if_pos h2,cR,dB (by simp;omega),cF (by simp;omega)];simp[hv]
  ·rw[if_neg h2,dB (by simp;omega),pq];congr 1;simp;omega
theorem sf{α:Type}{l s:List α}{m:Nat}(hm:m+s.length<=l.length):(eX l m s).length=l.length:=by
 simp[eX];omega
theorem aaT{α:Type}{vs v s:List α}{j k q:Nat}(hj:j+k<=vs.length)(hv:v=(vs.drop j).take k)(hq:q+s.length<=k):eX vs j (eX v q s)=eX vs (j+q) s:=by
 have hc:v.length=k:=by rw[hv];simp;omega
 have hx:(eX v q s).length=k:=by rw[sf (by omega),hc]
 apply iX;intro x;have e1:=oK (l:=vs) (s:=eX v q s) (m:=j) (by omega) x;have e2:=oK (l:=vs) (s:=s) (m:=j+q) (by omega) x;rw[e1,e2,hx]
 by_cases h1:x<j
 ·rw[if_pos h1,if_pos (by omega)]
 ·rw[if_neg h1]
  by_cases h2:x<j+k
  ·rw[if_pos h2,oK (by omega)]
   have hb:v[x-j]? =vs[x]? :=by
    rw[hv,rS,if_pos (by omega),pq]
    congr 1;omega
   by_cases h3:x<j+q
   ·rw[if_pos (by omega),if_pos h3,hb]
   ·rw[if_neg (by omega),if_neg h3]
    by_cases h4:x<j+q+s.length
    ·rw[if_pos (by omega),if_pos h4]
     congr 1;omega
    ·rw[if_neg (by omega),if_neg h4,hb]
  ·rw[if_neg h2,if_neg (by omega),if_neg (by omega)]
theorem Jr{g:G}{h:List Ob}{k:Nat}:∀{es:List AV}{vs:List Value}{i:Nat}{a:AV}{u:Value},eC k es->VE g h es vs->i<es.length->V g h a u->u.cells.toList.length=k->
 VE g h (es.set i a) (eX vs (i*k) u.cells.toList)
 |[],vs,i,a,u,_,_,hi,_,_=>by simp at hi
 |e::es,vs,i,a,u,hk,hv,hi,ha,hl=>by
  simp only[VE]at hv;obtain⟨v,vs',h1,rfl,hr⟩:=hv;have he:=hk e (by simp)
  have h2:v.cells.toList.length=k:=by rw[Gf he.2 h1,he.1]
  cases i with
  |zero=>
   simp only[xv,VE,xA,eX,xD,kF,jw];refine⟨u,vs',ha,?_,hr⟩;rw[hl,vc,<-h2,xy];simp
  |succ i=>
   have ih:=Jr (fun x hx=>hk x (by simp[hx])) hr (by simpa using hi) ha hl;simp only[rQ,VE];refine⟨v,_,h1,?_,ih⟩;simp only[eX];rw[gU,Nat.one_mul,List.take_append,vc,h2,cj (by omega),bx (by omega)];simp only[kF,cR];congr 3
   ·congr 1;omega
   ·congr 1;omega
theorem Oa:∀{l:List AV},cr l=true↔∀a∈l,a.one=true
 |[]=>by simp[cr]
 |a::l=>by simp[cr,Oa (l:=l)]
section
variable{P:Program}{Γ:Nat->Option AV}{N:Env}{g:G}{h:List Ob}{w:World}{r:Operand->Value}{o:Oper}{t:List AV}
theorem Ext.HP{i:Nat}{vs vs':List AV}(hi:h[i]? =some (.cells vs)):Ext h.length g h (g.bP i (g.ρ i)) (h.set i (.cells vs')):=by
 have hv:=bd hi
 have hρ:∀j,(g.bP i (g.ρ i)).ρ j=g.ρ j:=fun j=>by by_cases hj:j=i;·subst hj;rw[du]
                                                  ·rw[iZ _ _ hj]
 have ho:∀{j x},j≠i->h[j]? =some x->(h.set i (.cells vs'))[j]? =some x:=fun{j x} hj hx=>by rw[dW (by omega)];exact hx
 refine⟨fun _ _ _ x=>x,fun _ _ x=>x,?_,?_,?_,?_,?_,?_⟩
 ·intro j us _ hj
  by_cases h2:j=i
  ·subst h2;exact⟨⟨vs',ff hv⟩,fun x hx=>by rw[hρ];exact hx⟩
  ·exact⟨⟨us,ho h2 hj⟩,fun x hx=>by rw[hρ];exact hx⟩
 ·intro j es fl _ hj
  have h2:j≠i:=by rintro rfl;rw[hi]at hj;cases hj
  exact⟨⟨_,_,ho h2 hj⟩,fun x hx=>by rw[hρ];exact hx⟩
 ·intro j es fl _ hj
  have h2:j≠i:=by rintro rfl;rw[hi]at hj;cases hj
  exact⟨⟨_,_,ho h2 hj⟩,fun x hx=>by rw[hρ];exact hx⟩
 ·intro j st q fn t ps a b _ hj
  have h2:j≠i:=by rintro rfl;rw[hi]at hj;cases hj
  exact⟨⟨_,_,ho h2 hj⟩,fun x hx=>by rw[hρ];exact hx⟩
 ·intro j l _ hj
  have h2:j≠i:=by rintro rfl;rw[hi]at hj;cases hj
  exact⟨⟨_,ho h2 hj⟩,fun x hx=>by rw[hρ];exact hx⟩
 ·intro j k E es gr fl sh _ hj
  have h2:j≠i:=by rintro rfl;rw[hi]at hj;cases hj
  exact⟨_,_,_,_,_,ho h2 hj,aT _,fun _ _ _ hk=>⟨hk,rfl,fun x hx=>by rw[hρ];exact hx⟩⟩
theorem Ext.qU{i:Nat}{k:Nat}{E E':TypeId}{es es':List AV}{gr gr':Option Nat}{fl fl' sh sh':Bool}{ρ':Option (Nat×Nat×Nat)}(hi:h[i]? =some (.row k E es gr fl sh))(hl:es.length<=es'.length)
 (hq:∀off m,off+m<=es.length->cW es' gr' off m=true->cW es gr off m=true/\es'.length=es.length/\∀x,g.ρ i=some x->ρ'=some x):
 Ext h.length g h (g.bP i ρ') (h.set i (.row k E' es' gr' fl' sh')):=by
 have hv:=bd hi
 have hρ:∀j,j≠i->(g.bP i ρ').ρ j=g.ρ j:=fun j hj=>iZ _ _ hj
 have ho:∀{j x},j≠i->h[j]? =some x->(h.set i (.row k E' es' gr' fl' sh'))[j]? =some x:=fun{j x} hj hx=>by rw[dW (by omega)];exact hx
 refine⟨fun _ _ _ x=>x,fun _ _ x=>x,?_,?_,?_,?_,?_,?_⟩
 ·intro j us _ hj
  have h2:j≠i:=by rintro rfl;rw[hi]at hj;cases hj
  exact⟨⟨us,ho h2 hj⟩,fun x hx=>by rw[hρ _ h2];exact hx⟩
 ·intro j es fl _ hj
  have h2:j≠i:=by rintro rfl;rw[hi]at hj;cases hj
  exact⟨⟨_,_,ho h2 hj⟩,fun x hx=>by rw[hρ _ h2];exact hx⟩
 ·intro j es fl _ hj
  have h2:j≠i:=by rintro rfl;rw[hi]at hj;cases hj
  exact⟨⟨_,_,ho h2 hj⟩,fun x hx=>by rw[hρ _ h2];exact hx⟩
 ·intro j st q fn t ps a b _ hj
  have h2:j≠i:=by rintro rfl;rw[hi]at hj;cases hj
  exact⟨⟨_,_,ho h2 hj⟩,fun x hx=>by rw[hρ _ h2];exact hx⟩
 ·intro j l _ hj
  have h2:j≠i:=by rintro rfl;rw[hi]at hj;cases hj
  exact⟨⟨_,ho h2 hj⟩,fun x hx=>by rw[hρ _ h2];exact hx⟩
 ·intro j k' E2 h4 ih hf hy _ hj
  by_cases h2:j=i
  ·subst h2;rw[hi]at hj;simp only[an,Ob.row.injEq]at hj;obtain⟨rfl,rfl,rfl,rfl,rfl,rfl⟩:=hj;refine⟨_,_,_,_,_,ff hv,hl,fun off m hb hc=>?_⟩;obtain⟨q1,q2,q3⟩:=hq off m hb hc;exact⟨q1,q2,fun x hx=>by rw[du];exact q3 x hx⟩
  ·exact⟨_,_,_,_,_,ho h2 hj,aT _,fun _ _ _ hk=>⟨hk,rfl,fun x hx=>by rw[hρ _ h2];exact hx⟩⟩
theorem dt(g:G)(i:Nat):g.bP i (g.ρ i)=g:=by
 cases g
 simp only[G.bP];congr 1
 funext j
 split
 ·rename_i hj;subst hj;rfl
 ·rfl
theorem Inv.write{i b:Nat}{x:Nat×Nat}{o':Ob}{c c':Array Value}{E:TypeId}{fz:Nat×Nat}(H:Inv P Γ N g h w)(h2:i<h.length)(hρ:g.ρ i=some (b,x))(hb:w.heap[b]? =some (.cells c E fz))
 (hE:Ext h.length g h g (h.set i o'))(hM:∀o v,g.M b o=some v->c'[o]? =c[o]?)
 (hm:∀sz st o v,g.ρ i=some (b,sz,st)->g.M b o=some v->∃k E es gr fl,o'=.row k E es gr fl true/\o<(es.length-st)*k)
 (hc:OV P g (h.set i o') (w.setRow b c') i o'):Inv P Γ N g (h.set i o') (w.setRow b c'):=by
 have hj:b<w.heap.size:=(H.own i b x hρ).2
 have:=Inv.set (r:=g.ρ i) (w':=w.setRow b c') H h2 (by rw[dt];exact hE) rfl rfl rfl (fun b' _ hx=>setRow_other w b b' c' (fun e=>hx x (by rw[e];exact hρ))) (by simp)
  (fun b' y hy=>⟨Or.inl ⟨y,hy⟩,by simp;exact(H.own i b' y hy).2⟩) (by
   intro b' y o v hy hv;rw[hρ]at hy;simp only[an,b9]at hy;obtain⟨rfl,rfl⟩:=hy;have h0:=H.mem b o v hv;rw[cell_of_row w b o c E fz hb]at h0
   rw[cell_of_row _ b o c' E fz (setRow_heap w b c c' E fz hb),hM o v hv,h0])
  (by
   intro b' sz st o v hy hv;rw[hρ]at hy
   have hk:b'=b:=by simp only[an,b9]at hy;exact hy.1.symm
   subst hk
   exact hm sz st o v (hρ.trans hy) hv)
  (by rw[dt];exact hc)
 rw[dt]at this;exact this
theorem PK{cs new:List AV}{vs ns:List Value}{off:Nat}(h1:VL g h cs vs)(h2:VL g h new ns):VL g h (over cs off new) (vs.take off++ns++vs.drop (off+ns.length)):=Rk h1 h2
theorem ab6{cs new:List AV}{off:Nat}(hl:off+new.length<=cs.length):(over cs off new).length=cs.length:=by
 unfold over;simp;omega
theorem aaH{e:AV}{cs:List AV}(h1:cr e.cells=true)(h2:cs.length=e.cells.length)(h3:cr cs=true):(fN cs e).cells=cs:=by
 cases e<;>simp only[AV.cells,cr,AV.one,fe,qt]at h1 h2<;>first
  |rfl
  |(match cs,h2,h3 with
    |[c],_,h3=>
     simp only[cr,qt]at h3;simp only[fN]
     cases c<;>first|rfl|simp[AV.one]at h3)
theorem afI{e:AV}{v:Value}{cs:List AV}{vs:List Value}(h1:cr e.cells=true)(he:V g h e v)(h2:cs.length=e.cells.length)(h3:cr cs=true)(hv:VL g h cs vs):
 ∃u,V g h (fN cs e) u/\u.cells.toList=vs:=by
 by_cases ha:∃ds,e=.agg ds
 ·obtain⟨ds,rfl⟩:=ha;exact⟨.agg vs.toArray,by simp only[fN,V];exact⟨vs,rfl,hv⟩,by simp[Value.cells]⟩
 ·have hc:e.cells=[e]:=by cases e<;>first|rfl|exact absurd ⟨_,rfl⟩ ha
  rw[hc]at h2
  match cs,h2,h3,hv with
  |[c],_,h3,hv=>
   simp only[VL]at hv;obtain⟨u,_,rfl,hu,rfl⟩:=hv;simp only[cr,qt]at h3
   have:fN [c] e=c:=by cases e<;>first|rfl|exact absurd ⟨_,rfl⟩ ha
   rw[this];exact⟨u,hu,by rw[GI h3 hu]⟩
theorem ag0(H:Inv P Γ N g h w){ty:TypeId}{p x:Operand}(ho:o.op=.store ty p x){sz:Nat}(h2:bH P ty=some sz){a b:AV}(hp:V g h a (r p))(hx:V g h b (r x)){h':List Ob}
 (hs:wG h sz a b=some h'):aO P Γ N r o w g h h' none:=by
 simp only[wG]at hs
 split at hs
 ·rename_i hb;obtain⟨ps,x0⟩:=hb;have q3:=qV (si x0) hx;have ys:=gX q3
  have ck:∀(bk m:Nat)(c:Array Value)(E:TypeId)(fz:Nat×Nat),r p=.pointer (some ⟨bk,m,none⟩)->w.heap[bk]? =some (.cells c E fz)->od c fz->m+sz<=c.size->
   (execOp r o).run P w=.ok .skip (w.setRow bk (c.toList.take m++(r x).cells.toList++c.toList.drop (m+sz)).toArray):=by
   intro bk m c E fz gu q0 hk xw;have h3:=BX P bk m E fz (r x).cells.toList 0 c w q0 hk (by omega) (F4 x0 q3)
   have h4:(r x).cells.size=sz:=by rw[<-ps,<-ys];simp
   rw[iz,show m+(r x).cells.toList.length=m+sz by omega]at h3;simp[execOp,ho,gu,Instr.storeAt,Instr.sureAddr,storeVar,jQ h2,h4,h3]
  split at hs
  ·rename_i i off
   split at hs
   ·rename_i cs hi
    split at hs
    ·rename_i hle;simp only[an]at hs;subst hs;simp only[V]at hp;obtain⟨_,bk,s,hρ,gu⟩:=hp;obtain⟨c,E,fz,hw,hk,hv⟩:=H.ob i _ hi bk s 0 hρ;have q4:=gX hv
     have hE:Ext h.length g h g (h.set i (.cells (over cs off b.cells))):=by have:=Ext.HP (g:=g) (vs':=over cs off b.cells) hi;rwa[dt]at this
     have k1:=PK (off:=off) (cM hE (dM hv) hv) (cM hE (dM q3) q3);rw[ys,ps]at k1;refine⟨g,_,_,ck bk off c E fz gu hw hk (by simp at q4;omega),Inv.write H (bd hi) hρ hw hE ?_ ?_ ?_,hE,rfl⟩
     ·intro o v hv;obtain⟨k,E,es,gr,fl,h5,_⟩:=H.fo i bk s 0 o v hρ hv;rw[hi]at h5
      cases h5
     ·intro q5 st o v r1 hv;obtain⟨k,E,es,gr,fl,h5,_⟩:=H.fo i bk q5 st o v r1 hv;rw[hi]at h5
      cases h5
     ·intro b' s' j1 bs;rw[hρ]at bs;simp only[an,b9]at bs;obtain⟨rfl,rfl,rfl⟩:=bs;refine⟨_,E,fz,setRow_heap w bk c _ E fz hw,vX hk ?_,by simpa using k1⟩
      have h4:(r x).cells.size=sz:=by rw[<-ps,<-ys];simp
      have h5:c.size=cs.length:=by rw[<-q4];simp
      simp only[rU,bC,fw,xE,Fk];omega
    ·simp at hs
   ·simp at hs
  ·rename_i i off n k' ix q
   split at hs
   ·rename_i k E es gr fl hi
    split at hs
    ·rename_i hc;obtain⟨rfl,b2,mx⟩:=hc
     split at hs
     ·rename_i e he
      split at hs
      ·rename_i hle;simp only[an]at hs;subst hs;simp only[V]at hp;obtain⟨u,bk,p0,hu,hf,_,gu⟩:=hp;have gj:=bd hi;have o1:=H.ob i _ hi;simp only[OV]at o1;obtain⟨r2,hK,j2,q7,hb⟩:=o1;obtain⟨k2,E2,r3,b4,o2,et,x5,x6,ad,cap,rfl,e0,hn,hq⟩:=hu;rw[hi]at x5;simp only[an,Ob.row.injEq]at x5;obtain⟨rfl,rfl,rfl,rfl,rfl,rfl⟩:=x5;obtain⟨s0,hq⟩:=hq b2
       rcases hq with⟨h0,_⟩|⟨h9,s,st,hρ,o3,rfl,ss⟩
       ·omega
       simp only[DS,an,Addr.mk.injEq,qo]at hf;obtain⟨rfl,rfl⟩:=hf;rw[hρ]at hb;simp only at hb;obtain⟨ts,c,E',fz,vs,hw,e6,hk,b3,hl⟩:=hb
       have y2:gr.getD 0<=off:=by
        cases gr with
        |none=>simp
        |some lo=>simp only[cW,aB,bj]at b2;simpa using b2.1
       have q1:=hK e (jz he)
       have e4:eC k' (es.drop (gr.getD 0)):=fun x hx=>hK x (kE hx)
       have hlen:=jD e4 b3
       have x7:(es.drop (gr.getD 0)).length=es.length-gr.getD 0:=by simp
       have kk:=bd he
       have gi:(es.drop (gr.getD 0))[off+ix-gr.getD 0]? =some e:=by rw[pq,show gr.getD 0+(off+ix-gr.getD 0)=off+ix by omega];exact he
       obtain⟨v,l1,im⟩:=Jg e4 b3 gi;have ht:=gX (qV (si q1.2) l1);have e3:(over e.cells q b.cells).length=e.cells.length:=ab6 (by rw[ps,q1.1];exact hle)
       have zv:cr (over e.cells q b.cells)=true:=by
        rw[Oa]at*;intro y hy;simp only[over,a8]at hy
        rcases hy with(hy|hy)|hy
        ·exact q1.2 y (lr hy)
        ·exact x0 y hy
        ·exact q1.2 y (kE hy)
       have l2:=aaH q1.2 e3 zv
       have hE:Ext h.length g h g (h.set i (.row k' E (es.set (off+ix) (fN (over e.cells q b.cells) e)) gr (fl&&aN 0 b.cells) false)):=by
        have:=Ext.qU (g:=g) (E':=E) (es':=es.set (off+ix) (fN (over e.cells q b.cells) e)) (gr':=gr) (fl':=fl&&aN 0 b.cells) (sh':=false) (ρ':=g.ρ i) hi (by simp) (by
         intro x9 m _ h1;refine⟨?_,by simp,fun _ h=>h⟩
         cases gr<;>simpa[cW]using h1)
        rwa[dt]at this
       have k1:VL g h (over e.cells q b.cells) (v.cells.toList.take q++(r x).cells.toList++v.cells.toList.drop (q+sz)):=by
        have:=PK (off:=q) (qV (si q1.2) l1) q3;rwa[ys,ps]at this
       obtain⟨u',bh,ao⟩:=afI q1.2 l1 e3 zv k1
       have hd:(off-st)*k'+ix*k'+q=(gr.getD 0-st)*k'+((off+ix-gr.getD 0)*k'+q):=by
        have e1:(off-st)*k'+ix*k'=(off+ix-st)*k':=by rw[<-gU];congr 1;omega
        have e2:(gr.getD 0-st)*k'+(off+ix-gr.getD 0)*k'=(off+ix-st)*k':=by rw[<-gU];congr 1;omega
        omega
       have xr:(off+ix-gr.getD 0)*k'+k'<=vs.length:=by
        rw[hlen,x7]
        have:(off+ix-gr.getD 0)*k'+k'=(off+ix-gr.getD 0+1)*k':=by rw[gU,Nat.one_mul]
        rw[this];exact mG _ (by omega)
       have ns:(gr.getD 0-st)*k'+vs.length<=c.size:=by
        by_cases h0:vs.length=0
        ·have:=hK;omega
        ·have h5:=hl (vs.length-1) (by omega)
         have h6:(gr.getD 0-st)*k'+(vs.length-1)<c.size:=by
          rcases mF ((gr.getD 0-st)*k'+(vs.length-1)) c.size with h7|h7
          ·exact h7
          ·simp[pn h7]at h5
         omega
       have hr:=ck h9 ((off-st)*k'+ix*k'+q) c E' fz gu hw hk (by rw[hd];omega)
       have gg:∀o v,g.M h9 o=some v->False:=by
        intro o v hv;obtain⟨_,_,_,_,_,h5,_⟩:=H.fo i h9 s st o v hρ hv;rw[hi]at h5;simp at h5
       refine⟨g,_,_,hr,Inv.write H gj hρ hw hE (fun o v hv=>(gg o v hv).elim) (fun q5 j1 o v _ hv=>(gg o v hv).elim) ?_,hE,rfl⟩;simp only[OV];refine⟨r2,?_,?_,by simpa using q7,?_⟩
       ·intro y hy
        rcases qu hy with hy|rfl
        ·exact hK y hy
        ·rw[l2];exact⟨e3.trans q1.1,zv⟩
       ·intro k3;simp only[aB]at k3;rw[Hg];have:=Hg.1 (j2 k3.1);refine⟨?_,?_⟩
        ·intro y hy
         rcases qu hy with hy|rfl
         ·exact hK y hy
         ·rw[l2];exact⟨e3.trans q1.1,zv⟩
        ·intro y hy
         rcases qu hy with hy|rfl
         ·exact this.2 y hy
         ·rw[l2];have e5:=this.2 e (jz he)
          have hg:∀{l:List AV},aN 0 l=true↔∀a∈l,aK 0 a=true:=by
           intro l;induction l with
           |nil=>simp[aN]
           |cons a l ih=>simp[aN,ih]
          rw[hg]at*;intro z hz;simp only[over,a8]at hz
          rcases hz with(hz|hz)|hz
          ·exact e5 z (lr hz)
          ·exact k3.2 z hz
          ·exact e5 z (kE hz)
       ·rw[hρ];simp only
        have x8:u'.cells.toList.length=k':=by rw[ao];simp;rw[<-xE,ht,q1.1];have:=ys;simp at this;omega
        have h4:(r x).cells.toList.length=sz:=by rw[<-ps,<-ys]
        have q2:=Jr (i:=off+ix-gr.getD 0) e4 b3 (by rw[x7];omega) bh x8
        have gl:v.cells.toList=(vs.drop ((off+ix-gr.getD 0)*k')).take k':=by
         apply iX;intro y;rw[rS,pq]
         by_cases hy:y<k'
         ·rw[if_pos hy]
          have:y<v.cells.toList.length:=by rw[ht,q1.1];exact hy
          rw[aW this];exact(im y _ (aW this)).symm
         ·rw[if_neg hy,gy (by rw[ht,q1.1];omega)]
        have l3:eX vs ((off+ix-gr.getD 0)*k') u'.cells.toList=eX vs ((off+ix-gr.getD 0)*k'+q) (r x).cells.toList:=by
         rw[ao,<-aaT (k:=k') xr gl (by rw[h4];exact hle)];simp only[eX,h4]
        rw[l3]at q2
        have hm:(off-st)*k'+ix*k'+q+(r x).cells.toList.length<=c.toList.length:=by rw[hd,h4];simp;omega
        have ss:c.toList.take ((off-st)*k'+ix*k'+q)++(r x).cells.toList++c.toList.drop ((off-st)*k'+ix*k'+q+sz)=eX c.toList ((off-st)*k'+ix*k'+q) (r x).cells.toList:=by
         simp only[eX,h4]
        rw[ss];have xc:=sf hm;refine⟨ts,_,E',fz,eX vs ((off+ix-gr.getD 0)*k'+q) (r x).cells.toList,setRow_heap w h9 c _ E' fz hw,?_,vX hk ?_,?_,?_⟩
        ·simp only[rU];rw[xc];simpa using e6
        ·simp only[rU];rw[xc];simp
        ·rw[List.drop_set,if_neg (by omega)];exact gY hE (lH q2) q2
        ·intro j hj;have k0:=oK (l:=vs) (s:=(r x).cells.toList) (m:=(off+ix-gr.getD 0)*k'+q) (by omega) j;rw[aW hj]at k0;rw[qv,oK hm,k0,hd];rw[sf (by omega)]at hj
         by_cases h7:j<(off+ix-gr.getD 0)*k'+q
         ·rw[if_pos (by omega),if_pos h7];have:=hl j hj;rw[aW hj,<-this];simp
         ·rw[if_neg (by omega),if_neg h7]
          by_cases h8:j<(off+ix-gr.getD 0)*k'+q+(r x).cells.toList.length
          ·rw[if_pos (by omega),if_pos h8]
           congr 1;omega
          ·rw[if_neg (by omega),if_neg h8];have:=hl j hj;rw[aW hj,<-this];simp
      ·simp at hs
     ·simp at hs
    ·simp at hs
   ·simp at hs
  ·simp at hs
 ·simp at hs
end
end Go.AM
