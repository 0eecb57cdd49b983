/- The abstract machine: values, objects, compiled code. Nothing here speaks of one program. -/
import Derived.WalkKit
set_option linter.unusedSimpArgs false
set_option linter.unusedVariables false
namespace Go.AM
abbrev aj:=@Option.some.injEq
abbrev ay:=@Bool.and_eq_true
abbrev aM:=@List.getElem?_eq_getElem
abbrev aN:=@List.mem_append
abbrev aO:=@Nat.le_refl
abbrev aW:=@decide_eq_true_eq
abbrev bj:=@List.getD_eq_getElem?_getD
abbrev bo:=@List.mem_cons
abbrev bq:=@List.length_append
abbrev bz:=@List.length_cons
abbrev bF:=@List.getElem_mem
abbrev bL:=@List.map_cons
abbrev bT:=@List.drop_eq_nil_of_le
abbrev bU:=@eq_true
abbrev bX:=@Prod.mk.injEq
abbrev bY:=@Option.map_eq_some_iff
abbrev bZ:=@List.drop_eq_getElem_cons
abbrev b_:=@List.mem_map
abbrev cq:=@List.mem_singleton
abbrev cz:=@List.getElem?_append_left
abbrev cG:=@if_true
abbrev cJ:=@List.take_of_length_le
abbrev cM:=@List.append_assoc
abbrev cT:=@if_false
abbrev c9:=@List.length_nil
abbrev dd:=@List.getElem?_eq_some_iff
abbrev df:=@List.getElem?_append_right
abbrev dt:=@Int.toNat_natCast
abbrev du:=@List.mem_filter
abbrev dK:=@List.getElem?_set_ne
abbrev dL:=@List.mem_range
abbrev dO:=@Option.map_some
abbrev dP:=@List.mem_cons_of_mem
abbrev dU:=@List.all_eq_true
abbrev eb:=@List.length_map
abbrev ep:=@List.cons_append
abbrev ez:=@Bool.false_eq_true
abbrev eA:=@List.length_take
abbrev eL:=@List.getElem?_set_self
abbrev eM:=@List.getElem_of_mem
abbrev eR:=@List.append_nil
abbrev fe:=@List.drop_zero
abbrev fu:=@List.getElem?_eq_none
abbrev fv:=@Bool.or_eq_true
abbrev fO:=@Nat.add_mul
abbrev fP:=@Int.eq_ofNat_of_zero_le
abbrev gK:=@List.getElem?_map
abbrev gM:=@Nat.add_zero
abbrev gN:=@Array.getD_eq_getD_getElem?
abbrev iu:=@Array.ext'
abbrev iv:=@Nat.zero_add
abbrev iw:=@List.mem_of_getElem?
abbrev iy:=@List.ext_getElem?
abbrev iz:=@decide_eq_false_iff_not
abbrev iA:=@Bool.not_eq_true'
abbrev iB:=@Bool.eq_iff_iff
abbrev iT:=@List.map_nil
abbrev iU:=@List.mem_append_left
abbrev jG:=@List.length_set
abbrev jH:=@List.map_map
abbrev jI:=@List.mem_of_mem_drop
abbrev jJ:=@Option.getD_some
abbrev jK:=@List.map_append
abbrev jL:=@Array.getElem?_eq_getElem
abbrev jM:=@List.nodup_append
abbrev j8:=@List.mem_of_mem_take
abbrev j9:=@Option.bind_some
abbrev j_:=@Bool.or_eq_false_iff
abbrev kc:=@eq_false
abbrev ke:=@List.take_succ_eq_append_getElem
abbrev kJ:=@Nat.add_assoc
abbrev kK:=@List.nil_append
abbrev kM:=@List.nodup_cons
abbrev lA:=@List.replicate_succ
abbrev lB:=@Nat.lt_or_ge
abbrev lC:=@Nat.mul_le_mul_right
abbrev mj:=@List.length_eq_zero_iff
abbrev ml:=@or_false
abbrev mn:=@List.take_append_drop
abbrev mo:=@beq_iff_eq
abbrev mq:=@List.map_congr_left
abbrev mr:=@List.getElem?_take_of_lt
abbrev mu:=@List.not_mem_nil
abbrev nC:=@List.getElem?_cons_succ
abbrev nD:=@List.mem_flatMap
abbrev nE:=@Iff.rfl
abbrev nF:=@List.filter_cons
abbrev oi:=@Nat.lt_of_lt_of_le
abbrev oj:=@List.getElem?_drop
abbrev om:=@List.getElem?_set
abbrev oo:=@Bool.false_or
abbrev oq:=@Bool.and_self
abbrev ot:=@decide_false
abbrev ou:=@List.flatMap_cons
abbrev ov:=@List.mem_cons_self
abbrev ow:=@decide_eq_true
abbrev pk:=@Array.getElem?_eq_none
abbrev pn:=@List.foldl_cons
abbrev po:=@Bool.and_true
abbrev pq:=@List.mem_or_eq_of_mem_set
abbrev pr:=@List.getElem?_toArray
abbrev pt:=@List.length_range
abbrev pv:=@List.length_replicate
abbrev pw:=@Option.bind_eq_some_iff
abbrev px:=@Bool.and_assoc
abbrev qH:=@Nat.min_eq_left
abbrev qI:=@List.getElem?_take
abbrev qJ:=@Bool.not_true
abbrev qK:=@List.size_toArray
abbrev qL:=@List.getElem?_cons_zero
abbrev qM:=@List.map_set
abbrev qN:=@Option.bind_eq_bind
abbrev qO:=@Nat.add_sub_cancel_left
abbrev qP:=@of_decide_eq_true
abbrev rM:=@List.set_cons_succ
abbrev rN:=@Nat.le_trans
abbrev rO:=@and_true
abbrev rP:=@List.all_cons
abbrev rQ:=@List.length_pos_iff
abbrev rR:=@Bool.true_and
abbrev rS:=@Array.all_toList
abbrev tx:=@List.getElem_take
abbrev tz:=@List.mapM_cons
abbrev tA:=@List.length_singleton
abbrev tB:=@List.singleton_append
abbrev tE:=@Option.getD_none
abbrev tF:=@Array.getElem?_setIfInBounds
abbrev tG:=@List.getElem_cons_succ
abbrev vZ:=@List.set_cons_zero
abbrev v7:=@Go.block_lt_of_cell
abbrev v8:=@List.drop_append
abbrev v_:=@List.drop_length
abbrev wa:=@List.take_length
abbrev wb:=@Nat.zero_mul
abbrev wc:=@Bool.not_false
abbrev we:=@Array.length_toList
abbrev wg:=@List.getElem_append_left
abbrev wh:=@List.contains_eq_mem
abbrev wi:=@List.mem_iff_getElem?
abbrev wj:=@List.filterMap_cons
abbrev wk:=@List.mem_map_of_mem
abbrev wm:=@List.mem_append_right
abbrev wo:=@Int.natCast_ediv
abbrev wq:=@Int.natCast_emod
abbrev wu:=@Nat.xor_zero
abbrev wv:=@Int.natCast_add
abbrev wx:=@decide_eq_false
abbrev zS:=@Nat.zero_le
abbrev zT:=@List.tail_drop
abbrev zU:=@List.cons.injEq
abbrev zV:=@List.take_zero
abbrev zX:=@Array.getElem?_toList
abbrev zY:=@List.getElem?_modify
abbrev zZ:=@Bool.not_eq_false
abbrev z1:=@List.zip_cons_cons
abbrev z6:=@List.filter_eq_self
abbrev z7:=@Decidable.byContradiction
abbrev z8:=@List.getElem_inj
abbrev z_:=@List.set_append_right
abbrev Aa:=@List.set_append_left
abbrev Dz:=@Array.foldl_toList
abbrev DA:=@Decidable.not_not
abbrev DB:=@Nat.sub_zero
abbrev DC:=@Nat.sub_self
abbrev DD:=@List.length_pos_of_mem
abbrev DE:=@List.contains_iff_mem
abbrev DF:=@beq_eq_false_iff_ne
abbrev DG:=@List.range_succ
abbrev DH:=@List.getElem_cons_zero
abbrev DI:=@Nat.succ_mul
abbrev DJ:=@Classical.byContradiction
abbrev DK:=@List.nodup_iff_pairwise_ne
abbrev Jz:=@Nat.lt_trichotomy
abbrev JA:=@List.length_drop
abbrev JB:=@Array.toList_setIfInBounds
abbrev JC:=@Option.isSome_iff_exists
abbrev JD:=@List.map_fst_zip
abbrev JE:=@List.getElem_append_right
abbrev JF:=@Nat.mul_eq_zero
abbrev JG:=@beq_self_eq_true
abbrev JH:=@List.nodup_range
abbrev JI:=@List.exists_mem_of_length_pos
abbrev JJ:=@List.getElem?_range
abbrev JK:=@List.getElem?_replicate
abbrev JL:=@BitVec.toNat_ofInt
abbrev JM:=@Bool.not_eq_false'
abbrev JN:=@List.append_eq_nil_iff
abbrev JO:=@forall_eq_or_imp
abbrev JP:=@List.getElem_set_ne
abbrev JQ:=@List.eq_nil_iff_forall_not_mem
abbrev JS:=@Bool.eq_false_iff
abbrev JU:=@List.zip_append
abbrev JV:=@List.take_left'
abbrev TE:=@List.take_succ_cons
abbrev TF:=@List.forall_mem_cons
abbrev TG:=@List.length_erase_of_mem
abbrev TH:=@List.mem_zipIdx_iff_getElem?
abbrev TI:=@List.reverse_singleton
abbrev TJ:=@Array.getElem?_replicate
abbrev TK:=@Nat.eq_zero_or_pos
abbrev TL:=@List.count_pos_iff
abbrev TM:=@List.mem_replicate
abbrev TN:=@List.filter_sublist
abbrev TO:=@List.mem_iff_getElem
abbrev TP:=@Array.mem_of_getElem?
abbrev asE:=@Std.Legacy.Range.forIn_eq_forIn_range'
inductive AV where
 |undef
 |bool (b:Bool)
 |int (k:IntKind) (n:Int)
 |str (s:List UInt8)
 |ik|cO|dE|eH
 |list (full:Bool) (k:Nat) (es:List AV)
 |own (k:Nat) (E:TypeId) (es:List AV)
 |sl (i off n:Nat)
 |cX (a:AV) (k ix off:Nat)
 |ptr (i off:Nat)
 |ei (g off:Nat)
 |mp (i:Nat)
 |dH (ks vs:List AV)
 |it (i:Nat)
 |agg (cs:List AV)
 |aE (vs:List AV)
 |fn (f:Fn) (first cap:List AV)
 |c8 (i:Nat)
 |bK (t:TypeId) (v:AV)
 deriving Inhabited,Repr
def kq:Value->AV
 |.bool b=>.bool b
 |.int k n=>.int k n
 |.string s=>.str s.data.toList
 |.pointer none=>.ik
 |.map none=>.cO
 |.nilFunc=>.dE
 |.nilIface=>.eH
 |.slice none 0 0=>.list true 0 []
 |_=>.undef
def fZ:Value->AV
 |.agg cs=>.agg (cs.toList.map kq)
 |.iface t v=>.bK t (kq v)
 |.tuple vs=>.aE (vs.toList.map kq)
 |v=>kq v
def AV.cells:AV->List AV
 |.agg cs=>cs
 |a=>[a]
def AV.ok:AV->Bool
 |.aE _|.undef|.own _ _ _=>false
 |_=>true
def AV.one:AV->Bool
 |.agg _|.aE _|.undef|.own _ _ _=>false
 |_=>true
inductive AX where
 |t (i:Nat)
 |c (v:AV)
 |g (n:Nat)
 |f (n:Nat)
 deriving Inhabited,Repr
inductive CK where
 |eql|neq|lss|leq|gtr|geq
 deriving DecidableEq,Inhabited,Repr
inductive IB where
 |add|sub|mul|quo|rem|and|or|xor|andNot|shl|shr
 deriving DecidableEq,Inhabited,Repr
inductive SK where
 |int|str|bool
 deriving DecidableEq,Inhabited,Repr
inductive EK where
 |sc (s:SK)
 |lY (ks:List SK)
 |iface
 |nil
 deriving DecidableEq,Inhabited,Repr
inductive AO where
 |mv (x:AX)
 |cN (k:Nat) (E:TypeId)
 |pick (c a b:AX)
 |alloc (z:List AV)
 |box (n:Nat) (x:AX)
 |build (z:List AV) (parts:List (Nat×Nat×AX))
 |lit (k:Nat) (zs:List AV) (parts:List (Nat×AX))
 |load (agg:Bool) (sz:Nat) (a:AX)
 |store (sz:Nat) (a x:AX)
 |br (x:AX)
 |bP (op:IB) (x y:AX)
 |cmp (op:CK) (e:EK) (x y:AX)
 |concat (x y:AX)
 |not (x:AX)
 |neg (x:AX)
 |Hg (x:AX)
 |conv (k:IntKind) (x:AX)
 |same (x:AX)
 |jT (neg:Bool) (x:AX)
 |mark (x:AX)
 |B3 (E:TypeId) (x:AX)
 |toStr (x:AX)
 |kj (t:TypeId) (x:AX)
 |iE (f:Fn) (first cap:List AX)
 |mkMap
 |mkSlice (k:Nat) (E:TypeId) (bytes:Nat) (z:AV) (n c:AX)
 |Bv (x:AX) (lo hi:Option AX)
 |slice (k:Nat) (x:AX) (lo hi:Option AX)
 |slice3 (k:Nat) (x:AX) (lo:Option AX) (hi mx:AX)
 |off (n:Nat) (x:AX)
 |Ii (agg:Bool) (off sz:Nat) (x:AX)
 |jt (k:Nat) (x i:AX)
 |fw (n k:Nat) (x i:AX)
 |y6 (x i:AX)
 |Hf (n:Nat) (agg:Bool) (k:Nat) (x i:AX)
 |lookup (e:EK) (z:AV) (x i:AX) (ok:Bool)
 |bD (e:EK) (m k x:AX)
 |range (x:AX)
 |next (x:AX)
 |uS (x:AX) (t:TypeId) (z:AV) (ok:Bool)
 |extract (x:AX) (i:Nat)
 |len (x:AX)
 |vd (x:AX)
 |cap (x:AX)
 |GN (n:Nat)
 |sJ (x:AX)
 |append (k:Nat) (E:TypeId) (bytes:Nat) (x y:AX)
 |sB (k:Nat) (E:TypeId) (bytes:Nat) (z:AV) (x n:AX)
 |delete (e:EK) (m k:AX)
 |clear (k:Nat) (z:AV) (x:AX)
 |min (xs:List AX)
 |max (xs:List AX)
 |recover
 |panic (x:AX)
 |call (f:AX) (args:List AX)
 |invoke (x:AX) (name:String) (args:List AX)
 |defer (f:AX) (args:List AX)
 deriving Inhabited,Repr
structure AG where
 dst:Option Nat
 guard:Option (Nat×Bool)
 op:AO
 deriving Inhabited,Repr
inductive al where
 |skip
 |ae (ops:List AG)
 |aX (loose:List Bool) (fin:List Nat) (ops:List AG)
 |fG (afters:List (List Nat)) (ops:List AG)
 |seq (a b:al)
 |cond (c:AX) (a b:al)
 |block (id:Nat) (mask:List Bool) (c:al)
 |loop (mask:List Bool) (c:al)
 |rangeFunc (f:AX) (params:List Nat) (mask:List Bool) (assign body:al)
 |exit (id:Nat)
 |ret
 |bad
 deriving Inhabited,Repr
inductive qu where
 |tmp (t:Nat)
 |cell (a:Nat) (agg:Bool) (sz:Nat)
 deriving Inhabited,Repr
structure aH where
 body:al
 nt:Nat
 res:List qu
 deriving Inhabited,Repr
inductive Jump where
 |none
 |ret
 |exit (id:Nat)
 deriving DecidableEq,Inhabited,Repr
inductive Ob where
 |gone
 |cells (vs:List AV)
 |row (k:Nat) (E:TypeId) (es:List AV) (g:Option Nat) (fl sh:Bool)
 |map (es:List (AV×AV)) (fl:Bool)
 |iL (s:List UInt8) (pos:Nat)
 |loop (st:LoopState) (pend:Jump) (fn:FuncId) (nt:List AV) (params:List Nat) (assign body:al)
 |bH (live:Bool)
 deriving Inhabited,Repr
def ax(t:List AV):AX->AV
 |.t i=>t.getD i .undef
 |.c v=>v
 |.g n=>.ei n 0
 |.f n=>.fn (.func n) [] []
mutual
def aK(n:Nat):AV->Bool
 |.sl i _ _=>decide (i<n)
 |.ptr i _=>decide (i<n)
 |.mp i=>decide (i<n)
 |.it i=>decide (i<n)
 |.c8 i=>decide (i<n)
 |.cX a _ _ _=>aK n a
 |.agg cs=>aL n cs
 |.aE cs=>aL n cs
 |.fn _ a b=>aL n a&&aL n b
 |.bK _ v=>aK n v
 |.own _ _ _=>false
 |.list _ _ es=>aL n es
 |.dH ks vs=>aL n ks&&aL n vs
 |_=>true
def aL(n:Nat):List AV->Bool
 |[]=>true
 |a::as=>aK n a&&aL n as
end
def b9:List AV->Bool
 |[]=>true
 |a::as=>a.one&&b9 as
def cr:List AV->Nat->Bool
 |[],_=>true
 |a::as,k=>decide (a.cells.length=k)&&b9 a.cells&&aL 0 a.cells&&cr as k
mutual
theorem xD{n m:Nat}(h:n<=m):∀{a:AV},aK n a=true->aK m a=true
 |.undef,_|.bool _,_|.int _ _,_|.str _,_|.ik,_|.cO,_|.dE,_|.eH,_|.ei _ _,_=>rfl
 |.list _ _ es,hb=>by simp only[aK]at hb⊢;exact qU h hb
 |.own _ _ _,hb=>by simp[aK]at hb
 |.sl _ _ _,hb|.ptr _ _,hb|.mp _,hb|.it _,hb|.c8 _,hb=>by simp only[aK,aW]at hb⊢;omega
 |.cX a _ _ _,hb=>by simp only[aK]at hb⊢;exact xD h hb
 |.dH _ _,hb|.fn _ _ _,hb=>by simp only[aK,ay]at hb⊢;exact⟨qU h hb.1,qU h hb.2⟩
 |.agg _,hb|.aE _,hb=>by simp only[aK]at hb⊢;exact qU h hb
 |.bK _ _,hb=>by simp only[aK]at hb⊢;exact xD h hb
theorem qU{n m:Nat}(h:n<=m):∀{as:List AV},aL n as=true->aL m as=true
 |[],_=>rfl
 |a::as,hb=>by simp only[aL,ay]at hb⊢;exact⟨xD h hb.1,qU h hb.2⟩
end
theorem Yn{n:Nat}{a:AV}(h:aL n a.cells=true):aK n a=true:=by
 cases a<;>simp_all [AV.cells,aK,aL]
theorem jl{n k:Nat}:∀{es:List AV},cr es k=true->aL n es=true
 |[],_=>rfl
 |a::as,h=>by
  simp only[cr,ay]at h;simp only[aL,ay];exact⟨xD (zS _) (Yn h.1.2),jl h.2⟩
def cE(es:List AV)(g:Option Nat)(off n:Nat):Bool:=
 match g with
 |none=>decide (off+n<=es.length)
 |some lo=>decide (lo<=off)&&off+n==es.length
def elems(h:List Ob):AV->Option (List AV)
 |.list _ _ es=>some es
 |.sl i off n=>
  match h[i]? with
  |some (.row _ _ es g _ _)=>if cE es g off n then some ((es.drop off).take n)else none
  |_=>none
 |_=>none
def kp(h:List Ob):AV->Option (Nat×List AV)
 |.list _ k es=>some (k,es)
 |.sl i off n=>
  match h[i]? with
  |some (.row k _ es g _ _)=>if cE es g off n then some (k,(es.drop off).take n)else none
  |_=>none
 |_=>none
def o_:AV->Option Nat
 |.list _ _ es=>some es.length
 |.sl _ _ n=>some n
 |_=>none
def vh(h:List Ob):AV->Option (Nat×List AV)
 |.list _ k es=>some (k,es)
 |.sl i off n=>
  match h[i]? with
  |some (.row k _ es g true _)=>if cE es g off n then some (k,(es.drop off).take n)else none
  |_=>none
 |_=>none
mutual
def view(h:List Ob):AV->Option AV
 |.list _ k es=>some (.list false k es)
 |.sl i off n=>(vh h (.sl i off n)).map fun p=>.list false p.1 p.2
 |.agg cs=>(bV h cs).map .agg
 |.aE cs=>(bV h cs).map .aE
 |.fn f a b=>
  match bV h a,bV h b with
  |some a',some b'=>some (.fn f a' b')
  |_,_=>none
 |.bK t v=>(view h v).map (.bK t)
 |.ptr _ _|.mp _|.it _|.c8 _|.cX _ _ _ _|.own _ _ _=>none
 |.dH ks vs=>if aL 0 ks&&aL 0 vs then some (.dH ks vs)else none
 |a=>some a
def bV(h:List Ob):List AV->Option (List AV)
 |[]=>some []
 |a::as=>
  match view h a,bV h as with
  |some a',some as'=>some (a'::as')
  |_,_=>none
end
mutual
def rowsOf:AV->List Nat
 |.sl i _ _=>[i]
 |.agg cs=>bO cs
 |.aE cs=>bO cs
 |.fn _ a b=>bO a++bO b
 |.bK _ v=>rowsOf v
 |_=>[]
def bO:List AV->List Nat
 |[]=>[]
 |a::as=>rowsOf a++bO as
end
def fR:Ob->Ob
 |.row k E es g fl _=>.row k E es g fl true
 |o=>o
def share:List Nat->List Ob->List Ob
 |[],h=>h
 |i::is,h=>share is (h.modify i fR)
inductive R where
 |val (v:AV) (h:List Ob)
 |skip (h:List Ob)
 |cZ (v:AV)
 |call (f:FuncId) (args:List AV)
 |rC
 |bH (f:FuncId) (args:List AV)
 |yield (l:Nat) (args:List AV)
 |either
 |bad
 deriving Inhabited
def fg:SK->AV->AV->Option Bool
 |.int,.int k a,.int j b=>if k=j then some (a==b)else none
 |.str,.str a,.str b=>some (a==b)
 |.bool,.bool a,.bool b=>some (a==b)
 |_,_,_=>none
def gU:List SK->List AV->List AV->Option Bool
 |[],[],[]=>some true
 |s::ss,a::as,b::bs=>
  match fg s a b with
  |some true=>gU ss as bs
  |some false=>some false
  |none=>none
 |_,_,_=>none
def cj:SK->AV->Bool
 |.int,.int _ _|.str,.str _|.bool,.bool _=>true
 |_,_=>false
def bM:List SK->List AV->Bool
 |[],[]=>true
 |s::ss,a::as=>cj s a&&bM ss as
 |_,_=>false
def isKey:EK->AV->Bool
 |.sc s,a=>cj s a
 |.lY ss,.agg cs=>bM ss cs
 |_,_=>false
def cw(e:EK)(x y:AV):Option Bool:=
 match e with
 |.lY ss=>match x,y with
  |.agg as,.agg bs=>if bM ss as&&bM ss bs then gU ss as bs else none
  |_,_=>none
 |.sc s=>fg s x y
 |.iface=>match x,y with
  |.eH,.bK _ _=>some false
  |.bK _ _,.eH=>some false
  |_,_=>none
 |.nil=>match x,y with
  |.dE,.dE=>some true
  |.dE,.fn _ _ _=>some false
  |.fn _ _ _,.dE=>some false
  |_,_=>none
def eT(e:EK)(k:AV):List (AV×AV)->Option (Option AV)
 |[]=>some none
 |(a,v)::es=>
  match cw e k a with
  |some true=>some (some v)
  |some false=>eT e k es
  |none=>none
def i_(e:EK)(k v:AV):List (AV×AV)->Option (List (AV×AV))
 |[]=>some [(k,v)]
 |(a,u)::es=>
  match cw e k a with
  |some true=>some ((k,v)::es)
  |some false=>(i_ e k v es).map ((a,u)::·)
  |none=>none
def mW(e:EK)(k:AV):List (AV×AV)->Option (List (AV×AV))
 |[]=>some []
 |(a,u)::es=>
  match cw e k a with
  |some true=>some es
  |some false=>(mW e k es).map ((a,u)::·)
  |none=>none
def na(op:CK)(a b:Int):Bool:=
 match op with
 |.eql=>a==b
 |.neq=>a !=b
 |.lss=>decide (a<b)
 |.leq=>decide (a<=b)
 |.gtr=>decide (a>b)
 |.geq=>decide (a≥b)
def ie(op:IB)(k:IntKind)(x y:Int):Option Int:=
 match op with
 |.add=>some (k.wrap (x+y))
 |.sub=>some (k.wrap (x-y))
 |.mul=>some (k.wrap (x*y))
 |.quo=>if y=0 then none else some (k.wrap (x.tdiv y))
 |.rem=>if y=0 then none else some (x.tmod y)
 |.and=>some (k.wrap ((BitVec.ofInt k.bits x)&&&(BitVec.ofInt k.bits y)).toNat)
 |.or=>some (k.wrap ((BitVec.ofInt k.bits x)|||(BitVec.ofInt k.bits y)).toNat)
 |.xor=>some (k.wrap ((BitVec.ofInt k.bits x)^^^(BitVec.ofInt k.bits y)).toNat)
 |.andNot=>some (k.wrap ((BitVec.ofInt k.bits x)&&&~~~(BitVec.ofInt k.bits y)).toNat)
 |.shl=>if y<0 then none else some (k.wrap (x*2^(min y.toNat k.bits)))
 |.shr=>if y<0 then none else some (x.fdiv (2^(min y.toNat k.bits)))
def mQ(agg:Bool)(sz off:Nat)(cs:List AV):Option AV:=
 if agg then(if off+sz<=cs.length then some (.agg ((cs.drop off).take sz))else none)
 else if sz=1 then cs[off]? else none
def over(cs:List AV)(off:Nat)(new:List AV):List AV:=cs.take off++new++cs.drop (off+new.length)
def eS:List AV->AV->AV
 |cs,.agg _=>.agg cs
 |[c],_=>c
 |_,_=>.undef
def qd(Γ:Nat->Option AV)(h:List Ob)(agg:Bool)(sz:Nat):AV->Option AV
 |.ptr i off=>
  match h[i]? with
  |some (.cells cs)=>mQ agg sz off cs
  |_=>none
 |.cX a k ix off=>
  match kp h a with
  |some (k',es)=>if k'=k then es[ix]?.bind fun e=>mQ agg sz off e.cells else none
  |none=>none
 |.ei n off=>(Γ n).bind fun v=>mQ agg sz off v.cells
 |_=>none
def vg(h:List Ob)(sz:Nat)(p x:AV):Option (List Ob):=
 if x.cells.length=sz/\b9 x.cells=true then
  match p with
  |.ptr i off=>
   match h[i]? with
   |some (.cells cs)=>if off+sz<=cs.length then some (h.set i (.cells (over cs off x.cells)))else none
   |_=>none
  |.cX (.sl i o n) k' ix off=>
   match h[i]? with
   |some (.row k E es g fl false)=>
    if k'=k/\cE es g o n=true/\ix<n then
     match es[o+ix]? with
     |some e=>
      if off+sz<=k then
       some (h.set i (.row k E (es.set (o+ix) (eS (over e.cells off x.cells) e)) g (fl&&aL 0 x.cells) false))
      else none
     |none=>none
    else none
   |_=>none
  |_=>none
 else none
def gS(h:List Ob)(k:Nat)(E:TypeId)(bytes:Nat)(x:AV)(ys:List AV)(gq:Bool):R:=
 match x with
 |.list true k' es=>
  if(es.length+ys.length)*bytes<=2^47/\(k'=k\/es=[])then
   match ys with
   |[]=>.val x h
   |_::_=>.val (.sl h.length 0 (es.length+ys.length)) (h++[.row k E (es++ys) none gq false])
  else .bad
 |.sl i off n=>
  match h[i]? with
  |some (.row k' E' es g fl sh)=>
   if k'=k/\E'=E/\cE es g off n=true/\(n+ys.length)*bytes<=2^47 then
    if off+n=es.length then
     .val (.sl i off (n+ys.length)) (h.set i (.row k E (es++ys) (if ys.isEmpty then g else some off) (fl&&gq) sh))
    else if off+n+ys.length<=es.length/\sh=false then
     .val (.sl i off (n+ys.length)) (h.set i (.row k E (es.take (off+n)++ys++es.drop (off+n+ys.length)) g (fl&&gq) false))
    else .bad
   else .bad
  |_=>.bad
 |_=>.bad
def iK(b:UInt8):AV:=.int .u8 b.toNat
def Cd:AV->Option UInt8
 |.int .u8 n=>some (UInt8.ofNat n.toNat)
 |_=>none
def pO:List AV->Option (List UInt8)
 |[]=>some []
 |a::as=>
  match Cd a,pO as with
  |some b,some bs=>some (b::bs)
  |_,_=>none
def bound(t:List AV)(d:Nat):Option AX->Option Nat
 |none=>some d
 |some x=>match ax t x with
  |.int _ n=>if 0<=n then some n.toNat else none
  |_=>none
def sX(cells:List AV):List (Nat×Nat×AV)->Option (List AV)
 |[]=>some cells
 |(off,sz,v)::r=>if v.ok=true/\v.cells.length=sz/\off+sz<=cells.length then sX (over cells off v.cells) r else none
def oY(k:Nat)(es:List AV):List (Nat×AV)->Option (List AV)
 |[]=>some es
 |(i,v)::r=>if i<es.length/\v.cells.length=k/\b9 v.cells=true then oY k (es.set i v) r else none
def qm:AV->List AV->Option AV
 |.int k a,.int j b::r=>if k=j then qm (.int k (if b<a then b else a)) r else none
 |.int k a,[]=>some (.int k a)
 |_,_=>none
def qx:AV->List AV->Option AV
 |.int k a,.int j b::r=>if k=j then qx (.int k (if a<b then b else a)) r else none
 |.int k a,[]=>some (.int k a)
 |_,_=>none
def oH(h:List Ob):List (Nat×AV)->Option (List (Nat×AV)×List Ob)
 |[]=>some ([],h)
 |(i,v)::r=>
  match view h v with
  |some v'=>
   match oH (share (rowsOf v) h) r with
   |some (ps,h')=>some ((i,v')::ps,h')
   |none=>none
  |none=>none
def eD(n:Nat):AV->AV×List Ob
 |.own k E es=>(.sl n 0 es.length,[.row k E es none true false])
 |a=>(a,[])
def cd(n:Nat):List AV->List AV×List Ob
 |[]=>([],[])
 |a::as=>((eD n a).1::(cd (n+(eD n a).2.length) as).1,(eD n a).2++(cd (n+(eD n a).2.length) as).2)
def dB(n:Nat):AV->AV×List Ob
 |.aE vs=>(.aE (cd n vs).1,(cd n vs).2)
 |a=>eD n a
def dM(t:List AV):Option (Nat×Bool)->Option Bool
 |none=>some true
 |some (j,b)=>match t.getD j .undef with
  |.bool x=>some (x==b)
  |.aE []=>some false
  |_=>none
def gf(P:Program)(t:TypeId):Option Bool:=(P.underlying t).map fun|.struct _|.array _ _=>true|_=>false
def bu(P:Program)(t:TypeId):Option Nat:=(P.info? t).map (·.size)
def CA(P:Program)(t:TypeId)(f:FuncId)(ptr:Bool):Option (FuncId×Option (Bool×Nat)):=match P.underlying t with
 |some (.pointer e)=>if ptr then some (f,none)else match gf P e,bu P e with
  |some a,some s=>some (f,some (a,s))
  |_,_=>none
 |some (.interface _)=>none
 |some _=>if ptr then none else some (f,none)
 |none=>none
def jw(P:Program)(t:TypeId)(name:String):Option (FuncId×Option (Bool×Nat)):=match P.info? t with
 |some i=>match i.methods.find? (·.name==name)with
  |some m=>match m.func with
   |some (f,ptr)=>if m.path.isEmpty then CA P t f ptr else none
   |none=>none
  |none=>none
 |none=>none
def aA(P:Program)(f:FuncId):Bool:=match P.funcs[f]? with
 |some fn=>fn.body.isSome&&fn.name != "runtime.NumGoroutine"
 |none=>false
def nY(P:Program)(Γ:Nat->Option AV)(h:List Ob)(ty:TypeId)(name:String)(v:AV)(args:List AV):R:=
 match jw P ty name with
 |some (f,none)=>.call f (v::args)
 |some (f,some (agg,sz))=>match v with
  |.ptr i o=>match qd Γ h agg sz (.ptr i o)with
   |some x=>.call f (x::args)
   |none=>.bad
  |_=>.bad
 |none=>.bad
def az(P:Program)(Γ:Nat->Option AV)(t:List AV)(h:List Ob):AO->R
 |.mv x=>.val (ax t x) h
 |.cN k E=>.val (.sl h.length 0 0) (h++[.row k E [] none true false])
 |.pick c a b=>match ax t c with
  |.bool true=>.val (ax t a) h
  |.bool false=>.val (ax t b) h
  |_=>.bad
 |.alloc z=>.val (.ptr h.length 0) (h++.cells (cd (h.length+1) z).1::(cd (h.length+1) z).2)
 |.box n x=>if(ax t x).cells.length=n/\b9 (ax t x).cells=true then .val (.ptr h.length 0) (h++[.cells (ax t x).cells])else .bad
 |.build z parts=>match sX z (parts.map fun p=>(p.1,p.2.1,ax t p.2.2))with
  |some cs=>.val (.agg cs) h
  |none=>.bad
 |.lit k zs parts=>match oH h (parts.map fun p=>(p.1,ax t p.2))with
  |some (ps,h')=>match oY k zs ps with
   |some es=>if cr es k=true then .val (.list true k es) h' else .bad
   |none=>.bad
  |none=>.bad
 |.load agg sz a=>match qd Γ h agg sz (ax t a)with
  |some v=>.val v h
  |none=>.bad
 |.store sz a x=>match vg h sz (ax t a) (ax t x)with
  |some h'=>.skip h'
  |none=>.bad
 |.br x=>match ax t x with
  |.ptr i o=>.val (.ptr i o) h
  |.cX a k i o=>.val (.cX a k i o) h
  |.ei i o=>.val (.ei i o) h
  |.fn (.func f) a b=>.val (.fn (.func f) a b) h
  |.bK ty v=>.val (.bK ty v) h
  |.fn (.method m) [.bK ty v] b=>match jw P ty m with
   |some (_,none)=>.val (.fn (.method m) [.bK ty v] b) h
   |_=>.bad
  |_=>.bad
 |.bP op x y=>match ax t x,ax t y with
  |.int k a,.int j b=>if k=j\/op=.shl\/op=.shr then(match ie op k a b with
   |some n=>.val (.int k n) h
   |none=>.bad)else .bad
  |_,_=>.bad
 |.cmp op e x y=>match e with
  |.sc .int=>match ax t x,ax t y with
   |.int k a,.int j b=>if k=j then .val (.bool (na op a b)) h else .bad
   |_,_=>.bad
  |e=>match op with
   |.eql=>match cw e (ax t x) (ax t y)with
    |some b=>.val (.bool b) h
    |none=>.bad
   |.neq=>match cw e (ax t x) (ax t y)with
    |some b=>.val (.bool !b) h
    |none=>.bad
   |_=>.bad
 |.concat x y=>match ax t x,ax t y with
  |.str a,.str b=>if a.length+b.length<=2^47 then .val (.str (a++b)) h else .bad
  |_,_=>.bad
 |.not x=>match ax t x with
  |.bool b=>.val (.bool !b) h
  |_=>.bad
 |.neg x=>match ax t x with
  |.int k n=>.val (.int k (k.wrap (0-n))) h
  |_=>.bad
 |.Hg x=>match ax t x with
  |.int k n=>.val (.int k (k.wrap ((BitVec.ofInt k.bits (if k.signed then-1 else k.max))^^^(BitVec.ofInt k.bits n)).toNat)) h
  |_=>.bad
 |.conv k x=>match ax t x with
  |.int _ n=>.val (.int k (k.wrap n)) h
  |_=>.bad
 |.same x=>match ax t x with
  |.str s=>.val (.str s) h
  |_=>.bad
 |.jT neg x=>match o_ (ax t x)with
  |some (_+1)=>.val (.bool neg) h
  |some 0=>.either
  |none=>.bad
 |.mark x=>match ax t x with
  |.sl i o n=>match h[i]? with
   |some (.row 1 _ es none _ _)=>if n=0\/o≠0\/n≠es.length then .bad else .val (.sl i o n) h
   |_=>.bad
  |_=>.bad
 |.B3 E x=>match ax t x with
  |.str s=>if s.length<=2^47 then .val (.sl h.length 0 s.length) (h++[.row 1 E (s.map iK) none true false])else .bad
  |_=>.bad
 |.toStr x=>match elems h (ax t x)with
  |some es=>match pO es with
   |some s=>.val (.str s) h
   |none=>.bad
  |none=>.bad
 |.kj ty x=>.val (.bK ty (ax t x)) h
 |.iE f a b=>.val (.fn f (a.map (ax t)) (b.map (ax t))) h
 |.mkMap=>.val (.mp h.length) (h++[.map [] true])
 |.mkSlice k E bytes z n c=>match ax t n,ax t c with
  |.int _ n,.int _ c=>if 0<=n/\n=c/\c*bytes<=2^47/\c<=2^47 then .val (.sl h.length 0 n.toNat) (h++[.row k E (List.replicate n.toNat z) none true false])else .bad
  |_,_=>.bad
 |.Bv x lo hi=>match ax t x with
  |.str s=>match bound t 0 lo,bound t s.length hi with
   |some l,some u=>if l<=u/\u<=s.length then .val (.str ((s.take u).drop l)) h else .bad
   |_,_=>.bad
  |_=>.bad
 |.slice k x lo hi=>match ax t x with
  |.list f k' es=>match bound t 0 lo,bound t es.length hi with
   |some l,some u=>if l<=u/\u<=es.length/\(k'=k\/es=[])then .val (.list (f&&u==es.length) k' ((es.take u).drop l)) h else .bad
   |_,_=>.bad
  |.sl i off n=>match bound t 0 lo,bound t n hi with
   |some l,some u=>if l<=u/\u<=n then(match h[i]? with
    |some (.row k' _ es g _ _)=>if k'=k/\cE es g off n=true then .val (.sl i (off+l) (u-l)) h else .bad
    |_=>.bad)else .bad
   |_,_=>.bad
  |_=>.bad
 |.slice3 k x lo hi mx=>match view h (ax t x)with
  |some (.list _ k' es)=>match bound t 0 lo,bound t 0 (some hi),bound t 0 (some mx)with
   |some l,some u,some m=>if l<=u/\u<=es.length/\m=u/\(k'=k\/es=[])then .val (.list true k' ((es.take u).drop l)) (share (rowsOf (ax t x)) h)else .bad
   |_,_,_=>.bad
  |_=>.bad
 |.off n x=>match ax t x with
  |.ptr i o=>.val (.ptr i (o+n)) h
  |.cX a k i o=>.val (.cX a k i (o+n)) h
  |.ei g o=>.val (.ei g (o+n)) h
  |_=>.bad
 |.Ii agg off sz x=>match ax t x with
  |.agg cs=>match mQ agg sz off cs with
   |some v=>.val v h
   |none=>.bad
  |_=>.bad
 |.jt k x i=>match o_ (ax t x),ax t i with
  |some m,.int _ n=>if 0<=n/\n<m then .val (.cX (ax t x) k n.toNat 0) h else .bad
  |_,_=>.bad
 |.fw len k x i=>match ax t i with
  |.int _ n=>if 0<=n/\n<len then(match ax t x with
   |.ptr j o=>.val (.ptr j (o+n.toNat*k)) h
   |.cX a k' j o=>.val (.cX a k' j (o+n.toNat*k)) h
   |.ei g o=>.val (.ei g (o+n.toNat*k)) h
   |_=>.bad)else .bad
  |_=>.bad
 |.y6 x i=>match ax t x,ax t i with
  |.str s,.int _ n=>if 0<=n then(match s[n.toNat]? with
   |some b=>.val (iK b) h
   |none=>.bad)else .bad
  |_,_=>.bad
 |.Hf len agg k x i=>match ax t x,ax t i with
  |.agg cs,.int _ n=>if 0<=n/\n<len then(match mQ agg k (n.toNat*k) cs with
   |some v=>.val v h
   |none=>.bad)else .bad
  |_,_=>.bad
 |.lookup e z x i ok=>
  let es:=match ax t x with
   |.cO=>some []
   |.dH ks vs=>some (ks.zip vs)
   |.mp j=>match h[j]? with
    |some (.map es _)=>some es
    |_=>none
   |_=>none
  match es with
  |some es=>if isKey e (ax t i)=false then .bad else match eT e (ax t i) es with
   |some (some v)=>.val (if ok then .aE [v,.bool true]else v) h
   |some none=>.val (if ok then .aE [z,.bool false]else z) h
   |none=>.bad
  |none=>.bad
 |.bD e m k x=>match ax t m with
  |.mp j=>match h[j]? with
   |some (.map es fl)=>if isKey e (ax t k)=false then .bad else match i_ e (ax t k) (ax t x) es with
    |some es'=>.skip (h.set j (.map es' (fl&&aK 0 (ax t x))))
    |none=>.bad
   |_=>.bad
  |_=>.bad
 |.range x=>match ax t x with
  |.str s=>.val (.it h.length) (h++[.iL s 0])
  |_=>.bad
 |.next x=>match ax t x with
  |.it i=>match h[i]? with
   |some (.iL s pos)=>
    if pos<s.length then
     (let r:=Utf8.decode ⟨s.toArray⟩ pos
     .val (.aE [.bool true,.int .i64 pos,.int .i32 r.1]) (h.set i (.iL s (pos+r.2))))
    else .val (.aE [.bool false]) h
   |_=>.bad
  |_=>.bad
 |.uS x ty z ok=>match ax t x with
  |.bK u v=>if u=ty then .val (if ok then .aE [v,.bool true]else v) h
   else if ok then .val (.aE [z,.bool false]) h else .bad
  |.eH=>if ok then .val (.aE [z,.bool false]) h else .bad
  |_=>.bad
 |.extract x i=>match ax t x with
  |.aE vs=>match vs[i]? with
   |some v=>.val v h
   |none=>.bad
  |_=>.bad
 |.vd x=>match ax t x with
  |.str s=>.val (.int .i64 s.length) h
  |_=>.bad
 |.len x=>match ax t x with
  |.list _ _ es=>.val (.int .i64 es.length) h
  |.sl _ _ n=>.val (.int .i64 n) h
  |_=>.bad
 |.cap x=>match ax t x with
  |.list true _ es=>.val (.int .i64 es.length) h
  |_=>.bad
 |.GN n=>.val (.int .i64 n) h
 |.sJ x=>match ax t x with
  |.cO=>.val (.int .i64 0) h
  |.dH ks _=>.val (.int .i64 ks.length) h
  |.mp j=>match h[j]? with
   |some (.map es _)=>.val (.int .i64 es.length) h
   |_=>.bad
  |_=>.bad
 |.append k E bytes x y=>match ax t y with
  |.list _ k' es=>if k'=k\/es=[]then gS h k E bytes (ax t x) es true else .bad
  |.sl i o n=>match kp h (.sl i o n),h[i]? with
   |some (k',es),some (.row _ _ _ _ fl _)=>if k'=k then gS h k E bytes (ax t x) es fl else .bad
   |_,_=>.bad
  |.str s=>if k=1 then gS h 1 E bytes (ax t x) (s.map iK) true else .bad
  |_=>.bad
 |.sB k E bytes z x n=>match ax t n with
  |.int _ n=>if 0<=n/\n<=2^47 then gS h k E bytes (ax t x) (List.replicate n.toNat z) true else .bad
  |_=>.bad
 |.delete e m k=>match ax t m with
  |.mp j=>match h[j]? with
   |some (.map es fl)=>if isKey e (ax t k)=false then .bad else match mW e (ax t k) es with
    |some es'=>.val (.aE []) (h.set j (.map es' fl))
    |none=>.bad
   |_=>.bad
  |_=>.bad
 |.clear k z x=>match ax t x with
  |.sl i off n=>match h[i]? with
   |some (.row k' E es none fl false)=>if k'=k/\off+n<=es.length then .val (.aE []) (h.set i (.row k E (es.take off++List.replicate n z++es.drop (off+n)) none fl false))else .bad
   |_=>.bad
  |_=>.bad
 |.min xs=>match xs.map (ax t)with
  |a::r=>match qm a r with
   |some v=>.val v h
   |none=>.bad
  |[]=>.bad
 |.max xs=>match xs.map (ax t)with
  |a::r=>match qx a r with
   |some v=>.val v h
   |none=>.bad
  |[]=>.bad
 |.recover=>.rC
 |.panic x=>match ax t x with
  |.bK ty v=>.cZ (.bK ty v)
  |_=>.bad
 |.call f args=>match ax t f with
  |.fn (.func n) a b=>.call n (a++args.map (ax t)++b)
  |.fn (.methodOf ty name) a b=>match a++args.map (ax t),b with
   |r::as,[]=>nY P Γ h ty name r as
   |_,_=>.bad
  |.c8 l=>.yield l (args.map (ax t))
  |_=>.bad
 |.invoke x name args=>match ax t x with
  |.bK ty v=>nY P Γ h ty name v (args.map (ax t))
  |_=>.bad
 |.defer f args=>match ax t f with
  |.fn (.func n) a b=>.bH n (a++args.map (ax t)++b)
  |_=>.bad
inductive It where
 |code (c:al)
 |inBlock (id:Nat) (mask:List Bool)
 |inLoop (mask:List Bool) (c:al)
 |ops (os:List AG)
 |jO (l:Nat)
 |uQ (l:Nat)
 |beginRound
 deriving Inhabited
inductive dG where
 |call (f:FuncId) (args:List AV)
 |mark (i:Nat)
 deriving Inhabited
inductive Md where
 |run
 |ret
 |cZ (v:AV) (rc:Bool)
 deriving Inhabited
inductive FK where
 |norm
 |bH
 |round (l:Nat)
 deriving DecidableEq,Inhabited
structure Fr where
 md:Md
 fn:FuncId
 its:List It
 t:List AV
 ds:List dG
 kind:FK
 base:Nat
 deriving Inhabited
inductive ar where
 |fr (f:Fr) (up:List Fr) (h:List Ob)
 |cl (f:FuncId) (args:List AV) (up:List Fr) (h:List Ob)
 |back (up:List Fr) (v:AV) (h:List Ob)
 |die (up:List Fr) (v:AV) (h:List Ob)
 |bad
 deriving Inhabited
def aU(t:List AV):Option Nat->AV->List AV
 |some d,v=>t.set d v
 |none,_=>t
def dj:List Bool->List AV->List AV
 |true::ms,a::as=>a::dj ms as
 |false::ms,_::as=>.undef::dj ms as
 |[],as=>as
 |_,[]=>[]
def lN(t:List AV):List Nat->List AV->List AV
 |p::ps,a::as=>lN (t.set p a) ps as
 |_,_=>t
def oX(id:Nat):List It->Option (List It×List Bool)
 |.inBlock i m::k=>if i=id then some (k,m)else oX id k
 |_::k=>oX id k
 |[]=>none
def enter(f:FuncId)(F:aH)(args:List AV)(kind:FK)(h:List Ob):Fr:=
 {md:=.run,fn:=f,its:=[.code F.body],t:=args++List.replicate (F.nt-args.length) .undef,ds:=[],kind,base:=h.length}
def Fr.finish(f:Fr)(v:AV):Option Fr:=
 match f.its with
 |.ops (o::os)::k=>some {f with its:=.ops os::k,t:=aU f.t o.dst v}
 |.jO l::k=>some {f with its:=.uQ l::k}
 |_=>none
def u5(Γ:Nat->Option AV)(t:List AV)(h:List Ob):qu->Option AV
 |.tmp i=>some (t.getD i .undef)
 |.cell a agg sz=>qd Γ h agg sz (t.getD a .undef)
def sx(Γ:Nat->Option AV)(t:List AV)(h:List Ob):List qu->Option (List AV)
 |[]=>some []
 |r::rs=>
  match u5 Γ t h r,sx Γ t h rs with
  |some v,some vs=>some (v::vs)
  |_,_=>none
def BC(Γ:Nat->Option AV)(t:List AV)(h:List Ob)(rs:List qu):Option AV:=
 match sx Γ t h rs with
 |some [v]=>some v
 |some vs=>some (.aE vs)
 |none=>none
def leave(f:Fr)(up:List Fr)(h:List Ob)(j:Jump):ar:=
 match f.kind with
 |.round l=>match h[l]? with
  |some (.loop _ _ fn t ps a b)=>.back up (.bool (j==.none)) (h.set l (.loop (if j=.none then .ready else .done) j fn t ps a b))
  |_=>.bad
 |_=>match j with
  |.exit _=>.bad
  |_=>.fr {f with md:=.ret} up h
def vr(f:Fr)(up:List Fr):Option (AV×List Fr):=
 match f.kind with
 |.bH=>match up with
  |c::rest=>match c.md with
   |.cZ v false=>some (v,{c with md:=.cZ v true}::rest)
   |_=>some (.eH,up)
  |[]=>some (.eH,up)
 |.norm=>some (.eH,up)
 |.round _=>none
def fL(P:Program)(f:Fr)(up:List Fr)(h:List Ob)(o:AG)(os:List AG)(k:List It):R->ar
 |.val v h'=>.fr {f with its:=.ops os::k,t:=aU f.t o.dst v} up h'
 |.skip h'=>.fr {f with its:=.ops os::k,t:=aU f.t o.dst (.aE [])} up h'
 |.cZ v=>.fr {f with md:=.cZ v false} up h
 |.call g args=>if aA P g=true then .cl g args (f::up) h else .bad
 |.rC=>match vr f up with
  |some (v,up')=>.fr {f with its:=.ops os::k,t:=aU f.t o.dst v} up' h
  |none=>.bad
 |.bH g args=>match f.kind with
  |.round _=>.bad
  |_=>.fr {f with its:=.ops os::k,t:=aU f.t o.dst (.aE []),ds:=.call g args::f.ds} up h
 |.yield l args=>match h[l]? with
  |some (.loop _ _ fi t ps a b)=>
   if args.length=ps.length then
    .fr {md:=.run,fn:=fi,its:=[.code a,.beginRound,.code b],t:=lN t ps args,ds:=[],kind:=.round l,base:=h.length} (f::up) h
   else .bad
  |_=>.bad
 |.either=>.fr f up h
 |.bad=>.bad
def iD(P:Program)(Γ:Nat->Option AV)(f:Fr)(up:List Fr)(h:List Ob):List It->ar
 |.code .skip::k=>.fr {f with its:=k} up h
 |.code (.ae os)::k=>.fr {f with its:=.ops os::k} up h
 |.code (.aX _ _ _)::_=>.bad
 |.code (.fG _ _)::_=>.bad
 |.code (.seq a b)::k=>.fr {f with its:=.code a::.code b::k} up h
 |.code (.cond x a b)::k=>match ax f.t x with
  |.bool v=>.fr {f with its:=.code (if v then a else b)::k} up h
  |_=>.bad
 |.code (.block id m b)::k=>.fr {f with its:=.code b::.inBlock id m::k} up h
 |.inBlock _ m::k=>.fr {f with its:=k,t:=dj m f.t} up h
 |.code (.loop m b)::k=>.fr {f with its:=.code b::.inLoop m b::k,t:=dj m f.t} up h
 |.inLoop m b::k=>.fr {f with its:=.code b::.inLoop m b::k,t:=dj m f.t} up h
 |.code (.exit id)::k=>match oX id k with
  |some (k',m)=>.fr {f with its:=k',t:=dj m f.t} up h
  |none=>leave f up h (.exit id)
 |.code .ret::_=>leave f up h .ret
 |[]=>leave f up h .none
 |.code .bad::_=>.bad
 |.ops []::k=>.fr {f with its:=k} up h
 |.ops (o::os)::k=>match dM f.t o.guard with
  |some true=>fL P f up h o os k (az P Γ f.t h o.op)
  |some false=>.fr {f with its:=.ops os::k,t:=aU f.t o.dst (.aE [])} up h
  |none=>.bad
 |.code (.rangeFunc x ps m a b)::k=>match ax f.t x with
  |.fn (.func g) fs cs=>if aA P g=false then .bad else match f.kind with
   |.round _=>
    .cl g (fs++.c8 h.length::cs) ({f with its:=.jO h.length::k}::up) (h++[.loop .ready .none f.fn (dj m f.t) ps a b])
   |_=>
    .cl g (fs++.c8 (h.length+1)::cs) ({f with its:=.jO (h.length+1)::k,ds:=.mark h.length::f.ds}::up)
     (h++[.bH true,.loop .ready .none f.fn (dj m f.t) ps a b])
  |_=>.bad
 |.jO _::_=>.bad
 |.beginRound::k=>match f.kind with
  |.round l=>match h[l]? with
   |some (.loop .ready j fn t ps a b)=>.fr {f with its:=k} up (h.set l (.loop .busy j fn t ps a b))
   |_=>.bad
  |_=>.bad
 |.uQ l::k=>match h[l]? with
  |some (.loop st j fn t ps a b)=>
   if st=.busy then .bad
   else .fr {f with its:=(match j with|.none=>k|.ret=>.code .ret::k|.exit id=>.code (.exit id)::k)} up (h.set l (.loop .exhausted j fn t ps a b))
  |_=>.bad
def gE(n:Nat):List (AV×AV)->Bool
 |[]=>true
 |(a,b)::r=>aK n a&&aK n b&&gE n r
def hY(n:Nat):Ob->Bool
 |.cells cs=>aL n cs
 |.row _ _ es _ fl _=>fl||aL n es
 |.map es _=>gE n es
 |.loop _ _ _ t _ _ _=>aL n t
 |_=>true
def cI(n:Nat):List Ob->Bool
 |[]=>true
 |o::os=>hY n o&&cI n os
def kC(n:Nat):List dG->Bool
 |[]=>true
 |.call _ args::ds=>aL n args&&kC n ds
 |.mark i::ds=>decide (i<n)&&kC n ds
def gk(n:Nat):List It->Bool
 |[]=>true
 |.jO l::k=>decide (l<n)&&gk n k
 |.uQ l::k=>decide (l<n)&&gk n k
 |_::k=>gk n k
mutual
def ji(i m:Nat):AV->Bool
 |.sl j off n=>!(j==i)||off+n==m
 |.cX a _ _ _=>ji i m a
 |.agg cs=>cW i m cs
 |.aE cs=>cW i m cs
 |.fn _ a b=>cW i m a&&cW i m b
 |.bK _ v=>ji i m v
 |.dH ks vs=>aL 0 ks&&aL 0 vs
 |_=>true
def cW(i m:Nat):List AV->Bool
 |[]=>true
 |a::as=>ji i m a&&cW i m as
end
def n8(i m:Nat):List (AV×AV)->Bool
 |[]=>true
 |(a,b)::r=>ji i m a&&ji i m b&&n8 i m r
def l_(i m:Nat):Ob->Bool
 |.cells cs=>cW i m cs
 |.row _ _ es _ fl _=>fl||cW i m es
 |.map es _=>n8 i m es
 |.loop _ _ _ t _ _ _=>cW i m t
 |_=>true
def cH(i m:Nat):List Ob->Bool
 |[]=>true
 |o::os=>l_ i m o&&cH i m os
def o8(i m:Nat):List dG->Bool
 |[]=>true
 |.call _ args::ds=>cW i m args&&o8 i m ds
 |.mark _::ds=>o8 i m ds
def pY(h:List Ob)(all:List Nat):AV->Option AV
 |.sl i off n=>
  match h[i]? with
  |some (.row k E es g true sh)=>
   if cE es g off n=true then
    if off=0/\n=es.length/\sh=false/\all.count i=1 then some (.own k E es)else some (.list false k ((es.drop off).take n))
   else none
  |_=>none
 |.list f k es=>some (.list f k es)
 |a=>view h a
def jZ(h:List Ob)(all:List Nat):List AV->Option (List AV)
 |[]=>some []
 |a::as=>
  match pY h all a,jZ h all as with
  |some a',some as'=>some (a'::as')
  |_,_=>none
def s6(h:List Ob):AV->Option AV
 |.aE vs=>(jZ h (bO vs) vs).map .aE
 |a=>pY h (rowsOf a) a
mutual
def ek:AV->Bool
 |.list _ _ es=>es.isEmpty
 |.dH _ _=>false
 |.own _ _ es=>eN es
 |.agg cs=>eN cs
 |.aE cs=>eN cs
 |.fn _ a b=>eN a&&eN b
 |.bK _ v=>ek v
 |.cX a _ _ _=>ek a
 |_=>true
def eN:List AV->Bool
 |[]=>true
 |a::as=>ek a&&eN as
end
def dV(h:List Ob)(args:List AV)(r:AV):List Ob:=
 (if ek r=true then h else share (bO args) h)++(dB h.length r).2
def dh:AO->Nat
 |.load _ _ _|.slice _ _ _ _|.toStr _|.lookup _ _ _ _ _|.sJ _=>1
 |.cN _ _|.alloc _|.box _ _|.lit _ _ _|.store _ _ _|.B3 _ _|.mkMap|.mkSlice _ _ _ _ _ _|.slice3 _ _ _ _ _|.bD _ _ _ _|.range _|.next _
 |.append _ _ _ _ _|.sB _ _ _ _ _ _|.delete _ _ _|.clear _ _ _|.mark _|.call _ _|.invoke _ _ _=>2
 |.recover|.panic _|.defer _ _|.jT _ _=>3
 |_=>0
def fX:AO->Bool
 |.call _ _|.invoke _ _ _=>true
 |_=>false
def j4(q:Bool)(o:AO):Nat:=if q&&fX o then 1 else dh o
inductive iR where
 |fn (f:FuncId)
 |yl (l:Nat)
 deriving Inhabited
def iR.cfg:iR->List AV->List Fr->List Ob->ar
 |.fn f,args,up,h=>.cl f args up h
 |.yl l,args,up,h=>match h[l]? with
  |some (.loop _ _ fi t ps a b)=>
   if args.length=ps.length then
    .fr {md:=.run,fn:=fi,its:=[.code a,.beginRound,.code b],t:=lN t ps args,ds:=[],kind:=.round l,base:=h.length} up h
   else .bad
  |_=>.bad
def iR.ok(P:Program):iR->Bool
 |.fn f=>aA P f
 |.yl _=>true
def R.CW:R->Option (iR×List AV)
 |.call f as=>some (.fn f,as)
 |.yield l as=>some (.yl l,as)
 |_=>none
structure gn where
 f:iR
 args:List AV
 h:List Ob
 v:AV
 h':List Ob
 deriving Inhabited
def ig(P:Program)(Γ:Nat->Option AV):List (AV×List Ob)->List AG->List AV->List Ob->Option (List AV×List Ob×List gn×List (List Ob))
 |_,[],t,h=>some (t,h,[],[])
 |orc,o::os,t,h=>
  match dM t o.guard with
  |some true=>
   match az P Γ t h o.op with
   |.val v h'=>(ig P Γ orc os (aU t o.dst v) h').map fun r=>(r.1,r.2.1,r.2.2.1,h'::r.2.2.2)
   |.skip h'=>(ig P Γ orc os (aU t o.dst (.aE [])) h').map fun r=>(r.1,r.2.1,r.2.2.1,h'::r.2.2.2)
   |.call f args=>if aA P f=false then none else match orc with
    |(v,h')::orc=>(ig P Γ orc os (aU t o.dst v) h').map fun r=>(r.1,r.2.1,⟨.fn f,args,h,v,h'⟩::r.2.2.1,h'::r.2.2.2)
    |[]=>none
   |.yield l args=>match orc with
    |(v,h')::orc=>(ig P Γ orc os (aU t o.dst v) h').map fun r=>(r.1,r.2.1,⟨.yl l,args,h,v,h'⟩::r.2.2.1,h'::r.2.2.2)
    |[]=>none
   |_=>none
  |some false=>(ig P Γ orc os (aU t o.dst (.aE [])) h).map fun r=>(r.1,r.2.1,r.2.2.1,h::r.2.2.2)
  |none=>none
def calm(P:Program)(Γ:Nat->Option AV)(obls:List gn)(hs:List (List Ob)):List Bool->List Nat->List (AV×List Ob)->List AG->List AV->List Ob->Prop
 |_,_,_,[],_,_=>True
 |l,ws,orc,o::os,t,h=>
  match dM t o.guard with
  |some true=>
   match az P Γ t h o.op with
   |.val v h'=>(l.headD true=true->dh o.op=1->∀g∈hs.take (ws.headD 0),az P Γ t g o.op=.val v g)/\calm P Γ obls hs l.tail ws.tail orc os (aU t o.dst v) h'
   |.skip h'=>calm P Γ obls hs l.tail ws.tail orc os (aU t o.dst (.aE [])) h'
   |.call f args=>match orc with
    |(v,h')::orc=>(l.headD true=true->h'=h/\∀g∈hs.take (ws.headD 0),az P Γ t g o.op=.call f args/\⟨.fn f,args,g,v,g⟩∈obls)/\calm P Γ obls hs l.tail ws.tail orc os (aU t o.dst v) h'
    |[]=>False
   |.yield _ _=>match orc with
    |(v,h')::orc=>l.headD true=false/\calm P Γ obls hs l.tail ws.tail orc os (aU t o.dst v) h'
    |[]=>False
   |_=>False
  |some false=>calm P Γ obls hs l.tail ws.tail orc os (aU t o.dst (.aE [])) h
  |none=>False
def au:Operand->AX
 |.tmp t=>.t t
 |.const v=>.c (fZ v)
 |.global g=>.g g
 |.func f=>.f f
def lS(P:Program)(t:TypeId):Option Nat:=(P.info? t).map (·.bytes)
def dW(P:Program)(t:TypeId):Option AV:=((P.info? t).bind (·.zero)).map fZ
def lf(P:Program)(t:TypeId):Option TypeId:=match P.underlying t with|some (.slice e)=>some e|_=>none
def kE(k:Nat)(z:AV):Bool:=decide (z.cells.length=k)&&b9 z.cells&&aL 0 z.cells
def Cl(P:Program):Nat->TypeId->Option (List AV)
 |0,_=>none
 |n+1,t=>match P.underlying t with
  |some (.slice e)=>match bu P e with
   |some (k+1)=>some [.own (k+1) e []]
   |_=>none
  |some (.struct fs)=>(fs.toList.mapM fun f=>Cl P n f.type).map List.flatten
  |some (.array k e)=>(Cl P n e).map fun c=>(List.replicate k c).flatten
  |_=>(dW P t).map AV.cells
def BQ:AV->Value->AV
 |.own (k+1) E [],.slice none 0 0=>.own (k+1) E []
 |_,v=>kq v
def qw:List AV->List Value->Option (List AV)
 |[],[]=>some []
 |a::as,v::vs=>(qw as vs).map (BQ a v::·)
 |_,_=>none
def kT(P:Program)(t:TypeId):Option SK:=if P.cellsOf t==1 then(match P.underlying t with
 |some (.int _)=>some .int
 |some .string=>some .str
 |some .bool=>some .bool
 |_=>none)else none
def sR(P:Program):Nat->List Field->Option (List SK)
 |_,[]=>some []
 |i,f::fs=>match kT P f.type,sR P (i+1) fs with
  |some s,some ss=>if f.name != "_" &&f.offset==i then some (s::ss)else none
  |_,_=>none
def vq(P:Program)(t:TypeId):Option (List SK):=match P.underlying t with
 |some (.struct fs)=>if !P.stoodInHeld t then sR P 0 fs.toList else none
 |some (.array n e)=>(kT P e).map fun s=>List.replicate n s
 |_=>none
def iW(P:Program)(t:TypeId):Option EK:=match kT P t with
 |some s=>some (.sc s)
 |none=>(vq P t).map .lY
def pX(P:Program)(t:TypeId):Option EK:=match kT P t with
 |some s=>some (.sc s)
 |none=>match P.underlying t with
  |some (.struct _)|some (.array _ _)=>if !P.eqGuardType P.depth t then(vq P t).map .lY else none
  |some (.interface _)=>some .iface
  |some (.func _ _ _)=>some .nil
  |_=>none
def rp:BinOp->Option CK
 |.eql=>some .eql|.neq=>some .neq|.lss=>some .lss|.leq=>some .leq|.gtr=>some .gtr|.geq=>some .geq
 |_=>none
def Hk:BinOp->Option IB
 |.add=>some .add|.sub=>some .sub|.mul=>some .mul|.quo=>some .quo|.rem=>some .rem|.and=>some .and
 |.or=>some .or|.xor=>some .xor|.andNot=>some .andNot|.shl=>some .shl|.shr=>some .shr
 |_=>none
def placeOf(P:Program)(t:TypeId)(i:Nat):Option (Nat×Nat):=match P.underlying t with
 |some (.struct fs)=>match fs[i]? with
  |some f=>(bu P f.type).map fun s=>(f.offset,s)
  |none=>none
 |some (.array _ e)=>(bu P e).map fun s=>(i*s,s)
 |_=>none
def xC(P:Program)(t:TypeId):Bool:=match P.underlying t with
 |some (.struct fs)=>fs.toList.all fun f=>(bu P f.type).isSome
 |some (.array _ e)=>(bu P e).isSome
 |_=>false
def pW(P:Program)(t:TypeId)(ps:List (Nat×Operand)):Option (List (Nat×Nat×AX)):=
 ps.mapM fun(i,x)=>(placeOf P t i).map fun(o,s)=>(o,s,au x)
def mY(P:Program)(c:Call):Option AO:=match c.callee with
 |.value f=>some (.call (au f) (c.args.toList.map au))
 |.invoke x name=>some (.invoke (au x) name (c.args.toList.map au))
 |.builtin b=>
  match b,c.args.toList,c.argTypes.toList with
  |.len,[x],[t]=>match P.underlying t with
   |some .string=>some (.vd (au x))
   |some (.slice _)=>some (.len (au x))
   |some (.array n _)=>some (.GN n)
   |some (.map _ _)=>some (.sJ (au x))
   |_=>none
  |.cap,[x],[t]=>match P.underlying t with
   |some (.slice _)=>some (.cap (au x))
   |_=>none
  |.append,[x,y],[t,u]=>do
   let e<-lf P t
   let k<-bu P e
   let b<-lS P e
   let z<-dW P e
   if k=0\/b=0\/kE k z=false then none
   match P.underlying u with
   |some (.int _)=>some (.sB k e b z (au x) (au y))
   |some _=>some (.append k e b (au x) (au y))
   |none=>none
  |.delete,[m,k],[t,_]=>match P.underlying t with
   |some (.map key _)=>(iW P key).map fun e=>.delete e (au m) (au k)
   |_=>none
  |.clear,[x],[t]=>do
   let e<-lf P t
   let k<-bu P e
   let z<-dW P e
   if k=0\/kE k z=false then none
   some (.clear k z (au x))
  |.min,xs,_=>some (.min (xs.map au))
  |.max,xs,_=>some (.max (xs.map au))
  |.recover,[],_=>some .recover
  |_,_,_=>none
def bR(P:Program)(o:Oper):Option AO:=match o.op with
 |.move x=>some (.mv (au x))
 |.assign x=>match x with
  |.const (.slice none 0 0)=>do
   let e<-lf P o.type
   let k<-bu P e
   if k=0 then none
   some (.cN k e)
  |_=>some (.mv (au x))
 |.pick c a b=>some (.pick (au c) (au a) (au b))
 |.alloc t=>do
  let z<-(P.info? t).bind (·.zero)
  some (.alloc (<-qw (<-Cl P 8 t) z.cells.toList))
 |.box t x=>do some (.box (<-bu P t) (au x))
 |.build t ps=>do
  let z<-dW P t
  if xC P t then some (.build z.cells (<-pW P t ps.toList))else none
 |.buildSlice t n ps=>do
  let e<-lf P t
  let k<-bu P e
  let z<-dW P e
  if k=0\/n*k>2^24\/kE k z=false then none
  some (.lit k (List.replicate n z) (ps.toList.map fun(i,x)=>(i,au x)))
 |.load t a=>do some (.load (<-gf P t) (<-bu P t) (au a))
 |.store t a x=>do some (.store (<-bu P t) (au a) (au x))
 |.nilCheck x=>some (.br (au x))
 |.binOp op t x y _=>match P.underlying t with
  |some (.int _)=>match rp op with
   |some c=>some (.cmp c (.sc .int) (au x) (au y))
   |none=>(Hk op).map fun b=>.bP b (au x) (au y)
  |some .string=>if op=.add then some (.concat (au x) (au y))else match rp op,pX P t with
   |some c,some e=>some (.cmp c e (au x) (au y))
   |_,_=>none
  |some (.slice _)=>match op,x,y with
   |.eql,x,.const (.slice none 0 0)=>some (.jT false (au x))
   |.neq,x,.const (.slice none 0 0)=>some (.jT true (au x))
   |_,_,_=>none
  |_=>match rp op,pX P t with
   |some c,some e=>some (.cmp c e (au x) (au y))
   |_,_=>none
 |.unOp op _ x=>match op with
  |.not=>some (.not (au x))
  |.neg=>some (.neg (au x))
  |.xor=>some (.Hg (au x))
  |.plus=>none
 |.convert s d x=>match P.underlying s,P.underlying d with
  |some (.int _),some (.int k)=>some (.conv k (au x))
  |some .string,some .string=>some (.same (au x))
  |some .string,some (.slice e)=>match P.underlying e with
   |some (.int .u8)=>if bu P e=some 1 then some (.B3 e (au x))else none
   |_=>none
  |some (.slice _),some (.slice e)=>match P.underlying e with
   |some (.int .u8)=>if s=d then some (.mark (au x))else none
   |_=>none
  |some (.slice e),some .string=>match P.underlying e with
   |some (.int .u8)=>some (.toStr (au x))
   |_=>none
  |_,_=>none
 |.makeInterface t x=>match P.underlying t with
  |some (.interface _)|none=>none
  |_=>some (.kj t (au x))
 |.makeFunc f a b=>some (.iE f (a.toList.map au) (b.toList.map au))
 |.makeMap t none=>match P.underlying t with
  |some (.map _ _)=>some .mkMap
  |_=>none
 |.makeSlice t n c=>do
  let e<-lf P t
  let k<-bu P e
  let z<-dW P e
  if k=0\/kE k z=false then none
  some (.mkSlice k e (<-lS P e) z (au n) (au c))
 |.slice t x lo hi none=>match P.underlying t with
  |some .string=>some (.Bv (au x) (lo.map au) (hi.map au))
  |some (.slice e)=>match bu P e with
   |some (k+1)=>some (.slice (k+1) (au x) (lo.map au) (hi.map au))
   |_=>none
  |_=>none
 |.slice t x lo (some hi) (some mx)=>match P.underlying t with
  |some (.slice e)=>match bu P e with
   |some (k+1)=>some (.slice3 (k+1) (au x) (lo.map au) (au hi) (au mx))
   |_=>none
  |_=>none
 |.fieldAddr t x i=>match P.underlying t with
  |some (.struct fs)=>match fs[i]? with
   |some f=>match bu P f.type with
    |some (_+1)=>some (.off f.offset (au x))
    |_=>none
   |none=>none
  |_=>none
 |.field t x i=>match P.underlying t with
  |some (.struct fs)=>match fs[i]? with
   |some f=>do some (.Ii (<-gf P f.type) f.offset (<-bu P f.type) (au x))
   |none=>none
  |_=>none
 |.indexAddr t x i=>match P.underlying t with
  |some (.slice e)=>match bu P e with
   |some (k+1)=>some (.jt (k+1) (au x) (au i))
   |_=>none
  |some (.array n e)=>match bu P e with
   |some (k+1)=>some (.fw n (k+1) (au x) (au i))
   |_=>none
  |_=>none
 |.index t x i=>match P.underlying t with
  |some .string=>some (.y6 (au x) (au i))
  |some (.array n e)=>do some (.Hf n (<-gf P e) (<-bu P e) (au x) (au i))
  |_=>none
 |.lookup t x i ok=>match P.underlying t with
  |some (.map k e)=>do some (.lookup (<-iW P k) (<-dW P e) (au x) (au i) ok)
  |_=>none
 |.mapUpdate t m k x|.insert t m k x=>match P.underlying t with
  |some (.map key _)=>(iW P key).map fun e=>.bD e (au m) (au k) (au x)
  |_=>none
 |.range t x=>match P.underlying t with
  |some .string=>some (.range (au x))
  |_=>none
 |.next x true=>some (.next (au x))
 |.typeAssert x _ t ok=>match P.underlying t with
  |some (.interface _)|none=>none
  |_=>do some (.uS (au x) t (<-dW P t) ok)
 |.extract x i=>some (.extract (au x) i)
 |.call c=>mY P c
 |.defer c=>match c.callee with
  |.value f=>some (.defer (au f) (c.args.toList.map au))
  |_=>none
 |.panic x=>some (.panic (au x))
 |_=>none
def B8(ops:List Oper)(o:Oper):Option (Option (Nat×Bool)):=match o.guard with
 |none=>some none
 |some (j,b)=>match(ops[j]?).bind (·.dst)with
  |some d=>some (some (d,b))
  |none=>none
def oe(P:Program)(ops:List Oper)(o:Oper):Option AG:=do
 let g<-B8 ops o
 some ⟨o.dst,g,<-bR P o⟩
def er:AX->List Nat
 |.t i=>[i]
 |_=>[]
def kV:AO->List Nat
 |.mv x|.box _ x|.load _ _ x|.br x|.not x|.neg x|.Hg x|.conv _ x|.same x|.jT _ x|.mark x|.B3 _ x|.toStr x|.kj _ x|.off _ x|.Ii _ _ _ x
 |.range x|.next x|.uS x _ _ _|.extract x _|.len x|.vd x|.cap x|.sJ x|.clear _ _ x|.panic x=>er x
 |.pick c a b|.bD _ c a b=>er c++er a++er b
 |.build _ ps=>ps.flatMap fun p=>er p.2.2
 |.lit _ _ ps=>ps.flatMap fun p=>er p.2
 |.store _ a x|.bP _ a x|.cmp _ _ a x|.concat a x|.jt _ a x|.fw _ _ a x|.y6 a x|.Hf _ _ _ a x|.lookup _ _ a x _|.append _ _ _ a x
 |.sB _ _ _ _ a x|.delete _ a x|.mkSlice _ _ _ _ a x=>er a++er x
 |.iE _ a b=>a.flatMap er++b.flatMap er
 |.Bv x lo hi|.slice _ x lo hi=>er x++(lo.map er).getD []++(hi.map er).getD []
 |.slice3 _ x lo hi mx=>er x++(lo.map er).getD []++er hi++er mx
 |.min xs|.max xs=>xs.flatMap er
 |.call f xs|.defer f xs=>er f++xs.flatMap er
 |.invoke x _ xs=>er x++xs.flatMap er
 |.alloc _|.cN _ _|.mkMap|.GN _|.recover=>[]
def sA(g:AG):List Nat:=(g.guard.map fun x=>[x.1]).getD []++kV g.op
def QW(b:Array Nat)(i j:Nat):Bool:=if j<i then(b.getD i 0).testBit j else(b.getD j 0).testBit i
def quietAt(b:Array Nat)(gs:List AG)(i:Nat):Bool:=
 match gs[i]? with
 |none=>false
 |some gi=>fX gi.op&&(List.range gs.length).any fun j=>
  match gs[j]? with
  |none=>false
  |some gj=>dh gj.op==2&&!fX gj.op&&!QW b i j
def mL(qi qj:Bool)(gi gj:AG)(ly:Bool):Bool:=
 (gi.dst.isNone||gi.dst !=gj.dst)&&
 (ly||((match gj.dst with|some d=>!(sA gi).contains d|none=>true)&&(match gi.dst with|some d=>!(sA gj).contains d|none=>true)&&
  !(j4 qi gi.op==2&&j4 qj gj.op==2)))
def uW(ops:Array Oper)(gs:List AG):Bool:=
 let b:=Region.before ops
 (List.range gs.length).all fun i=>
  match gs[i]? with
  |none=>false
  |some gi=>dh gi.op !=3&&(List.range i).all fun j=>
   match gs[j]? with
   |none=>false
   |some gj=>mL (quietAt b gs i) (quietAt b gs j) gi gj ((b.getD i 0).testBit j)
def looseAt(b:Array Nat)(gs:List AG)(i:Nat):Bool:=
 match gs[i]? with
 |none=>true
 |some gi=>if fX gi.op then quietAt b gs i else dh gi.op==1&&(List.range gs.length).any fun j=>
  match gs[j]? with
  |none=>true
  |some gj=>j4 (quietAt b gs j) gj.op==2&&!QW b i j
def mI(ops:Array Oper)(gs:List AG):List Bool:=(List.range gs.length).map (looseAt (Region.before ops) gs)
def Cq(b:Array Nat)(gs:List AG)(i:Nat):Nat:=
 ((List.range gs.length).find? fun j=>decide (i<j)&&(match gs[j]? with
  |none=>false
  |some gj=>j4 (quietAt b gs j) gj.op==2&&(b.getD j 0).testBit i)).getD gs.length+1
def vA(ops:Array Oper)(gs:List AG):List Nat:=(List.range gs.length).map (Cq (Region.before ops) gs)
def oL(ops:Array Oper):Bool:=ops.toList.zipIdx.all fun x=>x.1.after.all fun e=>!Region.binds .any e||decide (e.on<x.2)
def yZ(P:Program)(ops:Array Oper)(gs:List AG):Bool:=uW ops gs&&oL ops&&(P.follows .mixedOrders||!Region.departs ops)
def nU(ops:Array Oper):List (List Nat):=ops.toList.map fun o=>(o.after.toList.filter (Region.binds .any)).map (·.on)
def fE(P:Program):Code->al
 |.skip|.label _=>.skip
 |.region _ ops draw=>match ops.toList.mapM (oe P ops.toList)with
  |some gs=>if draw then(if yZ P ops gs then .aX (mI ops gs) (vA ops gs) gs else if oL ops&&(P.follows .mixedOrders||!Region.departs ops)then .fG (nU ops) gs else .bad)else .ae gs
  |none=>.bad
 |.seq a b=>.seq (fE P a) (fE P b)
 |.cond c a b=>.cond (au c) (fE P a) (fE P b)
 |.block id c=>.block id [] (fE P c)
 |.loop c=>.loop [] (fE P c)
 |.exit id=>.exit id
 |.ret=>.ret
 |.rangeFunc f ps a b=>.rangeFunc (au f) ps.toList [] (fE P a) (fE P b)
 |.scope _|.goto _|.refuse _=>.bad
def ins(x:Nat)(l:List Nat):List Nat:=if l.contains x then l else x::l
def s8(xs l:List Nat):List Nat:=xs.foldl (fun l x=>ins x l) l
def Pp:List AG->List Nat->List Nat
 |[],out=>out
 |o::os,out=>
  let l:=Pp os out
  let l:=match o.dst with
   |some d=>l.filter (· !=d)
   |_=>l
  s8 ((o.guard.map fun g=>[g.1]).getD []) (s8 (kV o.op) l)
def live(rs:List Nat):al->List (Nat×List Nat)->List Nat->List Nat
 |.skip,_,out=>out
 |.ae os,_,out|.aX _ _ os,_,out|.fG _ os,_,out=>Pp os out
 |.seq a b,E,out=>live rs a E (live rs b E out)
 |.cond x a b,E,out=>s8 (er x) (s8 (live rs a E out) (live rs b E out))
 |.block id _ c,E,out=>live rs c ((id,out)::E) out
 |.loop _ c,E,_=>
  let x:=live rs c E []
  let x:=live rs c E x
  live rs c E x
 |.rangeFunc f ps _ a b,_,out=>
  s8 (er f) (s8 ((live rs a [] (live rs b [] rs)).filter fun s=>!ps.contains s) (s8 rs out))
 |.exit id,E,_=>(E.lookup id).getD rs
 |.ret,_,_=>rs
 |.bad,_,_=>[]
def GU(nt:Nat)(x:List Nat):List Bool:=(List.range nt).map x.contains
def adA:al->Bool
 |.loop _ _=>true
 |_=>false
def fY(rs:List Nat)(nt:Nat):al->List (Nat×List Nat)->List Nat->al
 |.seq a b,E,out=>.seq (fY rs nt a E (live rs b E out)) (fY rs nt b E out)
 |.cond x a b,E,out=>.cond x (fY rs nt a E out) (fY rs nt b E out)
 |.block id _ c,E,out=>.block id (if adA c then GU nt out else[]) (fY rs nt c ((id,out)::E) out)
 |.loop _ c,E,out=>
  let x:=live rs (.loop [] c) E out
  .loop (GU nt x) (fY rs nt c E x)
 |.rangeFunc f ps _ a b,_,_=>
  let x:=live rs b [] rs
  .rangeFunc f ps (GU nt ((live rs a [] x).filter fun s=>!ps.contains s)) (fY rs nt a [] x) (fY rs nt b [] rs)
 |c,_,_=>c
def o7(P:Program):ResultVar->Option qu
 |.tmp t=>some (.tmp t)
 |.cell a t=>do some (.cell a (<-gf P t) (<-bu P t))
def aba:qu->Nat
 |.tmp t=>t
 |.cell a _ _=>a
def aG(P:Program)(f:FuncId):Option aH:=do
 let fn<-P.funcs[f]?
 let b<-fn.body
 let rs<-fn.results.toList.mapM (o7 P)
 let sl:=rs.map aba
 some {body:=fY sl fn.ntmps (fE P b) [] sl,nt:=fn.ntmps,res:=rs}
def nQ(P:Program)(Γ:Nat->Option AV)(f:Fr)(up:List Fr)(h:List Ob):ar:=
 match f.ds with
 |.mark i::ds=>match h[i]? with
  |some (.bH true)=>.fr {f with ds} up (h.set i (.bH false))
  |_=>.bad
 |.call g args::ds=>if aA P g=false then .bad else match aG P g with
  |some F=>.fr (enter g F args .bH h) ({f with ds}::up) h
  |none=>.bad
 |[]=>match f.md with
  |.run=>.bad
  |.cZ v rc=>if rc then .bad else .die up v h
  |.ret=>match aG P f.fn with
   |some F=>match BC Γ f.t h F.res with
    |some v=>match f.kind with
     |.norm=>.back up v h
     |.bH=>match up with
      |c::rest=>match c.md with
       |.cZ _ true=>.fr {c with md:=.ret} rest h
       |.cZ _ false=>.fr c rest h
       |.ret=>.fr c rest h
       |.run=>.bad
      |[]=>.bad
     |.round _=>.bad
    |none=>.bad
   |none=>.bad
def fB(P:Program)(Γ:Nat->Option AV):ar->ar
 |.fr f up h=>match f.md with
  |.run=>iD P Γ f up h f.its
  |_=>nQ P Γ f up h
 |.cl g args up h=>match aG P g with
  |some F=>.fr (enter g F args .norm h) up h
  |none=>.bad
 |.back (c::up) v h=>match c.finish v with
  |some c'=>.fr c' up h
  |none=>.bad
 |.back [] v h=>.back [] v h
 |.die (c::up) v h=>match c.md with
  |.run=>.fr {c with md:=.cZ v false} up h
  |_=>.bad
 |.die [] v h=>.die [] v h
 |.bad=>.bad
end Go.AM
namespace Go.AM
open Go.RowKit
structure G where
 ρ:Nat->Option (Nat×Nat×Nat)
 M:Nat->Nat->Option Value
 MM:Nat->Option (Array MapEntry×Nat)
def Dh(g:G)(h:List Ob)(i off n:Nat)(v:Value):Prop:=
 ∃k E es gr fl sh,h[i]? =some (.row k E es gr fl sh)/\off+n<=es.length/\∃a cap,v=.slice a n cap/\n<=cap/\(0<n->∃b o,a=some ⟨b,o,none⟩)/\
  (cE es gr off n=true->es.length<=off+cap/\(
   (n=0/\cap=0)\/∃b sz st,g.ρ i=some (b,sz,st)/\st<=off/\a=some ⟨b,(off-st)*k,none⟩/\((off-st)+cap)*k<=sz))
def isCells(h:List Ob)(i:Nat):Prop:=∃vs,h[i]? =some (.cells vs)
def isMap(h:List Ob)(i:Nat):Prop:=∃es fl,h[i]? =some (.map es fl)
def PJ(h:List Ob)(i:Nat):Prop:=∃s p,h[i]? =some (.iL s p)
def GP(h:List Ob)(i:Nat):Prop:=∃st j fn t ps a b,h[i]? =some (.loop st j fn t ps a b)
def Cn:Value->Option Addr
 |.slice a _ _=>a
 |_=>none
mutual
def V(g:G)(h:List Ob):AV->Value->Prop
 |.undef,_=>True
 |.bool b,v=>v=.bool b
 |.int k n,v=>v=.int k n
 |.str s,v=>v=.string ⟨s.toArray⟩
 |.ik,v=>v=.pointer none
 |.cO,v=>v=.map none
 |.dE,v=>v=.nilFunc
 |.eH,v=>v=.nilIface
 |.list full k es,v=>cr es k=true/\∃a cap,v=.slice a es.length cap/\(full=true->cap=es.length)/\es.length<=cap/\
  (es=[]\/∃b o vs,a=some ⟨b,o,none⟩/\VE g h es vs/\∀j(hj:j<vs.length),g.M b (o+j)=some vs[j])
 |.own _ _ _,_=>False
 |.sl i off n,v=>Dh g h i off n v
 |.cX a k ix off,v=>∃u b o,V g h a u/\Cn u=some ⟨b,o,none⟩/\(∃m,o_ a=some m/\ix<m)/\v=.pointer (some ⟨b,o+ix*k+off,none⟩)
 |.ptr i off,v=>isCells h i/\∃b sz,g.ρ i=some (b,sz,0)/\v=.pointer (some ⟨b,off,none⟩)
 |.ei n off,v=>v=.pointer (some ⟨n,off,none⟩)
 |.mp i,v=>isMap h i/\∃b sz,g.ρ i=some (b,sz,0)/\v=.map (some b)
 |.dH ks us,v=>∃b es ck,v=.map (some b)/\g.MM b=some (es,ck)/\VL g h ks (es.toList.map (·.key))/\VL g h us (es.toList.map (·.val))
 |.it i,v=>PJ h i/\∃b sz,g.ρ i=some (b,sz,0)/\v=.pointer (some ⟨b,0,none⟩)
 |.c8 i,v=>GP h i/\∃b sz,g.ρ i=some (b,sz,0)/\v=.func (.yield b) #[] #[]
 |.agg cs,v=>∃vs,v=.agg vs.toArray/\VL g h cs vs
 |.aE cs,v=>∃vs,v=.tuple vs.toArray/\VL g h cs vs
 |.fn f a b,v=>∃xs ys,v=.func f xs.toArray ys.toArray/\VL g h a xs/\VL g h b ys
 |.bK t a,v=>∃x,v=.iface t x/\V g h a x
def VL(g:G)(h:List Ob):List AV->List Value->Prop
 |[],vs=>vs=[]
 |a::as,vs=>∃v vs',vs=v::vs'/\V g h a v/\VL g h as vs'
def VE(g:G)(h:List Ob):List AV->List Value->Prop
 |[],vs=>vs=[]
 |e::es,vs=>∃v vs',V g h e v/\vs=v.cells.toList++vs'/\VE g h es vs'
end
section
variable{g:G}{h:List Ob}
theorem fQ:∀{as:List AV}{vs:List Value},VL g h as vs->vs.length=as.length
 |[],vs,hv=>by simp only[VL]at hv;simp[hv]
 |a::as,vs,hv=>by
  simp only[VL]at hv;obtain⟨v,vs',rfl,_,hr⟩:=hv;simp[fQ hr]
theorem sM:∀{as:List AV}{vs:List Value}(i:Nat),VL g h as vs->V g h (as.getD i .undef) (vs.getD i undef)
 |[],vs,i,hv=>by simp[V]
 |a::as,vs,i,hv=>by
  simp only[VL]at hv;obtain⟨v,vs',rfl,h1,hr⟩:=hv
  cases i with
  |zero=>simpa using h1
  |succ i=>simpa using sM i hr
theorem qX:∀{as:List AV}{vs:List Value}{i:Nat}{a:AV},VL g h as vs->as[i]? =some a->∃v,vs[i]? =some v/\V g h a v
 |[],vs,i,a,hv,ha=>by simp at ha
 |b::as,vs,i,a,hv,ha=>by
  simp only[VL]at hv;obtain⟨v,vs',rfl,h1,hr⟩:=hv
  cases i with
  |zero=>simp at ha;subst ha;exact⟨v,by simp,h1⟩
  |succ i=>simp at ha;obtain⟨u,h2,h3⟩:=qX hr ha;exact⟨u,by simpa using h2,h3⟩
theorem pT:∀{as:List AV}{vs:List Value}(i:Nat){a:AV}{v:Value},VL g h as vs->V g h a v->VL g h (as.set i a) (vs.set i v)
 |[],vs,i,a,v,hv,ha=>by simp only[VL]at hv;simp[hv,VL]
 |b::as,vs,i,a,v,hv,ha=>by
  simp only[VL]at hv;obtain⟨u,vs',rfl,h1,hr⟩:=hv
  cases i with
  |zero=>simp only[vZ,VL];exact⟨v,vs',rfl,ha,hr⟩
  |succ i=>simp only[rM,VL];exact⟨u,_,rfl,h1,pT i hr ha⟩
theorem kR:∀{as bs:List AV}{vs ws:List Value},VL g h as vs->VL g h bs ws->VL g h (as++bs) (vs++ws)
 |[],bs,vs,ws,hv,hw=>by simp only[VL]at hv;subst hv;simpa using hw
 |a::as,bs,vs,ws,hv,hw=>by
  simp only[VL]at hv;obtain⟨v,vs',rfl,h1,hr⟩:=hv;simp only[ep,VL];exact⟨v,vs'++ws,rfl,h1,kR hr hw⟩
theorem BS:∀{as:List AV}{vs:List Value}(n:Nat),VL g h as vs->VL g h (as.take n) (vs.take n)
 |[],vs,n,hv=>by simp only[VL]at hv;subst hv;simp[VL]
 |a::as,vs,n,hv=>by
  simp only[VL]at hv;obtain⟨v,vs',rfl,h1,hr⟩:=hv
  cases n with
  |zero=>simp[VL]
  |succ n=>simp only[TE,VL];exact⟨v,_,rfl,h1,BS n hr⟩
theorem BR:∀{as:List AV}{vs:List Value}(n:Nat),VL g h as vs->VL g h (as.drop n) (vs.drop n)
 |[],vs,n,hv=>by simp only[VL]at hv;subst hv;simp[VL]
 |a::as,vs,n,hv=>by
  have hv0:=hv;simp only[VL]at hv;obtain⟨v,vs',rfl,h1,hr⟩:=hv
  cases n with
  |zero=>simpa using hv0
  |succ n=>simpa using BR n hr
theorem p9{α:Type}{f:α->AV}{e:α->Value}(hf:∀x,V g h (f x) (e x)):∀(l:List α),VL g h (l.map f) (l.map e)
 |[]=>by simp[VL]
 |x::l=>by simp only[bL,VL];exact⟨_,_,rfl,hf x,p9 hf l⟩
theorem NC:∀(n:Nat)(vs:List Value),vs.length=n->VL g h (List.replicate n .undef) vs
 |0,vs,hl=>by
  have:vs=[]:=mj.1 hl;simp[this,VL]
 |n+1,vs,hl=>by
  cases vs with
  |nil=>simp at hl
  |cons v vs=>simp only[lA,VL];exact⟨v,vs,rfl,by simp[V],NC n vs (by simpa using hl)⟩
theorem pP:∀(m:List Bool){as:List AV}{vs:List Value},VL g h as vs->VL g h (dj m as) vs
 |[],as,vs,hv=>by cases as<;>simpa[dj]using hv
 |_::_,[],vs,hv=>by simpa[dj]using hv
 |b::m,a::as,vs,hv=>by
  simp only[VL]at hv;obtain⟨v,vs',rfl,h1,hr⟩:=hv
  cases b
  ·simp only[dj,VL];exact⟨v,vs',rfl,by simp[V],pP m hr⟩
  ·simp only[dj,VL];exact⟨v,vs',rfl,h1,pP m hr⟩
theorem Eo{a:AV}{v:Value}(ho:a.one=true)(hv:V g h a v):v.cells=#[v]:=by
 cases a<;>simp only[V,AV.one,ez]at hv ho
 case sl=>obtain⟨_,_,_,_,_,_,_,_,a,cap,rfl,_⟩:=hv;rfl
 case cX=>obtain⟨_,_,_,_,_,_,rfl⟩:=hv;rfl
 case ptr=>obtain⟨_,_,_,_,rfl⟩:=hv;rfl
 case mp=>obtain⟨_,_,_,_,rfl⟩:=hv;rfl
 case dH=>obtain⟨_,_,_,rfl,_⟩:=hv;rfl
 case it=>obtain⟨_,_,_,_,rfl⟩:=hv;rfl
 case c8=>obtain⟨_,_,_,_,rfl⟩:=hv;rfl
 case list=>obtain⟨_,_,_,rfl,_⟩:=hv;rfl
 case fn=>obtain⟨_,_,rfl,_⟩:=hv;rfl
 case bK=>obtain⟨_,rfl,_⟩:=hv;rfl
 all_goals (first|(subst hv;rfl)|exact hv.elim)
theorem VO{a:AV}{v:Value}(ho:a.one=true)(hv:V g h a v):v.oneCell'=true:=by
 cases a<;>simp only[V,AV.one,ez]at hv ho
 case sl=>obtain⟨_,_,_,_,_,_,_,_,a,cap,rfl,_⟩:=hv;rfl
 case cX=>obtain⟨_,_,_,_,_,_,rfl⟩:=hv;rfl
 case ptr=>obtain⟨_,_,_,_,rfl⟩:=hv;rfl
 case mp=>obtain⟨_,_,_,_,rfl⟩:=hv;rfl
 case dH=>obtain⟨_,_,_,rfl,_⟩:=hv;rfl
 case it=>obtain⟨_,_,_,_,rfl⟩:=hv;rfl
 case c8=>obtain⟨_,_,_,_,rfl⟩:=hv;rfl
 case list=>obtain⟨_,_,_,rfl,_⟩:=hv;rfl
 case fn=>obtain⟨_,_,rfl,_⟩:=hv;rfl
 case bK=>obtain⟨_,rfl,_⟩:=hv;rfl
 all_goals (first|(subst hv;rfl)|exact hv.elim)
theorem pQ{a:AV}{v:Value}(ho:a.ok=true)(hv:V g h a v):VL g h a.cells v.cells.toList:=by
 by_cases ha:∃cs,a=.agg cs
 ·obtain⟨cs,rfl⟩:=ha;simp only[V]at hv;obtain⟨vs,rfl,hl⟩:=hv;simpa[AV.cells,Value.cells]using hl
 ·have hc:a.cells=[a]:=by
   cases a<;>first|rfl|exact absurd ⟨_,rfl⟩ ha
  have h1:a.one=true:=by
   cases a<;>first|rfl|exact absurd ⟨_,rfl⟩ ha|simp[AV.ok]at ho
  rw[hc];rw[Eo h1 hv];simp only[VL];exact⟨v,[],rfl,hv,rfl⟩
theorem qS{a:AV}(h:b9 a.cells=true):a.ok=true:=by
 cases a<;>first|rfl|simp[AV.cells,b9,AV.one]at h
theorem DV:∀{as:List AV}{vs:List Value},b9 as=true->VL g h as vs->∀v∈vs,v.oneCell'=true
 |[],vs,_,hv=>by simp only[VL]at hv;subst hv;simp
 |a::as,vs,ho,hv=>by
  simp only[VL]at hv;obtain⟨v,vs',rfl,h1,hr⟩:=hv;simp only[b9,ay]at ho;intro u hu
  rcases bo.1 hu with rfl|hu
  ·exact VO ho.1 h1
  ·exact DV ho.2 hr u hu
end
structure Ext(n:Nat)(g:G)(h:List Ob)(g':G)(h':List Ob):Prop where
 M:∀b o v,g.M b o=some v->g'.M b o=some v
 MM:∀b x,g.MM b=some x->g'.MM b=some x
 cells:∀i vs,i<n->h[i]? =some (.cells vs)->(∃vs',h'[i]? =some (.cells vs'))/\∀x,g.ρ i=some x->g'.ρ i=some x
 map:∀i es fl,i<n->h[i]? =some (.map es fl)->(∃es' fl',h'[i]? =some (.map es' fl'))/\∀x,g.ρ i=some x->g'.ρ i=some x
 iter:∀i s p,i<n->h[i]? =some (.iL s p)->(∃s' p',h'[i]? =some (.iL s' p'))/\∀x,g.ρ i=some x->g'.ρ i=some x
 loop:∀i st j fn t ps a b,i<n->h[i]? =some (.loop st j fn t ps a b)->(∃st' j',h'[i]? =some (.loop st' j' fn t ps a b))/\∀x,g.ρ i=some x->g'.ρ i=some x
 bH:∀i l,i<n->h[i]? =some (.bH l)->(∃l',h'[i]? =some (.bH l'))/\∀x,g.ρ i=some x->g'.ρ i=some x
 row:∀i k E es gr fl sh,i<n->h[i]? =some (.row k E es gr fl sh)->∃E' es' gr' fl' sh',h'[i]? =some (.row k E' es' gr' fl' sh')/\es.length<=es'.length/\
  ∀off m,off+m<=es.length->cE es' gr' off m=true->cE es gr off m=true/\es'.length=es.length/\∀x,g.ρ i=some x->g'.ρ i=some x
theorem Ext.refl(n:Nat)(g:G)(h:List Ob):Ext n g h g h:=
 ⟨fun _ _ _ x=>x,fun _ _ x=>x,fun _ _ _ x=>⟨⟨_,x⟩,fun _ x=>x⟩,fun _ _ _ _ x=>⟨⟨_,_,x⟩,fun _ x=>x⟩,fun _ _ _ _ x=>⟨⟨_,_,x⟩,fun _ x=>x⟩,
  fun _ _ _ _ _ _ _ _ _ x=>⟨⟨_,_,x⟩,fun _ x=>x⟩,fun _ _ _ x=>⟨⟨_,x⟩,fun _ x=>x⟩,
  fun _ _ _ _ _ _ _ _ x=>⟨_,_,_,_,_,x,aO _,fun _ _ _ h=>⟨h,rfl,fun _ x=>x⟩⟩⟩
theorem Ext.mono{n m:Nat}{g g':G}{h h':List Ob}(a:Ext n g h g' h')(hm:m<=n):Ext m g h g' h':=
 ⟨a.M,a.MM,fun i vs hi=>a.cells i vs (by omega),fun i es fl hi=>a.map i es fl (by omega),fun i s p hi=>a.iter i s p (by omega),
  fun i st j fn t ps x y hi=>a.loop i st j fn t ps x y (by omega),fun i l hi=>a.bH i l (by omega),fun i k E es gr fl sh hi=>a.row i k E es gr fl sh (by omega)⟩
theorem Ext.trans{n:Nat}{g g' g'':G}{h h' h'':List Ob}(a:Ext n g h g' h')(b:Ext n g' h' g'' h''):Ext n g h g'' h'':=by
 refine⟨fun _ _ _ x=>b.M _ _ _ (a.M _ _ _ x),fun _ _ x=>b.MM _ _ (a.MM _ _ x),?_,?_,?_,?_,?_,?_⟩
 ·intro i vs hn hi;obtain⟨⟨vs',h1⟩,r1⟩:=a.cells i vs hn hi;obtain⟨h2,r2⟩:=b.cells i vs' hn h1;exact⟨h2,fun x hx=>r2 x (r1 x hx)⟩
 ·intro i es fl hn hi;obtain⟨⟨es',fl',h1⟩,r1⟩:=a.map i es fl hn hi;obtain⟨h2,r2⟩:=b.map i _ _ hn h1;exact⟨h2,fun x hx=>r2 x (r1 x hx)⟩
 ·intro i es fl hn hi;obtain⟨⟨es',fl',h1⟩,r1⟩:=a.iter i es fl hn hi;obtain⟨h2,r2⟩:=b.iter i _ _ hn h1;exact⟨h2,fun x hx=>r2 x (r1 x hx)⟩
 ·intro i st j fn t ps x y hn hi;obtain⟨⟨st',j',h1⟩,r1⟩:=a.loop i st j fn t ps x y hn hi;obtain⟨h2,r2⟩:=b.loop i _ _ _ _ _ _ _ hn h1;exact⟨h2,fun x hx=>r2 x (r1 x hx)⟩
 ·intro i l hn hi;obtain⟨⟨l',h1⟩,r1⟩:=a.bH i l hn hi;obtain⟨h2,r2⟩:=b.bH i _ hn h1;exact⟨h2,fun x hx=>r2 x (r1 x hx)⟩
 ·intro i k E es gr fl sh hn hi;obtain⟨E',es',gr',fl',sh',h1,l1,q1⟩:=a.row i _ _ _ _ _ _ hn hi;obtain⟨E'',es'',gr'',fl'',sh'',h2,l2,q2⟩:=b.row i _ _ _ _ _ _ hn h1;refine⟨E'',es'',gr'',fl'',sh'',h2,rN l1 l2,?_⟩;intro off m hom hok;obtain⟨x2,l2',r2⟩:=q2 off m (by omega) hok;obtain⟨x1,l1',r1⟩:=q1 off m hom x2;exact⟨x1,l2'.trans l1',fun x hx=>r2 x (r1 x hx)⟩
theorem aaF{n:Nat}{g g':G}{h h':List Ob}(x:Ext n g h g' h'){i off m:Nat}(hb:i<n){v:Value}(hv:Dh g h i off m v):Dh g' h' i off m v:=by
 obtain⟨k,E,es,gr,fl,sh,hi,hle,a,cap,rfl,hc,hn,hq⟩:=hv;obtain⟨E',es',gr',fl',sh',h1,hl,q⟩:=x.row i _ _ _ _ _ _ hb hi;refine⟨k,E',es',gr',fl',sh',h1,rN hle hl,a,cap,rfl,hc,hn,fun hr=>?_⟩;obtain⟨hr0,hll,hρ⟩:=q _ _ hle hr;obtain⟨hlc,hq⟩:=hq hr0;refine⟨by omega,?_⟩
 rcases hq with h0|⟨b,sz,st,h2,h3⟩
 ·exact Or.inl h0
 ·exact Or.inr ⟨b,sz,st,hρ _ h2,h3⟩
mutual
theorem fW{n:Nat}{g g':G}{h h':List Ob}(x:Ext n g h g' h'):∀{a:AV}{v:Value},aK n a=true->V g h a v->V g' h' a v
 |.undef,_,_,_=>by simp[V]
 |.bool _,_,_,hv=>by simpa only [V]using hv
 |.int _ _,_,_,hv=>by simpa only [V]using hv
 |.str _,_,_,hv=>by simpa only [V]using hv
 |.ik,_,_,hv=>by simpa only [V]using hv
 |.cO,_,_,hv=>by simpa only [V]using hv
 |.dE,_,_,hv=>by simpa only [V]using hv
 |.eH,_,_,hv=>by simpa only [V]using hv
 |.ei _ _,_,_,hv=>by simpa only [V]using hv
 |.list full k es,v,hb,hv=>by
  simp only[V]at hv⊢;obtain⟨hk,a,cap,rfl,hf,hc,h1⟩:=hv;refine⟨hk,a,cap,rfl,hf,hc,?_⟩
  rcases h1 with h1|⟨b,o,vs,rfl,he,hm⟩
  ·exact Or.inl h1
  ·refine Or.inr ⟨b,o,vs,rfl,fS x ?_ he,fun j hj=>x.M _ _ _ (hm j hj)⟩;exact jl hk
 |.own _ _ _,_,_,hv=>by simp only[V]at hv
 |.sl _ _ _,_,hb,hv=>by
  simp only[aK,aW]at hb
  simp only[V]at hv⊢;exact aaF x hb hv
 |.cX a _ _ _,_,hb,hv=>by
  simp only[V]at hv⊢;simp only[aK]at hb;obtain⟨u,b,o,h1,h2,h4,rfl⟩:=hv;exact⟨u,b,o,fW x hb h1,h2,h4,rfl⟩
 |.ptr i _,_,hb,hv=>by
  simp only[V]at hv⊢;simp only[aK,aW]at hb;obtain⟨⟨vs,hi⟩,b,sz,hρ,rfl⟩:=hv;obtain⟨h1,h2⟩:=x.cells i vs hb hi;exact⟨h1,b,sz,h2 _ hρ,rfl⟩
 |.mp i,_,hb,hv=>by
  simp only[V]at hv⊢;simp only[aK,aW]at hb;obtain⟨⟨es,fl,hi⟩,b,sz,hρ,rfl⟩:=hv;obtain⟨h1,h2⟩:=x.map i es fl hb hi;exact⟨h1,b,sz,h2 _ hρ,rfl⟩
 |.dH ks us,_,hb,hv=>by
  simp only[V]at hv⊢;obtain⟨b,es,ck,rfl,h1,h2,h3⟩:=hv;simp only[aK,ay]at hb;exact⟨b,es,ck,rfl,x.MM _ _ h1,cv x hb.1 h2,cv x hb.2 h3⟩
 |.it i,_,hb,hv=>by
  simp only[V]at hv⊢;simp only[aK,aW]at hb;obtain⟨⟨es,fl,hi⟩,b,sz,hρ,rfl⟩:=hv;obtain⟨h1,h2⟩:=x.iter i es fl hb hi;exact⟨h1,b,sz,h2 _ hρ,rfl⟩
 |.c8 i,_,hb,hv=>by
  simp only[V]at hv⊢;simp only[aK,aW]at hb;obtain⟨⟨st,j,fn,t,ps,p,q,hi⟩,b,sz,hρ,rfl⟩:=hv;obtain⟨⟨st',j',h1⟩,h2⟩:=x.loop i st j fn t ps p q hb hi;exact⟨⟨_,_,_,_,_,_,_,h1⟩,b,sz,h2 _ hρ,rfl⟩
 |.agg cs,_,hb,hv=>by
  simp only[V]at hv⊢;simp only[aK]at hb;obtain⟨vs,rfl,h1⟩:=hv;exact⟨vs,rfl,cv x hb h1⟩
 |.aE cs,_,hb,hv=>by
  simp only[V]at hv⊢;simp only[aK]at hb;obtain⟨vs,rfl,h1⟩:=hv;exact⟨vs,rfl,cv x hb h1⟩
 |.fn f a b,_,hb,hv=>by
  simp only[V]at hv⊢;simp only[aK,ay]at hb;obtain⟨xs,ys,rfl,h1,h2⟩:=hv;exact⟨xs,ys,rfl,cv x hb.1 h1,cv x hb.2 h2⟩
 |.bK t a,_,hb,hv=>by
  simp only[V]at hv⊢;simp only[aK]at hb;obtain⟨y,rfl,h1⟩:=hv;exact⟨y,rfl,fW x hb h1⟩
theorem cv{n:Nat}{g g':G}{h h':List Ob}(x:Ext n g h g' h'):∀{as:List AV}{vs:List Value},aL n as=true->VL g h as vs->VL g' h' as vs
 |[],_,_,hv=>by simpa only [VL]using hv
 |a::as,_,hb,hv=>by
  simp only[VL]at hv⊢;simp only[aL,ay]at hb;obtain⟨v,vs',rfl,h1,h2⟩:=hv;exact⟨v,vs',rfl,fW x hb.1 h1,cv x hb.2 h2⟩
theorem fS{n:Nat}{g g':G}{h h':List Ob}(x:Ext n g h g' h'):∀{as:List AV}{vs:List Value},aL n as=true->VE g h as vs->VE g' h' as vs
 |[],_,_,hv=>by simpa only [VE]using hv
 |a::as,_,hb,hv=>by
  simp only[VE]at hv⊢;simp only[aL,ay]at hb;obtain⟨v,vs',h1,rfl,h2⟩:=hv;exact⟨v,vs',fW x hb.1 h1,rfl,fS x hb.2 h2⟩
end
def CR(P:Program):Code->al->Prop
 |_,.bad=>True
 |.skip,.skip=>True
 |.label _,.skip=>True
 |.region _ ops false,.ae gs=>ops.toList.mapM (oe P ops.toList)=some gs
 |.region _ ops true,.aX l ws gs=>ops.toList.mapM (oe P ops.toList)=some gs/\yZ P ops gs=true/\l=mI ops gs/\ws=vA ops gs
 |.region _ ops true,.fG as gs=>ops.toList.mapM (oe P ops.toList)=some gs/\oL ops=true/\(P.follows .mixedOrders||!Region.departs ops)=true/\as=nU ops
 |.seq a b,.seq a' b'=>CR P a a'/\CR P b b'
 |.cond c a b,.cond x a' b'=>x=au c/\CR P a a'/\CR P b b'
 |.block id c,.block id' _ c'=>id=id'/\CR P c c'
 |.loop c,.loop _ c'=>CR P c c'
 |.rangeFunc f ps a b,.rangeFunc x qs _ a' b'=>x=au f/\qs=ps.toList/\CR P a a'/\CR P b b'
 |.exit i,.exit j=>i=j
 |.ret,.ret=>True
 |_,_=>False
theorem pI(P:Program):∀c:Code,CR P c (fE P c)
 |.skip=>by simp[fE,CR]
 |.label _=>by simp[fE,CR]
 |.region _ ops draw=>by
  simp only[fE]
  cases hm:ops.toList.mapM (oe P ops.toList)with
  |none=>simp[CR]
  |some gs=>
   cases draw
   ·simp[CR,hm]
   ·by_cases ho:yZ P ops gs=true
    ·simp[CR,hm,ho]
    ·by_cases he:(oL ops&&(P.follows .mixedOrders||!Region.departs ops))=true
     ·have he2:=he;rw[ay]at he2;simp only[ho,he,cG,ez,cT,CR];exact⟨hm,he2.1,he2.2,trivial⟩
     ·simp[CR,ho,he]
 |.seq a b=>by simp only[fE,CR];exact⟨pI P a,pI P b⟩
 |.cond c a b=>by simp only[fE,CR];exact⟨trivial,pI P a,pI P b⟩
 |.block id c=>by simp only[fE,CR];exact⟨trivial,pI P c⟩
 |.loop c=>by simp only[fE,CR];exact pI P c
 |.rangeFunc f ps a b=>by simp only[fE,CR];exact⟨trivial,trivial,pI P a,pI P b⟩
 |.exit i=>by simp[fE,CR]
 |.ret=>by simp[fE,CR]
 |.scope _=>by simp[fE,CR]
 |.goto _=>by simp[fE,CR]
 |.refuse _=>by simp[fE,CR]
theorem pL(P:Program)(rs:List Nat)(nt:Nat):∀(a:al)(c:Code)(E:List (Nat×List Nat))(out:List Nat),CR P c a->CR P c (fY rs nt a E out)
 |.seq a b,c,E,out,h=>by cases c<;>simp only[CR,fY]at h⊢;exact⟨pL P rs nt a _ _ _ h.1,pL P rs nt b _ _ _ h.2⟩
 |.cond x a b,c,E,out,h=>by cases c<;>simp only[CR,fY]at h⊢;exact⟨h.1,pL P rs nt a _ _ _ h.2.1,pL P rs nt b _ _ _ h.2.2⟩
 |.block id m a,c,E,out,h=>by cases c<;>simp only[CR,fY]at h⊢;exact⟨h.1,pL P rs nt a _ _ _ h.2⟩
 |.loop m a,c,E,out,h=>by cases c<;>simp only[CR,fY]at h⊢;exact pL P rs nt a _ _ _ h
 |.rangeFunc f ps m a b,c,E,out,h=>by
  cases c<;>simp only[CR,fY]at h⊢
  exact⟨h.1,h.2.1,pL P rs nt a _ _ _ h.2.2.1,pL P rs nt b _ _ _ h.2.2.2⟩
 |.skip,c,E,out,h=>by simpa only [fY]using h
 |.ae _,c,E,out,h=>by simpa only [fY]using h
 |.aX _ _ _,c,E,out,h=>by simpa only [fY]using h
 |.fG _ _,c,E,out,h=>by simpa only [fY]using h
 |.exit _,c,E,out,h=>by simpa only [fY]using h
 |.ret,c,E,out,h=>by simpa only [fY]using h
 |.bad,c,E,out,h=>by simpa only [fY]using h
def m_(c:Array Value)(fz:Nat×Nat):Prop:=fz.1=fz.2\/c.size<=fz.1
theorem m_.at{c:Array Value}{fz:Nat×Nat}(h:m_ c fz){o:Nat}(ho:o<c.size):(fz.1<=o&&o<fz.2)=false:=by
 rcases h with h|h
 ·rw[h];by_cases h2:fz.2<=o<;>simp[h2]<;>omega
 ·have:¬fz.1<=o:=by omega
  simp[this]
def JR:Jump->Option Code->Prop
 |.none,c=>c=none
 |.ret,c=>c=some .ret
 |.exit id,c=>c=some (.exit id)
def OV(P:Program)(g:G)(h:List Ob)(w:World)(i:Nat):Ob->Prop
 |.gone=>True
 |.cells vs=>∀b sz st,g.ρ i=some (b,sz,st)->∃c E fz,w.heap[b]? =some (.cells c E fz)/\m_ c fz/\VL g h vs c.toList
 |.row k _ es gr fl _=>0<k/\(∀e∈es,e.cells.length=k/\b9 e.cells=true)/\(fl=true->cr es k=true)/\gr.getD 0<=es.length/\
  match g.ρ i with
  |none=>es=[]
  |some (b,sz,st)=>st<=gr.getD 0/\∃c E fz vs,w.heap[b]? =some (.cells c E fz)/\c.size=sz/\m_ c fz/\VE g h (es.drop (gr.getD 0)) vs/\
   ∀j(hj:j<vs.length),c[(gr.getD 0-st)*k+j]? =some vs[j]
 |.map es fl=>(fl=true->aL 0 (es.map (·.2))=true)/\
  ∀b sz st,g.ρ i=some (b,sz,st)->∃bd ck,w.heap[b]? =some (.map bd ck)/\VL g h (es.map (·.1)) (bd.toList.map (·.key))/\VL g h (es.map (·.2)) (bd.toList.map (·.val))
 |.iL s p=>∀b sz st,g.ρ i=some (b,sz,st)->w.heap[b]? =some (.stringIter ⟨s.toArray⟩ p)
 |.loop st j fn t ps a b=>∀bk sz sta,g.ρ i=some (bk,sz,sta)->∃L:Loop,w.heap[bk]? =some (.loop L)/\L.state=st/\JR j L.pending/\L.fn=fn/\VL g h t L.tmps.toList/\
  L.params.toList=ps/\CR P L.assign a/\CR P L.body b/\∃F,P.funcs[fn]? =some F
 |.bH live=>∀b sz st,g.ρ i=some (b,sz,st)->w.heap[b]? =some (.deferred (if live then some []else none))
structure Env where
 K:Nat->Option Obj
 M0:Nat->Nat->Option Value
 MM:Nat->Option (Array MapEntry×Nat)
 w0:World
def Hn(Γ:Nat->Option AV)(N:Env):Prop:=∀n(zs:List Int),zs≠[]->Γ n=some (.agg (zs.map fun z=>AV.int .u64 z))->∃t q,N.K n=some (Obj.cells (zs.map fun z=>Value.int .u64 z).toArray t q)
structure Inv(P:Program)(Γ:Nat->Option AV)(N:Env)(g:G)(h:List Ob)(w:World):Prop where
 os:w.os=N.w0.os
 tape:w.tape=N.w0.tape
 output:w.output=N.w0.output
 fm:∀b o,N.K b=some o->w.heap[b]? =some o
 own:∀i b x,g.ρ i=some (b,x)->N.K b=none/\b<w.heap.size
 inj:∀i j b x y,g.ρ i=some (b,x)->g.ρ j=some (b,y)->i=j
 pf:∀i,h.length<=i->g.ρ i=none
 mem:∀b o v,g.M b o=some v->w.cell? ⟨b,o,none⟩=some v
 mm:∀b es ck,g.MM b=some (es,ck)->w.heap[b]? =some (.map es ck)/\∀i x,g.ρ i≠some (b,x)
 eE:∀i b sz st o v,g.ρ i=some (b,sz,st)->g.M b o=some v->∃k E es gr fl,h[i]? =some (.row k E es gr fl true)/\o<(es.length-st)*k
 ob:∀i o,h[i]? =some o->OV P g h w i o
 lh:∀n a,Γ n=some a->aL 0 a.cells=true/\∃vs,VL g h a.cells vs/\∀j(hj:j<vs.length),g.M n j=some vs[j]
 mK:∀b o v B,g.M b o=some v->N.K b=some B->N.M0 b o=some v
 jE:g.MM=N.MM
 lx:Hn Γ N
theorem ba{α:Type}{l:List α}{i:Nat}{a:α}(h:l[i]? =some a):i<l.length:=by
 rcases lB i l.length with hi|hi
 ·exact hi
 ·simp[fu hi]at h
mutual
theorem k_{g:G}{h:List Ob}:∀{a:AV}{v:Value},V g h a v->aK h.length a=true
 |.undef,_,_|.bool _,_,_|.int _ _,_,_|.str _,_,_|.ik,_,_|.cO,_,_|.dE,_,_|.eH,_,_|.ei _ _,_,_=>rfl
 |.list _ _ es,_,hv=>by
  simp only[V]at hv;simp only[aK];exact jl hv.1
 |.own _ _ _,_,hv=>by simp only[V]at hv
 |.sl i _ _,_,hv=>by
  simp only[V]at hv;obtain⟨_,_,_,_,_,_,hi,_⟩:=hv;simp only[aK,aW];exact ba hi
 |.cX a _ _ _,_,hv=>by
  simp only[V]at hv;obtain⟨u,b,o,h1,_⟩:=hv
  simp only[aK];exact k_ h1
 |.ptr i _,_,hv=>by
  simp only[V]at hv;obtain⟨⟨vs,hi⟩,_⟩:=hv
  simp only[aK,aW];exact ba hi
 |.mp i,_,hv=>by
  simp only[V]at hv;obtain⟨⟨_,_,hi⟩,_⟩:=hv
  simp only[aK,aW];exact ba hi
 |.it i,_,hv=>by
  simp only[V]at hv;obtain⟨⟨_,_,hi⟩,_⟩:=hv
  simp only[aK,aW];exact ba hi
 |.c8 i,_,hv=>by
  simp only[V]at hv;obtain⟨⟨_,_,_,_,_,_,_,hi⟩,_⟩:=hv
  simp only[aK,aW];exact ba hi
 |.dH _ _,_,hv=>by
  simp only[V]at hv;obtain⟨_,_,_,_,_,h1,h2⟩:=hv
  simp only[aK,ay];exact⟨di h1,di h2⟩
 |.agg _,_,hv|.aE _,_,hv=>by
  simp only[V]at hv;obtain⟨_,_,h1⟩:=hv
  simp only[aK];exact di h1
 |.fn _ _ _,_,hv=>by
  simp only[V]at hv;obtain⟨_,_,_,h1,h2⟩:=hv
  simp only[aK,ay];exact⟨di h1,di h2⟩
 |.bK _ _,_,hv=>by
  simp only[V]at hv;obtain⟨_,_,h1⟩:=hv
  simp only[aK];exact k_ h1
theorem di{g:G}{h:List Ob}:∀{as:List AV}{vs:List Value},VL g h as vs->aL h.length as=true
 |[],_,_=>rfl
 |a::as,_,hv=>by
  simp only[VL]at hv;obtain⟨_,_,_,h1,h2⟩:=hv
  simp only[aL,ay];exact⟨k_ h1,di h2⟩
end
theorem ku{g:G}{h:List Ob}:∀{as:List AV}{vs:List Value},VE g h as vs->aL h.length as=true
 |[],_,_=>rfl
 |a::as,_,hv=>by
  simp only[VE]at hv;obtain⟨_,_,h1,_,h2⟩:=hv
  simp only[aL,ay];exact⟨k_ h1,ku h2⟩
theorem nP{P:Program}{g g':G}{h h':List Ob}{w w':World}(x:Ext h.length g h g' h'){i:Nat}{o:Ob}(hρ:g'.ρ i=g.ρ i)
 (hw:∀b y,g.ρ i=some (b,y)->w'.heap[b]? =w.heap[b]?)(ho:OV P g h w i o):OV P g' h' w' i o:=by
 cases o with
 |gone=>trivial
 |cells vs=>
  intro b sz st hb;rw[hρ]at hb;obtain⟨c,E,fz,h1,h2,h3⟩:=ho b sz st hb;exact⟨c,E,fz,by rw[hw _ _ hb];exact h1,h2,cv x (di h3) h3⟩
 |row k E es gr fl sh=>
  simp only[OV]at ho⊢;obtain⟨h1,h2,h3,h4,h5⟩:=ho;refine⟨h1,h2,h3,h4,?_⟩;rw[hρ]
  cases hr:g.ρ i with
  |none=>rw[hr]at h5;exact h5
  |some y=>
   obtain⟨b,sz,st⟩:=y;rw[hr]at h5;simp only at h5⊢;obtain⟨h6,c,E',fz,vs,h7,h8,h9,h10,h11⟩:=h5;exact⟨h6,c,E',fz,vs,by rw[hw _ _ hr];exact h7,h8,h9,fS x (ku h10) h10,h11⟩
 |map es fl=>
  obtain⟨h1,h3⟩:=ho;refine⟨h1,fun b sz st hb=>?_⟩;rw[hρ]at hb;obtain⟨bd,ck,h4,h5,h6⟩:=h3 b sz st hb;exact⟨bd,ck,by rw[hw _ _ hb];exact h4,cv x (di h5) h5,cv x (di h6) h6⟩
 |iL s p=>
  intro b sz st hb;rw[hρ]at hb
  rw[hw _ _ hb];exact ho b sz st hb
 |loop st j fn t ps a b=>
  intro bk sz sta hb;rw[hρ]at hb;obtain⟨L,h1,h2,h3,h4,h5,h6⟩:=ho bk sz sta hb;exact⟨L,by rw[hw _ _ hb];exact h1,h2,h3,h4,cv x (di h5) h5,h6⟩
 |bH live=>
  intro b sz st hb;rw[hρ]at hb
  rw[hw _ _ hb];exact ho b sz st hb
theorem ug{w w':World}{b o:Nat}(h:w'.heap[b]? =w.heap[b]?):w'.cell? ⟨b,o,none⟩=w.cell? ⟨b,o,none⟩:=by
 simp only[World.cell?,h]
theorem Inv.world{P:Program}{Γ:Nat->Option AV}{N:Env}{g:G}{h:List Ob}{w w':World}(H:Inv P Γ N g h w)(hh:w'.heap=w.heap)(ho:w'.os=w.os)(ht:w'.tape=w.tape)
 (hp:w'.output=w.output):Inv P Γ N g h w':=by
 have hc:∀a,w'.cell? a=w.cell? a:=fun a=>by simp only[World.cell?,hh]
 refine⟨ho.trans H.os,ht.trans H.tape,hp.trans H.output,fun b o hb=>by rw[hh];exact H.fm b o hb,fun i b x hi=>by rw[hh];exact H.own i b x hi,H.inj,H.pf,
  fun b o v hv=>by rw[hc];exact H.mem b o v hv,fun b es ck hb=>by rw[hh];exact H.mm b es ck hb,H.eE,?_,H.lh,H.mK,H.jE,H.lx⟩
 intro i o hi;exact nP (Ext.refl _ _ _) rfl (fun b y _=>by rw[hh]) (H.ob i o hi)
def G.bD(g:G)(i:Nat)(r:Option (Nat×Nat×Nat)):G:={g with ρ:=fun j=>if j=i then r else g.ρ j}
theorem cV(g:G)(i:Nat)(r:Option (Nat×Nat×Nat)):(g.bD i r).ρ i=r:=by simp[G.bD]
theorem gO(g:G){i j:Nat}(r:Option (Nat×Nat×Nat))(h:j≠i):(g.bD i r).ρ j=g.ρ j:=by simp[G.bD,h]
theorem Inv.set{P:Program}{Γ:Nat->Option AV}{N:Env}{g:G}{h:List Ob}{w w':World}(H:Inv P Γ N g h w){i:Nat}{o':Ob}{r:Option (Nat×Nat×Nat)}
 (hi:i<h.length)(hE:Ext h.length g h (g.bD i r) (h.set i o'))
 (ho:w'.os=w.os)(ht:w'.tape=w.tape)(hp:w'.output=w.output)
 (hw:∀b,b<w.heap.size->(∀x,g.ρ i≠some (b,x))->w'.heap[b]? =w.heap[b]?)(hsz:w.heap.size<=w'.heap.size)
 (hr:∀b x,r=some (b,x)->((∃y,g.ρ i=some (b,y))\/w.heap.size<=b)/\b<w'.heap.size)
 (hM:∀b y o v,g.ρ i=some (b,y)->g.M b o=some v->w'.cell? ⟨b,o,none⟩=some v)
 (hm:∀b sz st o v,r=some (b,sz,st)->g.M b o=some v->∃k E es gr fl,o'=.row k E es gr fl true/\o<(es.length-st)*k)
 (hob:OV P (g.bD i r) (h.set i o') w' i o'):Inv P Γ N (g.bD i r) (h.set i o') w':=by
 have hlt:∀b o,N.K b=some o->b<w.heap.size:=fun b o hb=>by
  have:=H.fm b o hb
  rcases lB b w.heap.size with h1|h1
  ·exact h1
  ·simp[pk h1]at this
 have hnew:∀b,w.heap.size<=b->N.K b=none:=fun b hb=>by
  cases hk:N.K b with
  |none=>rfl
  |some o=>have:=hlt b o hk;omega
 refine⟨ho.trans H.os,ht.trans H.tape,hp.trans H.output,?_,?_,?_,?_,?_,?_,?_,?_,?_,H.mK,H.jE,H.lx⟩
 ·intro b o hb;rw[hw b (hlt b o hb) fun x hx=>by have:=(H.own i b x hx).1;simp[hb]at this];exact H.fm b o hb
 ·intro j b x hj
  by_cases hji:j=i
  ·subst hji;rw[cV]at hj;obtain⟨h1,h2⟩:=hr b x hj;refine⟨?_,h2⟩
   rcases h1 with⟨y,hy⟩|h1
   ·exact(H.own j b y hy).1
   ·exact hnew b h1
  ·rw[gO _ _ hji]at hj;exact⟨(H.own j b x hj).1,oi (H.own j b x hj).2 hsz⟩
 ·intro j k b x y hj hk
  by_cases hji:j=i
  ·by_cases hki:k=i
   ·rw[hji,hki]
   ·subst hji;rw[cV]at hj;rw[gO _ _ hki]at hk
    rcases(hr b x hj).1 with⟨z,hz⟩|h1
    ·exact H.inj _ _ b z y hz hk
    ·have:=(H.own k b y hk).2;omega
  ·rw[gO _ _ hji]at hj
   by_cases hki:k=i
   ·subst hki;rw[cV]at hk
    rcases(hr b y hk).1 with⟨z,hz⟩|h1
    ·exact H.inj _ _ b x z hj hz
    ·have:=(H.own j b x hj).2;omega
   ·rw[gO _ _ hki]at hk;exact H.inj _ _ b x y hj hk
 ·intro j hj;rw[jG]at hj;rw[gO _ _ (by omega)];exact H.pf j hj
 ·intro b o v hv
  by_cases hb:∃y,g.ρ i=some (b,y)
  ·obtain⟨y,hy⟩:=hb;exact hM b y o v hy hv
  ·have h0:=H.mem b o v hv;rw[ug (hw b (v7 h0) fun x hx=>hb ⟨x,hx⟩)];exact h0
 ·intro b es ck hb;obtain⟨h1,h2⟩:=H.mm b es ck hb
  have hlt:b<w.heap.size:=by
   rcases lB b w.heap.size with h3|h3
   ·exact h3
   ·simp[pk h3]at h1
  refine⟨by rw[hw b hlt (h2 i)];exact h1,?_⟩;intro j x hj
  by_cases hji:j=i
  ·subst hji;rw[cV]at hj
   rcases(hr b x hj).1 with⟨y,hy⟩|h3
   ·exact h2 _ _ hy
   ·omega
  ·rw[gO _ _ hji]at hj;exact h2 j x hj
 ·intro j b sz st o v hj hv
  by_cases hji:j=i
  ·subst hji;rw[cV]at hj;obtain⟨k,E,es,gr,fl,h1,h2⟩:=hm b sz st o v hj hv;exact⟨k,E,es,gr,fl,by rw[eL hi,h1],h2⟩
  ·rw[gO _ _ hji]at hj;obtain⟨k,E,es,gr,fl,h1,h2⟩:=H.eE j b sz st o v hj hv;exact⟨k,E,es,gr,fl,by rw[dK (by omega)];exact h1,h2⟩
 ·intro j o hj
  by_cases hji:j=i
  ·subst hji;rw[eL hi]at hj
   cases hj
   exact hob
  ·rw[dK (by omega)]at hj;refine nP hE (gO _ _ hji) ?_ (H.ob j o hj);intro b y hb
   refine hw b (H.own j b y hb).2 fun x hx=>hji (H.inj _ _ b y x hb hx)
 ·intro n a hn;obtain⟨h1,vs,h2,h3⟩:=H.lh n a hn;exact⟨h1,vs,cv hE (di h2) h2,h3⟩
theorem Ext.push{g:G}{h:List Ob}(o:List Ob)(r:Option (Nat×Nat×Nat)):Ext h.length g h (g.bD h.length r) (h++o):=by
 have hget:∀{i x},h[i]? =some x->(h++o)[i]? =some x:=fun{i x} hx=>by rw[cz (ba hx)];exact hx
 have hρ:∀{i},i<h.length->∀x,g.ρ i=some x->(g.bD h.length r).ρ i=some x:=fun hi x hx=>by rw[gO _ _ (by omega)];exact hx
 exact⟨fun _ _ _ x=>x,fun _ _ x=>x,fun i vs hn hi=>⟨⟨_,hget hi⟩,hρ hn⟩,fun i es fl hn hi=>⟨⟨_,_,hget hi⟩,hρ hn⟩,fun i s p hn hi=>⟨⟨_,_,hget hi⟩,hρ hn⟩,
  fun i st j fn t ps a b hn hi=>⟨⟨_,_,hget hi⟩,hρ hn⟩,fun i l hn hi=>⟨⟨_,hget hi⟩,hρ hn⟩,
  fun i k E es gr fl sh hn hi=>⟨_,_,_,_,_,hget hi,aO _,fun _ _ _ hk=>⟨hk,rfl,hρ hn⟩⟩⟩
theorem Inv.push{P:Program}{Γ:Nat->Option AV}{N:Env}{g:G}{h:List Ob}{w w':World}(H:Inv P Γ N g h w){o':Ob}{os:List Ob}{r:Option (Nat×Nat×Nat)}
 (ho:w'.os=w.os)(ht:w'.tape=w.tape)(hp:w'.output=w.output)
 (hw:∀b,b<w.heap.size->w'.heap[b]? =w.heap[b]?)(hsz:w.heap.size<=w'.heap.size)
 (hr:∀b x,r=some (b,x)->w.heap.size<=b/\b<w'.heap.size)
 (hob:OV P (g.bD h.length r) (h++o'::os) w' h.length o')
 (hobs:∀j o,os[j]? =some o->OV P (g.bD h.length r) (h++o'::os) w' (h.length+1+j) o):Inv P Γ N (g.bD h.length r) (h++o'::os) w':=by
 have hlt:∀b o,N.K b=some o->b<w.heap.size:=fun b o hb=>by
  have:=H.fm b o hb
  rcases lB b w.heap.size with h1|h1
  ·exact h1
  ·simp[pk h1]at this
 have hE:=Ext.push (g:=g) (h:=h) (o'::os) r;refine⟨ho.trans H.os,ht.trans H.tape,hp.trans H.output,?_,?_,?_,?_,?_,?_,?_,?_,?_,H.mK,H.jE,H.lx⟩
 ·intro b o hb
  rw[hw b (hlt b o hb)];exact H.fm b o hb
 ·intro j b x hj
  by_cases hji:j=h.length
  ·subst hji;rw[cV]at hj;obtain⟨h1,h2⟩:=hr b x hj;refine⟨?_,h2⟩
   cases hk:N.K b with
   |none=>rfl
   |some o=>have:=hlt b o hk;omega
  ·rw[gO _ _ hji]at hj;exact⟨(H.own j b x hj).1,oi (H.own j b x hj).2 hsz⟩
 ·intro j k b x y hj hk
  by_cases hji:j=h.length
  ·by_cases hki:k=h.length
   ·rw[hji,hki]
   ·subst hji;rw[cV]at hj;rw[gO _ _ hki]at hk
    have:=(hr b x hj).1;have:=(H.own k b y hk).2;omega
  ·rw[gO _ _ hji]at hj
   by_cases hki:k=h.length
   ·subst hki;rw[cV]at hk
    have:=(hr b y hk).1;have:=(H.own j b x hj).2;omega
   ·rw[gO _ _ hki]at hk;exact H.inj _ _ b x y hj hk
 ·intro j hj;rw[bq,bz]at hj;rw[gO _ _ (by omega)];exact H.pf j (by omega)
 ·intro b o v hv;have h0:=H.mem b o v hv;rw[ug (hw b (v7 h0))];exact h0
 ·intro b es ck hb;obtain⟨h1,h2⟩:=H.mm b es ck hb
  have hlt:b<w.heap.size:=by
   rcases lB b w.heap.size with h3|h3
   ·exact h3
   ·simp[pk h3]at h1
  refine⟨by rw[hw b hlt];exact h1,?_⟩;intro j x hj
  by_cases hji:j=h.length
  ·subst hji;rw[cV]at hj
   have:=(hr b x hj).1;omega
  ·rw[gO _ _ hji]at hj;exact h2 j x hj
 ·intro j b sz st o v hj hv
  by_cases hji:j=h.length
  ·subst hji;rw[cV]at hj
   have:=(hr b _ hj).1;have:b<w.heap.size:=v7 (H.mem b o v hv)
   omega
  ·rw[gO _ _ hji]at hj;obtain⟨k,E,es,gr,fl,h1,h2⟩:=H.eE j b sz st o v hj hv;exact⟨k,E,es,gr,fl,by rw[cz (ba h1)];exact h1,h2⟩
 ·intro j o hj
  rcases Jz j h.length with hjl|rfl|hjl
  ·rw[cz hjl]at hj;exact nP hE (gO _ _ (by omega)) (fun b y hb=>hw b (H.own j b y hb).2) (H.ob j o hj)
  ·simp at hj;subst hj;exact hob
  ·obtain⟨q,rfl⟩:∃q,j=h.length+1+q:=⟨j-h.length-1,by omega⟩;rw[df (by omega),show h.length+1+q-h.length=q+1 by omega,nC]at hj;exact hobs q o hj
 ·intro n a hn;obtain⟨h1,vs,h2,h3⟩:=H.lh n a hn;exact⟨h1,vs,cv hE (di h2) h2,h3⟩
theorem uK(g:G)(h:List Ob):∀v:Value,V g h (kq v) v:=by
 intro v;unfold kq
 split
 all_goals (first|(simp only[V];done)|skip)
 ·simp only[V];exact⟨rfl,none,0,rfl,fun _=>rfl,aO _,Or.inl trivial⟩
theorem nR(g:G)(h:List Ob):∀v:Value,V g h (fZ v) v:=by
 intro v;unfold fZ
 split
 ·simp only[V];rename_i cs;exact⟨cs.toList,by simp,by have:=p9 (g:=g) (h:=h) (f:=kq) (e:=id) (uK g h) cs.toList;simpa using this⟩
 ·simp only[V];exact⟨_,rfl,uK g h _⟩
 ·simp only[V];rename_i cs;exact⟨cs.toList,by simp,by have:=p9 (g:=g) (h:=h) (f:=kq) (e:=id) (uK g h) cs.toList;simpa using this⟩
 ·exact uK g h v
theorem CF{g:G}{h:List Ob}{t:List AV}{a:Act}(ht:VL g h t a.tmps.toList)(x:Operand):V g h (ax t (au x)) (a.eval x):=by
 cases x with
 |tmp i=>
  have:=sM i ht;simpa[au,ax,Act.eval]using this
 |const v=>exact nR g h v
 |global n=>simp[au,ax,Act.eval,V]
 |func f=>simp only[au,ax,Act.eval,V];exact⟨[],[],rfl,by simp[VL],by simp[VL]⟩
def aJ(P:Program)(Γ:Nat->Option AV)(N:Env)(r:Operand->Value)(o:Oper)(w:World)(g:G)(h h':List Ob)(res:Option AV):Prop:=
 ∃g' w' nx,(execOp r o).run P w=.ok nx w'/\Inv P Γ N g' h' w'/\Ext h.length g h g' h'/\
  match res with
  |some a=>∃u,nx=.value u/\V g' h' a u
  |none=>nx=.skip
section
variable{P:Program}{Γ:Nat->Option AV}{N:Env}{g:G}{h:List Ob}{w:World}{r:Operand->Value}{o:Oper}{t:List AV}
theorem aJ.same(H:Inv P Γ N g h w){a:AV}{u:Value}(hr:(execOp r o).run P w=.ok (.value u) w)(hv:V g h a u):aJ P Γ N r o w g h h (some a):=
 ⟨g,w,_,hr,H,Ext.refl _ _ _,u,rfl,hv⟩
theorem iV{t:TypeId}{s:Nat}(h:bu P t=some s)(w:World):(sizeOf t).run P w=.ok s w:=by
 unfold bu at h
 cases hi:P.info? t with
 |none=>simp[hi]at h
 |some i=>simp[hi]at h;simp[sizeOf,typeInfo,hi,h]
theorem BP{t:TypeId}{b:Bool}(h:gf P t=some b)(w:World):(isAgg t).run P w=.ok b w:=by
 unfold gf at h
 cases hi:P.underlying t with
 |none=>simp[hi]at h
 |some d=>
  simp only[hi,dO,aj]at h;simp only[isAgg,Sem.run_bind,run_underlying hi,Result.andThen_ok]
  cases d<;>simp_all
theorem F_{t:TypeId}{z:AV}(h:dW P t=some z)(w:World):∃v,(zeroValue t).run P w=.ok v w/\z=fZ v:=by
 unfold dW at h
 cases hi:P.info? t with
 |none=>simp[hi]at h
 |some i=>
  cases hz:i.zero with
  |none=>simp[hi,hz]at h
  |some v=>simp[hi,hz]at h;exact⟨v,by simp[zeroValue,typeInfo,hi,hz],h.symm⟩
theorem eh{k:IntKind}{n:Int}{v:Value}(h1:V g h (.int k n) v):v=.int k n:=by simpa only [V]using h1
theorem lM{b:Bool}{v:Value}(h1:V g h (.bool b) v):v=.bool b:=by simpa only [V]using h1
theorem jv{s:List UInt8}{v:Value}(h1:V g h (.str s) v):v=.string ⟨s.toArray⟩:=by simpa only [V]using h1
theorem Qj(H:Inv P Γ N g h w){x:Operand}(ho:o.op=.move x\/o.op=.assign x)(hx:V g h (ax t (au x)) (r x)):aJ P Γ N r o w g h h (some (ax t (au x))):=by
 refine aJ.same H ?_ hx
 rcases ho with ho|ho<;>simp[execOp,ho]
theorem OA(H:Inv P Γ N g h w){c x y:Operand}(ho:o.op=.pick c x y){b:Bool}(hc:r c=.bool b){a:AV}(ha:V g h a (if b then r x else r y)):
 aJ P Γ N r o w g h h (some a):=by
 refine aJ.same H (u:=if b then r x else r y) ?_ ha;simp[execOp,ho,hc,asBool]
theorem xI(H:Inv P Γ N g h w){x:Operand}(ho:o.op=.nilCheck x){a:AV}(ha:V g h a (r x))
 (hk:match a with|.ptr _ _|.cX _ _ _ _|.ei _ _|.fn (.func _) _ _|.bK _ _=>True|_=>False):aJ P Γ N r o w g h h (some a):=by
 refine aJ.same H (u:=r x) ?_ ha
 match a,ha,hk with
 |.cX _ _ _ _,ha,_=>
  simp only[V]at ha;obtain⟨_,_,_,_,_,_,hx⟩:=ha;simp[execOp,ho,hx]
 |.ptr _ _,ha,_=>
  simp only[V]at ha;obtain⟨_,_,_,_,hx⟩:=ha;simp[execOp,ho,hx]
 |.ei _ _,ha,_=>simp only[V]at ha;simp[execOp,ho,ha]
 |.bK _ _,ha,_=>
  simp only[V]at ha;obtain⟨_,hx,_⟩:=ha;simp[execOp,ho,hx]
 |.fn (.func _) _ _,ha,_=>
  simp only[V]at ha;obtain⟨_,_,hx,_⟩:=ha;simp[execOp,ho,hx]
theorem gv{op:BinOp}{ty:TypeId}{x y:Operand}{a b:Value}(h1:a≠.nilIface\/b≠.nilIface)(h2:(∀c,a≠.agg c)\/∀c,b≠.agg c)(w:World):
 (eqGuard op ty x y a b).run P w=.ok () w:=by
 unfold eqGuard
 cases op<;>simp
 all_goals
  split
  ·simp at h1
  ·simp at h2
  ·rfl
theorem acm(H:Inv P Γ N g h w){op:BinOp}{ib:IB}{ty ty':TypeId}{x y:Operand}(ho:o.op=.binOp op ty x y ty')(hop:Hk op=some ib){k j:IntKind}{a b n:Int}
 (hx:r x=.int k a)(hy:r y=.int j b)(hkj:k=j\/ib=.shl\/ib=.shr)(hn:ie ib k a b=some n):aJ P Γ N r o w g h h (some (.int k n)):=by
 refine aJ.same H (u:=.int k n) ?_ (by simp[V]);simp only[execOp,ho,hx,hy,Sem.run_bind];rw[gv (by simp) (by simp)]
 cases op<;>simp only[Hk,aj,reduceCtorEq]at hop
 all_goals
  subst hop;simp only[reduceCtorEq,ml,or_self,or_true]at hkj;simp only[ie]at hn
  try subst hkj
 all_goals (first
  |(simp only[aj]at hn;subst hn;simp[binOp,Op.intArith,Op.intBits];done)
  |(split at hn
    ·simp at hn
    ·rename_i h0;simp only[aj]at hn
     simp[binOp,Op.intDiv,Op.shift,h0,hn]))
theorem adw(H:Inv P Γ N g h w){op:BinOp}{c:CK}{ty ty':TypeId}{x y:Operand}(ho:o.op=.binOp op ty x y ty')(hop:rp op=some c){k:IntKind}{a b:Int}
 (hx:r x=.int k a)(hy:r y=.int k b):aJ P Γ N r o w g h h (some (.bool (na c a b))):=by
 refine aJ.same H (u:=.bool (na c a b)) ?_ (by simp[V]);simp only[execOp,ho,hx,hy,Sem.run_bind];rw[gv (by simp) (by simp)]
 cases op<;>simp only[rp,aj,reduceCtorEq]at hop
 all_goals
  subst hop;simp[binOp,Op.intCmp,na]
theorem BF(a b:List UInt8):((⟨a.toArray⟩:ByteArray).toList==(⟨b.toArray⟩:ByteArray).toList)=(a==b):=by
 have h:∀l:List UInt8,(⟨l.toArray⟩:ByteArray).toList=l:=fun l=>by
  rw[ByteArray.toList_eq]
 rw[h,h]
theorem Y9(H:Inv P Γ N g h w){ty ty':TypeId}{x y:Operand}(ho:o.op=.binOp .add ty x y ty'){a b:List UInt8}
 (hx:r x=.string ⟨a.toArray⟩)(hy:r y=.string ⟨b.toArray⟩)(hl:a.length+b.length<=2^47):aJ P Γ N r o w g h h (some (.str (a++b))):=by
 refine aJ.same H (u:=.string ⟨(a++b).toArray⟩) ?_ (by simp[V]);simp only[execOp,ho,hx,hy,Sem.run_bind];rw[gv (by simp) (by simp)]
 have h1:(⟨a.toArray⟩:ByteArray).size=a.length:=by simp[ByteArray.size]
 have h2:(⟨b.toArray⟩:ByteArray).size=b.length:=by simp[ByteArray.size]
 have h3:¬(9223372036854775807<((a.length:Int)+(b.length:Int))):=by
  have:a.length+b.length<=140737488355328:=by simpa using hl
  omega
 simp only[Result.andThen_ok,binOp,Op.stringOp,h1,h2];simp[h3];apply ByteArray.ext;apply iu;simp
end
section
variable{P:Program}{Γ:Nat->Option AV}{N:Env}{g:G}{h:List Ob}{w:World}{r:Operand->Value}{o:Oper}{t:List AV}
theorem uR(s:List UInt8):(⟨s.toArray⟩:ByteArray).size=s.length:=by simp[ByteArray.size]
theorem aeA(H:Inv P Γ N g h w){ty:TypeId}{x:Operand}(ho:o.op=.unOp .not ty x){b:Bool}(hx:r x=.bool b):aJ P Γ N r o w g h h (some (.bool !b)):=
 aJ.same H (u:=.bool !b) (by simp[execOp,ho,hx,Op.unary]) (by simp[V])
theorem aeF(H:Inv P Γ N g h w){ty:TypeId}{x:Operand}(ho:o.op=.unOp .neg ty x){k:IntKind}{n:Int}(hx:r x=.int k n):aJ P Γ N r o w g h h (some (.int k (k.wrap (0-n)))):=
 aJ.same H (u:=.int k (k.wrap (0-n))) (by simp[execOp,ho,hx,Op.unary,Op.intArith]) (by simp[V])
theorem aax(H:Inv P Γ N g h w){ty:TypeId}{x:Operand}(ho:o.op=.unOp .xor ty x){k:IntKind}{n:Int}(hx:r x=.int k n):
 aJ P Γ N r o w g h h (some (.int k (k.wrap ((BitVec.ofInt k.bits (if k.signed then-1 else k.max))^^^(BitVec.ofInt k.bits n)).toNat))):=
 aJ.same H (u:=.int k (k.wrap ((BitVec.ofInt k.bits (if k.signed then-1 else k.max))^^^(BitVec.ofInt k.bits n)).toNat)) (by simp[execOp,ho,hx,Op.unary,Op.intBits]) (by simp[V])
theorem adm(H:Inv P Γ N g h w){s d:TypeId}{x:Operand}(ho:o.op=.convert s d x){j k k':IntKind}{n:Int}(hs:P.underlying s=some (.int j))(hd:P.underlying d=some (.int k))
 (hx:r x=.int k' n):aJ P Γ N r o w g h h (some (.int k (k.wrap n))):=
 aJ.same H (u:=.int k (k.wrap n)) (by simp[execOp,ho,hx,convert,run_underlying hs,run_underlying hd,Conv.intToInt]) (by simp[V])
theorem ac3(H:Inv P Γ N g h w){s d:TypeId}{x:Operand}(ho:o.op=.convert s d x){l:List UInt8}(hs:P.underlying s=some .string)(hd:P.underlying d=some .string)
 (hx:r x=.string ⟨l.toArray⟩):aJ P Γ N r o w g h h (some (.str l)):=
 aJ.same H (u:=.string ⟨l.toArray⟩) (by simp[execOp,ho,hx,convert,run_underlying hs,run_underlying hd]) (by simp[V])
theorem X1(H:Inv P Γ N g h w){ty:TypeId}{x:Operand}(ho:o.op=.makeInterface ty x){d:TypeDesc}(hd:P.underlying ty=some d)(hd':∀ms,d≠.interface ms){a:AV}
 (ha:V g h a (r x)):aJ P Γ N r o w g h h (some (.bK ty a)):=by
 refine aJ.same H (u:=.iface ty (r x)) ?_ (by simp only[V];exact⟨_,rfl,ha⟩)
 cases d<;>first
  |(exfalso;exact hd' _ rfl)
  |simp[execOp,ho,Instr.makeInterface,run_underlying hd]
theorem Zz(H:Inv P Γ N g h w){f:Fn}{a b:Array Operand}(ho:o.op=.makeFunc f a b)(he:∀x,V g h (ax t (au x)) (r x)):
 aJ P Γ N r o w g h h (some (.fn f ((a.toList.map au).map (ax t)) ((b.toList.map au).map (ax t)))):=by
 refine aJ.same H (u:=.func f (a.map r) (b.map r)) (by simp[execOp,ho,Instr.makeFunc]) ?_;simp only[V];refine⟨a.toList.map r,b.toList.map r,?_,?_,?_⟩
 ·congr 1<;>apply iu<;>simp
 ·rw[jH];exact p9 he _
 ·rw[jH];exact p9 he _
theorem Yf(H:Inv P Γ N g h w){x:Operand}{i:Nat}(ho:o.op=.extract x i){vs:List AV}(hx:V g h (.aE vs) (r x)){a:AV}(ha:vs[i]? =some a):aJ P Γ N r o w g h h (some a):=by
 simp only[V]at hx;obtain⟨us,hu,hl⟩:=hx;obtain⟨u,h1,h2⟩:=qX hl ha;exact aJ.same H (u:=u) (by simp[execOp,ho,hu,Instr.extract,h1]) h2
theorem Og{ty:TypeId}{agg:Bool}{sz off:Nat}{cs:List AV}{a:AV}(hp:mQ agg sz off cs=some a)(h1:gf P ty=some agg)(h2:bu P ty=some sz){vs:List Value}
 (hv:VL g h cs vs)(w:World):∃u,(part ty vs.toArray off).run P w=.ok u w/\V g h a u:=by
 unfold mQ at hp
 cases agg
 ·simp only[ez,cT]at hp
  split at hp
  ·obtain⟨u,hu,h3⟩:=qX hv hp;refine⟨u,?_,h3⟩;simp[part,BP h1,hu]
  ·simp at hp
 ·simp only[cG]at hp
  split at hp
  ·rename_i hle;simp only[aj]at hp;subst hp;refine⟨.agg ((vs.drop off).take sz).toArray,?_,?_⟩
   ·simp only[part,Sem.run_bind,BP h1,iV h2,Result.andThen_ok,cG];simp only[Sem.run_pure];congr 3;simp
   ·simp only[V];exact⟨_,rfl,BS _ (BR _ hv)⟩
  ·simp at hp
theorem aeQ(H:Inv P Γ N g h w){ty:TypeId}{x:Operand}{i:Nat}(ho:o.op=.field ty x i){fs:Array Field}{f:Field}(hu:P.underlying ty=some (.struct fs))(hf:fs[i]? =some f)
 {agg:Bool}{sz:Nat}(h1:gf P f.type=some agg)(h2:bu P f.type=some sz){cs:List AV}(hx:V g h (.agg cs) (r x)){a:AV}(hp:mQ agg sz f.offset cs=some a):
 aJ P Γ N r o w g h h (some a):=by
 simp only[V]at hx;obtain⟨vs,hv,hl⟩:=hx;obtain⟨u,h3,h4⟩:=Og hp h1 h2 hl w;exact aJ.same H (u:=u) (by simp[execOp,ho,hv,Instr.field,run_underlying hu,hf,asAgg,h3]) h4
theorem abH(H:Inv P Γ N g h w){ty e:TypeId}{x i:Operand}(ho:o.op=.index ty x i){n:Nat}(hu:P.underlying ty=some (.array n e))
 {agg:Bool}{sz:Nat}(h1:gf P e=some agg)(h2:bu P e=some sz){cs:List AV}(hx:V g h (.agg cs) (r x)){k:IntKind}{m:Int}(hi:r i=.int k m)(hm:0<=m/\m<n)
 {a:AV}(hp:mQ agg sz (m.toNat*sz) cs=some a):aJ P Γ N r o w g h h (some a):=by
 simp only[V]at hx;obtain⟨vs,hv,hl⟩:=hx;obtain⟨u,h3,h4⟩:=Og hp h1 h2 hl w;exact aJ.same H (u:=u) (by simp[execOp,ho,hv,hi,Instr.index,asIntOf,run_underlying hu,hm,iV h2,h3]) h4
theorem abW(H:Inv P Γ N g h w){ty:TypeId}{x i:Operand}(ho:o.op=.index ty x i)(hu:P.underlying ty=some .string){s:List UInt8}(hx:r x=.string ⟨s.toArray⟩)
 {k:IntKind}{m:Int}(hi:r i=.int k m)(hm:0<=m){b:UInt8}(hb:s[m.toNat]? =some b):aJ P Γ N r o w g h h (some (iK b)):=by
 refine aJ.same H (u:=.int .u8 b.toNat) ?_ (by simp[iK,V])
 have h1:(⟨s.toArray⟩:ByteArray)[m.toNat]? =some b:=by
  have hl:=ba hb
  have h2:(⟨s.toArray⟩:ByteArray).size=s.length:=by simp[ByteArray.size]
  rw[getElem?_pos _ _ (by rw[h2];exact hl)];rw[aM hl]at hb;simp only[aj]at hb;rw[<-hb];rfl
 simp[execOp,ho,hx,hi,Instr.index,asIntOf,run_underlying hu,hm,h1]
theorem kS(b o n:Nat):(⟨b,o,none⟩:Addr).add n=⟨b,o+n,none⟩:=by unfold Addr.add;split<;>simp_all
theorem GY(H:Inv P Γ N g h w){ty:TypeId}{x:Operand}{i:Nat}(ho:o.op=.fieldAddr ty x i){fs:Array Field}{f:Field}(hu:P.underlying ty=some (.struct fs))(hf:fs[i]? =some f)
 {sz:Nat}(h2:bu P f.type=some (sz+1)){b m:Nat}(hx:r x=.pointer (some ⟨b,m,none⟩)){a:AV}(ha:V g h a (.pointer (some ⟨b,m+f.offset,none⟩))):
 aJ P Γ N r o w g h h (some a):=by
 refine aJ.same H ?_ ha;simp[execOp,ho,hx,Instr.fieldAt,run_underlying hu,hf,Instr.sureAddr,fieldPlace,iV h2,kS]
theorem EN(H:Inv P Γ N g h w){ty e:TypeId}{x i:Operand}(ho:o.op=.indexAddr ty x i){n:Nat}(hu:P.underlying ty=some (.array n e)){sz:Nat}(h2:bu P e=some sz)
 {b m:Nat}(hx:r x=.pointer (some ⟨b,m,none⟩)){k:IntKind}{q:Int}(hi:r i=.int k q)(hq:0<=q/\q<n){a:AV}
 (ha:V g h a (.pointer (some ⟨b,m+q.toNat*sz,none⟩))):aJ P Γ N r o w g h h (some a):=by
 refine aJ.same H ?_ ha;simp[execOp,ho,hx,hi,Instr.indexAt,asIntOf,run_underlying hu,Instr.sureAddr,hq,iV h2,kS]
theorem YX(H:Inv P Γ N g h w){ty e:TypeId}{x i:Operand}(ho:o.op=.indexAddr ty x i)(hu:P.underlying ty=some (.slice e)){sz:Nat}(h2:bu P e=some sz)
 {a:AV}(hx:V g h a (r x)){m:Nat}(hm:o_ a=some m){k:IntKind}{q:Int}(hi:r i=.int k q)(hq:0<=q/\q<m):
 aJ P Γ N r o w g h h (some (.cX a sz q.toNat 0)):=by
 have hb:∃b p cap,r x=.slice (some ⟨b,p,none⟩) m cap:=by
  cases a<;>simp only[o_,aj,reduceCtorEq]at hm
  case list f k es=>
   subst hm;simp only[V]at hx;obtain⟨_,ad,cap,hv,_,_,h3⟩:=hx
   rcases h3 with rfl|⟨b,p,vs,rfl,_⟩
   ·simp at hq;omega
   ·exact⟨b,p,cap,hv⟩
  case sl i' off n=>
   subst hm;simp only[V]at hx;obtain⟨k,E,es,gr,fl,sh,hi',hle,ad,cap,hv,hc,hn,_⟩:=hx;obtain⟨b,p,rfl⟩:=hn (by omega);exact⟨b,p,cap,hv⟩
 obtain⟨b,p,cap,hv⟩:=hb;refine aJ.same H (u:=.pointer (some ⟨b,p+q.toNat*sz,none⟩)) ?_ ?_
 ·simp[execOp,ho,hv,hi,Instr.indexAt,asIntOf,run_underlying hu,hq,iV h2,kS]
 ·simp only[V];exact⟨r x,b,p,hx,by simp[hv,Cn],⟨m,hm,by omega⟩,by simp⟩
theorem y3(H:Inv P Γ N g h w){x:Operand}{ty:TypeId}(ho:o.op=.call ⟨.builtin .len,#[x],#[ty]⟩)
 {n:Nat}(hk:(∃s:List UInt8,P.underlying ty=some .string/\r x=.string ⟨s.toArray⟩/\n=s.length)\/(∃e a c,P.underlying ty=some (.slice e)/\r x=.slice a n c)\/
  (∃e,P.underlying ty=some (.array n e))\/(∃k e,P.underlying ty=some (.map k e)/\r x=.map none/\n=0)):aJ P Γ N r o w g h h (some (.int .i64 n)):=by
 refine aJ.same H (u:=.int .i64 n) ?_ (by simp[V])
 rcases hk with⟨s,hu,hx,rfl⟩|⟨e,a,c,hu,hx⟩|⟨e,hu⟩|⟨k,e,hu,hx,rfl⟩
 ·simp[execOp,ho,resolve,invoke,builtin,Builtin.len_,hx,run_underlying hu,goInt,uR]
 ·simp[execOp,ho,resolve,invoke,builtin,Builtin.len_,hx,run_underlying hu,goInt]
 ·simp[execOp,ho,resolve,invoke,builtin,Builtin.len_,run_underlying hu,goInt]
 ·simp[execOp,ho,resolve,invoke,builtin,Builtin.len_,hx,run_underlying hu,goInt]
theorem ad9(H:Inv P Γ N g h w){x:Operand}{ty e:TypeId}(ho:o.op=.call ⟨.builtin .cap,#[x],#[ty]⟩)(hu:P.underlying ty=some (.slice e)){a:Option Addr}{l c:Nat}
 (hx:r x=.slice a l c):aJ P Γ N r o w g h h (some (.int .i64 c)):=by
 refine aJ.same H (u:=.int .i64 c) ?_ (by simp[V]);simp[execOp,ho,resolve,invoke,builtin,Builtin.cap_,hx,run_underlying hu,goInt]
theorem KA(s:List UInt8)(l u:Nat):(⟨s.toArray⟩:ByteArray).extract l u=⟨((s.take u).drop l).toArray⟩:=by
 apply ByteArray.ext;apply iu;simp[ByteArray.data_extract,List.drop_take]
theorem Lj(isSlice:Bool)(len cap l u:Nat)(lo hi:Option Value)(h1:match lo with|none=>l=0|some v=>∃k,v=.int k l)(h2:match hi with|none=>u=len|some v=>∃k,v=.int k u)
 (hlu:l<=u)(hu:u<=cap)(w:World):(Instr.sliceBounds isSlice len cap lo hi none).run P w=.ok (l,u,cap) w:=by
 cases lo<;>cases hi<;>simp only at h1 h2
 ·subst h1;subst h2;simp[Instr.sliceBounds]
 ·obtain⟨k,rfl⟩:=h2;subst h1;simp[Instr.sliceBounds,run_sliceBound,hu]
 ·obtain⟨k,rfl⟩:=h1;subst h2
  simp only[Instr.sliceBounds,Sem.run_bind,Sem.run_pure,Result.andThen_ok,Option.isSome_none,ez,cT];rw[run_sliceBound w k l u _ (by omega) (by omega)];simp
 ·obtain⟨k,rfl⟩:=h1;obtain⟨k',rfl⟩:=h2
  simp only[Instr.sliceBounds,Sem.run_bind,Sem.run_pure,Result.andThen_ok,Option.isSome_none,ez,cT];rw[run_sliceBound w k' u cap _ (by omega) (by omega)];simp only[Result.andThen_ok,dt];rw[run_sliceBound w k l u _ (by omega) (by omega)];simp
theorem pE{d n:Nat}{x:Option Operand}(hb:bound t d (x.map au)=some n)(he:∀x,V g h (ax t (au x)) (r x)):
 match x.map r with|none=>n=d|some v=>∃k,v=.int k n:=by
 cases x with
 |none=>simp only[Option.map_none,bound,aj]at hb;simp[hb]
 |some x=>
  simp only[dO,bound]at hb
  split at hb
  ·rename_i k m hm
   split at hb
   ·rename_i h0;simp only[aj]at hb;have:=he x;rw[hm]at this;refine⟨k,?_⟩;rw[eh this];congr 1;omega
   ·simp at hb
  ·simp at hb
theorem Xv(H:Inv P Γ N g h w){ty:TypeId}{x:Operand}{lo hi:Option Operand}(ho:o.op=.slice ty x lo hi none)(hu:P.underlying ty=some .string){s:List UInt8}
 (hx:r x=.string ⟨s.toArray⟩)(he:∀x,V g h (ax t (au x)) (r x)){l u:Nat}(hl:bound t 0 (lo.map au)=some l)(hh:bound t s.length (hi.map au)=some u)(hlu:l<=u/\u<=s.length):
 aJ P Γ N r o w g h h (some (.str ((s.take u).drop l))):=by
 refine aJ.same H (u:=.string ⟨((s.take u).drop l).toArray⟩) ?_ (by simp[V]);have:=Lj (P:=P) false s.length s.length l u (lo.map r) (hi.map r) (pE hl he) (pE hh he) hlu.1 hlu.2 w;simp[execOp,ho,hx,Instr.sliceAt,Instr.slice,run_underlying hu,uR,this,KA]
end
def dZ(k:Nat)(es:List AV):Prop:=∀e∈es,e.cells.length=k/\b9 e.cells=true
theorem kf:∀{es:List AV}{k:Nat},cr es k=true->dZ k es
 |[],_,_=>fun e he=>by simp at he
 |a::as,k,h=>by
  simp only[cr,ay,aW]at h;intro e he
  rcases bo.1 he with rfl|he
  ·exact⟨h.1.1.1,h.1.1.2⟩
  ·exact kf h.2 e he
theorem ES{es:List AV}{k:Nat}:cr es k=true↔dZ k es/\∀e∈es,aL 0 e.cells=true:=by
 induction es with
 |nil=>simp[cr,dZ]
 |cons a as ih=>
  simp only[cr,ay,aW,ih,dZ,TF];constructor
  ·rintro⟨⟨⟨a1,a2⟩,a3⟩,a4,a5⟩;exact⟨⟨⟨a1,a2⟩,a4⟩,a3,a5⟩
  ·rintro⟨⟨⟨a1,a2⟩,a4⟩,a3,a5⟩;exact⟨⟨⟨a1,a2⟩,a3⟩,a4,a5⟩
theorem tV{es fs:List AV}{k:Nat}:cr (es++fs) k=true↔cr es k=true/\cr fs k=true:=by
 induction es with
 |nil=>simp[cr]
 |cons a as ih=>simp only[ep,cr,ay,ih,and_assoc]
theorem pD{es fs:List AV}{k:Nat}(h:cr es k=true)(hs:∀e∈fs,e∈es):cr fs k=true:=by
 rw[ES]at h⊢;exact⟨fun e he=>h.1 e (hs e he),fun e he=>h.2 e (hs e he)⟩
section
variable{g:G}{h:List Ob}
theorem D3{a:AV}{v:Value}(ho:b9 a.cells=true)(hv:V g h a v):v.cells.toList.length=a.cells.length:=fQ (pQ (qS ho) hv)
theorem iC{k:Nat}:∀{es:List AV}{vs:List Value},dZ k es->VE g h es vs->vs.length=es.length*k
 |[],vs,_,hv=>by simp only[VE]at hv;simp[hv]
 |e::es,vs,hk,hv=>by
  simp only[VE]at hv;obtain⟨v,vs',h1,rfl,h2⟩:=hv;have:=hk e (by simp);rw[bq,D3 this.2 h1,this.1,iC (fun x hx=>hk x (by simp[hx])) h2,bz,fO];omega
theorem pG:∀{as bs:List AV}{vs ws:List Value},VE g h as vs->VE g h bs ws->VE g h (as++bs) (vs++ws)
 |[],bs,vs,ws,hv,hw=>by simp only[VE]at hv;subst hv;simpa using hw
 |a::as,bs,vs,ws,hv,hw=>by
  simp only[VE]at hv;obtain⟨v,vs',h1,rfl,hr⟩:=hv;simp only[ep,VE];exact⟨v,vs'++ws,h1,by simp,pG hr hw⟩
theorem D7:∀{as bs:List AV}{vs:List Value},VE g h (as++bs) vs->∃xs ys,vs=xs++ys/\VE g h as xs/\VE g h bs ys
 |[],bs,vs,hv=>⟨[],vs,rfl,by simp[VE],by simpa using hv⟩
 |a::as,bs,vs,hv=>by
  simp only[ep,VE]at hv;obtain⟨v,vs',h1,rfl,hr⟩:=hv;obtain⟨xs,ys,rfl,h2,h3⟩:=D7 hr;exact⟨v.cells.toList++xs,ys,by simp,by simp only[VE];exact⟨v,xs,h1,rfl,h2⟩,h3⟩
theorem uY{k:Nat}{es:List AV}{vs:List Value}(hk:dZ k es)(hv:VE g h es vs)(n:Nat):VE g h (es.drop n) (vs.drop (n*k)):=by
 by_cases hn:n<=es.length
 ·have h1:es=es.take n++es.drop n:=(mn n es).symm;rw[h1]at hv;obtain⟨xs,ys,rfl,h2,h3⟩:=D7 hv;have hl:=iC (k:=k) (fun e he=>hk e (j8 he)) h2;rw[eA,qH hn]at hl;rw[v8,<-hl,v_];simpa using h3
 ·have hl:=iC hk hv;rw[bT (by omega),bT (by rw[hl];exact lC _ (by omega))];simp[VE]
theorem xT{k:Nat}{es:List AV}{vs:List Value}(hk:dZ k es)(hv:VE g h es vs)(n:Nat):VE g h (es.take n) (vs.take (n*k)):=by
 by_cases hn:n<=es.length
 ·have h1:es=es.take n++es.drop n:=(mn n es).symm;rw[h1]at hv;obtain⟨xs,ys,rfl,h2,h3⟩:=D7 hv;have hl:=iC (k:=k) (fun e he=>hk e (j8 he)) h2;rw[eA,qH hn]at hl;rw[List.take_append,<-hl,wa];simpa using h2
 ·have hl:=iC hk hv;rw[cJ (by omega),cJ (by rw[hl];exact lC _ (by omega))];exact hv
theorem GV{k:Nat}:∀{es:List AV}{vs:List Value}{i:Nat}{e:AV},dZ k es->VE g h es vs->es[i]? =some e->
 ∃v,V g h e v/\∀j u,v.cells.toList[j]? =some u->vs[i*k+j]? =some u
 |[],vs,i,e,_,hv,he=>by simp at he
 |a::as,vs,i,e,hk,hv,he=>by
  simp only[VE]at hv;obtain⟨v,vs',h1,rfl,hr⟩:=hv;have ha:=hk a (by simp)
  have hl:v.cells.toList.length=k:=by rw[D3 ha.2 h1,ha.1]
  cases i with
  |zero=>
   simp at he;subst he;refine⟨v,h1,fun j u hu=>?_⟩;rw[wb,iv,cz (ba hu)];exact hu
  |succ i=>
   simp at he;obtain⟨u,h2,h3⟩:=GV (fun x hx=>hk x (by simp[hx])) hr he;refine⟨u,h2,fun j x hx=>?_⟩;rw[fO,df (by omega)];rw[<-h3 j x hx];congr 1;omega
theorem PX{k:Nat}:∀{es:List AV}{vs:List Value},VE g h es vs->dZ 1 es->(∀e∈es,e.one=true)->k=1->VL g h es vs
 |[],vs,hv,_,_,_=>by simpa only [VE,VL]using hv
 |e::es,vs,hv,hk,ho,h1=>by
  simp only[VE]at hv;obtain⟨v,vs',h2,rfl,hr⟩:=hv;simp only[VL];refine⟨v,vs',?_,h2,PX hr (fun x hx=>hk x (by simp[hx])) (fun x hx=>ho x (by simp[hx])) h1⟩;rw[Eo (ho e (by simp)) h2];rfl
end
section
variable{P:Program}{Γ:Nat->Option AV}{N:Env}{g:G}{h:List Ob}{w:World}{r:Operand->Value}{o:Oper}{t:List AV}
theorem Eh{ty:TypeId}{agg:Bool}{sz off:Nat}{cs:List AV}{a:AV}(hp:mQ agg sz off cs=some a)(h1:gf P ty=some agg)(h2:bu P ty=some sz){vs:List Value}
 (hv:VL g h cs vs){b m:Nat}(hc:∀j v,vs[j]? =some v->w.cell? ⟨b,m+j,none⟩=some v):∃u,(loadVar ty ⟨b,m+off,none⟩).run P w=.ok u w/\V g h a u:=by
 unfold mQ at hp
 cases agg
 ·simp only[ez,cT]at hp
  split at hp
  ·obtain⟨u,hu,h3⟩:=qX hv hp;refine⟨u,?_,h3⟩;simp[loadVar,BP h1,hc _ _ hu]
  ·simp at hp
 ·simp only[cG]at hp
  split at hp
  ·rename_i hle;simp only[aj]at hp;subst hp;have hl:=fQ hv;refine⟨.agg ((vs.drop off).take sz).toArray,?_,?_⟩
   ·have:=run_loadCells_list (P:=P) w ⟨b,m+off,none⟩ ((vs.drop off).take sz) (by
     intro j v hj;rw[kS,kJ];apply hc;rw[qI]at hj
     split at hj
     ·rw[oj]at hj;exact hj
     ·simp at hj)
    have hl2:((vs.drop off).take sz).length=sz:=by simp;omega
    rw[hl2]at this;simp[loadVar,BP h1,iV h2,this]
   ·simp only[V];exact⟨_,rfl,BS _ (BR _ hv)⟩
  ·simp at hp
theorem MN(H:Inv P Γ N g h w){i off n:Nat}{v:Value}(hv:V g h (.sl i off n) v){k:Nat}{E:TypeId}{es:List AV}{gr:Option Nat}{fl sh:Bool}
 (hi:h[i]? =some (.row k E es gr fl sh))(hok:cE es gr off n=true):
 dZ k es/\∃a cap vs,v=.slice a n cap/\VE g h ((es.drop off).take n) vs/\(n=0\/∃b p,a=some ⟨b,p,none⟩/\∀j u,vs[j]? =some u->w.cell? ⟨b,p+j,none⟩=some u):=by
 have ho:=H.ob i _ hi;simp only[OV]at ho;obtain⟨hk0,hk,hfl,hgl,hb⟩:=ho;have hK:dZ k es:=hk;refine⟨hK,?_⟩;simp only[V]at hv;obtain⟨k',E',es',gr',fl',sh',hi',hle,a,cap,rfl,hc,hn,hq⟩:=hv;rw[hi]at hi';simp only[aj,Ob.row.injEq]at hi';obtain⟨rfl,rfl,rfl,rfl,rfl,rfl⟩:=hi'
 by_cases h0:n=0
 ·subst h0;exact⟨a,cap,[],rfl,by simp[VE],Or.inl rfl⟩
 ·rcases(hq hok).2 with⟨h1,_⟩|⟨b,sz,st,hρ,hst,rfl,hcap⟩
  ·exact absurd h1 h0
  ·rw[hρ]at hb;simp only at hb;obtain⟨hst',c,E',fz,vs,hw,hsz,hfree,hE,hcells⟩:=hb
   have hlo:gr.getD 0<=off:=by
    cases gr with
    |none=>simp
    |some lo=>
     simp only[cE,ay,aW]at hok;simpa using hok.1
   have hK':dZ k (es.drop (gr.getD 0)):=fun e he=>hK e (jI he)
   have hE2:=xT (k:=k) (fun e he=>hK e (jI (jI he))) (uY hK' hE (off-gr.getD 0)) n;rw[List.drop_drop,show gr.getD 0+(off-gr.getD 0)=off by omega]at hE2;refine⟨_,cap,_,rfl,hE2,Or.inr ⟨b,(off-st)*k,rfl,?_⟩⟩;intro j u hj;rw[qI]at hj
   split at hj
   ·rw[oj]at hj;have hlt:=ba hj;rw[aM hlt,aj]at hj;have:=hcells _ hlt;rw[hj]at this;rw[cell_of_row w b _ c E' fz hw,<-this];congr 1
    have e1:(off-st)*k=(gr.getD 0-st)*k+(off-gr.getD 0)*k:=by rw[<-fO];congr 1;omega
    omega
   ·simp at hj
theorem w_(H:Inv P Γ N g h w){a:AV}{v:Value}(hv:V g h a v){k:Nat}{es:List AV}(he:kp h a=some (k,es)):
 dZ k es/\∃ad cap vs,v=.slice ad es.length cap/\VE g h es vs/\(es=[]\/∃b p,ad=some ⟨b,p,none⟩/\∀j u,vs[j]? =some u->w.cell? ⟨b,p+j,none⟩=some u):=by
 cases a<;>simp only[kp,reduceCtorEq,aj,bX]at he
 case list f k' es'=>
  obtain⟨rfl,rfl⟩:=he;simp only[V]at hv;obtain⟨hk,ad,cap,rfl,_,_,h3⟩:=hv;refine⟨kf hk,?_⟩
  rcases h3 with rfl|⟨b,p,vs,rfl,h4,h5⟩
  ·exact⟨ad,cap,[],rfl,by simp[VE],Or.inl rfl⟩
  ·refine⟨_,cap,vs,rfl,h4,Or.inr ⟨b,p,rfl,fun j u hj=>?_⟩⟩;have hl:=ba hj;rw[aM hl,aj]at hj;exact H.mem b _ u (hj▸h5 j hl)
 case sl i off n=>
  split at he
  ·rename_i k' E es' gr fl sh hi
   split at he
   ·rename_i hok;simp only[aj,bX]at he;obtain⟨rfl,rfl⟩:=he;obtain⟨hK,ad,cap,vs,rfl,h1,h2⟩:=MN H hv hi hok
    have hln:((es'.drop off).take n).length=n:=by
     have:off+n<=es'.length:=by
      cases gr with
      |none=>simpa[cE]using hok
      |some lo=>simp only[cE,ay,aW,mo]at hok;omega
     simp;omega
    refine⟨fun e he=>hK e (jI (j8 he)),ad,cap,vs,by rw[hln],h1,?_⟩
    rcases h2 with h2|h2
    ·left;apply mj.1;rw[hln,h2]
    ·exact Or.inr h2
   ·simp at he
  ·simp at he
theorem Ep(H:Inv P Γ N g h w){ty:TypeId}{agg:Bool}{sz:Nat}(h1:gf P ty=some agg)(h2:bu P ty=some sz){a p:AV}{v:Value}(hp:V g h p v)
 (hl:qd Γ h agg sz p=some a):∃ad u,v=.pointer (some ad)/\(loadVar ty ad).run P w=.ok u w/\V g h a u:=by
 cases p<;>simp only[qd,reduceCtorEq]at hl
 case ptr i off=>
  simp only[V]at hp;obtain⟨⟨cs',hi⟩,b,s,hρ,rfl⟩:=hp;rw[hi]at hl;simp only at hl;obtain⟨c,E,fz,hw,_,hv⟩:=H.ob i _ hi b s 0 hρ
  have:=Eh (w:=w) hl h1 h2 hv (b:=b) (m:=0) (by
   intro j u hj;rw[cell_of_row w b _ c E fz hw]
   simpa using hj)
  obtain⟨u,h3,h4⟩:=this;exact⟨_,u,rfl,by simpa using h3,h4⟩
 case cX a' k ix off=>
  simp only[V]at hp;obtain⟨u,b,p,hu,hb,⟨m,hm,hix⟩,rfl⟩:=hp
  split at hl
  ·rename_i k' es he
   split at hl
   ·rename_i hkk;subst hkk;obtain⟨hK,ad,cap,vs,rfl,h3,h4⟩:=w_ H hu he
    cases hes:es[ix]? with
    |none=>simp[hes]at hl
    |some e=>
     simp only[hes,j9]at hl;obtain⟨x,h5,h6⟩:=GV hK h3 hes
     have hne:es≠[]:=by rintro rfl;simp at hes
     rcases h4 with h4|⟨b',p',rfl,h7⟩
     ·exact absurd h4 hne
     ·simp only[Cn,aj,Addr.mk.injEq,rO]at hb;obtain⟨rfl,rfl⟩:=hb
      have:=Eh (w:=w) hl h1 h2 (pQ (qS (hK e (iw hes)).2) h5) (b:=b') (m:=p'+ix*k') (by
       intro j y hj;rw[kJ]
       exact h7 _ _ (h6 j y hj))
      obtain⟨y,h8,h9⟩:=this;exact⟨_,y,rfl,h8,h9⟩
   ·simp at hl
  ·simp at hl
 case ei n off=>
  simp only[V]at hp;subst hp
  cases hn:Γ n with
  |none=>simp[hn]at hl
  |some a'=>
   simp only[hn,j9]at hl;obtain⟨_,vs,hv,hm⟩:=H.lh n a' hn
   have:=Eh (w:=w) hl h1 h2 hv (b:=n) (m:=0) (by
    intro j u hj;have hlt:=ba hj;rw[aM hlt,aj]at hj;rw[iv]
    exact H.mem n j u (hj▸hm j hlt))
   obtain⟨u,h3,h4⟩:=this;exact⟨_,u,rfl,by simpa using h3,h4⟩
theorem acq(H:Inv P Γ N g h w){ty:TypeId}{x:Operand}(ho:o.op=.load ty x){agg:Bool}{sz:Nat}(h1:gf P ty=some agg)(h2:bu P ty=some sz){a p:AV}
 (hx:V g h p (r x))(hl:qd Γ h agg sz p=some a):aJ P Γ N r o w g h h (some a):=by
 obtain⟨ad,u,h3,h4,h5⟩:=Ep H h1 h2 hx hl;exact aJ.same H (u:=u) (by simp[execOp,ho,h3,Instr.loadAt,Instr.sureAddr,h4]) h5
theorem Kv:∀{es:List AV}{s:List UInt8},pO es=some s->(∀e∈es,e.one=true)/\∀(g:G)(h:List Ob)(vs:List Value),VL g h es vs->
 ∃ns:List Int,vs=ns.map (Value.int .u8)/\ns.map (fun n=>UInt8.ofNat n.toNat)=s
 |[],s,hs=>by
  simp only[pO,aj]at hs;subst hs;exact⟨by simp,fun g h vs hv=>⟨[],by simp only[VL]at hv;simp[hv],rfl⟩⟩
 |a::as,s,hs=>by
  simp only[pO]at hs
  split at hs
  ·rename_i b bs hb hbs;simp only[aj]at hs;subst hs;obtain⟨h1,h2⟩:=Kv hbs
   cases a<;>simp only[Cd,reduceCtorEq]at hb
   case int k n=>
    cases k<;>simp only[reduceCtorEq,aj]at hb
    refine⟨by intro e he;rcases bo.1 he with rfl|he;·rfl
              ·exact h1 e he,fun g h vs hv=>?_⟩
    simp only[VL,V]at hv;obtain⟨v,vs',rfl,rfl,hr⟩:=hv;obtain⟨ns,rfl,h4⟩:=h2 g h vs' hr;exact⟨n::ns,rfl,by simp[hb,h4]⟩
  ·simp at hs
theorem foldl_push:∀(ns:List Int)(s:ByteArray),(ns.foldl (fun r n=>r.push (UInt8.ofNat n.toNat)) s)=⟨(s.data.toList++ns.map (fun n=>UInt8.ofNat n.toNat)).toArray⟩
 |[],s=>by simp
 |n::ns,s=>by
  rw[pn,foldl_push];apply ByteArray.ext;apply iu;simp[ByteArray.data_push]
theorem V1{a:AV}{es:List AV}(he:elems h a=some es):∃k,kp h a=some (k,es):=by
 cases a<;>simp only[elems,reduceCtorEq]at he
 case list f k es'=>simp only[aj]at he;subst he;exact⟨k,rfl⟩
 case sl i off n=>
  split at he
  ·rename_i k E es' gr fl sh hi;refine⟨k,?_⟩;simp only[kp,hi]
   split at he
   ·rename_i hok;simp only[aj]at he;simp[hok,he]
   ·simp at he
  ·simp at he
theorem abQ(H:Inv P Γ N g h w){s d e:TypeId}{x:Operand}(ho:o.op=.convert s d x)(hs:P.underlying s=some (.slice e))(he:P.underlying e=some (.int .u8))
 (hd:P.underlying d=some .string){a:AV}(hx:V g h a (r x)){es:List AV}(hes:elems h a=some es){l:List UInt8}(hl:pO es=some l):aJ P Γ N r o w g h h (some (.str l)):=by
 obtain⟨k,hk⟩:=V1 hes;obtain⟨hK,ad,cap,vs,hv,h3,h4⟩:=w_ H hx hk;obtain⟨h5,h6⟩:=Kv hl;refine aJ.same H (u:=.string ⟨l.toArray⟩) ?_ (by simp[V])
 have hrun:(convert s d (r x)).run P w=.ok (.string ⟨l.toArray⟩) w:=by
  rw[hv,run_convert_bytes_string w s d e ad es.length cap hs he hd]
  rcases h4 with rfl|⟨b,p,rfl,h7⟩
  ·simp only[pO,aj]at hl;subst hl
   cases ad with
   |none=>simp[Conv.bytesToString];rfl
   |some b=>
    have:=run_bytesToString (P:=P) w b 0 cap [] (by simp[loadCells,loadCellsFrom]);simp only[c9,this];rfl
  ·have hK1:dZ 1 es:=fun e he=>⟨by
    have:=h5 e he
    cases e<;>first|rfl|simp[AV.one]at this,(hK e he).2⟩
   have hVL:=PX (k:=1) h3 hK1 h5 rfl;obtain⟨ns,rfl,h8⟩:=h6 g h vs hVL
   have hlen:ns.length=es.length:=by have:=fQ hVL;simpa using this
   have h9:=run_loadCells_list (P:=P) w ⟨b,p,none⟩ (ns.map (Value.int .u8)) (fun j v hj=>by rw[kS];exact h7 j v hj);rw[eb,hlen]at h9;rw[run_bytesToString w _ _ _ ns h9,foldl_push];simp only[h8];congr 3
 simp[execOp,ho,hrun]
end
section
variable{P:Program}{Γ:Nat->Option AV}{N:Env}{g:G}{h:List Ob}{w:World}{r:Operand->Value}{o:Oper}{t:List AV}
theorem LX{ty e:TypeId}{k:Nat}(hu:P.underlying ty=some (.slice e))(hk:bu P e=some k){a:Option Addr}{n cap l u:Nat}{lo hi:Option Value}
 (h1:match lo with|none=>l=0|some v=>∃k,v=.int k l)(h2:match hi with|none=>u=n|some v=>∃k,v=.int k u)(hlu:l<=u)(hc:u<=cap):
 (Instr.sliceAt ty (.slice a n cap) lo hi none).run P w=.ok (.slice (if cap=l then a else a.map (·.add (l*k))) (u-l) (cap-l)) w:=by
 have:=Lj (P:=P) true n cap l u lo hi h1 h2 hlu hc w;simp[Instr.sliceAt,Instr.slice,run_underlying hu,iV hk,this]
theorem Wy{f:Bool}{k:Nat}{es:List AV}{a:Option Addr}{n cap l u s:Nat}(hv:V g h (.list f k es) (.slice a n cap))(hlu:l<=u)(hu:u<=es.length)(hk:k=s\/es=[]):
 V g h (.list (f&&u==es.length) k ((es.take u).drop l)) (.slice (if cap=l then a else a.map (·.add (l*s))) (u-l) (cap-l)):=by
 simp only[V]at hv⊢;obtain⟨hok,a',cap',he,hf,hcap,h3⟩:=hv;simp only[Value.slice.injEq]at he;obtain⟨rfl,rfl,rfl⟩:=he;refine⟨pD hok (fun e he=>j8 (jI he)),(if cap=l then a else a.map (·.add (l*s))),cap-l,?_,?_,?_,?_⟩
 ·congr 1;simp;omega
 ·intro hf';simp only[ay,mo]at hf';have:=hf hf'.1
  simp;omega
 ·simp;omega
 ·by_cases hul:u=l
  ·left;apply mj.1
   simp;omega
  ·right
   have hne:es≠[]:=by rintro rfl;simp at hu;omega
   rcases h3 with h3|⟨b,p,vs,rfl,h4,h5⟩
   ·exact absurd h3 hne
   ·have hks:k=s:=hk.resolve_right hne;subst hks;have hK:=kf hok;have h6:=uY (fun e he=>hK e (j8 he)) (xT hK h4 u) l;refine⟨b,p+l*k,_,?_,h6,?_⟩
    ·rw[if_neg (by omega)];simp[kS]
    ·intro j hj;have hl:=iC hK h4;simp only[JA,eA]at hj;rw[List.getElem_drop,tx,kJ];exact h5 _ _
theorem Ye{i off n l u s:Nat}{a:Option Addr}{m cap:Nat}(hv:V g h (.sl i off n) (.slice a m cap))(hlu:l<=u)(hu:u<=n){E:TypeId}{es:List AV}{gr:Option Nat}{fl sh:Bool}
 (hi:h[i]? =some (.row s E es gr fl sh))(hok:cE es gr off n=true):
 V g h (.sl i (off+l) (u-l)) (.slice (if cap=l then a else a.map (·.add (l*s))) (u-l) (cap-l)):=by
 simp only[V]at hv⊢;obtain⟨k,E',es',gr',fl',sh',hi',hle,a',cap',he,hc,hn,hq⟩:=hv;rw[hi]at hi';simp only[aj,Ob.row.injEq]at hi';obtain⟨rfl,rfl,rfl,rfl,rfl,rfl⟩:=hi';simp only[Value.slice.injEq]at he;obtain⟨rfl,rfl,rfl⟩:=he;refine⟨_,_,_,_,_,_,hi,by omega,_,_,rfl,by omega,?_,?_⟩
 ·intro h0;obtain⟨b,p,rfl⟩:=hn (by omega)
  by_cases hcl:cap=l
  ·exact⟨b,p,by simp[hcl]⟩
  ·exact⟨b,p+l*s,by simp[hcl,kS]⟩
 ·intro hok';obtain⟨hlc,hq⟩:=hq hok;refine⟨by omega,?_⟩
  rcases hq with⟨h1,h2⟩|⟨b,sz,st,h1,h2,rfl,h4⟩
  ·left;omega
  ·by_cases hcl:cap=l
   ·left;omega
   ·right;refine⟨b,sz,st,h1,by omega,?_,?_⟩
    ·rw[if_neg hcl];simp only[dO,kS,aj,Addr.mk.injEq,true_and,rO]
     rw[<-fO];congr 1;omega
    ·have:off+l-st+(cap-l)=off-st+cap:=by omega
     rw[this];exact h4
theorem VW(H:Inv P Γ N g h w){ty e:TypeId}{x:Operand}{lo hi:Option Operand}(ho:o.op=.slice ty x lo hi none)(hu:P.underlying ty=some (.slice e)){s:Nat}(hs:bu P e=some s)
 {f:Bool}{k:Nat}{es:List AV}(hx:V g h (.list f k es) (r x))(he:∀x,V g h (ax t (au x)) (r x)){l u:Nat}(hl:bound t 0 (lo.map au)=some l)(hh:bound t es.length (hi.map au)=some u)
 (hlu:l<=u/\u<=es.length/\(k=s\/es=[])):aJ P Γ N r o w g h h (some (.list (f&&u==es.length) k ((es.take u).drop l))):=by
 have hx0:=hx;simp only[V]at hx0;obtain⟨_,a,cap,hv,_,hcap,_⟩:=hx0;rw[hv]at hx;refine aJ.same H ?_ (Wy hx hlu.1 hlu.2.1 hlu.2.2);have:=LX (w:=w) hu hs (a:=a) (n:=es.length) (cap:=cap) (pE hl he) (pE hh he) hlu.1 (by omega);simp[execOp,ho,hv,this]
theorem W6(H:Inv P Γ N g h w){ty e:TypeId}{x:Operand}{lo hi:Option Operand}(ho:o.op=.slice ty x lo hi none)(hu:P.underlying ty=some (.slice e)){s:Nat}(hs:bu P e=some s)
 {i off n:Nat}(hx:V g h (.sl i off n) (r x))(he:∀x,V g h (ax t (au x)) (r x)){l u:Nat}(hl:bound t 0 (lo.map au)=some l)(hh:bound t n (hi.map au)=some u)
 (hlu:l<=u/\u<=n){E:TypeId}{es:List AV}{gr:Option Nat}{fl sh:Bool}(hi':h[i]? =some (.row s E es gr fl sh))(hok:cE es gr off n=true):
 aJ P Γ N r o w g h h (some (.sl i (off+l) (u-l))):=by
 have hx0:=hx;simp only[V]at hx0;obtain⟨_,_,_,_,_,_,_,_,a,cap,hv,hcap,_⟩:=hx0;rw[hv]at hx;refine aJ.same H ?_ (Ye hx hlu.1 hlu.2 hi' hok);have:=LX (w:=w) hu hs (a:=a) (n:=n) (cap:=cap) (pE hl he) (pE hh he) hlu.1 (by omega);simp[execOp,ho,hv,this]
inductive F2{α β:Type}(R:α->β->Prop):List α->List β->Prop
 |nil:F2 R [] []
 |cons {a:α} {b:β} {as:List α} {bs:List β}:R a b->F2 R as bs->F2 R (a::as) (b::bs)
theorem Fs(off:Nat):∀(l:List Value)(k:Nat)(cells:Array Value),off+k+l.length<=cells.size->
 ((l.zipIdx k).foldl (fun cs (x:Value×Nat)=>cs.setIfInBounds (off+x.2) x.1) cells).toList=cells.toList.take (off+k)++l++cells.toList.drop (off+k+l.length)
 |[],k,cells,_=>by simp
 |v::l,k,cells,hl=>by
  simp only[bz]at hl;rw[List.zipIdx_cons,pn,Fs off l (k+1) _ (by simp;omega)];rw[JB];have e:=list_seg_step cells.toList (off+k) v l (by simp;omega);simpa[kJ]using e
theorem Pl{cs new:List AV}{vs ns:List Value}{off:Nat}(h1:VL g h cs vs)(h2:VL g h new ns):VL g h (over cs off new) (vs.take off++ns++vs.drop (off+ns.length)):=by
 unfold over;rw[fQ h2];exact kR (kR (BS _ h1) h2) (BR _ h1)
theorem EP(place:Nat->Option (Nat×Nat)):∀(ps:List (Nat×Nat×AV))(parts:List (Nat×Value))(cs out:List AV)(zs:Array Value),
 F2 (fun(p:Nat×Nat×AV) (q:Nat×Value)=>place q.1=some (p.1,p.2.1)/\V g h p.2.2 q.2) ps parts->
 sX cs ps=some out->VL g h cs zs.toList->∃us,Instr.fill place zs parts=some us/\VL g h out us.toList
 |[],parts,cs,out,zs,hf,ho,hv=>by
  cases hf
  simp only[sX,aj]at ho;subst ho;exact⟨zs,rfl,hv⟩
 |(off,sz,a)::ps,parts,cs,out,zs,hf,ho,hv=>by
  cases hf with
  |cons hq hf=>
   rename_i q parts;obtain⟨i,v⟩:=q;obtain⟨hp,ha⟩:=hq;simp only[sX]at ho
   split at ho
   ·rename_i hc;obtain⟨hok,hsz,hle⟩:=hc;have hcells:=pQ hok ha;have hl:=fQ hcells;have hlz:=fQ hv
    have h1:v.cells.size=sz:=by rw[<-hsz,<-hl];simp
    have h2:¬(off+v.cells.size>zs.size):=by
     have:zs.toList.length=zs.size:=by simp
     omega
    have hfold:=Fs off v.cells.toList 0 zs (by simp;omega)
    have hzip:v.cells.zipIdx.foldl (fun cs (x:Value×Nat)=>cs.setIfInBounds (off+x.2) x.1) zs=(v.cells.toList.zipIdx 0).foldl (fun cs (x:Value×Nat)=>cs.setIfInBounds (off+x.2) x.1) zs:=by
     rw[<-Dz,Array.toList_zipIdx]
    obtain⟨us,h3,h4⟩:=EP place ps parts _ out (v.cells.zipIdx.foldl (fun cs (x:Value×Nat)=>cs.setIfInBounds (off+x.2) x.1) zs) hf ho (by
     rw[hzip,hfold];have:=Pl (off:=off) hv hcells
     simpa using this)
    refine⟨us,?_,h4⟩;simp only[Instr.fill,hp];rw[if_neg (by simp only[fv,aW,ne_eq,not_or,DA];exact⟨h1,h2⟩)];exact h3
   ·simp at ho
theorem Ev(g:G)(h:List Ob)(v:Value):VL g h (fZ v).cells v.cells.toList:=by
 by_cases ha:∃cs,v=.agg cs
 ·obtain⟨cs,rfl⟩:=ha;have:=p9 (g:=g) (h:=h) (f:=kq) (e:=id) (uK g h) cs.toList;simpa[fZ,AV.cells,Value.cells]using this
 ·have h1:v.cells=#[v]:=by cases v<;>first|rfl|exact absurd ⟨_,rfl⟩ ha
  have h2:(fZ v).cells=[fZ v]:=by
   have:∀cs,fZ v≠.agg cs:=by
    intro cs hc;unfold fZ at hc
    split at hc<;>first|exact ha ⟨_,rfl⟩|cases hc|(unfold kq at hc;split at hc<;>cases hc)
   revert this
   cases fZ v<;>intro this<;>first|rfl|exact absurd rfl (this _)
  rw[h1,h2];simp only[VL];exact⟨v,[],rfl,nR g h v,rfl⟩
theorem KX:∀{fs:List Field},fs.all (fun f=>(bu P f.type).isSome)=true->∀w:World,
 (fs.mapM (m:=Sem) fun f=>Prod.mk f.offset<$>sizeOf f.type).run P w=.ok (fs.map fun f=>(f.offset,(bu P f.type).getD 0)) w
 |[],_,_=>rfl
 |f::fs,hf,w=>by
  simp only[rP,ay]at hf;obtain⟨s,hs⟩:=JC.1 hf.1;simp[tz,iV hs,KX hf.2,hs]
theorem aay(H:Inv P Γ N g h w){ty:TypeId}{ps:Array (Nat×Operand)}(ho:o.op=.build ty ps){z:AV}(hz:dW P ty=some z)(hpl:xC P ty=true){aps:List (Nat×Nat×AX)}
 (hps:pW P ty ps.toList=some aps)(he:∀x,V g h (ax t (au x)) (r x)){cs:List AV}(hf:sX z.cells (aps.map fun p=>(p.1,p.2.1,ax t p.2.2))=some cs):
 aJ P Γ N r o w g h h (some (.agg cs)):=by
 obtain⟨zv,hzr,rfl⟩:=F_ hz w
 have hF:∀(l:List (Nat×Operand))(aps:List (Nat×Nat×AX)),pW P ty l=some aps->
  F2 (fun(p:Nat×Nat×AV) (q:Nat×Value)=>placeOf P ty q.1=some (p.1,p.2.1)/\V g h p.2.2 q.2) (aps.map fun p=>(p.1,p.2.1,ax t p.2.2)) (l.map fun p=>(p.1,r p.2)):=by
  intro l
  induction l with
  |nil=>intro aps hl;simp[pW]at hl;subst hl;exact .nil
  |cons q l ih=>
   intro aps hl;simp only[pW,tz]at hl;obtain⟨i,x⟩:=q
   cases hp:placeOf P ty i with
   |none=>simp[hp]at hl
   |some os=>
    obtain⟨of,s⟩:=os
    cases hm:pW P ty l with
    |none=>simp only[pW]at hm;simp[hp,hm]at hl
    |some aps'=>
     have hm':=hm;simp only[pW]at hm;simp[hp,hm]at hl;subst hl;exact .cons ⟨hp,he x⟩ (ih aps' hm')
 have hF:=hF ps.toList aps hps
 have hparts:(ps.map fun(p:Nat×Operand)=>(p.1,r p.2)).toList=ps.toList.map fun p=>(p.1,r p.2):=by simp
 cases hu:P.underlying ty with
 |none=>simp[xC,hu]at hpl
 |some d=>
  cases d<;>simp only[xC,hu,ez]at hpl
  case struct fs=>
   have hpm:=KX (P:=P) (fs:=fs.toList) hpl w
   obtain⟨us,h1,h2⟩:=EP (fun i=>((fs.toList.map fun f=>(f.offset,(bu P f.type).getD 0)).toArray)[i]?) _ _ _ cs zv.cells (by
    have:∀{l:List (Nat×Nat×AV)}{m:List (Nat×Value)},F2 (fun(p:Nat×Nat×AV) (q:Nat×Value)=>placeOf P ty q.1=some (p.1,p.2.1)/\V g h p.2.2 q.2) l m->
     F2 (fun(p:Nat×Nat×AV) (q:Nat×Value)=>((fs.toList.map fun f=>(f.offset,(bu P f.type).getD 0)).toArray)[q.1]? =some (p.1,p.2.1)/\V g h p.2.2 q.2) l m:=by
     intro l m hlm
     induction hlm with
     |nil=>exact .nil
     |cons hq _ ih=>
      refine .cons ⟨?_,hq.2⟩ ih;have hq:=hq.1;simp only[placeOf,hu]at hq
      split at hq
      ·rename_i f hfi;simp only[bY]at hq;obtain⟨s,hs1,hs2⟩:=hq;simp[hfi,hs1,<-hs2]
      ·simp at hq
    exact this hF) hf (Ev g h zv)
   refine aJ.same H (u:=.agg us) ?_ (by simp only[V];exact⟨us.toList,by simp,h2⟩);rw[<-hparts]at h1;simp[execOp,ho,Instr.build,run_underlying hu,hzr,Array.mapM_eq_mapM_toList,hpm];simp at h1;rw[h1];simp
  case array n e=>
   cases hs:bu P e with
   |none=>
    simp[hs]at hpl
   |some s=>
    obtain⟨us,h1,h2⟩:=EP (fun i=>some (i*s,s)) _ _ _ cs zv.cells (by
     have:∀{l:List (Nat×Nat×AV)}{m:List (Nat×Value)},F2 (fun(p:Nat×Nat×AV) (q:Nat×Value)=>placeOf P ty q.1=some (p.1,p.2.1)/\V g h p.2.2 q.2) l m->
      F2 (fun(p:Nat×Nat×AV) (q:Nat×Value)=>(fun i=>some (i*s,s)) q.1=some (p.1,p.2.1)/\V g h p.2.2 q.2) l m:=by
      intro l m hlm
      induction hlm with
      |nil=>exact .nil
      |cons hq _ ih=>
       refine .cons ⟨?_,hq.2⟩ ih;have hq:=hq.1;simp only[placeOf,hu,hs,dO]at hq;exact hq
     exact this hF) hf (Ev g h zv)
    refine aJ.same H (u:=.agg us) ?_ (by simp only[V];exact⟨us.toList,by simp,h2⟩);rw[<-hparts]at h1;simp[execOp,ho,Instr.build,run_underlying hu,hzr,iV hs];simp at h1;rw[h1];simp
end
section
variable{P:Program}{Γ:Nat->Option AV}{N:Env}{g:G}{h:List Ob}{w:World}{r:Operand->Value}{o:Oper}{t:List AV}
theorem EF(H:Inv P Γ N g h w){x:Operand}{ty ty':TypeId}{ok:Bool}(ho:o.op=.typeAssert x ty' ty ok){d:TypeDesc}(hd:P.underlying ty=some d)(hd':∀ms,d≠.interface ms){z:AV}
 (hz:dW P ty=some z){a:AV}(ha:V g h a (r x)){v:AV}
 (hv:(∃u b,a=.bK u b/\((u=ty/\v=if ok then .aE [b,.bool true]else b)\/(u≠ty/\ok=true/\v=.aE [z,.bool false])))\/(a=.eH/\ok=true/\v=.aE [z,.bool false])):
 aJ P Γ N r o w g h h (some v):=by
 obtain⟨zv,hzr,rfl⟩:=F_ hz w
 have hd2:∀(x:Value),(match d,x with|.interface _,.nilIface=>false|_,_=>true)=true:=by intro x;cases d<;>first|rfl|exact absurd rfl (hd' _)
 rcases hv with⟨u,b,rfl,h1⟩|⟨rfl,rfl,rfl⟩
 ·simp only[V]at ha;obtain⟨y,hx,hb⟩:=ha
  rcases h1 with⟨rfl,rfl⟩|⟨hne,rfl,rfl⟩
  ·cases ok
   ·refine aJ.same H (u:=y) ?_ hb
    cases d<;>first
     |exact absurd rfl (hd' _)
     |simp[execOp,ho,hx,Instr.typeAssert,run_underlying hd]
   ·refine aJ.same H (u:=.tuple #[y,.bool true]) ?_ (by simp only[cG,V,VL];exact⟨[y,.bool true],rfl,_,_,rfl,hb,_,_,rfl,rfl,rfl⟩)
    cases d<;>first
     |exact absurd rfl (hd' _)
     |simp[execOp,ho,hx,Instr.typeAssert,run_underlying hd]
  ·refine aJ.same H (u:=.tuple #[zv,.bool false]) ?_ (by simp only[V,VL];exact⟨[zv,.bool false],rfl,_,_,rfl,nR g h zv,_,_,rfl,rfl,rfl⟩)
   cases d<;>first
    |exact absurd rfl (hd' _)
    |simp[execOp,ho,hx,Instr.typeAssert,run_underlying hd,hne,hzr]
 ·simp only[V]at ha;refine aJ.same H (u:=.tuple #[zv,.bool false]) ?_ (by simp only[V,VL];exact⟨[zv,.bool false],rfl,_,_,rfl,nR g h zv,_,_,rfl,rfl,rfl⟩)
  cases d<;>first
   |exact absurd rfl (hd' _)
   |simp[execOp,ho,ha,Instr.typeAssert,run_underlying hd,hzr]
theorem Mi:∀{xs:List AV}{a v:AV}{vs:List Value}{u:Value},qm a xs=some v->V g h a u->VL g h xs vs->∃y,(vs.foldlM Builtin.min2 u).run P w=.ok y w/\V g h v y
 |[],a,v,vs,u,hm,ha,hx=>by
  simp only[VL]at hx;subst hx
  cases a<;>simp only[qm,reduceCtorEq,aj]at hm
  subst hm;exact⟨u,by simp,ha⟩
 |b::xs,a,v,vs,u,hm,ha,hx=>by
  simp only[VL]at hx;obtain⟨y,vs',rfl,hb,hr⟩:=hx
  cases a<;>try (simp only[qm,reduceCtorEq]at hm;done)
  cases b<;>simp only[qm,reduceCtorEq]at hm
  split at hm
  ·rename_i hk;subst hk;rw[eh ha,eh hb];obtain⟨z,h1,h2⟩:=Mi (u:=.int _ _) hm (by simp only[V];rfl) hr;exact⟨z,by rw[List.foldlM_cons];simp[Builtin.min2,h1],h2⟩
  ·simp at hm
theorem M3:∀{xs:List AV}{a v:AV}{vs:List Value}{u:Value},qx a xs=some v->V g h a u->VL g h xs vs->∃y,(vs.foldlM Builtin.max2 u).run P w=.ok y w/\V g h v y
 |[],a,v,vs,u,hm,ha,hx=>by
  simp only[VL]at hx;subst hx
  cases a<;>simp only[qx,reduceCtorEq,aj]at hm
  subst hm;exact⟨u,by simp,ha⟩
 |b::xs,a,v,vs,u,hm,ha,hx=>by
  simp only[VL]at hx;obtain⟨y,vs',rfl,hb,hr⟩:=hx
  cases a<;>try (simp only[qx,reduceCtorEq]at hm;done)
  cases b<;>simp only[qx,reduceCtorEq]at hm
  split at hm
  ·rename_i hk;subst hk;rw[eh ha,eh hb];obtain⟨z,h1,h2⟩:=M3 (u:=.int _ _) hm (by simp only[V];rfl) hr;exact⟨z,by rw[List.foldlM_cons];simp[Builtin.max2,h1],h2⟩
  ·simp at hm
theorem aew(H:Inv P Γ N g h w){xs:Array Operand}{ts:Array TypeId}(ho:o.op=.call ⟨.builtin .min,xs,ts⟩)(he:∀x,V g h (ax t (au x)) (r x)){a v:AV}{as:List AV}
 (hx:(xs.toList.map au).map (ax t)=a::as)(hv:qm a as=some v):aJ P Γ N r o w g h h (some v):=by
 have h1:VL g h (a::as) (xs.toList.map r):=by rw[<-hx,jH];exact p9 he _
 simp only[VL]at h1;obtain⟨u,vs,h2,h3,h4⟩:=h1;obtain⟨y,h5,h6⟩:=Mi (P:=P) (w:=w) hv h3 h4;refine aJ.same H (u:=y) ?_ h6
 have h7:(xs.map r).toList=u::vs:=by simpa using h2
 simp[execOp,ho,resolve,invoke,builtin,Builtin.min_,h2,h5]
theorem ad3(H:Inv P Γ N g h w){xs:Array Operand}{ts:Array TypeId}(ho:o.op=.call ⟨.builtin .max,xs,ts⟩)(he:∀x,V g h (ax t (au x)) (r x)){a v:AV}{as:List AV}
 (hx:(xs.toList.map au).map (ax t)=a::as)(hv:qx a as=some v):aJ P Γ N r o w g h h (some v):=by
 have h1:VL g h (a::as) (xs.toList.map r):=by rw[<-hx,jH];exact p9 he _
 simp only[VL]at h1;obtain⟨u,vs,h2,h3,h4⟩:=h1;obtain⟨y,h5,h6⟩:=M3 (P:=P) (w:=w) hv h3 h4;refine aJ.same H (u:=y) ?_ h6
 have h7:(xs.map r).toList=u::vs:=by simpa using h2
 simp[execOp,ho,resolve,invoke,builtin,Builtin.max_,h2,h5]
theorem pB{ty:TypeId}{s:SK}(hs:kT P ty=some s):P.cellsOf ty=1/\match s with|.int=>∃k,P.underlying ty=some (.int k)|.str=>P.underlying ty=some .string|.bool=>P.underlying ty=some .bool:=by
 unfold kT at hs
 split at hs
 ·rename_i hc;refine⟨by simpa using hc,?_⟩
  split at hs<;>simp only[aj,reduceCtorEq]at hs<;>subst hs<;>simp_all
 ·simp at hs
theorem UX{ty:TypeId}{s:SK}(hs:kT P ty=some s)(w:World):(isAgg ty).run P w=.ok false w:=by
 obtain⟨_,h1⟩:=pB hs
 cases s<;>simp only at h1
 ·obtain⟨k,hk⟩:=h1;simp[isAgg,run_underlying hk]
 ·simp[isAgg,run_underlying h1]
 ·simp[isAgg,run_underlying h1]
theorem tQ{ty:TypeId}{s:SK}(hs:kT P ty=some s){xs:Array Value}{i:Nat}{x:Value}(hx:xs[i]? =some x)(w:World):(part ty xs i).run P w=.ok x w:=by
 simp[part,UX hs,hx]
theorem MK(a b:List UInt8):((⟨a.toArray⟩:ByteArray)==⟨b.toArray⟩)=(a==b):=by
 rw[beq_toListBytes,BF]
theorem A'{ty:TypeId}{s:SK}(hs:kT P ty=some s){a b:AV}{c:Bool}(hc:fg s a b=some c){x y:Value}(hx:V g h a x)(hy:V g h b y)(d:Nat)(w:World):
 (Op.equalIn (d+1) ty x y).run P w=.ok c w:=by
 obtain⟨_,h1⟩:=pB hs
 cases s<;>simp only at h1<;>cases a<;>cases b<;>simp only[fg,reduceCtorEq,aj]at hc
 ·obtain⟨k,hk⟩:=h1
  split at hc
  ·rename_i hkk;subst hkk;simp only[aj]at hc;rw[eh hx,eh hy,run_equalIn_int w d ty _ k _ _ hk,hc]
  ·simp at hc
 ·rw[jv hx,jv hy,run_equalIn_string w d ty _ _ h1,BF,hc]
 ·rw[lM hx,lM hy,run_equalIn_bool w d ty _ _ h1,hc]
theorem Kr{d:Nat}:∀{fs:List Field}{ss:List SK}{i:Nat}{as bs:List AV}{xs ys:Array Value}{c:Bool},sR P i fs=some ss->VL g h as (xs.toList.drop i)->VL g h bs (ys.toList.drop i)->
 gU ss as bs=some c->∀w:World,(Op.eqFields (d+1) xs ys fs).run P w=.ok c w
 |[],ss,i,as,bs,xs,ys,c,hf,hx,hy,hc,w=>by
  simp only[sR,aj]at hf;subst hf
  cases as<;>cases bs<;>simp only[gU,reduceCtorEq,aj]at hc
  subst hc;simp[Op.eqFields]
 |f::fs,ss,i,as,bs,xs,ys,c,hf,hx,hy,hc,w=>by
  simp only[sR]at hf
  split at hf
  ·rename_i s ss' hs hss
   split at hf
   ·rename_i hn;simp only[ay,bne_iff_ne,ne_eq,mo]at hn;simp only[aj]at hf;subst hf
    cases as with
    |nil=>simp[gU]at hc
    |cons a as=>
     cases bs with
     |nil=>simp[gU]at hc
     |cons b bs=>
      simp only[VL]at hx hy;obtain⟨x,xs',hx1,hx2,hx3⟩:=hx;obtain⟨y,ys',hy1,hy2,hy3⟩:=hy
      have hxi:xs[i]? =some x:=by
       have:=congrArg (·[0]?) hx1;simp[oj]at this;exact this
      have hyi:ys[i]? =some y:=by
       have:=congrArg (·[0]?) hy1;simp[oj]at this;exact this
      have hxd:xs.toList.drop (i+1)=xs':=by rw[<-zT,hx1];rfl
      have hyd:ys.toList.drop (i+1)=ys':=by rw[<-zT,hy1];rfl
      simp only[gU]at hc
      cases he:fg s a b with
      |none=>simp[he]at hc
      |some e=>
       have h1:=A' hs he hx2 hy2 d w;simp only[he]at hc;have hp1:=tQ hs hxi w;have hp2:=tQ hs hyi w;simp only[Op.eqFields,hn.1,ne_eq,not_false_eq_true,cG,Sem.run_bind,Result.andThen_ok,hn.2,hp1,hp2,h1]
       cases e
       ·simp only[aj]at hc;subst hc;simp
       ·simp only at hc;simp only[qJ,ez,cT];exact Kr hss (by rw[hxd];exact hx3) (by rw[hyd];exact hy3) hc w
   ·simp at hf
  ·simp at hf
def sC(d:Nat)(e:TypeId)(n:Nat)(xs ys:Array Value):List Nat->Sem Bool
 |[]=>pure true
 |i::is=>do
  let a<-part e xs (i*n)
  let b<-part e ys (i*n)
  let r<-Op.equalIn d e a b
  if(!r)=true then pure false else sC d e n xs ys is
theorem run_equalIn_array(d:Nat)(ty e:TypeId)(len s:Nat)(xs ys:Array Value)(ht:P.underlying ty=some (.array len e))(hs:bu P e=some s)(w:World):
 (Op.equalIn (d+1) ty (.agg xs) (.agg ys)).run P w=(sC d e s xs ys (List.range' 0 len)).run P w:=by
 simp only[Op.equalIn,Sem.run_bind,run_underlying ht,Result.andThen_ok,iV hs];rw[asE];simp only[Std.Legacy.Range.size,DB,Nat.add_sub_cancel,Nat.div_one];generalize List.range' 0 len=is
 induction is generalizing w with
 |nil=>simp[sC]
 |cons i is ih=>
  simp only[List.forIn_cons,sC,Sem.run_bind,Sem.run_ite];generalize(part e xs (i*s)).run P w=r1
  cases r1 with
  |ok a w1=>
   simp only[Result.andThen_ok];generalize(part e ys (i*s)).run P w1=r2
   cases r2 with
   |ok b w2=>
    simp only[Result.andThen_ok];generalize(Op.equalIn d e a b).run P w2=r3
    cases r3 with
    |ok r w3=>
     cases r
     ·simp only[Result.andThen_ok,wc,cG,Sem.run_pure]
     ·simp only[Result.andThen_ok,qJ,ez,cT,Sem.run_pure];exact ih w3
    |halt x w3=>simp[Result.andThen]
   |halt x w2=>simp[Result.andThen]
  |halt x w1=>simp[Result.andThen]
theorem KZ{d:Nat}{e:TypeId}{s:SK}(hs:kT P e=some s):∀{n i:Nat}{as bs:List AV}{xs ys:Array Value}{c:Bool},VL g h as (xs.toList.drop i)->VL g h bs (ys.toList.drop i)->
 gU (List.replicate n s) as bs=some c->∀w:World,(sC (d+1) e 1 xs ys (List.range' i n)).run P w=.ok c w
 |0,i,as,bs,xs,ys,c,hx,hy,hc,w=>by
  simp only[List.replicate_zero]at hc
  cases as<;>cases bs<;>simp only[gU,reduceCtorEq,aj]at hc
  subst hc;simp[sC]
 |n+1,i,as,bs,xs,ys,c,hx,hy,hc,w=>by
  simp only[lA]at hc
  cases as with
  |nil=>simp[gU]at hc
  |cons a as=>
   cases bs with
   |nil=>simp[gU]at hc
   |cons b bs=>
    simp only[VL]at hx hy;obtain⟨x,xs',hx1,hx2,hx3⟩:=hx;obtain⟨y,ys',hy1,hy2,hy3⟩:=hy
    have hxi:xs[i]? =some x:=by
     have:=congrArg (·[0]?) hx1;simp[oj]at this;exact this
    have hyi:ys[i]? =some y:=by
     have:=congrArg (·[0]?) hy1;simp[oj]at this;exact this
    have hxd:xs.toList.drop (i+1)=xs':=by rw[<-zT,hx1];rfl
    have hyd:ys.toList.drop (i+1)=ys':=by rw[<-zT,hy1];rfl
    simp only[gU]at hc
    cases he:fg s a b with
    |none=>simp[he]at hc
    |some e'=>
     have h1:=A' hs he hx2 hy2 d w;simp only[he]at hc;have hp1:=tQ hs hxi w;have hp2:=tQ hs hyi w;simp only[List.range'_succ,sC,Sem.run_bind,Result.andThen_ok,Nat.mul_one,hp1,hp2,h1]
     cases e'
     ·simp only[aj]at hc;subst hc;simp
     ·simp only at hc;simp only[qJ,ez,cT];exact KZ hs (by rw[hxd];exact hx3) (by rw[hyd];exact hy3) hc w
theorem cellsOf_size{ty:TypeId}{s:SK}(hs:kT P ty=some s):bu P ty=some 1:=by
 obtain⟨h1,h2⟩:=pB hs
 have hu:∃d,P.underlying ty=some d:=by
  cases s<;>simp only at h2
  ·exact⟨_,h2.choose_spec⟩
  ·exact⟨_,h2⟩
  ·exact⟨_,h2⟩
 unfold Program.cellsOf at h1;unfold bu
 cases hi:P.info? ty with
 |none=>simp[hi]at h1
 |some i=>simp[hi]at h1;simp[h1]
theorem MH{ty:TypeId}{ss:List SK}(hs:vq P ty=some ss){as bs:List AV}{xs ys:List Value}{c:Bool}(hx:VL g h as xs)(hy:VL g h bs ys)(hc:gU ss as bs=some c)(d:Nat)(w:World):
 (Op.equalIn (d+2) ty (.agg xs.toArray) (.agg ys.toArray)).run P w=.ok c w:=by
 unfold vq at hs
 split at hs
 ·rename_i fs hu
  split at hs
  ·rename_i hst
   have hst':P.stoodInHeld ty=false:=by simpa using hst
   have hfo:P.fieldsOf ty=fs:=by simp[Program.fieldsOf,hu]
   rw[run_equalIn_struct w (d+1) ty _ _ (by rw[hfo];exact hu) hst',hfo];exact Kr hs (by simpa using hx) (by simpa using hy) hc w
  ·simp at hs
 ·rename_i n e hu;simp only[bY]at hs;obtain⟨s,h1,rfl⟩:=hs;rw[run_equalIn_array (d+1) ty e n 1 _ _ hu (cellsOf_size h1)];exact KZ h1 (by simpa using hx) (by simpa using hy) hc w
 ·simp at hs
theorem Zb{ty:TypeId}{e:EK}(hk:iW P ty=some e){a b:AV}{c:Bool}(hc:cw e a b=some c){x y:Value}(hx:V g h a x)(hy:V g h b y)(w:World):
 (Op.equal ty x y).run P w=.ok c w:=by
 unfold iW at hk
 split at hk
 ·rename_i s hs;simp only[aj]at hk;subst hk;exact A' hs hc hx hy 9999 w
 ·simp only[bY]at hk;obtain⟨ss,hss,rfl⟩:=hk
  cases a<;>cases b<;>simp only[cw,reduceCtorEq]at hc
  split at hc
  ·simp only[V]at hx hy;obtain⟨xs,rfl,hx⟩:=hx;obtain⟨ys,rfl,hy⟩:=hy;exact MH hss hx hy hc 9998 w
  ·simp at hc
end
section
variable{P:Program}{Γ:Nat->Option AV}{N:Env}{g:G}{h:List Ob}{w:World}{r:Operand->Value}{o:Oper}{t:List AV}
theorem Wn{ty:TypeId}{ms:Array (String×TypeId)}(hu:P.underlying ty=some (.interface ms))(u:TypeId)(v:Value)(d:Nat)(w:World):
 (Op.equalIn (d+1) ty .nilIface (.iface u v)).run P w=.ok false w/\(Op.equalIn (d+1) ty (.iface u v) .nilIface).run P w=.ok false w:=by
 constructor<;>simp[Op.equalIn,run_underlying hu]
theorem A1{ty:TypeId}{ms:Array (String×TypeId)}(hu:P.underlying ty=some (.interface ms))(u:TypeId)(v:Value)(w:World):
 (Op.equal ty .nilIface (.iface u v)).run P w=.ok false w/\(Op.equal ty (.iface u v) .nilIface).run P w=.ok false w:=Wn hu u v 9999 w
theorem W4{ty:TypeId}{p q:Array TypeId}{v:Bool}(hu:P.underlying ty=some (.func p q v))(f:Fn)(a b:Array Value)(d:Nat)(w:World):
 (Op.equalIn (d+1) ty .nilFunc .nilFunc).run P w=.ok true w/\(Op.equalIn (d+1) ty .nilFunc (.func f a b)).run P w=.ok false w/\(Op.equalIn (d+1) ty (.func f a b) .nilFunc).run P w=.ok false w:=by
 refine⟨?_,?_,?_⟩<;>simp[Op.equalIn,run_underlying hu]
theorem uz{ty:TypeId}{p q:Array TypeId}{v:Bool}(hu:P.underlying ty=some (.func p q v))(f:Fn)(a b:Array Value)(w:World):
 (Op.equal ty .nilFunc .nilFunc).run P w=.ok true w/\(Op.equal ty .nilFunc (.func f a b)).run P w=.ok false w/\(Op.equal ty (.func f a b) .nilFunc).run P w=.ok false w:=W4 hu f a b 9999 w
theorem sj{ty:TypeId}{x y:Value}{c:Bool}(h1:binOp .eql ty x y=(do pure (.bool (<-Op.equal ty x y))))(h2:(Op.equal ty x y).run P w=.ok c w):(binOp .eql ty x y).run P w=.ok (.bool c) w:=by
 rw[h1,Sem.run_bind,h2];rfl
theorem si{ty:TypeId}{x y:Value}{c:Bool}(h1:binOp .neq ty x y=(do pure (.bool (!(<-Op.equal ty x y)))))(h2:(Op.equal ty x y).run P w=.ok c w):(binOp .neq ty x y).run P w=.ok (.bool !c) w:=by
 rw[h1,Sem.run_bind,h2];rfl
theorem LV{ty:TypeId}{e:EK}(hk:pX P ty=some e){x y:Operand}{a b:AV}{c:Bool}(hc:cw e a b=some c)(hx:V g h a (r x))(hy:V g h b (r y))(w:World):
 (do eqGuard .eql ty x y (r x) (r y);binOp .eql ty (r x) (r y):Sem Value).run P w=.ok (.bool c) w/\
 (do eqGuard .neq ty x y (r x) (r y);binOp .neq ty (r x) (r y):Sem Value).run P w=.ok (.bool !c) w:=by
 unfold pX at hk
 split at hk
 ·rename_i s hs;simp only[aj]at hk;subst hk;have hq:=A' hs hc hx hy 9999;obtain⟨_,h1⟩:=pB hs
  cases s<;>simp only at h1<;>cases a<;>cases b<;>simp only[cw,fg,reduceCtorEq,aj]at hc
  ·obtain⟨k,hk⟩:=h1
   split at hc
   ·rename_i hkk;subst hkk;simp only[aj]at hc;subst hc;rw[eh hx,eh hy];constructor
    ·simp only[Sem.run_bind];rw[gv (by simp) (by simp)];simp[binOp,Op.intCmp]
    ·simp only[Sem.run_bind];rw[gv (by simp) (by simp)];simp[binOp,Op.intCmp,bne]
   ·simp at hc
  ·rw[jv hx,jv hy];subst hc;constructor
   ·simp only[Sem.run_bind];rw[gv (by simp) (by simp)];simp only[Result.andThen_ok,binOp,Op.stringOp,BF];rfl
   ·simp only[Sem.run_bind];rw[gv (by simp) (by simp)];simp only[Result.andThen_ok,binOp,Op.stringOp,BF];rfl
  ·rw[lM hx,lM hy]at*;subst hc;constructor
   ·simp only[Sem.run_bind];rw[gv (by simp) (by simp)];exact sj rfl (run_equal_bool w ty _ _ h1)
   ·simp only[Sem.run_bind];rw[gv (by simp) (by simp)];exact si rfl (run_equal_bool w ty _ _ h1)
 ·split at hk
  iterate 2
   ·split at hk
    ·rename_i hg
     have hg':P.eqGuardType P.depth ty=false:=by simpa using hg
     simp only[bY]at hk;obtain⟨ss,hss,rfl⟩:=hk
     cases a<;>cases b<;>simp only[cw,reduceCtorEq]at hc
     split at hc
     ·simp only[V]at hx hy;obtain⟨xs,hx1,hx⟩:=hx;obtain⟨ys,hy1,hy⟩:=hy;have:=MH hss hx hy hc 9998 w;rw[hx1,hy1];constructor
      ·simp only[Sem.run_bind];rw[run_eqGuard_agg w .eql ty x y _ _ hg'];simp only[Result.andThen_ok,run_eql_struct,this]
      ·simp only[Sem.run_bind];rw[run_eqGuard_agg w .neq ty x y _ _ hg'];simp only[Result.andThen_ok,run_neq_struct,this]
     ·simp at hc
    ·simp at hk
  ·rename_i ms hu;simp only[aj]at hk;subst hk
   cases a<;>cases b<;>simp only[cw,reduceCtorEq,aj]at hc
   all_goals
    subst hc;simp only[V]at hx hy
   ·obtain⟨y',hy,_⟩:=hy;rw[hx,hy];constructor
    ·simp only[Sem.run_bind];rw[gv (by simp) (by simp)];exact sj rfl (A1 hu _ _ w).1
    ·simp only[Sem.run_bind];rw[gv (by simp) (by simp)];exact si rfl (A1 hu _ _ w).1
   ·obtain⟨y',hx,_⟩:=hx;rw[hx,hy];constructor
    ·simp only[Sem.run_bind];rw[gv (by simp) (by simp)];exact sj rfl (A1 hu _ _ w).2
    ·simp only[Sem.run_bind];rw[gv (by simp) (by simp)];exact si rfl (A1 hu _ _ w).2
  ·rename_i p q v hu;simp only[aj]at hk;subst hk
   cases a<;>cases b<;>simp only[cw,reduceCtorEq,aj]at hc
   all_goals
    subst hc;simp only[V]at hx hy
   ·rw[hx,hy];constructor
    ·simp only[Sem.run_bind];rw[gv (by simp) (by simp)];exact sj rfl (uz hu (.func 0) #[] #[] w).1
    ·simp only[Sem.run_bind];rw[gv (by simp) (by simp)];exact si rfl (uz hu (.func 0) #[] #[] w).1
   ·obtain⟨_,_,hy,_⟩:=hy;rw[hx,hy];constructor
    ·simp only[Sem.run_bind];rw[gv (by simp) (by simp)];exact sj rfl (uz hu _ _ _ w).2.1
    ·simp only[Sem.run_bind];rw[gv (by simp) (by simp)];exact si rfl (uz hu _ _ _ w).2.1
   ·obtain⟨_,_,hx,_⟩:=hx;rw[hx,hy];constructor
    ·simp only[Sem.run_bind];rw[gv (by simp) (by simp)];exact sj rfl (uz hu _ _ _ w).2.2
    ·simp only[Sem.run_bind];rw[gv (by simp) (by simp)];exact si rfl (uz hu _ _ _ w).2.2
  ·simp at hk
theorem aep(H:Inv P Γ N g h w){ty ty':TypeId}{x y:Operand}(ho:o.op=.binOp .eql ty x y ty'){e:EK}(hk:pX P ty=some e){a b:AV}{c:Bool}(hc:cw e a b=some c)
 (hx:V g h a (r x))(hy:V g h b (r y)):aJ P Γ N r o w g h h (some (.bool c)):=by
 refine aJ.same H (u:=.bool c) ?_ (by simp[V]);have:=(LV hk hc hx hy w).1;simp only[execOp,ho];rw[Sem.run_bind,this];rfl
theorem aeM(H:Inv P Γ N g h w){ty ty':TypeId}{x y:Operand}(ho:o.op=.binOp .neq ty x y ty'){e:EK}(hk:pX P ty=some e){a b:AV}{c:Bool}(hc:cw e a b=some c)
 (hx:V g h a (r x))(hy:V g h b (r y)):aJ P Γ N r o w g h h (some (.bool !c)):=by
 refine aJ.same H (u:=.bool !c) ?_ (by simp[V]);have:=(LV hk hc hx hy w).2;simp only[execOp,ho];rw[Sem.run_bind,this];rfl
theorem DQ{ty:TypeId}{s:SK}(hs:kT P ty=some s)(em:Bool)(n:Nat)(x:Value)(w:World):(Instr.checkKey em (n+1) ty x).run P w=.ok () w:=by
 obtain⟨_,h1⟩:=pB hs
 cases s<;>simp only at h1
 ·obtain⟨k,hk⟩:=h1;simp[Instr.checkKey,run_underlying hk]
 ·simp[Instr.checkKey,run_underlying h1]
 ·simp[Instr.checkKey,run_underlying h1]
theorem KB{em:Bool}{n:Nat}:∀{fs:List Field}{ss:List SK}{i:Nat}{as:List AV}{xs:Array Value},sR P i fs=some ss->VL g h as (xs.toList.drop i)->bM ss as=true->
 ∀w:World,(forIn (m:=Sem) fs PUnit.unit fun f _=>
  if f.name≠ "_" then do
   let x<-part f.type xs f.offset
   Instr.checkKey em (n+1) f.type x
   pure (ForInStep.yield PUnit.unit)
  else pure (ForInStep.yield PUnit.unit)).run P w=.ok PUnit.unit w
 |[],ss,i,as,xs,hf,hx,hc,w=>by simp
 |f::fs,ss,i,as,xs,hf,hx,hc,w=>by
  simp only[sR]at hf
  split at hf
  ·rename_i s ss' hs hss
   split at hf
   ·rename_i hn;simp only[ay,bne_iff_ne,ne_eq,mo]at hn;simp only[aj]at hf;subst hf
    cases as with
    |nil=>simp[bM]at hc
    |cons a as=>
     simp only[VL]at hx;obtain⟨x,xs',hx1,hx2,hx3⟩:=hx
     have hxi:xs[i]? =some x:=by
      have:=congrArg (·[0]?) hx1;simp[oj]at this;exact this
     have hxd:xs.toList.drop (i+1)=xs':=by rw[<-zT,hx1];rfl
     simp only[bM,ay]at hc;have hp1:=tQ hs hxi w;have ih:=KB (em:=em) (n:=n) (xs:=xs) hss (by rw[hxd];exact hx3) hc.2 w;rw[List.forIn_cons];simp only[Sem.run_bind,hn.1,ne_eq,not_false_eq_true,cG,hn.2,hp1,Result.andThen_ok,DQ hs,Sem.run_pure];exact ih
   ·simp at hf
  ·simp at hf
theorem LF{em:Bool}{n:Nat}{e:TypeId}{s:SK}(hs:kT P e=some s):∀{m i:Nat}{as:List AV}{xs:Array Value},VL g h as (xs.toList.drop i)->bM (List.replicate m s) as=true->
 ∀w:World,(forIn (m:=Sem) (List.range' i m) PUnit.unit fun i _=>do
  Instr.checkKey em (n+1) e (<-part e xs (i*(<-sizeOf e)))
  pure (ForInStep.yield PUnit.unit)).run P w=.ok PUnit.unit w
 |0,i,as,xs,hx,hc,w=>by simp
 |m+1,i,as,xs,hx,hc,w=>by
  cases as with
  |nil=>simp[lA,bM]at hc
  |cons a as=>
   simp only[VL]at hx;obtain⟨x,xs',hx1,hx2,hx3⟩:=hx
   have hxi:xs[i]? =some x:=by
    have:=congrArg (·[0]?) hx1;simp[oj]at this;exact this
   have hxd:xs.toList.drop (i+1)=xs':=by rw[<-zT,hx1];rfl
   simp only[lA,bM,ay]at hc;have hp1:=tQ hs hxi w;have ih:=LF (em:=em) (n:=n) hs (xs:=xs) (by rw[hxd];exact hx3) hc.2 w;rw[List.range'_succ,List.forIn_cons];simp only[Sem.run_bind,iV (cellsOf_size hs),Nat.mul_one,hp1,Result.andThen_ok,DQ hs,Sem.run_pure];exact ih
theorem Vx{ty:TypeId}{e:EK}(hk:iW P ty=some e){a:AV}(ha:isKey e a=true){x:Value}(hx:V g h a x)(em:Bool)(n:Nat)(w:World):(Instr.checkKey em (n+2) ty x).run P w=.ok () w:=by
 unfold iW at hk
 split at hk
 ·rename_i s hs;exact DQ hs em (n+1) x w
 ·simp only[bY]at hk;obtain⟨ss,hss,rfl⟩:=hk
  cases a<;>simp only[isKey,ez]at ha
  simp only[V]at hx;obtain⟨xs,rfl,hx⟩:=hx;unfold vq at hss
  split at hss
  ·rename_i fs hu
   split at hss
   ·have:=KB (em:=em) (n:=n) (xs:=xs.toArray) hss (by simpa using hx) ha w;rw[show n+2=(n+1)+1 from rfl,Instr.checkKey];simp only[Sem.run_bind,run_underlying hu,Result.andThen_ok];rw[<-Array.forIn_toList];rw[this];rfl
   ·simp at hss
  ·rename_i m e hu;simp only[bY]at hss;obtain⟨s,h1,rfl⟩:=hss;have:=LF (em:=em) (n:=n) h1 (i:=0) (xs:=xs.toArray) (by simpa using hx) ha w;rw[show n+2=(n+1)+1 from rfl,Instr.checkKey];simp only[Sem.run_bind,run_underlying hu,Result.andThen_ok];rw[asE];simp only[Std.Legacy.Range.size,DB,Nat.add_sub_cancel,Nat.div_one];rw[this];rfl
  ·simp at hss
theorem run_checkKey{ty:TypeId}{e:EK}(hk:iW P ty=some e){a:AV}(ha:isKey e a=true){x:Value}(hx:V g h a x)(em:Bool)(w:World):(Instr.checkKey em 10000 ty x).run P w=.ok () w:=
 Vx hk ha hx em 9998 w
def findAt(e:EK)(k:AV):List (AV×AV)->Option (Option Nat)
 |[]=>some none
 |(a,_)::es=>
  match cw e k a with
  |some true=>some (some 0)
  |some false=>(findAt e k es).map (·.map (·+1))
  |none=>none
theorem Mq{e:EK}{k:AV}:∀{es:List (AV×AV)}{q:Option AV},eT e k es=some q->∃p,findAt e k es=some p/\match p with|none=>q=none|some i=>∃x,es[i]? =some x/\q=some x.2
 |[],q,hq=>by simp only[eT,aj]at hq;exact⟨none,rfl,hq.symm⟩
 |(a,v)::es,q,hq=>by
  simp only[eT]at hq;simp only[findAt]
  split at hq
  ·rename_i h1;simp only[aj]at hq;exact⟨some 0,by first|rw[h1]|rfl,_,rfl,hq.symm⟩
  ·rename_i h1;obtain⟨p,h2,h3⟩:=Mq hq
   first|rw[h1,h2]|rw[h2]
   cases p with
   |none=>exact⟨none,rfl,h3⟩
   |some i=>exact⟨some (i+1),rfl,by simpa using h3⟩
  ·simp at hq
theorem M9{e:EK}{k v:AV}:∀{es es':List (AV×AV)},i_ e k v es=some es'->∃p,findAt e k es=some p/\match p with|none=>es'=es++[(k,v)]|some i=>i<es.length/\es'=es.set i (k,v)
 |[],es',hq=>by simp only[i_,aj]at hq;exact⟨none,rfl,by simp[<-hq]⟩
 |(a,u)::es,es',hq=>by
  simp only[i_]at hq;simp only[findAt]
  split at hq
  ·rename_i h1;simp only[aj]at hq;exact⟨some 0,by first|rw[h1]|rfl,by simp,by simp[<-hq]⟩
  ·rename_i h1;simp only[bY]at hq;obtain⟨es2,h4,h5⟩:=hq;obtain⟨p,h2,h3⟩:=M9 h4
   first|rw[h1,h2]|rw[h2]
   cases p with
   |none=>exact⟨none,rfl,by simp[<-h5,h3]⟩
   |some i=>exact⟨some (i+1),rfl,by simpa using h3.1,by simp[<-h5,h3.2]⟩
  ·simp at hq
theorem NS{e:EK}{k:AV}:∀{es es':List (AV×AV)},mW e k es=some es'->∃p,findAt e k es=some p/\match p with|none=>es'=es|some i=>i<es.length/\es'=es.eraseIdx i
 |[],es',hq=>by simp only[mW,aj]at hq;exact⟨none,rfl,by simp[<-hq]⟩
 |(a,u)::es,es',hq=>by
  simp only[mW]at hq;simp only[findAt]
  split at hq
  ·rename_i h1;simp only[aj]at hq;exact⟨some 0,by first|rw[h1]|rfl,by simp,by simp[<-hq]⟩
  ·rename_i h1;simp only[bY]at hq;obtain⟨es2,h4,h5⟩:=hq;obtain⟨p,h2,h3⟩:=NS h4
   first|rw[h1,h2]|rw[h2]
   cases p with
   |none=>exact⟨none,rfl,by simp[<-h5,h3]⟩
   |some i=>exact⟨some (i+1),rfl,by simpa using h3.1,by simp[<-h5,h3.2]⟩
  ·simp at hq
theorem Kf{ty:TypeId}{e:EK}(hk:iW P ty=some e){k:AV}{x:Value}(hx:V g h k x):∀{es:List (AV×AV)}{bd:List MapEntry}{p:Option Nat}(j:Nat),VL g h (es.map (·.1)) (bd.map (·.key))->
 findAt e k es=some p->∀w:World,(Instr.findAsking ty x bd j).run P w=.ok (p.bind fun i=>(bd[i]?).map fun m=>(j+i,m.val)) w
 |[],bd,p,j,hv,hp,w=>by
  simp only[iT,VL]at hv
  have:bd=[]:=by simpa using hv
  subst this;simp only[findAt,aj]at hp;subst hp;simp[Instr.findAsking]
 |(a,v)::es,bd,p,j,hv,hp,w=>by
  simp only[bL,VL]at hv;obtain⟨y,ys,h1,h2,h3⟩:=hv
  cases bd with
  |nil=>simp at h1
  |cons m bd=>
   simp only[bL,zU]at h1;obtain⟨rfl,rfl⟩:=h1;simp only[findAt]at hp
   cases he:cw e k a with
   |none=>simp[he]at hp
   |some c=>
    have hq:=Zb hk he hx h2 w;simp only[he]at hp;simp only[Instr.findAsking,Sem.run_bind,hq,Result.andThen_ok]
    cases c
    ·simp only[bY]at hp;obtain⟨p',hp',rfl⟩:=hp;simp only[ez,cT];rw[Kf hk hx (j+1) h3 hp' w]
     cases p' with
     |none=>simp
     |some i=>simp[kJ,Nat.add_comm 1 i]
    ·simp only[aj]at hp;subst hp;simp
theorem findNow_spec{ty:TypeId}{s:SK}(hs:kT P ty=some s){d:TypeDesc}(hd:P.underlying ty=some d){k:AV}{x:Value}(hx:V g h k x):
 ∀{es:List (AV×AV)}{bd:List MapEntry}{p:Option Nat}(j:Nat),VL g h (es.map (·.1)) (bd.map (·.key))->
 findAt (.sc s) k es=some p->Instr.findNow d x bd j=some (p.bind fun i=>(bd[i]?).map fun m=>(j+i,m.val))
 |[],bd,p,j,hv,hp=>by
  simp only[iT,VL]at hv
  have:bd=[]:=by simpa using hv
  subst this;simp only[findAt,aj]at hp;subst hp;simp[Instr.findNow]
 |(a,v)::es,bd,p,j,hv,hp=>by
  simp only[bL,VL]at hv;obtain⟨y,ys,h1,h2,h3⟩:=hv
  cases bd with
  |nil=>simp at h1
  |cons m bd=>
   simp only[bL,zU]at h1;obtain⟨rfl,rfl⟩:=h1;simp only[findAt]at hp
   cases he:cw (.sc s) k a with
   |none=>simp[he]at hp
   |some c=>
    have hq:Instr.sameNow d x m.key=some c:=by
     obtain⟨_,h1⟩:=pB hs;simp only[cw]at he
     cases s<;>simp only at h1<;>cases k<;>cases a<;>simp only[fg,reduceCtorEq,aj]at he
     ·obtain⟨k',hk'⟩:=h1;rw[hk']at hd;simp only[aj]at hd;subst hd;rw[eh hx,eh h2];simpa[Instr.sameNow]using he
     ·rw[h1]at hd;simp only[aj]at hd;subst hd;rw[jv hx,jv h2];simp only[Instr.sameNow,MK,he]
     ·rw[h1]at hd;simp only[aj]at hd;subst hd;rw[lM hx,lM h2];simp only[Instr.sameNow,he]
    simp only[he]at hp;simp only[Instr.findNow,hq]
    cases c
    ·simp only[bY]at hp;obtain⟨p',hp',rfl⟩:=hp;simp only;rw[findNow_spec hs hd hx (j+1) h3 hp']
     cases p' with
     |none=>simp
     |some i=>simp[kJ,Nat.add_comm 1 i]
    ·simp only[aj]at hp;subst hp;simp
theorem Xf{d:TypeDesc}{x:Value}(hd:(∃fs,d=.struct fs)\/∃n e,d=.array n e):∀(bd:List MapEntry)(j:Nat),Instr.findNow d x bd j=if bd=[]then some none else none
 |[],j=>by simp[Instr.findNow]
 |m::bd,j=>by
  have:Instr.sameNow d x m.key=none:=by
   rcases hd with⟨fs,rfl⟩|⟨n,e,rfl⟩<;>cases x<;>cases m.key<;>rfl
  simp[Instr.findNow,this]
theorem run_findKey{ty:TypeId}{e:EK}(hk:iW P ty=some e){k:AV}{x:Value}(hx:V g h k x){es:List (AV×AV)}{bd:List MapEntry}{p:Option Nat}(hv:VL g h (es.map (·.1)) (bd.map (·.key)))
 (hp:findAt e k es=some p)(w:World):(Instr.findKey ty x bd).run P w=.ok (p.bind fun i=>(bd[i]?).map fun m=>(i,m.val)) w:=by
 have hk0:=hk;unfold iW at hk
 split at hk
 ·rename_i s hs;simp only[aj]at hk;subst hk
  have hu:∃d,P.underlying ty=some d:=by
   obtain⟨_,h2⟩:=pB hs
   cases s<;>simp only at h2
   ·exact⟨_,h2.choose_spec⟩
   ·exact⟨_,h2⟩
   ·exact⟨_,h2⟩
  obtain⟨d,hd⟩:=hu;simp[Instr.findKey,run_underlying hd,findNow_spec hs hd hx 0 hv hp]
 ·simp only[bY]at hk;obtain⟨ss,hss,rfl⟩:=hk
  have hu:∃d,P.underlying ty=some d/\((∃fs,d=.struct fs)\/∃n e,d=.array n e):=by
   unfold vq at hss
   split at hss
   ·rename_i fs hu;exact⟨_,hu,Or.inl ⟨_,rfl⟩⟩
   ·rename_i n e hu;exact⟨_,hu,Or.inr ⟨_,_,rfl⟩⟩
   ·simp at hss
  obtain⟨d,hd,hd'⟩:=hu;have h1:=Kf hk0 hx 0 hv hp w;simp only[iv]at h1;simp only[Instr.findKey,Sem.run_bind,run_underlying hd,Result.andThen_ok,Xf hd']
  by_cases h0:bd=[]
  ·subst h0
   have:es=[]:=by
    have:=fQ hv;simpa using this.symm
   subst this;simp only[findAt,aj]at hp;subst hp;simp
  ·simp only[h0,cT];exact h1
theorem EL{es:List (AV×AV)}{bd:List MapEntry}(hv:VL g h (es.map (·.1)) (bd.map (·.key))):bd.length=es.length:=by have:=fQ hv;simpa using this
theorem MU(H:Inv P Γ N g h w){ty kt et:TypeId}{x i:Operand}{ok:Bool}(ho:o.op=.lookup ty x i ok)(hu:P.underlying ty=some (.map kt et)){e:EK}(hk:iW P kt=some e){z:AV}
 (hz:dW P et=some z){k:AV}(hi:V g h k (r i))(hkey:isKey e k=true){es:List (AV×AV)}{a:AV}(hx:V g h a (r x))
 (ha:(a=.cO/\es=[])\/(∃ks vs,a=.dH ks vs/\es=ks.zip vs)\/∃j fl,a=.mp j/\h[j]? =some (.map es fl)){q:Option AV}(hq:eT e k es=some q){v:AV}
 (hv:v=match q with|some u=>(if ok then .aE [u,.bool true]else u)|none=>if ok then .aE [z,.bool false]else z):aJ P Γ N r o w g h h (some v):=by
 obtain⟨zv,hzr,rfl⟩:=F_ hz w
 have hm:∃(bd:Array MapEntry),VL g h (es.map (·.1)) (bd.toList.map (·.key))/\VL g h (es.map (·.2)) (bd.toList.map (·.val))/\
  ((r x=.map none/\bd=#[])\/∃b ck,r x=.map (some b)/\w.heap[b]? =some (.map bd ck)):=by
  rcases ha with⟨rfl,rfl⟩|⟨ks,vs,rfl,rfl⟩|⟨j,fl,rfl,hj⟩
  ·simp only[V]at hx;exact⟨#[],by simp[VL],by simp[VL],Or.inl ⟨hx,rfl⟩⟩
  ·simp only[V]at hx;obtain⟨b,bd,ck,h1,h2,h3,h4⟩:=hx
   have hl:ks.length=vs.length:=by
    have a1:=fQ h3;have a2:=fQ h4
    simp at a1 a2;omega
   refine⟨bd,?_,?_,Or.inr ⟨b,ck,h1,(H.mm b bd ck h2).1⟩⟩
   ·rw[JD (by omega)];exact h3
   ·rw[List.map_snd_zip (by omega)];exact h4
  ·simp only[V]at hx;obtain⟨_,b,sz,hρ,h1⟩:=hx;obtain⟨_,h2⟩:=H.ob j _ hj;obtain⟨bd,ck,h3,h4,h5⟩:=h2 b sz 0 hρ;exact⟨bd,h4,h5,Or.inr ⟨b,ck,h1,h3⟩⟩
 obtain⟨bd,h1,h2,h3⟩:=hm;obtain⟨p,hp1,hp2⟩:=Mq hq;have hf:=run_findKey hk hi h1 hp1 w
 have hck:=fun em=>run_checkKey hk hkey hi em w
 have hrun:∃u,(Instr.lookup ty (r x) (r i) ok).run P w=.ok u w/\V g h v u:=by
  have hgo:∀(y:Value)(b:Bool),p.bind (fun i=>(bd.toList[i]?).map fun m=>(i,m.val))=(if b then p.map fun i=>(i,y)else none)->(b=false->p=none/\y=zv)->(b=true->p.isSome)->
   (Instr.lookup ty (r x) (r i) ok).run P w=.ok (if ok then .tuple #[y,.bool b]else y) w:=by
   intro y b hb hb0 hb1;rw[hb]at hf
   rcases h3 with⟨h3,rfl⟩|⟨bk,ck,h3,h4⟩
   ·cases b
    ·obtain⟨rfl,rfl⟩:=hb0 rfl;simp[Instr.lookup,run_underlying hu,h3,hck,hf,hzr]
    ·obtain⟨j,rfl⟩:=JC.1 (hb1 rfl);simp[Instr.lookup,run_underlying hu,h3,hck,hf]
   ·have hg:(getObj bk).run P w=.ok (.map bd ck) w:=by simp only[getObj,Sem.run,h4]
    cases b
    ·obtain⟨rfl,rfl⟩:=hb0 rfl;simp[Instr.lookup,run_underlying hu,h3,hg,hck,hf,hzr]
    ·obtain⟨j,rfl⟩:=JC.1 (hb1 rfl);simp[Instr.lookup,run_underlying hu,h3,hg,hck,hf]
  cases p with
  |none=>
   simp only at hp2;subst hp2;subst hv;refine⟨_,hgo zv false (by simp) (fun _=>⟨rfl,rfl⟩) (by simp),?_⟩
   cases ok
   ·exact nR g h zv
   ·simp only[cG,V,VL];exact⟨[zv,.bool false],rfl,_,_,rfl,nR g h zv,_,_,rfl,rfl,rfl⟩
  |some j=>
   obtain⟨y,hy1,rfl⟩:=hp2;obtain⟨u,hu1,hu2⟩:=qX (i:=j) (a:=y.2) h2 (by simp[hy1]);simp only[gK,bY]at hu1;obtain⟨m,hm1,rfl⟩:=hu1;subst hv;refine⟨_,hgo m.val true (by simp only[j9,hm1,dO,cG]) (by simp) (by simp),?_⟩
   cases ok
   ·exact hu2
   ·simp only[cG,V,VL];exact⟨[m.val,.bool true],rfl,_,_,rfl,hu2,_,_,rfl,rfl,rfl⟩
 obtain⟨u,hu1,hu2⟩:=hrun;exact aJ.same H (u:=u) (by simp[execOp,ho,hu1]) hu2
end
section
variable{P:Program}{Γ:Nat->Option AV}{N:Env}{g:G}{h:List Ob}{w:World}{r:Operand->Value}{o:Oper}{t:List AV}
theorem uN(c:Array Value):m_ c (0,0):=Or.inl rfl
theorem lG(w:World)(o:Obj):(w.alloc o).heap[w.heap.size]? =some o:=by
 show(w.heap.push o)[w.heap.size]? =_
 simp
theorem xO(w:World)(o:Obj):∀b,b<w.heap.size->(w.alloc o).heap[b]? =w.heap[b]? :=fun b hb=>Below.heap_alloc w o b hb
theorem aJ.make(H:Inv P Γ N g h w){x:AV}{u:Value}{w':World}(hh:w'.heap=w.heap)(hos:w'.os=w.os)(htp:w'.tape=w.tape)(hout:w'.output=w.output){b:Obj}{o':Ob}{os:List Ob}{sz:Nat}
 (hr:(execOp r o).run P w=.ok (.value u) (w'.alloc b))
 (hob:OV P (g.bD h.length (some (w.heap.size,sz,0))) (h++o'::os) (w'.alloc b) h.length o')
 (hobs:∀j o,os[j]? =some o->OV P (g.bD h.length (some (w.heap.size,sz,0))) (h++o'::os) (w'.alloc b) (h.length+1+j) o)
 (hv:V (g.bD h.length (some (w.heap.size,sz,0))) (h++o'::os) x u):aJ P Γ N r o w g h (h++o'::os) (some x):=by
 have hs:w'.heap.size=w.heap.size:=by rw[hh]
 refine⟨_,_,_,hr,H.push hos htp hout (fun b' hb=>?_) ?_ ?_ hob hobs,Ext.push _ _,u,rfl,hv⟩
 ·rw[xO _ _ _ (by omega),hh]
 ·simp;omega
 ·intro b' x hx;simp only[aj,bX]at hx;obtain⟨rfl,_⟩:=hx
  simp;omega
theorem qW(h:List Ob)(o:Ob)(os:List Ob):(h++o::os)[h.length]? =some o:=by simp
theorem K_(h:List Ob)(o:Ob)(os:List Ob)(j:Nat):(h++o::os)[h.length+1+j]? =os[j]? :=by
 rw[df (by omega),show h.length+1+j-h.length=j+1 by omega,nC]
theorem aem(H:Inv P Γ N g h w){ty:TypeId}{x:Operand}(ho:o.op=.box ty x){a:AV}(ha:V g h a (r x))(h1:b9 a.cells=true):
 aJ P Γ N r o w g h (h++[.cells a.cells]) (some (.ptr h.length 0)):=by
 have hc:=pQ (qS h1) ha;refine aJ.make H (w':=w) rfl rfl rfl rfl (b:=.cells (r x).cells ty) (sz:=0) (u:=.pointer (some ⟨w.heap.size,0,none⟩)) ?_ ?_ (by simp) ?_
 ·simp[execOp,ho,Instr.box,newVar,newRow]
 ·intro b sz st hb;rw[cV]at hb;simp only[aj,bX]at hb;obtain⟨rfl,rfl,rfl⟩:=hb;exact⟨_,_,_,lG _ _,uN _,cv (Ext.push _ _) (di hc) hc⟩
 ·simp only[V];exact⟨⟨_,qW _ _ _⟩,_,_,cV _ _ _,rfl⟩
theorem Bd{g':G}{h':List Ob}:∀{as:List AV}{vs:List Value}{z:List AV}{n:Nat},qw as vs=some z->(∀j o,(cd n z).2[j]? =some o->h'[n+j]? =some o)->
 VL g' h' (cd n z).1 vs/\∀o∈(cd n z).2,∃k E,o=.row (k+1) E [] none true false
 |[],[],z,n,hz,_=>by simp only[qw,aj]at hz;subst hz;simp[cd,VL]
 |[],_::_,z,n,hz,_=>by simp[qw]at hz
 |_::_,[],z,n,hz,_=>by simp[qw]at hz
 |a::as,v::vs,z,n,hz,hh=>by
  simp only[qw,bY]at hz;obtain⟨z',hz',rfl⟩:=hz
  have hone:(∃k E,eD n (BQ a v)=(.sl n 0 0,[.row (k+1) E [] none true false])/\v=.slice none 0 0)\/eD n (BQ a v)=(kq v,[]):=by
   unfold BQ
   split
   ·left;exact⟨_,_,rfl,rfl⟩
   ·right
    have:∀k E es,kq v≠.own k E es:=by
     intro k E es hc;unfold kq at hc
     split at hc<;>cases hc
    revert this
    cases kq v<;>intro this<;>first|rfl|exact absurd rfl (this _ _ _)
  simp only[cd]at hh⊢
  rcases hone with⟨k,E,h1,rfl⟩|h1
  ·rw[h1]at hh⊢;simp only[tA,tB]at hh⊢
   obtain⟨h2,h3⟩:=Bd (n:=n+1) hz' (by
    intro j o hj;have:=hh (j+1) o (by simpa using hj)
    rwa[show n+(j+1)=n+1+j by omega]at this)
   refine⟨?_,?_⟩
   ·simp only[VL,V];refine⟨_,_,rfl,?_,h2⟩;have:=hh 0 _ (by simp;rfl);exact⟨k+1,E,[],none,true,false,by simpa using this,by simp,none,0,rfl,by simp,by simp,fun _=>⟨by simp,Or.inl ⟨rfl,rfl⟩⟩⟩
   ·intro o ho
    rcases bo.1 ho with rfl|ho
    ·exact⟨k,E,rfl⟩
    ·exact h3 o ho
  ·rw[h1]at hh⊢;simp only[c9,kK,gM]at hh⊢;obtain⟨h2,h3⟩:=Bd (n:=n) hz' hh;refine⟨?_,h3⟩;simp only[VL];exact⟨_,_,rfl,uK _ _ _,h2⟩
theorem aaS(H:Inv P Γ N g h w){ty:TypeId}(ho:o.op=.alloc ty){zv:Value}(hz:(P.info? ty).bind (·.zero)=some zv){as z:List AV}(hzf:qw as zv.cells.toList=some z):
 aJ P Γ N r o w g h (h++.cells (cd (h.length+1) z).1::(cd (h.length+1) z).2) (some (.ptr h.length 0)):=by
 have hzr:(zeroValue ty).run P w=.ok zv w:=by
  cases hi:P.info? ty with
  |none=>simp[hi]at hz
  |some i=>simp[hi]at hz;simp[zeroValue,typeInfo,hi,hz]
 refine aJ.make H (w':=w) rfl rfl rfl rfl (b:=.cells zv.cells ty) (sz:=0) (u:=.pointer (some ⟨w.heap.size,0,none⟩)) ?_ ?_ ?_ ?_
 ·simp[execOp,ho,Instr.alloc,hzr,newVar,newRow]
 ·intro b sz st hb;rw[cV]at hb;simp only[aj,bX]at hb;obtain⟨rfl,rfl,rfl⟩:=hb;exact⟨_,_,_,lG _ _,uN _,(Bd hzf (fun j o hj=>by rw[K_];exact hj)).1⟩
 ·intro j o hj;obtain⟨k,E,rfl⟩:=(Bd (g':=g) (h':=h++.gone::(cd (h.length+1) z).2) hzf (fun j o hj=>by rw[K_];exact hj)).2 o (iw hj);simp only[OV];refine⟨by omega,by simp,fun _=>rfl,by simp,?_⟩;rw[gO _ _ (by omega),H.pf _ (by omega)];trivial
 ·simp only[V];exact⟨⟨_,qW _ _ _⟩,_,_,cV _ _ _,rfl⟩
theorem Y5(H:Inv P Γ N g h w)(ho:o.op=.assign (.const (.slice none 0 0)))(hr:r (.const (.slice none 0 0))=.slice none 0 0){k:Nat}(hk:0<k)(E:TypeId):
 aJ P Γ N r o w g h (h++[.row k E [] none true false]) (some (.sl h.length 0 0)):=by
 refine⟨g.bD h.length none,w,.value (.slice none 0 0),by simp[execOp,ho,hr],H.push rfl rfl rfl (fun _ _=>rfl) (aO _) (by simp) ?_ (by simp),Ext.push _ _,_,rfl,?_⟩
 ·simp only[OV];exact⟨hk,by simp,fun _=>rfl,by simp,by rw[cV];trivial⟩
 ·simp only[V];exact⟨k,E,[],none,true,false,qW _ _ _,by simp,none,0,rfl,by simp,by simp,fun _=>⟨by simp,Or.inl ⟨rfl,rfl⟩⟩⟩
theorem aaO(H:Inv P Γ N g h w){ty:TypeId}(ho:o.op=.makeMap ty none):aJ P Γ N r o w g h (h++[.map [] true]) (some (.mp h.length)):=by
 refine aJ.make H (w':=w) rfl rfl rfl rfl (b:=.map #[] 0) (sz:=0) (u:=.map (some w.heap.size)) ?_ ?_ (by simp) ?_
 ·simp[execOp,ho,Instr.makeMap]
 ·refine⟨fun _=>rfl,?_⟩;intro b sz st hb;rw[cV]at hb;simp only[aj,bX]at hb;obtain⟨rfl,rfl,rfl⟩:=hb;exact⟨_,_,lG _ _,by simp[VL],by simp[VL]⟩
 ·simp only[V];exact⟨⟨_,_,qW _ _ _⟩,_,_,cV _ _ _,rfl⟩
theorem ab5(H:Inv P Γ N g h w){ty:TypeId}{x:Operand}(ho:o.op=.range ty x)(hu:P.underlying ty=some .string){s:List UInt8}(hx:r x=.string ⟨s.toArray⟩):
 aJ P Γ N r o w g h (h++[.iL s 0]) (some (.it h.length)):=by
 refine aJ.make H (w':=w) rfl rfl rfl rfl (b:=.stringIter ⟨s.toArray⟩ 0) (sz:=0) (u:=.pointer (some ⟨w.heap.size,0,none⟩)) ?_ ?_ (by simp) ?_
 ·simp[execOp,ho,hx,Instr.range,run_underlying hu]
 ·intro b sz st hb;rw[cV]at hb;simp only[aj,bX]at hb;obtain⟨rfl,rfl,rfl⟩:=hb;exact lG _ _
 ·simp only[V];exact⟨⟨_,_,qW _ _ _⟩,_,_,cV _ _ _,rfl⟩
theorem BT{g':G}{w':World}{k:Nat}{E ty:TypeId}{es:List AV}{cs:List Value}{rest:List Value}{fz:Nat×Nat}{b sz:Nat}(hk:0<k)(hK:dZ k es){fl:Bool}(hfl:fl=true->cr es k=true)
 (hb:g'.ρ h.length=some (b,sz,0))(hw:w'.heap[b]? =some (.cells (cs++rest).toArray ty fz))(hsz:sz=(cs++rest).length)(hfree:m_ (cs++rest).toArray fz)
 {os:List Ob}{sh:Bool}(hE:VE g' (h++.row k E es none fl sh::os) es cs):OV P g' (h++.row k E es none fl sh::os) w' h.length (.row k E es none fl sh):=by
 simp only[OV];refine⟨hk,hK,hfl,by simp,?_⟩;rw[hb];simp only;refine⟨by simp,_,_,_,cs,hw,by simp[hsz],hfree,by simpa using hE,?_⟩;intro j hj;simp[cz hj,hj]
theorem A5{g':G}{k:Nat}{E:TypeId}{es:List AV}{b sz cap:Nat}(hb:g'.ρ h.length=some (b,sz,0))(hcap:es.length<=cap)(hsz:cap*k<=sz){os:List Ob}{fl sh:Bool}:
 V g' (h++.row k E es none fl sh::os) (.sl h.length 0 es.length) (.slice (some ⟨b,0,none⟩) es.length cap):=by
 simp only[V];refine⟨k,E,es,none,fl,sh,qW _ _ _,by simp,_,cap,rfl,hcap,fun _=>⟨b,0,rfl⟩,fun _=>⟨by omega,Or.inr ⟨b,sz,0,hb,by simp,by simp,by simpa using hsz⟩⟩⟩
theorem tZ{a:AV}{v:Value}(ha:V g h a v):∀n:Nat,VE g h (List.replicate n a) (List.replicate n v.cells.toList).flatten
 |0=>by simp[VE]
 |n+1=>by
  simp only[lA,List.flatten_cons,VE];exact⟨v,_,ha,rfl,tZ ha n⟩
theorem tO{a:AV}{k:Nat}(h1:a.cells.length=k)(h2:b9 a.cells=true)(h3:aL 0 a.cells=true):∀n:Nat,cr (List.replicate n a) k=true
 |0=>rfl
 |n+1=>by simp only[lA,cr,ay,aW];exact⟨⟨⟨h1,h2⟩,h3⟩,tO h1 h2 h3 n⟩
end
theorem uG{c d:Array Value}{fz:Nat×Nat}(h:m_ c fz)(hs:d.size=c.size):m_ d fz:=h.imp id fun h=>by omega
theorem Aq(P:Program)(b o:Nat)(E:TypeId)(fz:Nat×Nat):∀(vs:List Value)(i:Nat)(cur:Array Value)(w:World),w.heap[b]? =some (.cells cur E fz)->m_ cur fz->
 o+i+vs.length<=cur.size->(∀v∈vs,v.oneCell'=true)->
 (storeCells ⟨b,o,none⟩ vs i).run P w=.ok () (w.setRow b (cur.toList.take (o+i)++vs++cur.toList.drop (o+i+vs.length)).toArray)
 |[],i,cur,w,hg,_,_,_=>by
  simp only[storeCells,eR,c9,gM,mn,Array.toArray_toList];rw[setRow_self w b cur E fz hg];rfl
 |v::rest,i,cur,w,hg,hf,hl,h1=>by
  have hi:o+i<cur.size:=by simp at hl;omega
  have hcell:w.cell? ⟨b,o+i,none⟩=some cur[o+i]:=by simp[World.cell?,hg,hi]
  have hfro:w.frozen? ⟨b,o+i,none⟩=false:=by
   simp only[World.frozen?,hg];exact hf.at hi
  have hst:(store ((⟨b,o,none⟩:Addr).add i) v).run P w=.ok () (w.setRow b (cur.setIfInBounds (o+i) v)):=by
   rw[kS,run_store P w _ v _ (h1 v (by simp)),hcell];simp[hfro,setCell_eq_setRow w b (o+i) cur E fz v hg]
  have ih:=Aq P b o E fz rest (i+1) (cur.setIfInBounds (o+i) v) (w.setRow b (cur.setIfInBounds (o+i) v)) (setRow_heap w b cur _ E _ hg) (uG hf (by simp)) (by simp at hl⊢;omega)
   (fun x hx=>h1 x (by simp[hx]))
  simp only[storeCells,Sem.run_bind,hst,Result.andThen_ok,ih,setRow_setRow];congr 3;have e:=list_seg_step cur.toList (o+i) v rest (by simp at hl⊢;omega);simpa[JB,kJ]using e
def eu{α:Type}(l:List α)(m:Nat)(s:List α):List α:=l.take m++s++l.drop (m+s.length)
theorem nN{α:Type}{l s:List α}{m:Nat}(hm:m+s.length<=l.length)(x:Nat):(eu l m s)[x]? =if x<m then l[x]? else if x<m+s.length then s[x-m]? else l[x]? :=by
 unfold eu
 have hmm:min m l.length=m:=by omega
 by_cases h1:x<m
 ·rw[if_pos h1,cM,cz (by simp;omega),qI,if_pos h1]
 ·rw[if_neg h1]
  by_cases h2:x<m+s.length
  ·rw[if_pos h2,cM,df (by simp;omega),cz (by simp;omega)];simp[hmm]
  ·rw[if_neg h2,df (by simp;omega),oj];congr 1;simp;omega
theorem qR{α:Type}{l s:List α}{m:Nat}(hm:m+s.length<=l.length):(eu l m s).length=l.length:=by
 simp[eu];omega
theorem V4{α:Type}{vs v s:List α}{j k q:Nat}(hj:j+k<=vs.length)(hv:v=(vs.drop j).take k)(hq:q+s.length<=k):eu vs j (eu v q s)=eu vs (j+q) s:=by
 have hvl:v.length=k:=by rw[hv];simp;omega
 have hsl:(eu v q s).length=k:=by rw[qR (by omega),hvl]
 apply iy;intro x;have e1:=nN (l:=vs) (s:=eu v q s) (m:=j) (by omega) x;have e2:=nN (l:=vs) (s:=s) (m:=j+q) (by omega) x;rw[e1,e2,hsl]
 by_cases h1:x<j
 ·rw[if_pos h1,if_pos (by omega)]
 ·rw[if_neg h1]
  by_cases h2:x<j+k
  ·rw[if_pos h2,nN (by omega)]
   have hvx:v[x-j]? =vs[x]? :=by
    rw[hv,qI,if_pos (by omega),oj]
    congr 1;omega
   by_cases h3:x<j+q
   ·rw[if_pos (by omega),if_pos h3,hvx]
   ·rw[if_neg (by omega),if_neg h3]
    by_cases h4:x<j+q+s.length
    ·rw[if_pos (by omega),if_pos h4]
     congr 1;omega
    ·rw[if_neg (by omega),if_neg h4,hvx]
  ·rw[if_neg h2,if_neg (by omega),if_neg (by omega)]
theorem GW{g:G}{h:List Ob}{k:Nat}:∀{es:List AV}{vs:List Value}{i:Nat}{a:AV}{u:Value},dZ k es->VE g h es vs->i<es.length->V g h a u->u.cells.toList.length=k->
 VE g h (es.set i a) (eu vs (i*k) u.cells.toList)
 |[],vs,i,a,u,_,_,hi,_,_=>by simp at hi
 |e::es,vs,i,a,u,hk,hv,hi,ha,hl=>by
  simp only[VE]at hv;obtain⟨v,vs',h1,rfl,hr⟩:=hv;have he:=hk e (by simp)
  have hvl:v.cells.toList.length=k:=by rw[D3 he.2 h1,he.1]
  cases i with
  |zero=>
   simp only[vZ,VE,wb,eu,zV,kK,iv];refine⟨u,vs',ha,?_,hr⟩;rw[hl,v8,<-hvl,v_];simp
  |succ i=>
   have ih:=GW (fun x hx=>hk x (by simp[hx])) hr (by simpa using hi) ha hl;simp only[rM,VE];refine⟨v,_,h1,?_,ih⟩;simp only[eu];rw[fO,Nat.one_mul,List.take_append,v8,hvl,cJ (by omega),bT (by omega)];simp only[kK,cM];congr 3
   ·congr 1;omega
   ·congr 1;omega
theorem LC:∀{l:List AV},b9 l=true↔∀a∈l,a.one=true
 |[]=>by simp[b9]
 |a::l=>by simp[b9,LC (l:=l)]
section
variable{P:Program}{Γ:Nat->Option AV}{N:Env}{g:G}{h:List Ob}{w:World}{r:Operand->Value}{o:Oper}{t:List AV}
theorem Ext.E7{i:Nat}{vs vs':List AV}(hi:h[i]? =some (.cells vs)):Ext h.length g h (g.bD i (g.ρ i)) (h.set i (.cells vs')):=by
 have hil:=ba hi
 have hρ:∀j,(g.bD i (g.ρ i)).ρ j=g.ρ j:=fun j=>by by_cases hj:j=i;·subst hj;rw[cV]
                                                  ·rw[gO _ _ hj]
 have ho:∀{j x},j≠i->h[j]? =some x->(h.set i (.cells vs'))[j]? =some x:=fun{j x} hj hx=>by rw[dK (by omega)];exact hx
 refine⟨fun _ _ _ x=>x,fun _ _ x=>x,?_,?_,?_,?_,?_,?_⟩
 ·intro j us _ hj
  by_cases hji:j=i
  ·subst hji;exact⟨⟨vs',eL hil⟩,fun x hx=>by rw[hρ];exact hx⟩
  ·exact⟨⟨us,ho hji hj⟩,fun x hx=>by rw[hρ];exact hx⟩
 ·intro j es fl _ hj
  have hji:j≠i:=by rintro rfl;rw[hi]at hj;cases hj
  exact⟨⟨_,_,ho hji hj⟩,fun x hx=>by rw[hρ];exact hx⟩
 ·intro j es fl _ hj
  have hji:j≠i:=by rintro rfl;rw[hi]at hj;cases hj
  exact⟨⟨_,_,ho hji hj⟩,fun x hx=>by rw[hρ];exact hx⟩
 ·intro j st q fn t ps a b _ hj
  have hji:j≠i:=by rintro rfl;rw[hi]at hj;cases hj
  exact⟨⟨_,_,ho hji hj⟩,fun x hx=>by rw[hρ];exact hx⟩
 ·intro j l _ hj
  have hji:j≠i:=by rintro rfl;rw[hi]at hj;cases hj
  exact⟨⟨_,ho hji hj⟩,fun x hx=>by rw[hρ];exact hx⟩
 ·intro j k E es gr fl sh _ hj
  have hji:j≠i:=by rintro rfl;rw[hi]at hj;cases hj
  exact⟨_,_,_,_,_,ho hji hj,aO _,fun _ _ _ hk=>⟨hk,rfl,fun x hx=>by rw[hρ];exact hx⟩⟩
theorem Ext.pS{i:Nat}{k:Nat}{E E':TypeId}{es es':List AV}{gr gr':Option Nat}{fl fl' sh sh':Bool}{ρ':Option (Nat×Nat×Nat)}(hi:h[i]? =some (.row k E es gr fl sh))(hl:es.length<=es'.length)
 (hq:∀off m,off+m<=es.length->cE es' gr' off m=true->cE es gr off m=true/\es'.length=es.length/\∀x,g.ρ i=some x->ρ'=some x):
 Ext h.length g h (g.bD i ρ') (h.set i (.row k E' es' gr' fl' sh')):=by
 have hil:=ba hi
 have hρ:∀j,j≠i->(g.bD i ρ').ρ j=g.ρ j:=fun j hj=>gO _ _ hj
 have ho:∀{j x},j≠i->h[j]? =some x->(h.set i (.row k E' es' gr' fl' sh'))[j]? =some x:=fun{j x} hj hx=>by rw[dK (by omega)];exact hx
 refine⟨fun _ _ _ x=>x,fun _ _ x=>x,?_,?_,?_,?_,?_,?_⟩
 ·intro j us _ hj
  have hji:j≠i:=by rintro rfl;rw[hi]at hj;cases hj
  exact⟨⟨us,ho hji hj⟩,fun x hx=>by rw[hρ _ hji];exact hx⟩
 ·intro j es fl _ hj
  have hji:j≠i:=by rintro rfl;rw[hi]at hj;cases hj
  exact⟨⟨_,_,ho hji hj⟩,fun x hx=>by rw[hρ _ hji];exact hx⟩
 ·intro j es fl _ hj
  have hji:j≠i:=by rintro rfl;rw[hi]at hj;cases hj
  exact⟨⟨_,_,ho hji hj⟩,fun x hx=>by rw[hρ _ hji];exact hx⟩
 ·intro j st q fn t ps a b _ hj
  have hji:j≠i:=by rintro rfl;rw[hi]at hj;cases hj
  exact⟨⟨_,_,ho hji hj⟩,fun x hx=>by rw[hρ _ hji];exact hx⟩
 ·intro j l _ hj
  have hji:j≠i:=by rintro rfl;rw[hi]at hj;cases hj
  exact⟨⟨_,ho hji hj⟩,fun x hx=>by rw[hρ _ hji];exact hx⟩
 ·intro j k' E2 es2 gr2 fl2 sh2 _ hj
  by_cases hji:j=i
  ·subst hji;rw[hi]at hj;simp only[aj,Ob.row.injEq]at hj;obtain⟨rfl,rfl,rfl,rfl,rfl,rfl⟩:=hj;refine⟨_,_,_,_,_,eL hil,hl,fun off m hom hok=>?_⟩;obtain⟨q1,q2,q3⟩:=hq off m hom hok;exact⟨q1,q2,fun x hx=>by rw[cV];exact q3 x hx⟩
  ·exact⟨_,_,_,_,_,ho hji hj,aO _,fun _ _ _ hk=>⟨hk,rfl,fun x hx=>by rw[hρ _ hji];exact hx⟩⟩
theorem cU(g:G)(i:Nat):g.bD i (g.ρ i)=g:=by
 cases g
 simp only[G.bD];congr 1
 funext j
 split
 ·rename_i hj;subst hj;rfl
 ·rfl
theorem Inv.write{i b:Nat}{x:Nat×Nat}{o':Ob}{c c':Array Value}{E:TypeId}{fz:Nat×Nat}(H:Inv P Γ N g h w)(hil:i<h.length)(hρ:g.ρ i=some (b,x))(hb:w.heap[b]? =some (.cells c E fz))
 (hE:Ext h.length g h g (h.set i o'))(hM:∀o v,g.M b o=some v->c'[o]? =c[o]?)
 (hm:∀sz st o v,g.ρ i=some (b,sz,st)->g.M b o=some v->∃k E es gr fl,o'=.row k E es gr fl true/\o<(es.length-st)*k)
 (hob:OV P g (h.set i o') (w.setRow b c') i o'):Inv P Γ N g (h.set i o') (w.setRow b c'):=by
 have hlt:b<w.heap.size:=(H.own i b x hρ).2
 have:=Inv.set (r:=g.ρ i) (w':=w.setRow b c') H hil (by rw[cU];exact hE) rfl rfl rfl (fun b' _ hne=>setRow_other w b b' c' (fun e=>hne x (by rw[e];exact hρ))) (by simp)
  (fun b' y hy=>⟨Or.inl ⟨y,hy⟩,by simp;exact(H.own i b' y hy).2⟩) (by
   intro b' y o v hy hv;rw[hρ]at hy;simp only[aj,bX]at hy;obtain⟨rfl,rfl⟩:=hy;have h0:=H.mem b o v hv;rw[cell_of_row w b o c E fz hb]at h0
   rw[cell_of_row _ b o c' E fz (setRow_heap w b c c' E fz hb),hM o v hv,h0])
  (by
   intro b' sz st o v hy hv;rw[hρ]at hy
   have hbb:b'=b:=by simp only[aj,bX]at hy;exact hy.1.symm
   subst hbb
   exact hm sz st o v (hρ.trans hy) hv)
  (by rw[cU];exact hob)
 rw[cU]at this;exact this
theorem M8{cs new:List AV}{vs ns:List Value}{off:Nat}(h1:VL g h cs vs)(h2:VL g h new ns):VL g h (over cs off new) (vs.take off++ns++vs.drop (off+ns.length)):=Pl h1 h2
theorem WV{cs new:List AV}{off:Nat}(hl:off+new.length<=cs.length):(over cs off new).length=cs.length:=by
 unfold over;simp;omega
theorem V'{e:AV}{cs:List AV}(h1:b9 e.cells=true)(h2:cs.length=e.cells.length)(h3:b9 cs=true):(eS cs e).cells=cs:=by
 cases e<;>simp only[AV.cells,b9,AV.one,ez,po]at h1 h2<;>first
  |rfl
  |(match cs,h2,h3 with
    |[c],_,h3=>
     simp only[b9,po]at h3;simp only[eS]
     cases c<;>first|rfl|simp[AV.one]at h3)
theorem Zc{e:AV}{v:Value}{cs:List AV}{vs:List Value}(h1:b9 e.cells=true)(he:V g h e v)(h2:cs.length=e.cells.length)(h3:b9 cs=true)(hv:VL g h cs vs):
 ∃u,V g h (eS cs e) u/\u.cells.toList=vs:=by
 by_cases ha:∃ds,e=.agg ds
 ·obtain⟨ds,rfl⟩:=ha;exact⟨.agg vs.toArray,by simp only[eS,V];exact⟨vs,rfl,hv⟩,by simp[Value.cells]⟩
 ·have hc:e.cells=[e]:=by cases e<;>first|rfl|exact absurd ⟨_,rfl⟩ ha
  rw[hc]at h2
  match cs,h2,h3,hv with
  |[c],_,h3,hv=>
   simp only[VL]at hv;obtain⟨u,_,rfl,hu,rfl⟩:=hv;simp only[b9,po]at h3
   have:eS [c] e=c:=by cases e<;>first|rfl|exact absurd ⟨_,rfl⟩ ha
   rw[this];exact⟨u,hu,by rw[Eo h3 hu]⟩
theorem aaH(H:Inv P Γ N g h w){ty:TypeId}{p x:Operand}(ho:o.op=.store ty p x){sz:Nat}(h2:bu P ty=some sz){a b:AV}(hp:V g h a (r p))(hx:V g h b (r x)){h':List Ob}
 (hs:vg h sz a b=some h'):aJ P Γ N r o w g h h' none:=by
 simp only[vg]at hs
 split at hs
 ·rename_i hb;obtain⟨hbl,hbo⟩:=hb;have hbc:=pQ (qS hbo) hx;have hbn:=fQ hbc
  have hrun:∀(bk m:Nat)(c:Array Value)(E:TypeId)(fz:Nat×Nat),r p=.pointer (some ⟨bk,m,none⟩)->w.heap[bk]? =some (.cells c E fz)->m_ c fz->m+sz<=c.size->
   (execOp r o).run P w=.ok .skip (w.setRow bk (c.toList.take m++(r x).cells.toList++c.toList.drop (m+sz)).toArray):=by
   intro bk m c E fz hrp hbk hfree hms;have h3:=Aq P bk m E fz (r x).cells.toList 0 c w hbk hfree (by omega) (DV hbo hbc)
   have h4:(r x).cells.size=sz:=by rw[<-hbl,<-hbn];simp
   rw[gM,show m+(r x).cells.toList.length=m+sz by omega]at h3;simp[execOp,ho,hrp,Instr.storeAt,Instr.sureAddr,storeVar,iV h2,h4,h3]
  split at hs
  ·rename_i i off
   split at hs
   ·rename_i cs hi
    split at hs
    ·rename_i hle;simp only[aj]at hs;subst hs;simp only[V]at hp;obtain⟨_,bk,s,hρ,hrp⟩:=hp;obtain⟨c,E,fz,hw,hfree,hv⟩:=H.ob i _ hi bk s 0 hρ;have hcl:=fQ hv
     have hE:Ext h.length g h g (h.set i (.cells (over cs off b.cells))):=by have:=Ext.E7 (g:=g) (vs':=over cs off b.cells) hi;rwa[cU]at this
     have hov:=M8 (off:=off) (cv hE (di hv) hv) (cv hE (di hbc) hbc);rw[hbn,hbl]at hov;refine⟨g,_,_,hrun bk off c E fz hrp hw hfree (by simp at hcl;omega),Inv.write H (ba hi) hρ hw hE ?_ ?_ ?_,hE,rfl⟩
     ·intro o v hv;obtain⟨k,E,es,gr,fl,h5,_⟩:=H.eE i bk s 0 o v hρ hv;rw[hi]at h5
      cases h5
     ·intro sz' st o v hρ' hv;obtain⟨k,E,es,gr,fl,h5,_⟩:=H.eE i bk sz' st o v hρ' hv;rw[hi]at h5
      cases h5
     ·intro b' s' st' hb';rw[hρ]at hb';simp only[aj,bX]at hb';obtain⟨rfl,rfl,rfl⟩:=hb';refine⟨_,E,fz,setRow_heap w bk c _ E fz hw,uG hfree ?_,by simpa using hov⟩
      have h4:(r x).cells.size=sz:=by rw[<-hbl,<-hbn];simp
      have h5:c.size=cs.length:=by rw[<-hcl];simp
      simp only[qK,bq,eA,we,JA];omega
    ·simp at hs
   ·simp at hs
  ·rename_i i off n k' ix q
   split at hs
   ·rename_i k E es gr fl hi
    split at hs
    ·rename_i hc;obtain⟨rfl,hok,hix⟩:=hc
     split at hs
     ·rename_i e he
      split at hs
      ·rename_i hle;simp only[aj]at hs;subst hs;simp only[V]at hp;obtain⟨u,bk,p0,hu,hbase,_,hrp⟩:=hp;have hil:=ba hi;have ho0:=H.ob i _ hi;simp only[OV]at ho0;obtain⟨hk0,hK,hfl,hgl,hb⟩:=ho0;obtain⟨k2,E2,es2,gr2,fl2,sh2,hi2,hle2,ad,cap,rfl,hcap,hn,hq⟩:=hu;rw[hi]at hi2;simp only[aj,Ob.row.injEq]at hi2;obtain⟨rfl,rfl,rfl,rfl,rfl,rfl⟩:=hi2;obtain⟨hlc,hq⟩:=hq hok
       rcases hq with⟨h0,_⟩|⟨bk',s,st,hρ,hst,rfl,hcs⟩
       ·omega
       simp only[Cn,aj,Addr.mk.injEq,rO]at hbase;obtain⟨rfl,rfl⟩:=hbase;rw[hρ]at hb;simp only at hb;obtain⟨hst',c,E',fz,vs,hw,hsz,hfree,hVE,hcells⟩:=hb
       have hlo:gr.getD 0<=off:=by
        cases gr with
        |none=>simp
        |some lo=>simp only[cE,ay,aW]at hok;simpa using hok.1
       have hKe:=hK e (iw he)
       have hKd:dZ k' (es.drop (gr.getD 0)):=fun x hx=>hK x (jI hx)
       have hlen:=iC hKd hVE
       have hdl:(es.drop (gr.getD 0)).length=es.length-gr.getD 0:=by simp
       have hel:=ba he
       have hed:(es.drop (gr.getD 0))[off+ix-gr.getD 0]? =some e:=by rw[oj,show gr.getD 0+(off+ix-gr.getD 0)=off+ix by omega];exact he
       obtain⟨v,hve,hvc⟩:=GV hKd hVE hed;have hvcl:=fQ (pQ (qS hKe.2) hve);have hol:(over e.cells q b.cells).length=e.cells.length:=WV (by rw[hbl,hKe.1];exact hle)
       have hoo:b9 (over e.cells q b.cells)=true:=by
        rw[LC]at*;intro y hy;simp only[over,aN]at hy
        rcases hy with(hy|hy)|hy
        ·exact hKe.2 y (j8 hy)
        ·exact hbo y hy
        ·exact hKe.2 y (jI hy)
       have hoc:=V' hKe.2 hol hoo
       have hE:Ext h.length g h g (h.set i (.row k' E (es.set (off+ix) (eS (over e.cells q b.cells) e)) gr (fl&&aL 0 b.cells) false)):=by
        have:=Ext.pS (g:=g) (E':=E) (es':=es.set (off+ix) (eS (over e.cells q b.cells) e)) (gr':=gr) (fl':=fl&&aL 0 b.cells) (sh':=false) (ρ':=g.ρ i) hi (by simp) (by
         intro off' m _ h1;refine⟨?_,by simp,fun _ h=>h⟩
         cases gr<;>simpa[cE]using h1)
        rwa[cU]at this
       have hov:VL g h (over e.cells q b.cells) (v.cells.toList.take q++(r x).cells.toList++v.cells.toList.drop (q+sz)):=by
        have:=M8 (off:=q) (pQ (qS hKe.2) hve) hbc;rwa[hbn,hbl]at this
       obtain⟨u',hu',huc⟩:=Zc hKe.2 hve hol hoo hov
       have epos:(off-st)*k'+ix*k'+q=(gr.getD 0-st)*k'+((off+ix-gr.getD 0)*k'+q):=by
        have e1:(off-st)*k'+ix*k'=(off+ix-st)*k':=by rw[<-fO];congr 1;omega
        have e2:(gr.getD 0-st)*k'+(off+ix-gr.getD 0)*k'=(off+ix-st)*k':=by rw[<-fO];congr 1;omega
        omega
       have hjb:(off+ix-gr.getD 0)*k'+k'<=vs.length:=by
        rw[hlen,hdl]
        have:(off+ix-gr.getD 0)*k'+k'=(off+ix-gr.getD 0+1)*k':=by rw[fO,Nat.one_mul]
        rw[this];exact lC _ (by omega)
       have hvsz:(gr.getD 0-st)*k'+vs.length<=c.size:=by
        by_cases h0:vs.length=0
        ·have:=hK;omega
        ·have h5:=hcells (vs.length-1) (by omega)
         have h6:(gr.getD 0-st)*k'+(vs.length-1)<c.size:=by
          rcases lB ((gr.getD 0-st)*k'+(vs.length-1)) c.size with h7|h7
          ·exact h7
          ·simp[pk h7]at h5
         omega
       have hr:=hrun bk' ((off-st)*k'+ix*k'+q) c E' fz hrp hw hfree (by rw[epos];omega)
       have hnoM:∀o v,g.M bk' o=some v->False:=by
        intro o v hv;obtain⟨_,_,_,_,_,h5,_⟩:=H.eE i bk' s st o v hρ hv;rw[hi]at h5;simp at h5
       refine⟨g,_,_,hr,Inv.write H hil hρ hw hE (fun o v hv=>(hnoM o v hv).elim) (fun sz' st' o v _ hv=>(hnoM o v hv).elim) ?_,hE,rfl⟩;simp only[OV];refine⟨hk0,?_,?_,by simpa using hgl,?_⟩
       ·intro y hy
        rcases pq hy with hy|rfl
        ·exact hK y hy
        ·rw[hoc];exact⟨hol.trans hKe.1,hoo⟩
       ·intro hfb;simp only[ay]at hfb;rw[ES];have:=ES.1 (hfl hfb.1);refine⟨?_,?_⟩
        ·intro y hy
         rcases pq hy with hy|rfl
         ·exact hK y hy
         ·rw[hoc];exact⟨hol.trans hKe.1,hoo⟩
        ·intro y hy
         rcases pq hy with hy|rfl
         ·exact this.2 y hy
         ·rw[hoc];have hbe:=this.2 e (iw he)
          have hsplit:∀{l:List AV},aL 0 l=true↔∀a∈l,aK 0 a=true:=by
           intro l;induction l with
           |nil=>simp[aL]
           |cons a l ih=>simp[aL,ih]
          rw[hsplit]at*;intro z hz;simp only[over,aN]at hz
          rcases hz with(hz|hz)|hz
          ·exact hbe z (j8 hz)
          ·exact hfb.2 z hz
          ·exact hbe z (jI hz)
       ·rw[hρ];simp only
        have hucl:u'.cells.toList.length=k':=by rw[huc];simp;rw[<-we,hvcl,hKe.1];have:=hbn;simp at this;omega
        have h4:(r x).cells.toList.length=sz:=by rw[<-hbl,<-hbn]
        have hset:=GW (i:=off+ix-gr.getD 0) hKd hVE (by rw[hdl];omega) hu' hucl
        have hvv:v.cells.toList=(vs.drop ((off+ix-gr.getD 0)*k')).take k':=by
         apply iy;intro y;rw[qI,oj]
         by_cases hy:y<k'
         ·rw[if_pos hy]
          have:y<v.cells.toList.length:=by rw[hvcl,hKe.1];exact hy
          rw[aM this];exact(hvc y _ (aM this)).symm
         ·rw[if_neg hy,fu (by rw[hvcl,hKe.1];omega)]
        have hsp:eu vs ((off+ix-gr.getD 0)*k') u'.cells.toList=eu vs ((off+ix-gr.getD 0)*k'+q) (r x).cells.toList:=by
         rw[huc,<-V4 (k:=k') hjb hvv (by rw[h4];exact hle)];simp only[eu,h4]
        rw[hsp]at hset
        have hm:(off-st)*k'+ix*k'+q+(r x).cells.toList.length<=c.toList.length:=by rw[epos,h4];simp;omega
        have hcs:c.toList.take ((off-st)*k'+ix*k'+q)++(r x).cells.toList++c.toList.drop ((off-st)*k'+ix*k'+q+sz)=eu c.toList ((off-st)*k'+ix*k'+q) (r x).cells.toList:=by
         simp only[eu,h4]
        rw[hcs];have hsl:=qR hm;refine⟨hst',_,E',fz,eu vs ((off+ix-gr.getD 0)*k'+q) (r x).cells.toList,setRow_heap w bk' c _ E' fz hw,?_,uG hfree ?_,?_,?_⟩
        ·simp only[qK];rw[hsl];simpa using hsz
        ·simp only[qK];rw[hsl];simp
        ·rw[List.drop_set,if_neg (by omega)];exact fS hE (ku hset) hset
        ·intro j hj;have hj2:=nN (l:=vs) (s:=(r x).cells.toList) (m:=(off+ix-gr.getD 0)*k'+q) (by omega) j;rw[aM hj]at hj2;rw[pr,nN hm,hj2,epos];rw[qR (by omega)]at hj
         by_cases h7:j<(off+ix-gr.getD 0)*k'+q
         ·rw[if_pos (by omega),if_pos h7];have:=hcells j hj;rw[aM hj,<-this];simp
         ·rw[if_neg (by omega),if_neg h7]
          by_cases h8:j<(off+ix-gr.getD 0)*k'+q+(r x).cells.toList.length
          ·rw[if_pos (by omega),if_pos h8]
           congr 1;omega
          ·rw[if_neg (by omega),if_neg h8];have:=hcells j hj;rw[aM hj,<-this];simp
      ·simp at hs
     ·simp at hs
    ·simp at hs
   ·simp at hs
  ·simp at hs
 ·simp at hs
end
end Go.AM
