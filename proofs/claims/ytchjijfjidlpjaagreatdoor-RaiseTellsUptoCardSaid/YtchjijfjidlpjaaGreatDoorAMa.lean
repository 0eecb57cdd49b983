/- The abstract machine: values, objects, compiled code. Nothing here speaks of one program. -/
import Derived.WalkKit
set_option linter.unusedSimpArgs false
set_option linter.unusedVariables false
namespace Go.AM
abbrev al:=@Option.some.injEq
abbrev aC:=@Bool.and_eq_true
abbrev aU:=@Nat.le_refl
abbrev a8:=@decide_eq_true_eq
abbrev a_:=@List.getElem?_eq_getElem
abbrev ba:=@List.mem_append
abbrev bl:=@eq_true
abbrev bp:=@List.length_append
abbrev bq:=@List.drop_eq_nil_of_le
abbrev br:=@List.drop_eq_getElem_cons
abbrev bw:=@List.mem_cons
abbrev bz:=@List.getD_eq_getElem?_getD
abbrev bC:=@List.length_cons
abbrev bH:=@Prod.mk.injEq
abbrev bN:=@Option.map_eq_some_iff
abbrev bY:=@if_true
abbrev bZ:=@List.getElem_mem
abbrev cv:=@List.map_cons
abbrev cE:=@if_false
abbrev cF:=@List.take_of_length_le
abbrev cG:=@List.mem_singleton
abbrev cN:=@List.length_nil
abbrev cS:=@Int.eq_ofNat_of_zero_le
abbrev cZ:=@Int.toNat_natCast
abbrev c8:=@List.append_assoc
abbrev db:=@List.mem_map
abbrev dh:=@List.mem_filter
abbrev dk:=@List.getElem?_append_left
abbrev dm:=@List.mem_cons_of_mem
abbrev dw:=@List.mem_range
abbrev dK:=@List.getElem?_set_ne
abbrev dL:=@List.all_eq_true
abbrev dU:=@Bool.false_eq_true
abbrev dV:=@List.drop_zero
abbrev eb:=@Option.map_some
abbrev ek:=@List.cons_append
abbrev eL:=@List.append_nil
abbrev e_:=@List.getElem?_append_right
abbrev fa:=@Nat.add_mul
abbrev fc:=@List.length_take
abbrev fQ:=@List.mem_of_getElem?
abbrev fR:=@Bool.or_eq_true
abbrev fS:=@Array.getD_eq_getD_getElem?
abbrev gn:=@List.getElem?_set_self
abbrev gp:=@Array.ext'
abbrev gq:=@eq_false
abbrev gK:=@decide_eq_false_iff_not
abbrev gL:=@Bool.eq_iff_iff
abbrev gY:=@Nat.zero_add
abbrev gZ:=@Option.getD_some
abbrev g_:=@Int.natCast_ediv
abbrev iA:=@List.mem_of_mem_drop
abbrev iB:=@List.length_map
abbrev iC:=@List.map_nil
abbrev iD:=@Array.getElem?_eq_getElem
abbrev jb:=@Option.bind_some
abbrev jc:=@List.getElem?_map
abbrev jd:=@Nat.add_zero
abbrev je:=@Bool.not_eq_true'
abbrev jG:=@Nat.lt_or_ge
abbrev jH:=@List.mem_of_mem_take
abbrev jI:=@Bool.or_eq_false_iff
abbrev jJ:=@List.mem_append_left
abbrev jK:=@List.getElem_of_mem
abbrev kp:=@List.length_set
abbrev kq:=@Nat.mul_le_mul_right
abbrev ku:=@List.length_replicate
abbrev k_:=@List.length_eq_zero_iff
abbrev lf:=@List.map_map
abbrev lg:=@List.nil_append
abbrev lh:=@List.ext_getElem?
abbrev lj:=@List.map_set
abbrev lp:=@Bool.false_or
abbrev mh:=@List.getElem?_eq_none
abbrev mi:=@or_false
abbrev mj:=@Nat.add_assoc
abbrev ml:=@beq_iff_eq
abbrev mn:=@List.getElem?_set
abbrev mo:=@Iff.rfl
abbrev mq:=@Int.natCast_add
abbrev mr:=@List.not_mem_nil
abbrev nh:=@Nat.lt_of_lt_of_le
abbrev ni:=@List.getElem?_cons_succ
abbrev nj:=@List.getElem?_drop
abbrev nk:=@List.map_append
abbrev nn:=@List.flatMap_cons
abbrev n_:=@Array.getElem?_eq_none
abbrev oa:=@List.take_append_drop
abbrev oc:=@List.getElem?_toArray
abbrev od:=@List.mem_flatMap
abbrev oe:=@Option.bind_eq_some_iff
abbrev oh:=@List.mem_cons_self
abbrev oj:=@Int.natCast_emod
abbrev om:=@List.nodup_append
abbrev oo:=@List.nodup_cons
abbrev pC:=@List.getElem?_take
abbrev pD:=@and_true
abbrev pE:=@Bool.not_true
abbrev pF:=@Bool.and_true
abbrev pG:=@List.size_toArray
abbrev pH:=@List.getElem?_cons_zero
abbrev pI:=@Option.bind_eq_bind
abbrev pJ:=@List.getElem?_eq_some_iff
abbrev pK:=@List.map_congr_left
abbrev pL:=@decide_false
abbrev pM:=@Bool.and_assoc
abbrev pN:=@List.take_succ_eq_append_getElem
abbrev qN:=@List.replicate_succ
abbrev qO:=@Nat.le_trans
abbrev qP:=@Nat.min_eq_left
abbrev qQ:=@List.length_range
abbrev qR:=@Array.all_toList
abbrev sw:=@List.foldl_cons
abbrev sx:=@List.all_cons
abbrev sy:=@List.mapM_cons
abbrev sA:=@List.singleton_append
abbrev sB:=@Option.getD_none
abbrev sC:=@Array.getElem?_setIfInBounds
abbrev sD:=@List.mem_append_right
abbrev uP:=@List.set_cons_succ
abbrev uQ:=@Go.block_lt_of_cell
abbrev uR:=@List.drop_length
abbrev uS:=@Nat.zero_mul
abbrev uT:=@true_and
abbrev uU:=@Bool.not_false
abbrev uV:=@Array.length_toList
abbrev uW:=@List.length_pos_iff
abbrev uX:=@Bool.and_self
abbrev uY:=@List.mem_iff_getElem?
abbrev uZ:=@List.filterMap_cons
abbrev u0:=@List.getElem_cons_succ
abbrev u5:=@beq_eq_false_iff_ne
abbrev u6:=@List.filter_cons
abbrev xi:=@Nat.zero_le
abbrev xj:=@List.set_cons_zero
abbrev xk:=@List.getElem_take
abbrev xl:=@List.tail_drop
abbrev xm:=@Nat.sub_zero
abbrev xn:=@List.cons.injEq
abbrev xo:=@List.length_singleton
abbrev xp:=@List.mem_or_eq_of_mem_set
abbrev xq:=@List.getElem_append_left
abbrev xr:=@Array.getElem?_toList
abbrev xt:=@List.getElem?_modify
abbrev xu:=@Bool.not_eq_false
abbrev xv:=@List.contains_eq_mem
abbrev xw:=@List.getElem?_take_of_lt
abbrev xx:=@Nat.add_sub_cancel_left
abbrev xy:=@Decidable.byContradiction
abbrev xz:=@decide_eq_true
abbrev B7:=@List.drop_append
abbrev B8:=@Array.foldl_toList
abbrev B9:=@Decidable.not_not
abbrev B_:=@List.zip_cons_cons
abbrev Ca:=@List.length_pos_of_mem
abbrev Cb:=@Bool.true_and
abbrev Cc:=@List.contains_iff_mem
abbrev Cd:=@Nat.xor_zero
abbrev Ce:=@List.nodup_iff_pairwise_ne
abbrev HF:=@Nat.lt_trichotomy
abbrev HG:=@List.take_length
abbrev HH:=@List.length_drop
abbrev HI:=@Array.toList_setIfInBounds
abbrev HJ:=@Option.isSome_iff_exists
abbrev HK:=@Nat.mul_eq_zero
abbrev HL:=@beq_self_eq_true
abbrev HM:=@List.nodup_range
abbrev HN:=@List.exists_mem_of_length_pos
abbrev HO:=@List.filter_eq_self
abbrev HP:=@Nat.min_eq_right
abbrev HQ:=@List.mem_map_of_mem
abbrev HR:=@List.getElem?_replicate
abbrev HT:=@BitVec.toNat_ofInt
abbrev HU:=@List.getElem_cons_zero
abbrev HV:=@forall_eq_or_imp
abbrev HW:=@Classical.byContradiction
abbrev HX:=@Bool.eq_false_iff
abbrev HY:=@List.take_left'
abbrev HZ:=@decide_eq_false
abbrev QX:=@List.take_succ_cons
abbrev QY:=@List.forall_mem_cons
abbrev QZ:=@List.length_erase_of_mem
abbrev Q0:=@List.mem_zipIdx_iff_getElem?
abbrev Q1:=@List.reverse_singleton
abbrev Q2:=@Array.getElem?_replicate
abbrev Q3:=@Nat.eq_zero_or_pos
abbrev Q4:=@List.count_pos_iff
abbrev Q5:=@List.getElem?_range
abbrev Q6:=@List.contains_cons
abbrev Q7:=@Bool.not_eq_false'
abbrev Q8:=@List.append_eq_nil_iff
abbrev Q9:=@List.eq_nil_iff_forall_not_mem
abbrev Q_:=@List.mem_iff_getElem
abbrev Q':=@List.getElem_set_ne
abbrev aoj:=@Std.Legacy.Range.forIn_eq_forIn_range'
inductive AV where
 |undef
 |bool (b:Bool)
 |int (k:IntKind) (n:Int)
 |str (s:List UInt8)
 |iq|eu|ei|dZ
 |list (full:Bool) (k:Nat) (es:List AV)
 |own (k:Nat) (E:TypeId) (es:List AV)
 |sl (i off n:Nat)
 |cL (a:AV) (k ix off:Nat)
 |ptr (i off:Nat)
 |dF (g off:Nat)
 |mp (i:Nat)
 |de (ks vs:List AV)
 |it (i:Nat)
 |agg (cs:List AV)
 |aL (vs:List AV)
 |fn (f:Fn) (first cap:List AV)
 |dA (i:Nat)
 |bX (t:TypeId) (v:AV)
 deriving Inhabited,Repr
def jj:Value->AV
 |.bool b=>.bool b
 |.int k n=>.int k n
 |.string s=>.str s.data.toList
 |.pointer none=>.iq
 |.map none=>.eu
 |.nilFunc=>.ei
 |.nilIface=>.dZ
 |.slice none 0 0=>.list true 0 []
 |_=>.undef
def fw:Value->AV
 |.agg cs=>.agg (cs.toList.map jj)
 |.iface t v=>.bX t (jj v)
 |.tuple vs=>.aL (vs.toList.map jj)
 |v=>jj v
def AV.cells:AV->List AV
 |.agg cs=>cs
 |a=>[a]
def AV.ok:AV->Bool
 |.aL _|.undef|.own _ _ _=>false
 |_=>true
def AV.one:AV->Bool
 |.agg _|.aL _|.undef|.own _ _ _=>false
 |_=>true
inductive AX where
 |t (i:Nat)
 |c (v:AV)
 |g (n:Nat)
 |f (n:Nat)
 deriving Inhabited,Repr
inductive CK where
 |eql|neq|lss|leq|gtr|geq
 deriving DecidableEq,Inhabited,Repr
inductive IB where
 |add|sub|mul|quo|rem|and|or|xor|andNot|shl|shr
 deriving DecidableEq,Inhabited,Repr
inductive SK where
 |int|str|bool
 deriving DecidableEq,Inhabited,Repr
inductive EK where
 |sc (s:SK)
 |gQ (ks:List SK)
 |iface
 |nil
 deriving DecidableEq,Inhabited,Repr
inductive AO where
 |mv (x:AX)
 |eN (k:Nat) (E:TypeId)
 |pick (c a b:AX)
 |alloc (z:List AV)
 |box (n:Nat) (x:AX)
 |build (z:List AV) (parts:List (Nat×Nat×AX))
 |lit (k:Nat) (zs:List AV) (parts:List (Nat×AX))
 |load (agg:Bool) (sz:Nat) (a:AX)
 |store (sz:Nat) (a x:AX)
 |bG (x:AX)
 |aV (op:IB) (x y:AX)
 |cmp (op:CK) (e:EK) (x y:AX)
 |concat (x y:AX)
 |not (x:AX)
 |neg (x:AX)
 |Fi (x:AX)
 |conv (k:IntKind) (x:AX)
 |same (x:AX)
 |iL (neg:Bool) (x:AX)
 |mark (x:AX)
 |Ao (E:TypeId) (x:AX)
 |toStr (x:AX)
 |oE (t:TypeId) (x:AX)
 |jl (f:Fn) (first cap:List AX)
 |mkMap
 |mkSlice (k:Nat) (E:TypeId) (bytes:Nat) (z:AV) (n c:AX)
 |zO (x:AX) (lo hi:Option AX)
 |slice (k:Nat) (x:AX) (lo hi:Option AX)
 |slice3 (k:Nat) (x:AX) (lo:Option AX) (hi mx:AX)
 |off (n:Nat) (x:AX)
 |Gj (agg:Bool) (off sz:Nat) (x:AX)
 |ic (k:Nat) (x i:AX)
 |cT (n k:Nat) (x i:AX)
 |wy (x i:AX)
 |Fk (n:Nat) (agg:Bool) (k:Nat) (x i:AX)
 |lookup (e:EK) (z:AV) (x i:AX) (ok:Bool)
 |bA (e:EK) (m k x:AX)
 |range (x:AX)
 |next (x:AX)
 |z7 (x:AX) (t:TypeId) (z:AV) (ok:Bool)
 |extract (x:AX) (i:Nat)
 |len (x:AX)
 |oQ (x:AX)
 |cap (x:AX)
 |EV (n:Nat)
 |wg (x:AX)
 |append (k:Nat) (E:TypeId) (bytes:Nat) (x y:AX)
 |tP (k:Nat) (E:TypeId) (bytes:Nat) (z:AV) (x n:AX)
 |delete (e:EK) (m k:AX)
 |clear (k:Nat) (z:AV) (x:AX)
 |min (xs:List AX)
 |max (xs:List AX)
 |recover
 |panic (x:AX)
 |call (f:AX) (args:List AX)
 |invoke (x:AX) (name:String) (args:List AX)
 |defer (f:AX) (args:List AX)
 deriving Inhabited,Repr
structure AG where
 dst:Option Nat
 guard:Option (Nat×Bool)
 op:AO
 deriving Inhabited,Repr
inductive an where
 |skip
 |ae (ops:List AG)
 |aR (loose:List Bool) (fin:List Nat) (ops:List AG)
 |eH (afters:List (List Nat)) (ops:List AG)
 |seq (a b:an)
 |cond (c:AX) (a b:an)
 |block (id:Nat) (mask:List Bool) (c:an)
 |loop (mask:List Bool) (c:an)
 |rangeFunc (f:AX) (params:List Nat) (mask:List Bool) (assign body:an)
 |exit (id:Nat)
 |ret
 |bad
 deriving Inhabited,Repr
inductive pq where
 |tmp (t:Nat)
 |cell (a:Nat) (agg:Bool) (sz:Nat)
 deriving Inhabited,Repr
structure aM where
 body:an
 nt:Nat
 res:List pq
 deriving Inhabited,Repr
inductive Jump where
 |none
 |ret
 |exit (id:Nat)
 deriving DecidableEq,Inhabited,Repr
inductive Ob where
 |gone
 |cells (vs:List AV)
 |row (k:Nat) (E:TypeId) (es:List AV) (g:Option Nat) (fl sh:Bool)
 |map (es:List (AV×AV)) (fl:Bool)
 |gC (s:List UInt8) (pos:Nat)
 |loop (st:LoopState) (pend:Jump) (fn:FuncId) (nt:List AV) (params:List Nat) (assign body:an)
 |bB (live:Bool)
 deriving Inhabited,Repr
def ax(t:List AV):AX->AV
 |.t i=>t.getD i .undef
 |.c v=>v
 |.g n=>.dF n 0
 |.f n=>.fn (.func n) [] []
mutual
def aJ(n:Nat):AV->Bool
 |.sl i _ _=>decide (i<n)
 |.ptr i _=>decide (i<n)
 |.mp i=>decide (i<n)
 |.it i=>decide (i<n)
 |.dA i=>decide (i<n)
 |.cL a _ _ _=>aJ n a
 |.agg cs=>aO n cs
 |.aL cs=>aO n cs
 |.fn _ a b=>aO n a&&aO n b
 |.bX _ v=>aJ n v
 |.own _ _ _=>false
 |.list _ _ es=>aO n es
 |.de ks vs=>aO n ks&&aO n vs
 |_=>true
def aO(n:Nat):List AV->Bool
 |[]=>true
 |a::as=>aJ n a&&aO n as
end
def bO:List AV->Bool
 |[]=>true
 |a::as=>a.one&&bO as
def cj:List AV->Nat->Bool
 |[],_=>true
 |a::as,k=>decide (a.cells.length=k)&&bO a.cells&&aO 0 a.cells&&cj as k
mutual
theorem vV{n m:Nat}(h:n<=m):∀{a:AV},aJ n a=true->aJ m a=true
 |.undef,_|.bool _,_|.int _ _,_|.str _,_|.iq,_|.eu,_|.ei,_|.dZ,_|.dF _ _,_=>rfl
 |.list _ _ es,hb=>by simp only[aJ]at hb⊢;exact p9 h hb
 |.own _ _ _,hb=>by simp[aJ]at hb
 |.sl _ _ _,hb|.ptr _ _,hb|.mp _,hb|.it _,hb|.dA _,hb=>by simp only[aJ,a8]at hb⊢;omega
 |.cL a _ _ _,hb=>by simp only[aJ]at hb⊢;exact vV h hb
 |.de _ _,hb|.fn _ _ _,hb=>by simp only[aJ,aC]at hb⊢;exact⟨p9 h hb.1,p9 h hb.2⟩
 |.agg _,hb|.aL _,hb=>by simp only[aJ]at hb⊢;exact p9 h hb
 |.bX _ _,hb=>by simp only[aJ]at hb⊢;exact vV h hb
theorem p9{n m:Nat}(h:n<=m):∀{as:List AV},aO n as=true->aO m as=true
 |[],_=>rfl
 |a::as,hb=>by simp only[aO,aC]at hb⊢;exact⟨vV h hb.1,p9 h hb.2⟩
end
theorem Uv{n:Nat}{a:AV}(h:aO n a.cells=true):aJ n a=true:=by
 cases a<;>simp_all [AV.cells,aJ,aO]
theorem h_{n k:Nat}:∀{es:List AV},cj es k=true->aO n es=true
 |[],_=>rfl
 |a::as,h=>by
  simp only[cj,aC]at h;simp only[aO,aC];exact⟨vV (xi _) (Uv h.1.2),h_ h.2⟩
def cr(es:List AV)(g:Option Nat)(off n:Nat):Bool:=
 match g with
 |none=>decide (off+n<=es.length)
 |some lo=>decide (lo<=off)&&off+n==es.length
def elems(h:List Ob):AV->Option (List AV)
 |.list _ _ es=>some es
 |.sl i off n=>
  match h[i]? with
  |some (.row _ _ es g _ _)=>if cr es g off n then some ((es.drop off).take n)else none
  |_=>none
 |_=>none
def jh(h:List Ob):AV->Option (Nat×List AV)
 |.list _ k es=>some (k,es)
 |.sl i off n=>
  match h[i]? with
  |some (.row k _ es g _ _)=>if cr es g off n then some (k,(es.drop off).take n)else none
  |_=>none
 |_=>none
def nP:AV->Option Nat
 |.list _ _ es=>some es.length
 |.sl _ _ n=>some n
 |_=>none
def tY(h:List Ob):AV->Option (Nat×List AV)
 |.list _ k es=>some (k,es)
 |.sl i off n=>
  match h[i]? with
  |some (.row k _ es g true _)=>if cr es g off n then some (k,(es.drop off).take n)else none
  |_=>none
 |_=>none
mutual
def view(h:List Ob):AV->Option AV
 |.list _ k es=>some (.list false k es)
 |.sl i off n=>(tY h (.sl i off n)).map fun p=>.list false p.1 p.2
 |.agg cs=>(bK h cs).map .agg
 |.aL cs=>(bK h cs).map .aL
 |.fn f a b=>
  match bK h a,bK h b with
  |some a',some b'=>some (.fn f a' b')
  |_,_=>none
 |.bX t v=>(view h v).map (.bX t)
 |.ptr _ _|.mp _|.it _|.dA _|.cL _ _ _ _|.own _ _ _=>none
 |.de ks vs=>if aO 0 ks&&aO 0 vs then some (.de ks vs)else none
 |a=>some a
def bK(h:List Ob):List AV->Option (List AV)
 |[]=>some []
 |a::as=>
  match view h a,bK h as with
  |some a',some as'=>some (a'::as')
  |_,_=>none
end
mutual
def rowsOf:AV->List Nat
 |.sl i _ _=>[i]
 |.agg cs=>bF cs
 |.aL cs=>bF cs
 |.fn _ a b=>bF a++bF b
 |.bX _ v=>rowsOf v
 |_=>[]
def bF:List AV->List Nat
 |[]=>[]
 |a::as=>rowsOf a++bF as
end
def gy:Ob->Ob
 |.row k E es g fl _=>.row k E es g fl true
 |o=>o
def share:List Nat->List Ob->List Ob
 |[],h=>h
 |i::is,h=>share is (h.modify i gy)
inductive R where
 |val (v:AV) (h:List Ob)
 |skip (h:List Ob)
 |cM (v:AV)
 |call (f:FuncId) (args:List AV)
 |qI
 |bB (f:FuncId) (args:List AV)
 |yield (l:Nat) (args:List AV)
 |either
 |bad
 deriving Inhabited
def eD:SK->AV->AV->Option Bool
 |.int,.int k a,.int j b=>if k=j then some (a==b)else none
 |.str,.str a,.str b=>some (a==b)
 |.bool,.bool a,.bool b=>some (a==b)
 |_,_,_=>none
def fN:List SK->List AV->List AV->Option Bool
 |[],[],[]=>some true
 |s::ss,a::as,b::bs=>
  match eD s a b with
  |some true=>fN ss as bs
  |some false=>some false
  |none=>none
 |_,_,_=>none
def c9:SK->AV->Bool
 |.int,.int _ _|.str,.str _|.bool,.bool _=>true
 |_,_=>false
def cz:List SK->List AV->Bool
 |[],[]=>true
 |s::ss,a::as=>c9 s a&&cz ss as
 |_,_=>false
def isKey:EK->AV->Bool
 |.sc s,a=>c9 s a
 |.gQ ss,.agg cs=>cz ss cs
 |_,_=>false
def bU(e:EK)(x y:AV):Option Bool:=
 match e with
 |.gQ ss=>match x,y with
  |.agg as,.agg bs=>if cz ss as&&cz ss bs then fN ss as bs else none
  |_,_=>none
 |.sc s=>eD s x y
 |.iface=>match x,y with
  |.dZ,.bX _ _=>some false
  |.bX _ _,.dZ=>some false
  |_,_=>none
 |.nil=>match x,y with
  |.ei,.ei=>some true
  |.ei,.fn _ _ _=>some false
  |.fn _ _ _,.ei=>some false
  |_,_=>none
def fm(e:EK)(k:AV):List (AV×AV)->Option (Option AV)
 |[]=>some none
 |(a,v)::es=>
  match bU e k a with
  |some true=>some (some v)
  |some false=>fm e k es
  |none=>none
def iK(e:EK)(k v:AV):List (AV×AV)->Option (List (AV×AV))
 |[]=>some [(k,v)]
 |(a,u)::es=>
  match bU e k a with
  |some true=>some ((k,v)::es)
  |some false=>(iK e k v es).map ((a,u)::·)
  |none=>none
def uu(e:EK)(k:AV):List (AV×AV)->Option (List (AV×AV))
 |[]=>some []
 |(a,u)::es=>
  match bU e k a with
  |some true=>some es
  |some false=>(uu e k es).map ((a,u)::·)
  |none=>none
def lS(op:CK)(a b:Int):Bool:=
 match op with
 |.eql=>a==b
 |.neq=>a !=b
 |.lss=>decide (a<b)
 |.leq=>decide (a<=b)
 |.gtr=>decide (a>b)
 |.geq=>decide (a≥b)
def gf(op:IB)(k:IntKind)(x y:Int):Option Int:=
 match op with
 |.add=>some (k.wrap (x+y))
 |.sub=>some (k.wrap (x-y))
 |.mul=>some (k.wrap (x*y))
 |.quo=>if y=0 then none else some (k.wrap (x.tdiv y))
 |.rem=>if y=0 then none else some (x.tmod y)
 |.and=>some (k.wrap ((BitVec.ofInt k.bits x)&&&(BitVec.ofInt k.bits y)).toNat)
 |.or=>some (k.wrap ((BitVec.ofInt k.bits x)|||(BitVec.ofInt k.bits y)).toNat)
 |.xor=>some (k.wrap ((BitVec.ofInt k.bits x)^^^(BitVec.ofInt k.bits y)).toNat)
 |.andNot=>some (k.wrap ((BitVec.ofInt k.bits x)&&&~~~(BitVec.ofInt k.bits y)).toNat)
 |.shl=>if y<0 then none else some (k.wrap (x*2^(min y.toNat k.bits)))
 |.shr=>if y<0 then none else some (x.fdiv (2^(min y.toNat k.bits)))
def lE(agg:Bool)(sz off:Nat)(cs:List AV):Option AV:=
 if agg then(if off+sz<=cs.length then some (.agg ((cs.drop off).take sz))else none)
 else if sz=1 then cs[off]? else none
def over(cs:List AV)(off:Nat)(new:List AV):List AV:=cs.take off++new++cs.drop (off+new.length)
def jR:List AV->AV->AV
 |cs,.agg _=>.agg cs
 |[c],_=>c
 |_,_=>.undef
def oY(Γ:Nat->Option AV)(h:List Ob)(agg:Bool)(sz:Nat):AV->Option AV
 |.ptr i off=>
  match h[i]? with
  |some (.cells cs)=>lE agg sz off cs
  |_=>none
 |.cL a k ix off=>
  match jh h a with
  |some (k',es)=>if k'=k then es[ix]?.bind fun e=>lE agg sz off e.cells else none
  |none=>none
 |.dF n off=>(Γ n).bind fun v=>lE agg sz off v.cells
 |_=>none
def uc(h:List Ob)(sz:Nat)(p x:AV):Option (List Ob):=
 if x.cells.length=sz/\bO x.cells=true then
  match p with
  |.ptr i off=>
   match h[i]? with
   |some (.cells cs)=>if off+sz<=cs.length then some (h.set i (.cells (over cs off x.cells)))else none
   |_=>none
  |.cL (.sl i o n) k' ix off=>
   match h[i]? with
   |some (.row k E es g fl false)=>
    if k'=k/\cr es g o n=true/\ix<n then
     match es[o+ix]? with
     |some e=>
      if off+sz<=k then
       some (h.set i (.row k E (es.set (o+ix) (jR (over e.cells off x.cells) e)) g (fl&&aO 0 x.cells) false))
      else none
     |none=>none
    else none
   |_=>none
  |_=>none
 else none
def fU(h:List Ob)(k:Nat)(E:TypeId)(bytes:Nat)(x:AV)(ys:List AV)(yfl:Bool):R:=
 match x with
 |.list true k' es=>
  if(es.length+ys.length)*bytes<=2^47/\(k'=k\/es=[])then
   match ys with
   |[]=>.val x h
   |_::_=>.val (.sl h.length 0 (es.length+ys.length)) (h++[.row k E (es++ys) none yfl false])
  else .bad
 |.sl i off n=>
  match h[i]? with
  |some (.row k' E' es g fl sh)=>
   if k'=k/\E'=E/\cr es g off n=true/\(n+ys.length)*bytes<=2^47 then
    if off+n=es.length then
     .val (.sl i off (n+ys.length)) (h.set i (.row k E (es++ys) (if ys.isEmpty then g else some off) (fl&&yfl) sh))
    else if off+n+ys.length<=es.length/\sh=false then
     .val (.sl i off (n+ys.length)) (h.set i (.row k E (es.take (off+n)++ys++es.drop (off+n+ys.length)) g (fl&&yfl) false))
    else .bad
   else .bad
  |_=>.bad
 |_=>.bad
def gB(b:UInt8):AV:=.int .u8 b.toNat
def Ay:AV->Option UInt8
 |.int .u8 n=>some (UInt8.ofNat n.toNat)
 |_=>none
def nD:List AV->Option (List UInt8)
 |[]=>some []
 |a::as=>
  match Ay a,nD as with
  |some b,some bs=>some (b::bs)
  |_,_=>none
def bound(t:List AV)(d:Nat):Option AX->Option Nat
 |none=>some d
 |some x=>match ax t x with
  |.int _ n=>if 0<=n then some n.toNat else none
  |_=>none
def rS(cells:List AV):List (Nat×Nat×AV)->Option (List AV)
 |[]=>some cells
 |(off,sz,v)::r=>if v.ok=true/\v.cells.length=sz/\off+sz<=cells.length then rS (over cells off v.cells) r else none
def o_(k:Nat)(es:List AV):List (Nat×AV)->Option (List AV)
 |[]=>some es
 |(i,v)::r=>if i<es.length/\v.cells.length=k/\bO v.cells=true then o_ k (es.set i v) r else none
def pn:AV->List AV->Option AV
 |.int k a,.int j b::r=>if k=j then pn (.int k (if b<a then b else a)) r else none
 |.int k a,[]=>some (.int k a)
 |_,_=>none
def pg:AV->List AV->Option AV
 |.int k a,.int j b::r=>if k=j then pg (.int k (if a<b then b else a)) r else none
 |.int k a,[]=>some (.int k a)
 |_,_=>none
def nC(h:List Ob):List (Nat×AV)->Option (List (Nat×AV)×List Ob)
 |[]=>some ([],h)
 |(i,v)::r=>
  match view h v with
  |some v'=>
   match nC (share (rowsOf v) h) r with
   |some (ps,h')=>some ((i,v')::ps,h')
   |none=>none
  |none=>none
def dW(n:Nat):AV->AV×List Ob
 |.own k E es=>(.sl n 0 es.length,[.row k E es none true false])
 |a=>(a,[])
def bP(n:Nat):List AV->List AV×List Ob
 |[]=>([],[])
 |a::as=>((dW n a).1::(bP (n+(dW n a).2.length) as).1,(dW n a).2++(bP (n+(dW n a).2.length) as).2)
def dc(n:Nat):AV->AV×List Ob
 |.aL vs=>(.aL (bP n vs).1,(bP n vs).2)
 |a=>dW n a
def dn(t:List AV):Option (Nat×Bool)->Option Bool
 |none=>some true
 |some (j,b)=>match t.getD j .undef with
  |.bool x=>some (x==b)
  |.aL []=>some false
  |_=>none
def fB(P:Program)(t:TypeId):Option Bool:=(P.underlying t).map fun|.struct _|.array _ _=>true|_=>false
def bm(P:Program)(t:TypeId):Option Nat:=(P.info? t).map (·.size)
def AH(P:Program)(t:TypeId)(f:FuncId)(ptr:Bool):Option (FuncId×Option (Bool×Nat)):=match P.underlying t with
 |some (.pointer e)=>if ptr then some (f,none)else match fB P e,bm P e with
  |some a,some s=>some (f,some (a,s))
  |_,_=>none
 |some (.interface _)=>none
 |some _=>if ptr then none else some (f,none)
 |none=>none
def oZ(P:Program)(t:TypeId)(name:String):Option (FuncId×Option (Bool×Nat)):=match P.info? t with
 |some i=>match i.methods.find? (·.name==name)with
  |some m=>match m.func with
   |some (f,ptr)=>if m.path.isEmpty then AH P t f ptr else none
   |none=>none
  |none=>none
 |none=>none
def aD(P:Program)(f:FuncId):Bool:=match P.funcs[f]? with
 |some fn=>fn.body.isSome&&fn.name != "runtime.NumGoroutine"
 |none=>false
def mR(P:Program)(Γ:Nat->Option AV)(h:List Ob)(ty:TypeId)(name:String)(v:AV)(args:List AV):R:=
 match oZ P ty name with
 |some (f,none)=>.call f (v::args)
 |some (f,some (agg,sz))=>match v with
  |.ptr i o=>match oY Γ h agg sz (.ptr i o)with
   |some x=>.call f (x::args)
   |none=>.bad
  |_=>.bad
 |none=>.bad
def aA(P:Program)(Γ:Nat->Option AV)(t:List AV)(h:List Ob):AO->R
 |.mv x=>.val (ax t x) h
 |.eN k E=>.val (.sl h.length 0 0) (h++[.row k E [] none true false])
 |.pick c a b=>match ax t c with
  |.bool true=>.val (ax t a) h
  |.bool false=>.val (ax t b) h
  |_=>.bad
 |.alloc z=>.val (.ptr h.length 0) (h++.cells (bP (h.length+1) z).1::(bP (h.length+1) z).2)
 |.box n x=>if(ax t x).cells.length=n/\bO (ax t x).cells=true then .val (.ptr h.length 0) (h++[.cells (ax t x).cells])else .bad
 |.build z parts=>match rS z (parts.map fun p=>(p.1,p.2.1,ax t p.2.2))with
  |some cs=>.val (.agg cs) h
  |none=>.bad
 |.lit k zs parts=>match nC h (parts.map fun p=>(p.1,ax t p.2))with
  |some (ps,h')=>match o_ k zs ps with
   |some es=>if cj es k=true then .val (.list true k es) h' else .bad
   |none=>.bad
  |none=>.bad
 |.load agg sz a=>match oY Γ h agg sz (ax t a)with
  |some v=>.val v h
  |none=>.bad
 |.store sz a x=>match uc h sz (ax t a) (ax t x)with
  |some h'=>.skip h'
  |none=>.bad
 |.bG x=>match ax t x with
  |.ptr i o=>.val (.ptr i o) h
  |.cL a k i o=>.val (.cL a k i o) h
  |.dF i o=>.val (.dF i o) h
  |.fn (.func f) a b=>.val (.fn (.func f) a b) h
  |.bX ty v=>.val (.bX ty v) h
  |.fn (.method m) [.bX ty v] b=>match oZ P ty m with
   |some (_,none)=>.val (.fn (.method m) [.bX ty v] b) h
   |_=>.bad
  |_=>.bad
 |.aV op x y=>match ax t x,ax t y with
  |.int k a,.int j b=>if k=j\/op=.shl\/op=.shr then(match gf op k a b with
   |some n=>.val (.int k n) h
   |none=>.bad)else .bad
  |_,_=>.bad
 |.cmp op e x y=>match e with
  |.sc .int=>match ax t x,ax t y with
   |.int k a,.int j b=>if k=j then .val (.bool (lS op a b)) h else .bad
   |_,_=>.bad
  |e=>match op with
   |.eql=>match bU e (ax t x) (ax t y)with
    |some b=>.val (.bool b) h
    |none=>.bad
   |.neq=>match bU e (ax t x) (ax t y)with
    |some b=>.val (.bool !b) h
    |none=>.bad
   |_=>.bad
 |.concat x y=>match ax t x,ax t y with
  |.str a,.str b=>if a.length+b.length<=2^47 then .val (.str (a++b)) h else .bad
  |_,_=>.bad
 |.not x=>match ax t x with
  |.bool b=>.val (.bool !b) h
  |_=>.bad
 |.neg x=>match ax t x with
  |.int k n=>.val (.int k (k.wrap (0-n))) h
  |_=>.bad
 |.Fi x=>match ax t x with
  |.int k n=>.val (.int k (k.wrap ((BitVec.ofInt k.bits (if k.signed then-1 else k.max))^^^(BitVec.ofInt k.bits n)).toNat)) h
  |_=>.bad
 |.conv k x=>match ax t x with
  |.int _ n=>.val (.int k (k.wrap n)) h
  |_=>.bad
 |.same x=>match ax t x with
  |.str s=>.val (.str s) h
  |_=>.bad
 |.iL neg x=>match nP (ax t x)with
  |some (_+1)=>.val (.bool neg) h
  |some 0=>.either
  |none=>.bad
 |.mark x=>match ax t x with
  |.sl i o n=>match h[i]? with
   |some (.row 1 _ es none _ _)=>if n=0\/o≠0\/n≠es.length then .bad else .val (.sl i o n) h
   |_=>.bad
  |_=>.bad
 |.Ao E x=>match ax t x with
  |.str s=>if s.length<=2^47 then .val (.sl h.length 0 s.length) (h++[.row 1 E (s.map gB) none true false])else .bad
  |_=>.bad
 |.toStr x=>match elems h (ax t x)with
  |some es=>match nD es with
   |some s=>.val (.str s) h
   |none=>.bad
  |none=>.bad
 |.oE ty x=>.val (.bX ty (ax t x)) h
 |.jl f a b=>.val (.fn f (a.map (ax t)) (b.map (ax t))) h
 |.mkMap=>.val (.mp h.length) (h++[.map [] true])
 |.mkSlice k E bytes z n c=>match ax t n,ax t c with
  |.int _ n,.int _ c=>if 0<=n/\n=c/\c*bytes<=2^47/\c<=2^47 then .val (.sl h.length 0 n.toNat) (h++[.row k E (List.replicate n.toNat z) none true false])else .bad
  |_,_=>.bad
 |.zO x lo hi=>match ax t x with
  |.str s=>match bound t 0 lo,bound t s.length hi with
   |some l,some u=>if l<=u/\u<=s.length then .val (.str ((s.take u).drop l)) h else .bad
   |_,_=>.bad
  |_=>.bad
 |.slice k x lo hi=>match ax t x with
  |.list f k' es=>match bound t 0 lo,bound t es.length hi with
   |some l,some u=>if l<=u/\u<=es.length/\(k'=k\/es=[])then .val (.list (f&&u==es.length) k' ((es.take u).drop l)) h else .bad
   |_,_=>.bad
  |.sl i off n=>match bound t 0 lo,bound t n hi with
   |some l,some u=>if l<=u/\u<=n then(match h[i]? with
    |some (.row k' _ es g _ _)=>if k'=k/\cr es g off n=true then .val (.sl i (off+l) (u-l)) h else .bad
    |_=>.bad)else .bad
   |_,_=>.bad
  |_=>.bad
 |.slice3 k x lo hi mx=>match view h (ax t x)with
  |some (.list _ k' es)=>match bound t 0 lo,bound t 0 (some hi),bound t 0 (some mx)with
   |some l,some u,some m=>if l<=u/\u<=es.length/\m=u/\(k'=k\/es=[])then .val (.list true k' ((es.take u).drop l)) (share (rowsOf (ax t x)) h)else .bad
   |_,_,_=>.bad
  |_=>.bad
 |.off n x=>match ax t x with
  |.ptr i o=>.val (.ptr i (o+n)) h
  |.cL a k i o=>.val (.cL a k i (o+n)) h
  |.dF g o=>.val (.dF g (o+n)) h
  |_=>.bad
 |.Gj agg off sz x=>match ax t x with
  |.agg cs=>match lE agg sz off cs with
   |some v=>.val v h
   |none=>.bad
  |_=>.bad
 |.ic k x i=>match nP (ax t x),ax t i with
  |some m,.int _ n=>if 0<=n/\n<m then .val (.cL (ax t x) k n.toNat 0) h else .bad
  |_,_=>.bad
 |.cT len k x i=>match ax t i with
  |.int _ n=>if 0<=n/\n<len then(match ax t x with
   |.ptr j o=>.val (.ptr j (o+n.toNat*k)) h
   |.cL a k' j o=>.val (.cL a k' j (o+n.toNat*k)) h
   |.dF g o=>.val (.dF g (o+n.toNat*k)) h
   |_=>.bad)else .bad
  |_=>.bad
 |.wy x i=>match ax t x,ax t i with
  |.str s,.int _ n=>if 0<=n then(match s[n.toNat]? with
   |some b=>.val (gB b) h
   |none=>.bad)else .bad
  |_,_=>.bad
 |.Fk len agg k x i=>match ax t x,ax t i with
  |.agg cs,.int _ n=>if 0<=n/\n<len then(match lE agg k (n.toNat*k) cs with
   |some v=>.val v h
   |none=>.bad)else .bad
  |_,_=>.bad
 |.lookup e z x i ok=>
  let es:=match ax t x with
   |.eu=>some []
   |.de ks vs=>some (ks.zip vs)
   |.mp j=>match h[j]? with
    |some (.map es _)=>some es
    |_=>none
   |_=>none
  match es with
  |some es=>if isKey e (ax t i)=false then .bad else match fm e (ax t i) es with
   |some (some v)=>.val (if ok then .aL [v,.bool true]else v) h
   |some none=>.val (if ok then .aL [z,.bool false]else z) h
   |none=>.bad
  |none=>.bad
 |.bA e m k x=>match ax t m with
  |.mp j=>match h[j]? with
   |some (.map es fl)=>if isKey e (ax t k)=false then .bad else match iK e (ax t k) (ax t x) es with
    |some es'=>.skip (h.set j (.map es' (fl&&aJ 0 (ax t x))))
    |none=>.bad
   |_=>.bad
  |_=>.bad
 |.range x=>match ax t x with
  |.str s=>.val (.it h.length) (h++[.gC s 0])
  |_=>.bad
 |.next x=>match ax t x with
  |.it i=>match h[i]? with
   |some (.gC s pos)=>
    if pos<s.length then
     (let r:=Utf8.decode ⟨s.toArray⟩ pos
     .val (.aL [.bool true,.int .i64 pos,.int .i32 r.1]) (h.set i (.gC s (pos+r.2))))
    else .val (.aL [.bool false]) h
   |_=>.bad
  |_=>.bad
 |.z7 x ty z ok=>match ax t x with
  |.bX u v=>if u=ty then .val (if ok then .aL [v,.bool true]else v) h
   else if ok then .val (.aL [z,.bool false]) h else .bad
  |.dZ=>if ok then .val (.aL [z,.bool false]) h else .bad
  |_=>.bad
 |.extract x i=>match ax t x with
  |.aL vs=>match vs[i]? with
   |some v=>.val v h
   |none=>.bad
  |_=>.bad
 |.oQ x=>match ax t x with
  |.str s=>.val (.int .i64 s.length) h
  |_=>.bad
 |.len x=>match ax t x with
  |.list _ _ es=>.val (.int .i64 es.length) h
  |.sl _ _ n=>.val (.int .i64 n) h
  |_=>.bad
 |.cap x=>match ax t x with
  |.list true _ es=>.val (.int .i64 es.length) h
  |_=>.bad
 |.EV n=>.val (.int .i64 n) h
 |.wg x=>match ax t x with
  |.eu=>.val (.int .i64 0) h
  |.de ks _=>.val (.int .i64 ks.length) h
  |.mp j=>match h[j]? with
   |some (.map es _)=>.val (.int .i64 es.length) h
   |_=>.bad
  |_=>.bad
 |.append k E bytes x y=>match ax t y with
  |.list _ k' es=>if k'=k\/es=[]then fU h k E bytes (ax t x) es true else .bad
  |.sl i o n=>match jh h (.sl i o n),h[i]? with
   |some (k',es),some (.row _ _ _ _ fl _)=>if k'=k then fU h k E bytes (ax t x) es fl else .bad
   |_,_=>.bad
  |.str s=>if k=1 then fU h 1 E bytes (ax t x) (s.map gB) true else .bad
  |_=>.bad
 |.tP k E bytes z x n=>match ax t n with
  |.int _ n=>if 0<=n/\n<=2^47 then fU h k E bytes (ax t x) (List.replicate n.toNat z) true else .bad
  |_=>.bad
 |.delete e m k=>match ax t m with
  |.mp j=>match h[j]? with
   |some (.map es fl)=>if isKey e (ax t k)=false then .bad else match uu e (ax t k) es with
    |some es'=>.val (.aL []) (h.set j (.map es' fl))
    |none=>.bad
   |_=>.bad
  |_=>.bad
 |.clear k z x=>match ax t x with
  |.sl i off n=>match h[i]? with
   |some (.row k' E es none fl false)=>if k'=k/\off+n<=es.length then .val (.aL []) (h.set i (.row k E (es.take off++List.replicate n z++es.drop (off+n)) none fl false))else .bad
   |_=>.bad
  |_=>.bad
 |.min xs=>match xs.map (ax t)with
  |a::r=>match pn a r with
   |some v=>.val v h
   |none=>.bad
  |[]=>.bad
 |.max xs=>match xs.map (ax t)with
  |a::r=>match pg a r with
   |some v=>.val v h
   |none=>.bad
  |[]=>.bad
 |.recover=>.qI
 |.panic x=>match ax t x with
  |.bX ty v=>.cM (.bX ty v)
  |_=>.bad
 |.call f args=>match ax t f with
  |.fn (.func n) a b=>.call n (a++args.map (ax t)++b)
  |.fn (.methodOf ty name) a b=>match a++args.map (ax t),b with
   |r::as,[]=>mR P Γ h ty name r as
   |_,_=>.bad
  |.dA l=>.yield l (args.map (ax t))
  |_=>.bad
 |.invoke x name args=>match ax t x with
  |.bX ty v=>mR P Γ h ty name v (args.map (ax t))
  |_=>.bad
 |.defer f args=>match ax t f with
  |.fn (.func n) a b=>.bB n (a++args.map (ax t)++b)
  |_=>.bad
inductive It where
 |code (c:an)
 |inBlock (id:Nat) (mask:List Bool)
 |inLoop (mask:List Bool) (c:an)
 |ops (os:List AG)
 |iE (l:Nat)
 |tz (l:Nat)
 |beginRound
 deriving Inhabited
inductive di where
 |call (f:FuncId) (args:List AV)
 |mark (i:Nat)
 deriving Inhabited
inductive Md where
 |run
 |ret
 |cM (v:AV) (rc:Bool)
 deriving Inhabited
inductive FK where
 |norm
 |bB
 |round (l:Nat)
 deriving DecidableEq,Inhabited
structure Fr where
 md:Md
 fn:FuncId
 its:List It
 t:List AV
 ds:List di
 kind:FK
 base:Nat
 deriving Inhabited
inductive aw where
 |fr (f:Fr) (up:List Fr) (h:List Ob)
 |cl (f:FuncId) (args:List AV) (up:List Fr) (h:List Ob)
 |back (up:List Fr) (v:AV) (h:List Ob)
 |die (up:List Fr) (v:AV) (h:List Ob)
 |bad
 deriving Inhabited
def aW(t:List AV):Option Nat->AV->List AV
 |some d,v=>t.set d v
 |none,_=>t
def cW:List Bool->List AV->List AV
 |true::ms,a::as=>a::cW ms as
 |false::ms,_::as=>.undef::cW ms as
 |[],as=>as
 |_,[]=>[]
def kF(t:List AV):List Nat->List AV->List AV
 |p::ps,a::as=>kF (t.set p a) ps as
 |_,_=>t
def nO(id:Nat):List It->Option (List It×List Bool)
 |.inBlock i m::k=>if i=id then some (k,m)else nO id k
 |_::k=>nO id k
 |[]=>none
def enter(f:FuncId)(F:aM)(args:List AV)(kind:FK)(h:List Ob):Fr:=
 {md:=.run,fn:=f,its:=[.code F.body],t:=args++List.replicate (F.nt-args.length) .undef,ds:=[],kind,base:=h.length}
def Fr.finish(f:Fr)(v:AV):Option Fr:=
 match f.its with
 |.ops (o::os)::k=>some {f with its:=.ops os::k,t:=aW f.t o.dst v}
 |.iE l::k=>some {f with its:=.tz l::k}
 |_=>none
def tU(Γ:Nat->Option AV)(t:List AV)(h:List Ob):pq->Option AV
 |.tmp i=>some (t.getD i .undef)
 |.cell a agg sz=>oY Γ h agg sz (t.getD a .undef)
def rD(Γ:Nat->Option AV)(t:List AV)(h:List Ob):List pq->Option (List AV)
 |[]=>some []
 |r::rs=>
  match tU Γ t h r,rD Γ t h rs with
  |some v,some vs=>some (v::vs)
  |_,_=>none
def zL(Γ:Nat->Option AV)(t:List AV)(h:List Ob)(rs:List pq):Option AV:=
 match rD Γ t h rs with
 |some [v]=>some v
 |some vs=>some (.aL vs)
 |none=>none
def leave(f:Fr)(up:List Fr)(h:List Ob)(j:Jump):aw:=
 match f.kind with
 |.round l=>match h[l]? with
  |some (.loop _ _ fn t ps a b)=>.back up (.bool (j==.none)) (h.set l (.loop (if j=.none then .ready else .done) j fn t ps a b))
  |_=>.bad
 |_=>match j with
  |.exit _=>.bad
  |_=>.fr {f with md:=.ret} up h
def um(f:Fr)(up:List Fr):Option (AV×List Fr):=
 match f.kind with
 |.bB=>match up with
  |c::rest=>match c.md with
   |.cM v false=>some (v,{c with md:=.cM v true}::rest)
   |_=>some (.dZ,up)
  |[]=>some (.dZ,up)
 |.norm=>some (.dZ,up)
 |.round _=>none
def eX(P:Program)(f:Fr)(up:List Fr)(h:List Ob)(o:AG)(os:List AG)(k:List It):R->aw
 |.val v h'=>.fr {f with its:=.ops os::k,t:=aW f.t o.dst v} up h'
 |.skip h'=>.fr {f with its:=.ops os::k,t:=aW f.t o.dst (.aL [])} up h'
 |.cM v=>.fr {f with md:=.cM v false} up h
 |.call g args=>if aD P g=true then .cl g args (f::up) h else .bad
 |.qI=>match um f up with
  |some (v,up')=>.fr {f with its:=.ops os::k,t:=aW f.t o.dst v} up' h
  |none=>.bad
 |.bB g args=>match f.kind with
  |.round _=>.bad
  |_=>.fr {f with its:=.ops os::k,t:=aW f.t o.dst (.aL []),ds:=.call g args::f.ds} up h
 |.yield l args=>match h[l]? with
  |some (.loop _ _ fi t ps a b)=>
   if args.length=ps.length then
    .fr {md:=.run,fn:=fi,its:=[.code a,.beginRound,.code b],t:=kF t ps args,ds:=[],kind:=.round l,base:=h.length} (f::up) h
   else .bad
  |_=>.bad
 |.either=>.fr f up h
 |.bad=>.bad
def gz(P:Program)(Γ:Nat->Option AV)(f:Fr)(up:List Fr)(h:List Ob):List It->aw
 |.code .skip::k=>.fr {f with its:=k} up h
 |.code (.ae os)::k=>.fr {f with its:=.ops os::k} up h
 |.code (.aR _ _ _)::_=>.bad
 |.code (.eH _ _)::_=>.bad
 |.code (.seq a b)::k=>.fr {f with its:=.code a::.code b::k} up h
 |.code (.cond x a b)::k=>match ax f.t x with
  |.bool v=>.fr {f with its:=.code (if v then a else b)::k} up h
  |_=>.bad
 |.code (.block id m b)::k=>.fr {f with its:=.code b::.inBlock id m::k} up h
 |.inBlock _ m::k=>.fr {f with its:=k,t:=cW m f.t} up h
 |.code (.loop m b)::k=>.fr {f with its:=.code b::.inLoop m b::k,t:=cW m f.t} up h
 |.inLoop m b::k=>.fr {f with its:=.code b::.inLoop m b::k,t:=cW m f.t} up h
 |.code (.exit id)::k=>match nO id k with
  |some (k',m)=>.fr {f with its:=k',t:=cW m f.t} up h
  |none=>leave f up h (.exit id)
 |.code .ret::_=>leave f up h .ret
 |[]=>leave f up h .none
 |.code .bad::_=>.bad
 |.ops []::k=>.fr {f with its:=k} up h
 |.ops (o::os)::k=>match dn f.t o.guard with
  |some true=>eX P f up h o os k (aA P Γ f.t h o.op)
  |some false=>.fr {f with its:=.ops os::k,t:=aW f.t o.dst (.aL [])} up h
  |none=>.bad
 |.code (.rangeFunc x ps m a b)::k=>match ax f.t x with
  |.fn (.func g) fs cs=>if aD P g=false then .bad else match f.kind with
   |.round _=>
    .cl g (fs++.dA h.length::cs) ({f with its:=.iE h.length::k}::up) (h++[.loop .ready .none f.fn (cW m f.t) ps a b])
   |_=>
    .cl g (fs++.dA (h.length+1)::cs) ({f with its:=.iE (h.length+1)::k,ds:=.mark h.length::f.ds}::up)
     (h++[.bB true,.loop .ready .none f.fn (cW m f.t) ps a b])
  |_=>.bad
 |.iE _::_=>.bad
 |.beginRound::k=>match f.kind with
  |.round l=>match h[l]? with
   |some (.loop .ready j fn t ps a b)=>.fr {f with its:=k} up (h.set l (.loop .busy j fn t ps a b))
   |_=>.bad
  |_=>.bad
 |.tz l::k=>match h[l]? with
  |some (.loop st j fn t ps a b)=>
   if st=.busy then .bad
   else .fr {f with its:=(match j with|.none=>k|.ret=>.code .ret::k|.exit id=>.code (.exit id)::k)} up (h.set l (.loop .exhausted j fn t ps a b))
  |_=>.bad
def iw(n:Nat):List (AV×AV)->Bool
 |[]=>true
 |(a,b)::r=>aJ n a&&aJ n b&&iw n r
def mZ(n:Nat):Ob->Bool
 |.cells cs=>aO n cs
 |.row _ _ es _ fl _=>fl||aO n es
 |.map es _=>iw n es
 |.loop _ _ _ t _ _ _=>aO n t
 |_=>true
def dS(n:Nat):List Ob->Bool
 |[]=>true
 |o::os=>mZ n o&&dS n os
def jw(n:Nat):List di->Bool
 |[]=>true
 |.call _ args::ds=>aO n args&&jw n ds
 |.mark i::ds=>decide (i<n)&&jw n ds
def fE(n:Nat):List It->Bool
 |[]=>true
 |.iE l::k=>decide (l<n)&&fE n k
 |.tz l::k=>decide (l<n)&&fE n k
 |_::k=>fE n k
mutual
def jC(i m:Nat):AV->Bool
 |.sl j off n=>!(j==i)||off+n==m
 |.cL a _ _ _=>jC i m a
 |.agg cs=>dG i m cs
 |.aL cs=>dG i m cs
 |.fn _ a b=>dG i m a&&dG i m b
 |.bX _ v=>jC i m v
 |.de ks vs=>aO 0 ks&&aO 0 vs
 |_=>true
def dG(i m:Nat):List AV->Bool
 |[]=>true
 |a::as=>jC i m a&&dG i m as
end
def pd(i m:Nat):List (AV×AV)->Bool
 |[]=>true
 |(a,b)::r=>jC i m a&&jC i m b&&pd i m r
def mV(i m:Nat):Ob->Bool
 |.cells cs=>dG i m cs
 |.row _ _ es _ fl _=>fl||dG i m es
 |.map es _=>pd i m es
 |.loop _ _ _ t _ _ _=>dG i m t
 |_=>true
def ew(i m:Nat):List Ob->Bool
 |[]=>true
 |o::os=>mV i m o&&ew i m os
def nX(i m:Nat):List di->Bool
 |[]=>true
 |.call _ args::ds=>dG i m args&&nX i m ds
 |.mark _::ds=>nX i m ds
def oV(h:List Ob)(all:List Nat):AV->Option AV
 |.sl i off n=>
  match h[i]? with
  |some (.row k E es g true sh)=>
   if cr es g off n=true then
    if off=0/\n=es.length/\sh=false/\all.count i=1 then some (.own k E es)else some (.list false k ((es.drop off).take n))
   else none
  |_=>none
 |.list f k es=>some (.list f k es)
 |a=>view h a
def iR(h:List Ob)(all:List Nat):List AV->Option (List AV)
 |[]=>some []
 |a::as=>
  match oV h all a,iR h all as with
  |some a',some as'=>some (a'::as')
  |_,_=>none
def sd(h:List Ob):AV->Option AV
 |.aL vs=>(iR h (bF vs) vs).map .aL
 |a=>oV h (rowsOf a) a
mutual
def dH:AV->Bool
 |.list _ _ es=>es.isEmpty
 |.de _ _=>false
 |.own _ _ es=>eh es
 |.agg cs=>eh cs
 |.aL cs=>eh cs
 |.fn _ a b=>eh a&&eh b
 |.bX _ v=>dH v
 |.cL a _ _ _=>dH a
 |_=>true
def eh:List AV->Bool
 |[]=>true
 |a::as=>dH a&&eh as
end
def dx(h:List Ob)(args:List AV)(r:AV):List Ob:=
 (if dH r=true then h else share (bF args) h)++(dc h.length r).2
def cU:AO->Nat
 |.load _ _ _|.slice _ _ _ _|.toStr _|.lookup _ _ _ _ _|.wg _=>1
 |.eN _ _|.alloc _|.box _ _|.lit _ _ _|.store _ _ _|.Ao _ _|.mkMap|.mkSlice _ _ _ _ _ _|.slice3 _ _ _ _ _|.bA _ _ _ _|.range _|.next _
 |.append _ _ _ _ _|.tP _ _ _ _ _ _|.delete _ _ _|.clear _ _ _|.mark _|.call _ _|.invoke _ _ _=>2
 |.recover|.panic _|.defer _ _|.iL _ _=>3
 |_=>0
def fh:AO->Bool
 |.call _ _|.invoke _ _ _=>true
 |_=>false
def ja(q:Bool)(o:AO):Nat:=if q&&fh o then 1 else cU o
inductive kj where
 |fn (f:FuncId)
 |yl (l:Nat)
 deriving Inhabited
def kj.cfg:kj->List AV->List Fr->List Ob->aw
 |.fn f,args,up,h=>.cl f args up h
 |.yl l,args,up,h=>match h[l]? with
  |some (.loop _ _ fi t ps a b)=>
   if args.length=ps.length then
    .fr {md:=.run,fn:=fi,its:=[.code a,.beginRound,.code b],t:=kF t ps args,ds:=[],kind:=.round l,base:=h.length} up h
   else .bad
  |_=>.bad
def kj.ok(P:Program):kj->Bool
 |.fn f=>aD P f
 |.yl _=>true
def R.BU:R->Option (kj×List AV)
 |.call f as=>some (.fn f,as)
 |.yield l as=>some (.yl l,as)
 |_=>none
structure fG where
 f:kj
 args:List AV
 h:List Ob
 v:AV
 h':List Ob
 deriving Inhabited
def ga(P:Program)(Γ:Nat->Option AV):List (AV×List Ob)->List AG->List AV->List Ob->Option (List AV×List Ob×List fG×List (List Ob))
 |_,[],t,h=>some (t,h,[],[])
 |orc,o::os,t,h=>
  match dn t o.guard with
  |some true=>
   match aA P Γ t h o.op with
   |.val v h'=>(ga P Γ orc os (aW t o.dst v) h').map fun r=>(r.1,r.2.1,r.2.2.1,h'::r.2.2.2)
   |.skip h'=>(ga P Γ orc os (aW t o.dst (.aL [])) h').map fun r=>(r.1,r.2.1,r.2.2.1,h'::r.2.2.2)
   |.call f args=>if aD P f=false then none else match orc with
    |(v,h')::orc=>(ga P Γ orc os (aW t o.dst v) h').map fun r=>(r.1,r.2.1,⟨.fn f,args,h,v,h'⟩::r.2.2.1,h'::r.2.2.2)
    |[]=>none
   |.yield l args=>match orc with
    |(v,h')::orc=>(ga P Γ orc os (aW t o.dst v) h').map fun r=>(r.1,r.2.1,⟨.yl l,args,h,v,h'⟩::r.2.2.1,h'::r.2.2.2)
    |[]=>none
   |_=>none
  |some false=>(ga P Γ orc os (aW t o.dst (.aL [])) h).map fun r=>(r.1,r.2.1,r.2.2.1,h::r.2.2.2)
  |none=>none
def calm(P:Program)(Γ:Nat->Option AV)(obls:List fG)(hs:List (List Ob)):List Bool->List Nat->List (AV×List Ob)->List AG->List AV->List Ob->Prop
 |_,_,_,[],_,_=>True
 |l,ws,orc,o::os,t,h=>
  match dn t o.guard with
  |some true=>
   match aA P Γ t h o.op with
   |.val v h'=>(l.headD true=true->cU o.op=1->∀g∈hs.take (ws.headD 0),aA P Γ t g o.op=.val v g)/\calm P Γ obls hs l.tail ws.tail orc os (aW t o.dst v) h'
   |.skip h'=>calm P Γ obls hs l.tail ws.tail orc os (aW t o.dst (.aL [])) h'
   |.call f args=>match orc with
    |(v,h')::orc=>(l.headD true=true->h'=h/\∀g∈hs.take (ws.headD 0),aA P Γ t g o.op=.call f args/\⟨.fn f,args,g,v,g⟩∈obls)/\calm P Γ obls hs l.tail ws.tail orc os (aW t o.dst v) h'
    |[]=>False
   |.yield _ _=>match orc with
    |(v,h')::orc=>l.headD true=false/\calm P Γ obls hs l.tail ws.tail orc os (aW t o.dst v) h'
    |[]=>False
   |_=>False
  |some false=>calm P Γ obls hs l.tail ws.tail orc os (aW t o.dst (.aL [])) h
  |none=>False
def ay:Operand->AX
 |.tmp t=>.t t
 |.const v=>.c (fw v)
 |.global g=>.g g
 |.func f=>.f f
def kJ(P:Program)(t:TypeId):Option Nat:=(P.info? t).map (·.bytes)
def dy(P:Program)(t:TypeId):Option AV:=((P.info? t).bind (·.zero)).map fw
def jV(P:Program)(t:TypeId):Option TypeId:=match P.underlying t with|some (.slice e)=>some e|_=>none
def jF(k:Nat)(z:AV):Bool:=decide (z.cells.length=k)&&bO z.cells&&aO 0 z.cells
def Az(P:Program):Nat->TypeId->Option (List AV)
 |0,_=>none
 |n+1,t=>match P.underlying t with
  |some (.slice e)=>match bm P e with
   |some (k+1)=>some [.own (k+1) e []]
   |_=>none
  |some (.struct fs)=>(fs.toList.mapM fun f=>Az P n f.type).map List.flatten
  |some (.array k e)=>(Az P n e).map fun c=>(List.replicate k c).flatten
  |_=>(dy P t).map AV.cells
def Ab:AV->Value->AV
 |.own (k+1) E [],.slice none 0 0=>.own (k+1) E []
 |_,v=>jj v
def pf:List AV->List Value->Option (List AV)
 |[],[]=>some []
 |a::as,v::vs=>(pf as vs).map (Ab a v::·)
 |_,_=>none
def jT(P:Program)(t:TypeId):Option SK:=if P.cellsOf t==1 then(match P.underlying t with
 |some (.int _)=>some .int
 |some .string=>some .str
 |some .bool=>some .bool
 |_=>none)else none
def rT(P:Program):Nat->List Field->Option (List SK)
 |_,[]=>some []
 |i,f::fs=>match jT P f.type,rT P (i+1) fs with
  |some s,some ss=>if f.name != "_" &&f.offset==i then some (s::ss)else none
  |_,_=>none
def uf(P:Program)(t:TypeId):Option (List SK):=match P.underlying t with
 |some (.struct fs)=>if !P.stoodInHeld t then rT P 0 fs.toList else none
 |some (.array n e)=>(jT P e).map fun s=>List.replicate n s
 |_=>none
def gO(P:Program)(t:TypeId):Option EK:=match jT P t with
 |some s=>some (.sc s)
 |none=>(uf P t).map .gQ
def oT(P:Program)(t:TypeId):Option EK:=match jT P t with
 |some s=>some (.sc s)
 |none=>match P.underlying t with
  |some (.struct _)|some (.array _ _)=>if !P.eqGuardType P.depth t then(uf P t).map .gQ else none
  |some (.interface _)=>some .iface
  |some (.func _ _ _)=>some .nil
  |_=>none
def qA:BinOp->Option CK
 |.eql=>some .eql|.neq=>some .neq|.lss=>some .lss|.leq=>some .leq|.gtr=>some .gtr|.geq=>some .geq
 |_=>none
def FI:BinOp->Option IB
 |.add=>some .add|.sub=>some .sub|.mul=>some .mul|.quo=>some .quo|.rem=>some .rem|.and=>some .and
 |.or=>some .or|.xor=>some .xor|.andNot=>some .andNot|.shl=>some .shl|.shr=>some .shr
 |_=>none
def placeOf(P:Program)(t:TypeId)(i:Nat):Option (Nat×Nat):=match P.underlying t with
 |some (.struct fs)=>match fs[i]? with
  |some f=>(bm P f.type).map fun s=>(f.offset,s)
  |none=>none
 |some (.array _ e)=>(bm P e).map fun s=>(i*s,s)
 |_=>none
def vO(P:Program)(t:TypeId):Bool:=match P.underlying t with
 |some (.struct fs)=>fs.toList.all fun f=>(bm P f.type).isSome
 |some (.array _ e)=>(bm P e).isSome
 |_=>false
def oK(P:Program)(t:TypeId)(ps:List (Nat×Operand)):Option (List (Nat×Nat×AX)):=
 ps.mapM fun(i,x)=>(placeOf P t i).map fun(o,s)=>(o,s,ay x)
def lN(P:Program)(c:Call):Option AO:=match c.callee with
 |.value f=>some (.call (ay f) (c.args.toList.map ay))
 |.invoke x name=>some (.invoke (ay x) name (c.args.toList.map ay))
 |.builtin b=>
  match b,c.args.toList,c.argTypes.toList with
  |.len,[x],[t]=>match P.underlying t with
   |some .string=>some (.oQ (ay x))
   |some (.slice _)=>some (.len (ay x))
   |some (.array n _)=>some (.EV n)
   |some (.map _ _)=>some (.wg (ay x))
   |_=>none
  |.cap,[x],[t]=>match P.underlying t with
   |some (.slice _)=>some (.cap (ay x))
   |_=>none
  |.append,[x,y],[t,u]=>do
   let e<-jV P t
   let k<-bm P e
   let b<-kJ P e
   let z<-dy P e
   if k=0\/b=0\/jF k z=false then none
   match P.underlying u with
   |some (.int _)=>some (.tP k e b z (ay x) (ay y))
   |some _=>some (.append k e b (ay x) (ay y))
   |none=>none
  |.delete,[m,k],[t,_]=>match P.underlying t with
   |some (.map key _)=>(gO P key).map fun e=>.delete e (ay m) (ay k)
   |_=>none
  |.clear,[x],[t]=>do
   let e<-jV P t
   let k<-bm P e
   let z<-dy P e
   if k=0\/jF k z=false then none
   some (.clear k z (ay x))
  |.min,xs,_=>some (.min (xs.map ay))
  |.max,xs,_=>some (.max (xs.map ay))
  |.recover,[],_=>some .recover
  |_,_,_=>none
def bL(P:Program)(o:Oper):Option AO:=match o.op with
 |.move x=>some (.mv (ay x))
 |.assign x=>match x with
  |.const (.slice none 0 0)=>do
   let e<-jV P o.type
   let k<-bm P e
   if k=0 then none
   some (.eN k e)
  |_=>some (.mv (ay x))
 |.pick c a b=>some (.pick (ay c) (ay a) (ay b))
 |.alloc t=>do
  let z<-(P.info? t).bind (·.zero)
  some (.alloc (<-pf (<-Az P 8 t) z.cells.toList))
 |.box t x=>do some (.box (<-bm P t) (ay x))
 |.build t ps=>do
  let z<-dy P t
  if vO P t then some (.build z.cells (<-oK P t ps.toList))else none
 |.buildSlice t n ps=>do
  let e<-jV P t
  let k<-bm P e
  let z<-dy P e
  if k=0\/n*k>2^24\/jF k z=false then none
  some (.lit k (List.replicate n z) (ps.toList.map fun(i,x)=>(i,ay x)))
 |.load t a=>do some (.load (<-fB P t) (<-bm P t) (ay a))
 |.store t a x=>do some (.store (<-bm P t) (ay a) (ay x))
 |.nilCheck x=>some (.bG (ay x))
 |.binOp op t x y _=>match P.underlying t with
  |some (.int _)=>match qA op with
   |some c=>some (.cmp c (.sc .int) (ay x) (ay y))
   |none=>(FI op).map fun b=>.aV b (ay x) (ay y)
  |some .string=>if op=.add then some (.concat (ay x) (ay y))else match qA op,oT P t with
   |some c,some e=>some (.cmp c e (ay x) (ay y))
   |_,_=>none
  |some (.slice _)=>match op,x,y with
   |.eql,x,.const (.slice none 0 0)=>some (.iL false (ay x))
   |.neq,x,.const (.slice none 0 0)=>some (.iL true (ay x))
   |_,_,_=>none
  |_=>match qA op,oT P t with
   |some c,some e=>some (.cmp c e (ay x) (ay y))
   |_,_=>none
 |.unOp op _ x=>match op with
  |.not=>some (.not (ay x))
  |.neg=>some (.neg (ay x))
  |.xor=>some (.Fi (ay x))
  |.plus=>none
 |.convert s d x=>match P.underlying s,P.underlying d with
  |some (.int _),some (.int k)=>some (.conv k (ay x))
  |some .string,some .string=>some (.same (ay x))
  |some .string,some (.slice e)=>match P.underlying e with
   |some (.int .u8)=>if bm P e=some 1 then some (.Ao e (ay x))else none
   |_=>none
  |some (.slice _),some (.slice e)=>match P.underlying e with
   |some (.int .u8)=>if s=d then some (.mark (ay x))else none
   |_=>none
  |some (.slice e),some .string=>match P.underlying e with
   |some (.int .u8)=>some (.toStr (ay x))
   |_=>none
  |_,_=>none
 |.makeInterface t x=>match P.underlying t with
  |some (.interface _)|none=>none
  |_=>some (.oE t (ay x))
 |.makeFunc f a b=>some (.jl f (a.toList.map ay) (b.toList.map ay))
 |.makeMap t none=>match P.underlying t with
  |some (.map _ _)=>some .mkMap
  |_=>none
 |.makeSlice t n c=>do
  let e<-jV P t
  let k<-bm P e
  let z<-dy P e
  if k=0\/jF k z=false then none
  some (.mkSlice k e (<-kJ P e) z (ay n) (ay c))
 |.slice t x lo hi none=>match P.underlying t with
  |some .string=>some (.zO (ay x) (lo.map ay) (hi.map ay))
  |some (.slice e)=>match bm P e with
   |some (k+1)=>some (.slice (k+1) (ay x) (lo.map ay) (hi.map ay))
   |_=>none
  |_=>none
 |.slice t x lo (some hi) (some mx)=>match P.underlying t with
  |some (.slice e)=>match bm P e with
   |some (k+1)=>some (.slice3 (k+1) (ay x) (lo.map ay) (ay hi) (ay mx))
   |_=>none
  |_=>none
 |.fieldAddr t x i=>match P.underlying t with
  |some (.struct fs)=>match fs[i]? with
   |some f=>match bm P f.type with
    |some (_+1)=>some (.off f.offset (ay x))
    |_=>none
   |none=>none
  |_=>none
 |.field t x i=>match P.underlying t with
  |some (.struct fs)=>match fs[i]? with
   |some f=>do some (.Gj (<-fB P f.type) f.offset (<-bm P f.type) (ay x))
   |none=>none
  |_=>none
 |.indexAddr t x i=>match P.underlying t with
  |some (.slice e)=>match bm P e with
   |some (k+1)=>some (.ic (k+1) (ay x) (ay i))
   |_=>none
  |some (.array n e)=>match bm P e with
   |some (k+1)=>some (.cT n (k+1) (ay x) (ay i))
   |_=>none
  |_=>none
 |.index t x i=>match P.underlying t with
  |some .string=>some (.wy (ay x) (ay i))
  |some (.array n e)=>do some (.Fk n (<-fB P e) (<-bm P e) (ay x) (ay i))
  |_=>none
 |.lookup t x i ok=>match P.underlying t with
  |some (.map k e)=>do some (.lookup (<-gO P k) (<-dy P e) (ay x) (ay i) ok)
  |_=>none
 |.mapUpdate t m k x|.insert t m k x=>match P.underlying t with
  |some (.map key _)=>(gO P key).map fun e=>.bA e (ay m) (ay k) (ay x)
  |_=>none
 |.range t x=>match P.underlying t with
  |some .string=>some (.range (ay x))
  |_=>none
 |.next x true=>some (.next (ay x))
 |.typeAssert x _ t ok=>match P.underlying t with
  |some (.interface _)|none=>none
  |_=>do some (.z7 (ay x) t (<-dy P t) ok)
 |.extract x i=>some (.extract (ay x) i)
 |.call c=>lN P c
 |.defer c=>match c.callee with
  |.value f=>some (.defer (ay f) (c.args.toList.map ay))
  |_=>none
 |.panic x=>some (.panic (ay x))
 |_=>none
def Aq(ops:List Oper)(o:Oper):Option (Option (Nat×Bool)):=match o.guard with
 |none=>some none
 |some (j,b)=>match(ops[j]?).bind (·.dst)with
  |some d=>some (some (d,b))
  |none=>none
def nb(P:Program)(ops:List Oper)(o:Oper):Option AG:=do
 let g<-Aq ops o
 some ⟨o.dst,g,<-bL P o⟩
def dM:AX->List Nat
 |.t i=>[i]
 |_=>[]
def jQ:AO->List Nat
 |.mv x|.box _ x|.load _ _ x|.bG x|.not x|.neg x|.Fi x|.conv _ x|.same x|.iL _ x|.mark x|.Ao _ x|.toStr x|.oE _ x|.off _ x|.Gj _ _ _ x
 |.range x|.next x|.z7 x _ _ _|.extract x _|.len x|.oQ x|.cap x|.wg x|.clear _ _ x|.panic x=>dM x
 |.pick c a b|.bA _ c a b=>dM c++dM a++dM b
 |.build _ ps=>ps.flatMap fun p=>dM p.2.2
 |.lit _ _ ps=>ps.flatMap fun p=>dM p.2
 |.store _ a x|.aV _ a x|.cmp _ _ a x|.concat a x|.ic _ a x|.cT _ _ a x|.wy a x|.Fk _ _ _ a x|.lookup _ _ a x _|.append _ _ _ a x
 |.tP _ _ _ _ a x|.delete _ a x|.mkSlice _ _ _ _ a x=>dM a++dM x
 |.jl _ a b=>a.flatMap dM++b.flatMap dM
 |.zO x lo hi|.slice _ x lo hi=>dM x++(lo.map dM).getD []++(hi.map dM).getD []
 |.slice3 _ x lo hi mx=>dM x++(lo.map dM).getD []++dM hi++dM mx
 |.min xs|.max xs=>xs.flatMap dM
 |.call f xs|.defer f xs=>dM f++xs.flatMap dM
 |.invoke x _ xs=>dM x++xs.flatMap dM
 |.alloc _|.eN _ _|.mkMap|.EV _|.recover=>[]
def rH(g:AG):List Nat:=(g.guard.map fun x=>[x.1]).getD []++jQ g.op
def NO(b:Array Nat)(i j:Nat):Bool:=if j<i then(b.getD i 0).testBit j else(b.getD j 0).testBit i
def quietAt(b:Array Nat)(gs:List AG)(i:Nat):Bool:=
 match gs[i]? with
 |none=>false
 |some gi=>fh gi.op&&(List.range gs.length).any fun j=>
  match gs[j]? with
  |none=>false
  |some gj=>cU gj.op==2&&!fh gj.op&&!NO b i j
def lB(qi qj:Bool)(gi gj:AG)(kf:Bool):Bool:=
 (gi.dst.isNone||gi.dst !=gj.dst)&&
 (kf||((match gj.dst with|some d=>!(rH gi).contains d|none=>true)&&(match gi.dst with|some d=>!(rH gj).contains d|none=>true)&&
  !(ja qi gi.op==2&&ja qj gj.op==2)))
def tQ(ops:Array Oper)(gs:List AG):Bool:=
 let b:=Region.before ops
 (List.range gs.length).all fun i=>
  match gs[i]? with
  |none=>false
  |some gi=>cU gi.op !=3&&(List.range i).all fun j=>
   match gs[j]? with
   |none=>false
   |some gj=>lB (quietAt b gs i) (quietAt b gs j) gi gj ((b.getD i 0).testBit j)
def looseAt(b:Array Nat)(gs:List AG)(i:Nat):Bool:=
 match gs[i]? with
 |none=>true
 |some gi=>if fh gi.op then quietAt b gs i else cU gi.op==1&&(List.range gs.length).any fun j=>
  match gs[j]? with
  |none=>true
  |some gj=>ja (quietAt b gs j) gj.op==2&&!NO b i j
def lC(ops:Array Oper)(gs:List AG):List Bool:=(List.range gs.length).map (looseAt (Region.before ops) gs)
def AJ(b:Array Nat)(gs:List AG)(i:Nat):Nat:=
 ((List.range gs.length).find? fun j=>decide (i<j)&&(match gs[j]? with
  |none=>false
  |some gj=>ja (quietAt b gs j) gj.op==2&&(b.getD j 0).testBit i)).getD gs.length+1
def ux(ops:Array Oper)(gs:List AG):List Nat:=(List.range gs.length).map (AJ (Region.before ops) gs)
def nB(ops:Array Oper):Bool:=ops.toList.zipIdx.all fun x=>x.1.after.all fun e=>!Region.binds .any e||decide (e.on<x.2)
def we(P:Program)(ops:Array Oper)(gs:List AG):Bool:=tQ ops gs&&nB ops&&(P.follows .mixedOrders||!Region.departs ops)
def mI(ops:Array Oper):List (List Nat):=ops.toList.map fun o=>(o.after.toList.filter (Region.binds .any)).map (·.on)
def eS(P:Program):Code->an
 |.skip|.label _=>.skip
 |.region _ ops draw=>match ops.toList.mapM (nb P ops.toList)with
  |some gs=>if draw then(if we P ops gs then .aR (lC ops gs) (ux ops gs) gs else if nB ops&&(P.follows .mixedOrders||!Region.departs ops)then .eH (mI ops) gs else .bad)else .ae gs
  |none=>.bad
 |.seq a b=>.seq (eS P a) (eS P b)
 |.cond c a b=>.cond (ay c) (eS P a) (eS P b)
 |.block id c=>.block id [] (eS P c)
 |.loop c=>.loop [] (eS P c)
 |.exit id=>.exit id
 |.ret=>.ret
 |.rangeFunc f ps a b=>.rangeFunc (ay f) ps.toList [] (eS P a) (eS P b)
 |.scope _|.goto _|.refuse _=>.bad
def ins(x:Nat)(l:List Nat):List Nat:=if l.contains x then l else x::l
def r9(xs l:List Nat):List Nat:=xs.foldl (fun l x=>ins x l) l
def Mq:List AG->List Nat->List Nat
 |[],out=>out
 |o::os,out=>
  let l:=Mq os out
  let l:=match o.dst with
   |some d=>l.filter (· !=d)
   |_=>l
  r9 ((o.guard.map fun g=>[g.1]).getD []) (r9 (jQ o.op) l)
def live(rs:List Nat):an->List (Nat×List Nat)->List Nat->List Nat
 |.skip,_,out=>out
 |.ae os,_,out|.aR _ _ os,_,out|.eH _ os,_,out=>Mq os out
 |.seq a b,E,out=>live rs a E (live rs b E out)
 |.cond x a b,E,out=>r9 (dM x) (r9 (live rs a E out) (live rs b E out))
 |.block id _ c,E,out=>live rs c ((id,out)::E) out
 |.loop _ c,E,_=>
  let x:=live rs c E []
  let x:=live rs c E x
  live rs c E x
 |.rangeFunc f ps _ a b,_,out=>
  r9 (dM f) (r9 ((live rs a [] (live rs b [] rs)).filter fun s=>!ps.contains s) (r9 rs out))
 |.exit id,E,_=>(E.lookup id).getD rs
 |.ret,_,_=>rs
 |.bad,_,_=>[]
def EW(nt:Nat)(x:List Nat):List Bool:=(List.range nt).map x.contains
def Zg:an->Bool
 |.loop _ _=>true
 |_=>false
def fq(rs:List Nat)(nt:Nat):an->List (Nat×List Nat)->List Nat->an
 |.seq a b,E,out=>.seq (fq rs nt a E (live rs b E out)) (fq rs nt b E out)
 |.cond x a b,E,out=>.cond x (fq rs nt a E out) (fq rs nt b E out)
 |.block id _ c,E,out=>.block id (if Zg c then EW nt out else[]) (fq rs nt c ((id,out)::E) out)
 |.loop _ c,E,out=>
  let x:=live rs (.loop [] c) E out
  .loop (EW nt x) (fq rs nt c E x)
 |.rangeFunc f ps _ a b,_,_=>
  let x:=live rs b [] rs
  .rangeFunc f ps (EW nt ((live rs a [] x).filter fun s=>!ps.contains s)) (fq rs nt a [] x) (fq rs nt b [] rs)
 |c,_,_=>c
def nT(P:Program):ResultVar->Option pq
 |.tmp t=>some (.tmp t)
 |.cell a t=>do some (.cell a (<-fB P t) (<-bm P t))
def Yu:pq->Nat
 |.tmp t=>t
 |.cell a _ _=>a
def aH(P:Program)(f:FuncId):Option aM:=do
 let fn<-P.funcs[f]?
 let b<-fn.body
 let rs<-fn.results.toList.mapM (nT P)
 let sl:=rs.map Yu
 some {body:=fq sl fn.ntmps (eS P b) [] sl,nt:=fn.ntmps,res:=rs}
def mE(P:Program)(Γ:Nat->Option AV)(f:Fr)(up:List Fr)(h:List Ob):aw:=
 match f.ds with
 |.mark i::ds=>match h[i]? with
  |some (.bB true)=>.fr {f with ds} up (h.set i (.bB false))
  |_=>.bad
 |.call g args::ds=>if aD P g=false then .bad else match aH P g with
  |some F=>.fr (enter g F args .bB h) ({f with ds}::up) h
  |none=>.bad
 |[]=>match f.md with
  |.run=>.bad
  |.cM v rc=>if rc then .bad else .die up v h
  |.ret=>match aH P f.fn with
   |some F=>match zL Γ f.t h F.res with
    |some v=>match f.kind with
     |.norm=>.back up v h
     |.bB=>match up with
      |c::rest=>match c.md with
       |.cM _ true=>.fr {c with md:=.ret} rest h
       |.cM _ false=>.fr c rest h
       |.ret=>.fr c rest h
       |.run=>.bad
      |[]=>.bad
     |.round _=>.bad
    |none=>.bad
   |none=>.bad
def eO(P:Program)(Γ:Nat->Option AV):aw->aw
 |.fr f up h=>match f.md with
  |.run=>gz P Γ f up h f.its
  |_=>mE P Γ f up h
 |.cl g args up h=>match aH P g with
  |some F=>.fr (enter g F args .norm h) up h
  |none=>.bad
 |.back (c::up) v h=>match c.finish v with
  |some c'=>.fr c' up h
  |none=>.bad
 |.back [] v h=>.back [] v h
 |.die (c::up) v h=>match c.md with
  |.run=>.fr {c with md:=.cM v false} up h
  |_=>.bad
 |.die [] v h=>.die [] v h
 |.bad=>.bad
end Go.AM
namespace Go.AM
open Go.RowKit
structure G where
 ρ:Nat->Option (Nat×Nat×Nat)
 M:Nat->Nat->Option Value
 MM:Nat->Option (Array MapEntry×Nat)
def Bh(g:G)(h:List Ob)(i off n:Nat)(v:Value):Prop:=
 ∃k E es gr fl sh,h[i]? =some (.row k E es gr fl sh)/\off+n<=es.length/\∃a cap,v=.slice a n cap/\n<=cap/\(0<n->∃b o,a=some ⟨b,o,none⟩)/\
  (cr es gr off n=true->es.length<=off+cap/\(
   (n=0/\cap=0)\/∃b sz st,g.ρ i=some (b,sz,st)/\st<=off/\a=some ⟨b,(off-st)*k,none⟩/\((off-st)+cap)*k<=sz))
def isCells(h:List Ob)(i:Nat):Prop:=∃vs,h[i]? =some (.cells vs)
def isMap(h:List Ob)(i:Nat):Prop:=∃es fl,h[i]? =some (.map es fl)
def M7(h:List Ob)(i:Nat):Prop:=∃s p,h[i]? =some (.gC s p)
def EY(h:List Ob)(i:Nat):Prop:=∃st j fn t ps a b,h[i]? =some (.loop st j fn t ps a b)
def AP:Value->Option Addr
 |.slice a _ _=>a
 |_=>none
mutual
def V(g:G)(h:List Ob):AV->Value->Prop
 |.undef,_=>True
 |.bool b,v=>v=.bool b
 |.int k n,v=>v=.int k n
 |.str s,v=>v=.string ⟨s.toArray⟩
 |.iq,v=>v=.pointer none
 |.eu,v=>v=.map none
 |.ei,v=>v=.nilFunc
 |.dZ,v=>v=.nilIface
 |.list full k es,v=>cj es k=true/\∃a cap,v=.slice a es.length cap/\(full=true->cap=es.length)/\es.length<=cap/\
  (es=[]\/∃b o vs,a=some ⟨b,o,none⟩/\VE g h es vs/\∀j(hj:j<vs.length),g.M b (o+j)=some vs[j])
 |.own _ _ _,_=>False
 |.sl i off n,v=>Bh g h i off n v
 |.cL a k ix off,v=>∃u b o,V g h a u/\AP u=some ⟨b,o,none⟩/\(∃m,nP a=some m/\ix<m)/\v=.pointer (some ⟨b,o+ix*k+off,none⟩)
 |.ptr i off,v=>isCells h i/\∃b sz,g.ρ i=some (b,sz,0)/\v=.pointer (some ⟨b,off,none⟩)
 |.dF n off,v=>v=.pointer (some ⟨n,off,none⟩)
 |.mp i,v=>isMap h i/\∃b sz,g.ρ i=some (b,sz,0)/\v=.map (some b)
 |.de ks us,v=>∃b es ck,v=.map (some b)/\g.MM b=some (es,ck)/\VL g h ks (es.toList.map (·.key))/\VL g h us (es.toList.map (·.val))
 |.it i,v=>M7 h i/\∃b sz,g.ρ i=some (b,sz,0)/\v=.pointer (some ⟨b,0,none⟩)
 |.dA i,v=>EY h i/\∃b sz,g.ρ i=some (b,sz,0)/\v=.func (.yield b) #[] #[]
 |.agg cs,v=>∃vs,v=.agg vs.toArray/\VL g h cs vs
 |.aL cs,v=>∃vs,v=.tuple vs.toArray/\VL g h cs vs
 |.fn f a b,v=>∃xs ys,v=.func f xs.toArray ys.toArray/\VL g h a xs/\VL g h b ys
 |.bX t a,v=>∃x,v=.iface t x/\V g h a x
def VL(g:G)(h:List Ob):List AV->List Value->Prop
 |[],vs=>vs=[]
 |a::as,vs=>∃v vs',vs=v::vs'/\V g h a v/\VL g h as vs'
def VE(g:G)(h:List Ob):List AV->List Value->Prop
 |[],vs=>vs=[]
 |e::es,vs=>∃v vs',V g h e v/\vs=v.cells.toList++vs'/\VE g h es vs'
end
section
variable{g:G}{h:List Ob}
theorem fe:∀{as:List AV}{vs:List Value},VL g h as vs->vs.length=as.length
 |[],vs,hv=>by simp only[VL]at hv;simp[hv]
 |a::as,vs,hv=>by
  simp only[VL]at hv;obtain⟨v,vs',rfl,_,hr⟩:=hv;simp[fe hr]
theorem rK:∀{as:List AV}{vs:List Value}(i:Nat),VL g h as vs->V g h (as.getD i .undef) (vs.getD i undef)
 |[],vs,i,hv=>by simp[V]
 |a::as,vs,i,hv=>by
  simp only[VL]at hv;obtain⟨v,vs',rfl,h1,hr⟩:=hv
  cases i with
  |zero=>simpa using h1
  |succ i=>simpa using rK i hr
theorem qc:∀{as:List AV}{vs:List Value}{i:Nat}{a:AV},VL g h as vs->as[i]? =some a->∃v,vs[i]? =some v/\V g h a v
 |[],vs,i,a,hv,ha=>by simp at ha
 |b::as,vs,i,a,hv,ha=>by
  simp only[VL]at hv;obtain⟨v,vs',rfl,h1,hr⟩:=hv
  cases i with
  |zero=>simp at ha;subst ha;exact⟨v,by simp,h1⟩
  |succ i=>simp at ha;obtain⟨u,h2,h3⟩:=qc hr ha;exact⟨u,by simpa using h2,h3⟩
theorem oN:∀{as:List AV}{vs:List Value}(i:Nat){a:AV}{v:Value},VL g h as vs->V g h a v->VL g h (as.set i a) (vs.set i v)
 |[],vs,i,a,v,hv,ha=>by simp only[VL]at hv;simp[hv,VL]
 |b::as,vs,i,a,v,hv,ha=>by
  simp only[VL]at hv;obtain⟨u,vs',rfl,h1,hr⟩:=hv
  cases i with
  |zero=>simp only[xj,VL];exact⟨v,vs',rfl,ha,hr⟩
  |succ i=>simp only[uP,VL];exact⟨u,_,rfl,h1,oN i hr ha⟩
theorem jN:∀{as bs:List AV}{vs ws:List Value},VL g h as vs->VL g h bs ws->VL g h (as++bs) (vs++ws)
 |[],bs,vs,ws,hv,hw=>by simp only[VL]at hv;subst hv;simpa using hw
 |a::as,bs,vs,ws,hv,hw=>by
  simp only[VL]at hv;obtain⟨v,vs',rfl,h1,hr⟩:=hv;simp only[ek,VL];exact⟨v,vs'++ws,rfl,h1,jN hr hw⟩
theorem Aa:∀{as:List AV}{vs:List Value}(n:Nat),VL g h as vs->VL g h (as.take n) (vs.take n)
 |[],vs,n,hv=>by simp only[VL]at hv;subst hv;simp[VL]
 |a::as,vs,n,hv=>by
  simp only[VL]at hv;obtain⟨v,vs',rfl,h1,hr⟩:=hv
  cases n with
  |zero=>simp[VL]
  |succ n=>simp only[QX,VL];exact⟨v,_,rfl,h1,Aa n hr⟩
theorem Aj:∀{as:List AV}{vs:List Value}(n:Nat),VL g h as vs->VL g h (as.drop n) (vs.drop n)
 |[],vs,n,hv=>by simp only[VL]at hv;subst hv;simp[VL]
 |a::as,vs,n,hv=>by
  have hv0:=hv;simp only[VL]at hv;obtain⟨v,vs',rfl,h1,hr⟩:=hv
  cases n with
  |zero=>simpa using hv0
  |succ n=>simpa using Aj n hr
theorem oM{α:Type}{f:α->AV}{e:α->Value}(hf:∀x,V g h (f x) (e x)):∀(l:List α),VL g h (l.map f) (l.map e)
 |[]=>by simp[VL]
 |x::l=>by simp only[cv,VL];exact⟨_,_,rfl,hf x,oM hf l⟩
theorem Ly:∀(n:Nat)(vs:List Value),vs.length=n->VL g h (List.replicate n .undef) vs
 |0,vs,hl=>by
  have:vs=[]:=k_.1 hl;simp[this,VL]
 |n+1,vs,hl=>by
  cases vs with
  |nil=>simp at hl
  |cons v vs=>simp only[qN,VL];exact⟨v,vs,rfl,by simp[V],Ly n vs (by simpa using hl)⟩
theorem oF:∀(m:List Bool){as:List AV}{vs:List Value},VL g h as vs->VL g h (cW m as) vs
 |[],as,vs,hv=>by cases as<;>simpa[cW]using hv
 |_::_,[],vs,hv=>by simpa[cW]using hv
 |b::m,a::as,vs,hv=>by
  simp only[VL]at hv;obtain⟨v,vs',rfl,h1,hr⟩:=hv
  cases b
  ·simp only[cW,VL];exact⟨v,vs',rfl,by simp[V],oF m hr⟩
  ·simp only[cW,VL];exact⟨v,vs',rfl,h1,oF m hr⟩
theorem CC{a:AV}{v:Value}(ho:a.one=true)(hv:V g h a v):v.cells=#[v]:=by
 cases a<;>simp only[V,AV.one,dU]at hv ho
 case sl=>obtain⟨_,_,_,_,_,_,_,_,a,cap,rfl,_⟩:=hv;rfl
 case cL=>obtain⟨_,_,_,_,_,_,rfl⟩:=hv;rfl
 case ptr=>obtain⟨_,_,_,_,rfl⟩:=hv;rfl
 case mp=>obtain⟨_,_,_,_,rfl⟩:=hv;rfl
 case de=>obtain⟨_,_,_,rfl,_⟩:=hv;rfl
 case it=>obtain⟨_,_,_,_,rfl⟩:=hv;rfl
 case dA=>obtain⟨_,_,_,_,rfl⟩:=hv;rfl
 case list=>obtain⟨_,_,_,rfl,_⟩:=hv;rfl
 case fn=>obtain⟨_,_,rfl,_⟩:=hv;rfl
 case bX=>obtain⟨_,rfl,_⟩:=hv;rfl
 all_goals (first|(subst hv;rfl)|exact hv.elim)
theorem SU{a:AV}{v:Value}(ho:a.one=true)(hv:V g h a v):v.oneCell'=true:=by
 cases a<;>simp only[V,AV.one,dU]at hv ho
 case sl=>obtain⟨_,_,_,_,_,_,_,_,a,cap,rfl,_⟩:=hv;rfl
 case cL=>obtain⟨_,_,_,_,_,_,rfl⟩:=hv;rfl
 case ptr=>obtain⟨_,_,_,_,rfl⟩:=hv;rfl
 case mp=>obtain⟨_,_,_,_,rfl⟩:=hv;rfl
 case de=>obtain⟨_,_,_,rfl,_⟩:=hv;rfl
 case it=>obtain⟨_,_,_,_,rfl⟩:=hv;rfl
 case dA=>obtain⟨_,_,_,_,rfl⟩:=hv;rfl
 case list=>obtain⟨_,_,_,rfl,_⟩:=hv;rfl
 case fn=>obtain⟨_,_,rfl,_⟩:=hv;rfl
 case bX=>obtain⟨_,rfl,_⟩:=hv;rfl
 all_goals (first|(subst hv;rfl)|exact hv.elim)
theorem oG{a:AV}{v:Value}(ho:a.ok=true)(hv:V g h a v):VL g h a.cells v.cells.toList:=by
 by_cases ha:∃cs,a=.agg cs
 ·obtain⟨cs,rfl⟩:=ha;simp only[V]at hv;obtain⟨vs,rfl,hl⟩:=hv;simpa[AV.cells,Value.cells]using hl
 ·have hc:a.cells=[a]:=by
   cases a<;>first|rfl|exact absurd ⟨_,rfl⟩ ha
  have h1:a.one=true:=by
   cases a<;>first|rfl|exact absurd ⟨_,rfl⟩ ha|simp[AV.ok]at ho
  rw[hc];rw[CC h1 hv];simp only[VL];exact⟨v,[],rfl,hv,rfl⟩
theorem pT{a:AV}(h:bO a.cells=true):a.ok=true:=by
 cases a<;>first|rfl|simp[AV.cells,bO,AV.one]at h
theorem Cl:∀{as:List AV}{vs:List Value},bO as=true->VL g h as vs->∀v∈vs,v.oneCell'=true
 |[],vs,_,hv=>by simp only[VL]at hv;subst hv;simp
 |a::as,vs,ho,hv=>by
  simp only[VL]at hv;obtain⟨v,vs',rfl,h1,hr⟩:=hv;simp only[bO,aC]at ho;intro u hu
  rcases bw.1 hu with rfl|hu
  ·exact SU ho.1 h1
  ·exact Cl ho.2 hr u hu
end
structure Ext(n:Nat)(g:G)(h:List Ob)(g':G)(h':List Ob):Prop where
 M:∀b o v,g.M b o=some v->g'.M b o=some v
 MM:∀b x,g.MM b=some x->g'.MM b=some x
 cells:∀i vs,i<n->h[i]? =some (.cells vs)->(∃vs',h'[i]? =some (.cells vs'))/\∀x,g.ρ i=some x->g'.ρ i=some x
 map:∀i es fl,i<n->h[i]? =some (.map es fl)->(∃es' fl',h'[i]? =some (.map es' fl'))/\∀x,g.ρ i=some x->g'.ρ i=some x
 iter:∀i s p,i<n->h[i]? =some (.gC s p)->(∃s' p',h'[i]? =some (.gC s' p'))/\∀x,g.ρ i=some x->g'.ρ i=some x
 loop:∀i st j fn t ps a b,i<n->h[i]? =some (.loop st j fn t ps a b)->(∃st' j',h'[i]? =some (.loop st' j' fn t ps a b))/\∀x,g.ρ i=some x->g'.ρ i=some x
 bB:∀i l,i<n->h[i]? =some (.bB l)->(∃l',h'[i]? =some (.bB l'))/\∀x,g.ρ i=some x->g'.ρ i=some x
 row:∀i k E es gr fl sh,i<n->h[i]? =some (.row k E es gr fl sh)->∃E' es' gr' fl' sh',h'[i]? =some (.row k E' es' gr' fl' sh')/\es.length<=es'.length/\
  ∀off m,off+m<=es.length->cr es' gr' off m=true->cr es gr off m=true/\es'.length=es.length/\∀x,g.ρ i=some x->g'.ρ i=some x
theorem Ext.refl(n:Nat)(g:G)(h:List Ob):Ext n g h g h:=
 ⟨fun _ _ _ x=>x,fun _ _ x=>x,fun _ _ _ x=>⟨⟨_,x⟩,fun _ x=>x⟩,fun _ _ _ _ x=>⟨⟨_,_,x⟩,fun _ x=>x⟩,fun _ _ _ _ x=>⟨⟨_,_,x⟩,fun _ x=>x⟩,
  fun _ _ _ _ _ _ _ _ _ x=>⟨⟨_,_,x⟩,fun _ x=>x⟩,fun _ _ _ x=>⟨⟨_,x⟩,fun _ x=>x⟩,
  fun _ _ _ _ _ _ _ _ x=>⟨_,_,_,_,_,x,aU _,fun _ _ _ h=>⟨h,rfl,fun _ x=>x⟩⟩⟩
theorem Ext.mono{n m:Nat}{g g':G}{h h':List Ob}(a:Ext n g h g' h')(hm:m<=n):Ext m g h g' h':=
 ⟨a.M,a.MM,fun i vs hi=>a.cells i vs (by omega),fun i es fl hi=>a.map i es fl (by omega),fun i s p hi=>a.iter i s p (by omega),
  fun i st j fn t ps x y hi=>a.loop i st j fn t ps x y (by omega),fun i l hi=>a.bB i l (by omega),fun i k E es gr fl sh hi=>a.row i k E es gr fl sh (by omega)⟩
theorem Ext.trans{n:Nat}{g g' g'':G}{h h' h'':List Ob}(a:Ext n g h g' h')(b:Ext n g' h' g'' h''):Ext n g h g'' h'':=by
 refine⟨fun _ _ _ x=>b.M _ _ _ (a.M _ _ _ x),fun _ _ x=>b.MM _ _ (a.MM _ _ x),?_,?_,?_,?_,?_,?_⟩
 ·intro i vs hn hi;obtain⟨⟨vs',h1⟩,r1⟩:=a.cells i vs hn hi;obtain⟨h2,r2⟩:=b.cells i vs' hn h1;exact⟨h2,fun x hx=>r2 x (r1 x hx)⟩
 ·intro i es fl hn hi;obtain⟨⟨es',fl',h1⟩,r1⟩:=a.map i es fl hn hi;obtain⟨h2,r2⟩:=b.map i _ _ hn h1;exact⟨h2,fun x hx=>r2 x (r1 x hx)⟩
 ·intro i es fl hn hi;obtain⟨⟨es',fl',h1⟩,r1⟩:=a.iter i es fl hn hi;obtain⟨h2,r2⟩:=b.iter i _ _ hn h1;exact⟨h2,fun x hx=>r2 x (r1 x hx)⟩
 ·intro i st j fn t ps x y hn hi;obtain⟨⟨st',j',h1⟩,r1⟩:=a.loop i st j fn t ps x y hn hi;obtain⟨h2,r2⟩:=b.loop i _ _ _ _ _ _ _ hn h1;exact⟨h2,fun x hx=>r2 x (r1 x hx)⟩
 ·intro i l hn hi;obtain⟨⟨l',h1⟩,r1⟩:=a.bB i l hn hi;obtain⟨h2,r2⟩:=b.bB i _ hn h1;exact⟨h2,fun x hx=>r2 x (r1 x hx)⟩
 ·intro i k E es gr fl sh hn hi;obtain⟨E',es',gr',fl',sh',h1,l1,q1⟩:=a.row i _ _ _ _ _ _ hn hi;obtain⟨E'',es'',gr'',fl'',sh'',h2,l2,q2⟩:=b.row i _ _ _ _ _ _ hn h1;refine⟨E'',es'',gr'',fl'',sh'',h2,qO l1 l2,?_⟩;intro off m hom hok;obtain⟨x2,l2',r2⟩:=q2 off m (by omega) hok;obtain⟨x1,l1',r1⟩:=q1 off m hom x2;exact⟨x1,l2'.trans l1',fun x hx=>r2 x (r1 x hx)⟩
theorem X_{n:Nat}{g g':G}{h h':List Ob}(x:Ext n g h g' h'){i off m:Nat}(hb:i<n){v:Value}(hv:Bh g h i off m v):Bh g' h' i off m v:=by
 obtain⟨k,E,es,gr,fl,sh,hi,hle,a,cap,rfl,hc,hn,hq⟩:=hv;obtain⟨E',es',gr',fl',sh',h1,hl,q⟩:=x.row i _ _ _ _ _ _ hb hi;refine⟨k,E',es',gr',fl',sh',h1,qO hle hl,a,cap,rfl,hc,hn,fun hr=>?_⟩;obtain⟨hr0,hll,hρ⟩:=q _ _ hle hr;obtain⟨hlc,hq⟩:=hq hr0;refine⟨by omega,?_⟩
 rcases hq with h0|⟨b,sz,st,h2,h3⟩
 ·exact Or.inl h0
 ·exact Or.inr ⟨b,sz,st,hρ _ h2,h3⟩
mutual
theorem fo{n:Nat}{g g':G}{h h':List Ob}(x:Ext n g h g' h'):∀{a:AV}{v:Value},aJ n a=true->V g h a v->V g' h' a v
 |.undef,_,_,_=>by simp[V]
 |.bool _,_,_,hv=>by simpa only [V]using hv
 |.int _ _,_,_,hv=>by simpa only [V]using hv
 |.str _,_,_,hv=>by simpa only [V]using hv
 |.iq,_,_,hv=>by simpa only [V]using hv
 |.eu,_,_,hv=>by simpa only [V]using hv
 |.ei,_,_,hv=>by simpa only [V]using hv
 |.dZ,_,_,hv=>by simpa only [V]using hv
 |.dF _ _,_,_,hv=>by simpa only [V]using hv
 |.list full k es,v,hb,hv=>by
  simp only[V]at hv⊢;obtain⟨hk,a,cap,rfl,hf,hc,h1⟩:=hv;refine⟨hk,a,cap,rfl,hf,hc,?_⟩
  rcases h1 with h1|⟨b,o,vs,rfl,he,hm⟩
  ·exact Or.inl h1
  ·refine Or.inr ⟨b,o,vs,rfl,fg x ?_ he,fun j hj=>x.M _ _ _ (hm j hj)⟩;exact h_ hk
 |.own _ _ _,_,_,hv=>by simp only[V]at hv
 |.sl _ _ _,_,hb,hv=>by
  simp only[aJ,a8]at hb
  simp only[V]at hv⊢;exact X_ x hb hv
 |.cL a _ _ _,_,hb,hv=>by
  simp only[V]at hv⊢;simp only[aJ]at hb;obtain⟨u,b,o,h1,h2,h4,rfl⟩:=hv;exact⟨u,b,o,fo x hb h1,h2,h4,rfl⟩
 |.ptr i _,_,hb,hv=>by
  simp only[V]at hv⊢;simp only[aJ,a8]at hb;obtain⟨⟨vs,hi⟩,b,sz,hρ,rfl⟩:=hv;obtain⟨h1,h2⟩:=x.cells i vs hb hi;exact⟨h1,b,sz,h2 _ hρ,rfl⟩
 |.mp i,_,hb,hv=>by
  simp only[V]at hv⊢;simp only[aJ,a8]at hb;obtain⟨⟨es,fl,hi⟩,b,sz,hρ,rfl⟩:=hv;obtain⟨h1,h2⟩:=x.map i es fl hb hi;exact⟨h1,b,sz,h2 _ hρ,rfl⟩
 |.de ks us,_,hb,hv=>by
  simp only[V]at hv⊢;obtain⟨b,es,ck,rfl,h1,h2,h3⟩:=hv;simp only[aJ,aC]at hb;exact⟨b,es,ck,rfl,x.MM _ _ h1,b_ x hb.1 h2,b_ x hb.2 h3⟩
 |.it i,_,hb,hv=>by
  simp only[V]at hv⊢;simp only[aJ,a8]at hb;obtain⟨⟨es,fl,hi⟩,b,sz,hρ,rfl⟩:=hv;obtain⟨h1,h2⟩:=x.iter i es fl hb hi;exact⟨h1,b,sz,h2 _ hρ,rfl⟩
 |.dA i,_,hb,hv=>by
  simp only[V]at hv⊢;simp only[aJ,a8]at hb;obtain⟨⟨st,j,fn,t,ps,p,q,hi⟩,b,sz,hρ,rfl⟩:=hv;obtain⟨⟨st',j',h1⟩,h2⟩:=x.loop i st j fn t ps p q hb hi;exact⟨⟨_,_,_,_,_,_,_,h1⟩,b,sz,h2 _ hρ,rfl⟩
 |.agg cs,_,hb,hv=>by
  simp only[V]at hv⊢;simp only[aJ]at hb;obtain⟨vs,rfl,h1⟩:=hv;exact⟨vs,rfl,b_ x hb h1⟩
 |.aL cs,_,hb,hv=>by
  simp only[V]at hv⊢;simp only[aJ]at hb;obtain⟨vs,rfl,h1⟩:=hv;exact⟨vs,rfl,b_ x hb h1⟩
 |.fn f a b,_,hb,hv=>by
  simp only[V]at hv⊢;simp only[aJ,aC]at hb;obtain⟨xs,ys,rfl,h1,h2⟩:=hv;exact⟨xs,ys,rfl,b_ x hb.1 h1,b_ x hb.2 h2⟩
 |.bX t a,_,hb,hv=>by
  simp only[V]at hv⊢;simp only[aJ]at hb;obtain⟨y,rfl,h1⟩:=hv;exact⟨y,rfl,fo x hb h1⟩
theorem b_{n:Nat}{g g':G}{h h':List Ob}(x:Ext n g h g' h'):∀{as:List AV}{vs:List Value},aO n as=true->VL g h as vs->VL g' h' as vs
 |[],_,_,hv=>by simpa only [VL]using hv
 |a::as,_,hb,hv=>by
  simp only[VL]at hv⊢;simp only[aO,aC]at hb;obtain⟨v,vs',rfl,h1,h2⟩:=hv;exact⟨v,vs',rfl,fo x hb.1 h1,b_ x hb.2 h2⟩
theorem fg{n:Nat}{g g':G}{h h':List Ob}(x:Ext n g h g' h'):∀{as:List AV}{vs:List Value},aO n as=true->VE g h as vs->VE g' h' as vs
 |[],_,_,hv=>by simpa only [VE]using hv
 |a::as,_,hb,hv=>by
  simp only[VE]at hv⊢;simp only[aO,aC]at hb;obtain⟨v,vs',h1,rfl,h2⟩:=hv;exact⟨v,vs',fo x hb.1 h1,rfl,fg x hb.2 h2⟩
end
def CR(P:Program):Code->an->Prop
 |_,.bad=>True
 |.skip,.skip=>True
 |.label _,.skip=>True
 |.region _ ops false,.ae gs=>ops.toList.mapM (nb P ops.toList)=some gs
 |.region _ ops true,.aR l ws gs=>ops.toList.mapM (nb P ops.toList)=some gs/\we P ops gs=true/\l=lC ops gs/\ws=ux ops gs
 |.region _ ops true,.eH as gs=>ops.toList.mapM (nb P ops.toList)=some gs/\nB ops=true/\(P.follows .mixedOrders||!Region.departs ops)=true/\as=mI ops
 |.seq a b,.seq a' b'=>CR P a a'/\CR P b b'
 |.cond c a b,.cond x a' b'=>x=ay c/\CR P a a'/\CR P b b'
 |.block id c,.block id' _ c'=>id=id'/\CR P c c'
 |.loop c,.loop _ c'=>CR P c c'
 |.rangeFunc f ps a b,.rangeFunc x qs _ a' b'=>x=ay f/\qs=ps.toList/\CR P a a'/\CR P b b'
 |.exit i,.exit j=>i=j
 |.ret,.ret=>True
 |_,_=>False
theorem oC(P:Program):∀c:Code,CR P c (eS P c)
 |.skip=>by simp[eS,CR]
 |.label _=>by simp[eS,CR]
 |.region _ ops draw=>by
  simp only[eS]
  cases hm:ops.toList.mapM (nb P ops.toList)with
  |none=>simp[CR]
  |some gs=>
   cases draw
   ·simp[CR,hm]
   ·by_cases ho:we P ops gs=true
    ·simp[CR,hm,ho]
    ·by_cases he:(nB ops&&(P.follows .mixedOrders||!Region.departs ops))=true
     ·have he2:=he;rw[aC]at he2;simp only[ho,he,bY,dU,cE,CR];exact⟨hm,he2.1,he2.2,trivial⟩
     ·simp[CR,ho,he]
 |.seq a b=>by simp only[eS,CR];exact⟨oC P a,oC P b⟩
 |.cond c a b=>by simp only[eS,CR];exact⟨trivial,oC P a,oC P b⟩
 |.block id c=>by simp only[eS,CR];exact⟨trivial,oC P c⟩
 |.loop c=>by simp only[eS,CR];exact oC P c
 |.rangeFunc f ps a b=>by simp only[eS,CR];exact⟨trivial,trivial,oC P a,oC P b⟩
 |.exit i=>by simp[eS,CR]
 |.ret=>by simp[eS,CR]
 |.scope _=>by simp[eS,CR]
 |.goto _=>by simp[eS,CR]
 |.refuse _=>by simp[eS,CR]
theorem oD(P:Program)(rs:List Nat)(nt:Nat):∀(a:an)(c:Code)(E:List (Nat×List Nat))(out:List Nat),CR P c a->CR P c (fq rs nt a E out)
 |.seq a b,c,E,out,h=>by cases c<;>simp only[CR,fq]at h⊢;exact⟨oD P rs nt a _ _ _ h.1,oD P rs nt b _ _ _ h.2⟩
 |.cond x a b,c,E,out,h=>by cases c<;>simp only[CR,fq]at h⊢;exact⟨h.1,oD P rs nt a _ _ _ h.2.1,oD P rs nt b _ _ _ h.2.2⟩
 |.block id m a,c,E,out,h=>by cases c<;>simp only[CR,fq]at h⊢;exact⟨h.1,oD P rs nt a _ _ _ h.2⟩
 |.loop m a,c,E,out,h=>by cases c<;>simp only[CR,fq]at h⊢;exact oD P rs nt a _ _ _ h
 |.rangeFunc f ps m a b,c,E,out,h=>by
  cases c<;>simp only[CR,fq]at h⊢
  exact⟨h.1,h.2.1,oD P rs nt a _ _ _ h.2.2.1,oD P rs nt b _ _ _ h.2.2.2⟩
 |.skip,c,E,out,h=>by simpa only [fq]using h
 |.ae _,c,E,out,h=>by simpa only [fq]using h
 |.aR _ _ _,c,E,out,h=>by simpa only [fq]using h
 |.eH _ _,c,E,out,h=>by simpa only [fq]using h
 |.exit _,c,E,out,h=>by simpa only [fq]using h
 |.ret,c,E,out,h=>by simpa only [fq]using h
 |.bad,c,E,out,h=>by simpa only [fq]using h
def lQ(c:Array Value)(fz:Nat×Nat):Prop:=fz.1=fz.2\/c.size<=fz.1
theorem lQ.at{c:Array Value}{fz:Nat×Nat}(h:lQ c fz){o:Nat}(ho:o<c.size):(fz.1<=o&&o<fz.2)=false:=by
 rcases h with h|h
 ·rw[h];by_cases h2:fz.2<=o<;>simp[h2]<;>omega
 ·have:¬fz.1<=o:=by omega
  simp[this]
def JR:Jump->Option Code->Prop
 |.none,c=>c=none
 |.ret,c=>c=some .ret
 |.exit id,c=>c=some (.exit id)
def OV(P:Program)(g:G)(h:List Ob)(w:World)(i:Nat):Ob->Prop
 |.gone=>True
 |.cells vs=>∀b sz st,g.ρ i=some (b,sz,st)->∃c E fz,w.heap[b]? =some (.cells c E fz)/\lQ c fz/\VL g h vs c.toList
 |.row k _ es gr fl _=>0<k/\(∀e∈es,e.cells.length=k/\bO e.cells=true)/\(fl=true->cj es k=true)/\gr.getD 0<=es.length/\
  match g.ρ i with
  |none=>es=[]
  |some (b,sz,st)=>st<=gr.getD 0/\∃c E fz vs,w.heap[b]? =some (.cells c E fz)/\c.size=sz/\lQ c fz/\VE g h (es.drop (gr.getD 0)) vs/\
   ∀j(hj:j<vs.length),c[(gr.getD 0-st)*k+j]? =some vs[j]
 |.map es fl=>(fl=true->aO 0 (es.map (·.2))=true)/\
  ∀b sz st,g.ρ i=some (b,sz,st)->∃bd ck,w.heap[b]? =some (.map bd ck)/\VL g h (es.map (·.1)) (bd.toList.map (·.key))/\VL g h (es.map (·.2)) (bd.toList.map (·.val))
 |.gC s p=>∀b sz st,g.ρ i=some (b,sz,st)->w.heap[b]? =some (.stringIter ⟨s.toArray⟩ p)
 |.loop st j fn t ps a b=>∀bk sz sta,g.ρ i=some (bk,sz,sta)->∃L:Loop,w.heap[bk]? =some (.loop L)/\L.state=st/\JR j L.pending/\L.fn=fn/\VL g h t L.tmps.toList/\
  L.params.toList=ps/\CR P L.assign a/\CR P L.body b/\∃F,P.funcs[fn]? =some F
 |.bB live=>∀b sz st,g.ρ i=some (b,sz,st)->w.heap[b]? =some (.deferred (if live then some []else none))
structure Env where
 K:Nat->Option Obj
 M0:Nat->Nat->Option Value
 MM:Nat->Option (Array MapEntry×Nat)
 w0:World
def FH(Γ:Nat->Option AV)(N:Env):Prop:=∀n(zs:List Int),zs≠[]->Γ n=some (.agg (zs.map fun z=>AV.int .u64 z))->∃t q,N.K n=some (Obj.cells (zs.map fun z=>Value.int .u64 z).toArray t q)
structure Inv(P:Program)(Γ:Nat->Option AV)(N:Env)(g:G)(h:List Ob)(w:World):Prop where
 os:w.os=N.w0.os
 tape:w.tape=N.w0.tape
 output:w.output=N.w0.output
 eG:∀b o,N.K b=some o->w.heap[b]? =some o
 own:∀i b x,g.ρ i=some (b,x)->N.K b=none/\b<w.heap.size
 inj:∀i j b x y,g.ρ i=some (b,x)->g.ρ j=some (b,y)->i=j
 n7:∀i,h.length<=i->g.ρ i=none
 mem:∀b o v,g.M b o=some v->w.cell? ⟨b,o,none⟩=some v
 mm:∀b es ck,g.MM b=some (es,ck)->w.heap[b]? =some (.map es ck)/\∀i x,g.ρ i≠some (b,x)
 dX:∀i b sz st o v,g.ρ i=some (b,sz,st)->g.M b o=some v->∃k E es gr fl,h[i]? =some (.row k E es gr fl true)/\o<(es.length-st)*k
 ob:∀i o,h[i]? =some o->OV P g h w i o
 j5:∀n a,Γ n=some a->aO 0 a.cells=true/\∃vs,VL g h a.cells vs/\∀j(hj:j<vs.length),g.M n j=some vs[j]
 mK:∀b o v B,g.M b o=some v->N.K b=some B->N.M0 b o=some v
 iz:g.MM=N.MM
 km:FH Γ N
theorem bj{α:Type}{l:List α}{i:Nat}{a:α}(h:l[i]? =some a):i<l.length:=by
 rcases jG i l.length with hi|hi
 ·exact hi
 ·simp[mh hi]at h
mutual
theorem jU{g:G}{h:List Ob}:∀{a:AV}{v:Value},V g h a v->aJ h.length a=true
 |.undef,_,_|.bool _,_,_|.int _ _,_,_|.str _,_,_|.iq,_,_|.eu,_,_|.ei,_,_|.dZ,_,_|.dF _ _,_,_=>rfl
 |.list _ _ es,_,hv=>by
  simp only[V]at hv;simp only[aJ];exact h_ hv.1
 |.own _ _ _,_,hv=>by simp only[V]at hv
 |.sl i _ _,_,hv=>by
  simp only[V]at hv;obtain⟨_,_,_,_,_,_,hi,_⟩:=hv;simp only[aJ,a8];exact bj hi
 |.cL a _ _ _,_,hv=>by
  simp only[V]at hv;obtain⟨u,b,o,h1,_⟩:=hv
  simp only[aJ];exact jU h1
 |.ptr i _,_,hv=>by
  simp only[V]at hv;obtain⟨⟨vs,hi⟩,_⟩:=hv
  simp only[aJ,a8];exact bj hi
 |.mp i,_,hv=>by
  simp only[V]at hv;obtain⟨⟨_,_,hi⟩,_⟩:=hv
  simp only[aJ,a8];exact bj hi
 |.it i,_,hv=>by
  simp only[V]at hv;obtain⟨⟨_,_,hi⟩,_⟩:=hv
  simp only[aJ,a8];exact bj hi
 |.dA i,_,hv=>by
  simp only[V]at hv;obtain⟨⟨_,_,_,_,_,_,_,hi⟩,_⟩:=hv
  simp only[aJ,a8];exact bj hi
 |.de _ _,_,hv=>by
  simp only[V]at hv;obtain⟨_,_,_,_,_,h1,h2⟩:=hv
  simp only[aJ,aC];exact⟨cV h1,cV h2⟩
 |.agg _,_,hv|.aL _,_,hv=>by
  simp only[V]at hv;obtain⟨_,_,h1⟩:=hv
  simp only[aJ];exact cV h1
 |.fn _ _ _,_,hv=>by
  simp only[V]at hv;obtain⟨_,_,_,h1,h2⟩:=hv
  simp only[aJ,aC];exact⟨cV h1,cV h2⟩
 |.bX _ _,_,hv=>by
  simp only[V]at hv;obtain⟨_,_,h1⟩:=hv
  simp only[aJ];exact jU h1
theorem cV{g:G}{h:List Ob}:∀{as:List AV}{vs:List Value},VL g h as vs->aO h.length as=true
 |[],_,_=>rfl
 |a::as,_,hv=>by
  simp only[VL]at hv;obtain⟨_,_,_,h1,h2⟩:=hv
  simp only[aO,aC];exact⟨jU h1,cV h2⟩
end
theorem jm{g:G}{h:List Ob}:∀{as:List AV}{vs:List Value},VE g h as vs->aO h.length as=true
 |[],_,_=>rfl
 |a::as,_,hv=>by
  simp only[VE]at hv;obtain⟨_,_,h1,_,h2⟩:=hv
  simp only[aO,aC];exact⟨jU h1,jm h2⟩
theorem mF{P:Program}{g g':G}{h h':List Ob}{w w':World}(x:Ext h.length g h g' h'){i:Nat}{o:Ob}(hρ:g'.ρ i=g.ρ i)
 (hw:∀b y,g.ρ i=some (b,y)->w'.heap[b]? =w.heap[b]?)(ho:OV P g h w i o):OV P g' h' w' i o:=by
 cases o with
 |gone=>trivial
 |cells vs=>
  intro b sz st hb;rw[hρ]at hb;obtain⟨c,E,fz,h1,h2,h3⟩:=ho b sz st hb;exact⟨c,E,fz,by rw[hw _ _ hb];exact h1,h2,b_ x (cV h3) h3⟩
 |row k E es gr fl sh=>
  simp only[OV]at ho⊢;obtain⟨h1,h2,h3,h4,h5⟩:=ho;refine⟨h1,h2,h3,h4,?_⟩;rw[hρ]
  cases hr:g.ρ i with
  |none=>rw[hr]at h5;exact h5
  |some y=>
   obtain⟨b,sz,st⟩:=y;rw[hr]at h5;simp only at h5⊢;obtain⟨h6,c,E',fz,vs,h7,h8,h9,h10,h11⟩:=h5;exact⟨h6,c,E',fz,vs,by rw[hw _ _ hr];exact h7,h8,h9,fg x (jm h10) h10,h11⟩
 |map es fl=>
  obtain⟨h1,h3⟩:=ho;refine⟨h1,fun b sz st hb=>?_⟩;rw[hρ]at hb;obtain⟨bd,ck,h4,h5,h6⟩:=h3 b sz st hb;exact⟨bd,ck,by rw[hw _ _ hb];exact h4,b_ x (cV h5) h5,b_ x (cV h6) h6⟩
 |gC s p=>
  intro b sz st hb;rw[hρ]at hb
  rw[hw _ _ hb];exact ho b sz st hb
 |loop st j fn t ps a b=>
  intro bk sz sta hb;rw[hρ]at hb;obtain⟨L,h1,h2,h3,h4,h5,h6⟩:=ho bk sz sta hb;exact⟨L,by rw[hw _ _ hb];exact h1,h2,h3,h4,b_ x (cV h5) h5,h6⟩
 |bB live=>
  intro b sz st hb;rw[hρ]at hb
  rw[hw _ _ hb];exact ho b sz st hb
theorem sX{w w':World}{b o:Nat}(h:w'.heap[b]? =w.heap[b]?):w'.cell? ⟨b,o,none⟩=w.cell? ⟨b,o,none⟩:=by
 simp only[World.cell?,h]
theorem Inv.world{P:Program}{Γ:Nat->Option AV}{N:Env}{g:G}{h:List Ob}{w w':World}(H:Inv P Γ N g h w)(hh:w'.heap=w.heap)(ho:w'.os=w.os)(ht:w'.tape=w.tape)
 (hp:w'.output=w.output):Inv P Γ N g h w':=by
 have hc:∀a,w'.cell? a=w.cell? a:=fun a=>by simp only[World.cell?,hh]
 refine⟨ho.trans H.os,ht.trans H.tape,hp.trans H.output,fun b o hb=>by rw[hh];exact H.eG b o hb,fun i b x hi=>by rw[hh];exact H.own i b x hi,H.inj,H.n7,
  fun b o v hv=>by rw[hc];exact H.mem b o v hv,fun b es ck hb=>by rw[hh];exact H.mm b es ck hb,H.dX,?_,H.j5,H.mK,H.iz,H.km⟩
 intro i o hi;exact mF (Ext.refl _ _ _) rfl (fun b y _=>by rw[hh]) (H.ob i o hi)
def G.bA(g:G)(i:Nat)(r:Option (Nat×Nat×Nat)):G:={g with ρ:=fun j=>if j=i then r else g.ρ j}
theorem cJ(g:G)(i:Nat)(r:Option (Nat×Nat×Nat)):(g.bA i r).ρ i=r:=by simp[G.bA]
theorem fT(g:G){i j:Nat}(r:Option (Nat×Nat×Nat))(h:j≠i):(g.bA i r).ρ j=g.ρ j:=by simp[G.bA,h]
theorem Inv.set{P:Program}{Γ:Nat->Option AV}{N:Env}{g:G}{h:List Ob}{w w':World}(H:Inv P Γ N g h w){i:Nat}{o':Ob}{r:Option (Nat×Nat×Nat)}
 (hi:i<h.length)(hE:Ext h.length g h (g.bA i r) (h.set i o'))
 (ho:w'.os=w.os)(ht:w'.tape=w.tape)(hp:w'.output=w.output)
 (hw:∀b,b<w.heap.size->(∀x,g.ρ i≠some (b,x))->w'.heap[b]? =w.heap[b]?)(hsz:w.heap.size<=w'.heap.size)
 (hr:∀b x,r=some (b,x)->((∃y,g.ρ i=some (b,y))\/w.heap.size<=b)/\b<w'.heap.size)
 (hM:∀b y o v,g.ρ i=some (b,y)->g.M b o=some v->w'.cell? ⟨b,o,none⟩=some v)
 (hm:∀b sz st o v,r=some (b,sz,st)->g.M b o=some v->∃k E es gr fl,o'=.row k E es gr fl true/\o<(es.length-st)*k)
 (hob:OV P (g.bA i r) (h.set i o') w' i o'):Inv P Γ N (g.bA i r) (h.set i o') w':=by
 have hlt:∀b o,N.K b=some o->b<w.heap.size:=fun b o hb=>by
  have:=H.eG b o hb
  rcases jG b w.heap.size with h1|h1
  ·exact h1
  ·simp[n_ h1]at this
 have hnew:∀b,w.heap.size<=b->N.K b=none:=fun b hb=>by
  cases hk:N.K b with
  |none=>rfl
  |some o=>have:=hlt b o hk;omega
 refine⟨ho.trans H.os,ht.trans H.tape,hp.trans H.output,?_,?_,?_,?_,?_,?_,?_,?_,?_,H.mK,H.iz,H.km⟩
 ·intro b o hb;rw[hw b (hlt b o hb) fun x hx=>by have:=(H.own i b x hx).1;simp[hb]at this];exact H.eG b o hb
 ·intro j b x hj
  by_cases hji:j=i
  ·subst hji;rw[cJ]at hj;obtain⟨h1,h2⟩:=hr b x hj;refine⟨?_,h2⟩
   rcases h1 with⟨y,hy⟩|h1
   ·exact(H.own j b y hy).1
   ·exact hnew b h1
  ·rw[fT _ _ hji]at hj;exact⟨(H.own j b x hj).1,nh (H.own j b x hj).2 hsz⟩
 ·intro j k b x y hj hk
  by_cases hji:j=i
  ·by_cases hki:k=i
   ·rw[hji,hki]
   ·subst hji;rw[cJ]at hj;rw[fT _ _ hki]at hk
    rcases(hr b x hj).1 with⟨z,hz⟩|h1
    ·exact H.inj _ _ b z y hz hk
    ·have:=(H.own k b y hk).2;omega
  ·rw[fT _ _ hji]at hj
   by_cases hki:k=i
   ·subst hki;rw[cJ]at hk
    rcases(hr b y hk).1 with⟨z,hz⟩|h1
    ·exact H.inj _ _ b x z hj hz
    ·have:=(H.own j b x hj).2;omega
   ·rw[fT _ _ hki]at hk;exact H.inj _ _ b x y hj hk
 ·intro j hj;rw[kp]at hj;rw[fT _ _ (by omega)];exact H.n7 j hj
 ·intro b o v hv
  by_cases hb:∃y,g.ρ i=some (b,y)
  ·obtain⟨y,hy⟩:=hb;exact hM b y o v hy hv
  ·have h0:=H.mem b o v hv;rw[sX (hw b (uQ h0) fun x hx=>hb ⟨x,hx⟩)];exact h0
 ·intro b es ck hb;obtain⟨h1,h2⟩:=H.mm b es ck hb
  have hlt:b<w.heap.size:=by
   rcases jG b w.heap.size with h3|h3
   ·exact h3
   ·simp[n_ h3]at h1
  refine⟨by rw[hw b hlt (h2 i)];exact h1,?_⟩;intro j x hj
  by_cases hji:j=i
  ·subst hji;rw[cJ]at hj
   rcases(hr b x hj).1 with⟨y,hy⟩|h3
   ·exact h2 _ _ hy
   ·omega
  ·rw[fT _ _ hji]at hj;exact h2 j x hj
 ·intro j b sz st o v hj hv
  by_cases hji:j=i
  ·subst hji;rw[cJ]at hj;obtain⟨k,E,es,gr,fl,h1,h2⟩:=hm b sz st o v hj hv;exact⟨k,E,es,gr,fl,by rw[gn hi,h1],h2⟩
  ·rw[fT _ _ hji]at hj;obtain⟨k,E,es,gr,fl,h1,h2⟩:=H.dX j b sz st o v hj hv;exact⟨k,E,es,gr,fl,by rw[dK (by omega)];exact h1,h2⟩
 ·intro j o hj
  by_cases hji:j=i
  ·subst hji;rw[gn hi]at hj
   cases hj
   exact hob
  ·rw[dK (by omega)]at hj;refine mF hE (fT _ _ hji) ?_ (H.ob j o hj);intro b y hb
   refine hw b (H.own j b y hb).2 fun x hx=>hji (H.inj _ _ b y x hb hx)
 ·intro n a hn;obtain⟨h1,vs,h2,h3⟩:=H.j5 n a hn;exact⟨h1,vs,b_ hE (cV h2) h2,h3⟩
theorem Ext.push{g:G}{h:List Ob}(o:List Ob)(r:Option (Nat×Nat×Nat)):Ext h.length g h (g.bA h.length r) (h++o):=by
 have hget:∀{i x},h[i]? =some x->(h++o)[i]? =some x:=fun{i x} hx=>by rw[dk (bj hx)];exact hx
 have hρ:∀{i},i<h.length->∀x,g.ρ i=some x->(g.bA h.length r).ρ i=some x:=fun hi x hx=>by rw[fT _ _ (by omega)];exact hx
 exact⟨fun _ _ _ x=>x,fun _ _ x=>x,fun i vs hn hi=>⟨⟨_,hget hi⟩,hρ hn⟩,fun i es fl hn hi=>⟨⟨_,_,hget hi⟩,hρ hn⟩,fun i s p hn hi=>⟨⟨_,_,hget hi⟩,hρ hn⟩,
  fun i st j fn t ps a b hn hi=>⟨⟨_,_,hget hi⟩,hρ hn⟩,fun i l hn hi=>⟨⟨_,hget hi⟩,hρ hn⟩,
  fun i k E es gr fl sh hn hi=>⟨_,_,_,_,_,hget hi,aU _,fun _ _ _ hk=>⟨hk,rfl,hρ hn⟩⟩⟩
theorem Inv.push{P:Program}{Γ:Nat->Option AV}{N:Env}{g:G}{h:List Ob}{w w':World}(H:Inv P Γ N g h w){o':Ob}{os:List Ob}{r:Option (Nat×Nat×Nat)}
 (ho:w'.os=w.os)(ht:w'.tape=w.tape)(hp:w'.output=w.output)
 (hw:∀b,b<w.heap.size->w'.heap[b]? =w.heap[b]?)(hsz:w.heap.size<=w'.heap.size)
 (hr:∀b x,r=some (b,x)->w.heap.size<=b/\b<w'.heap.size)
 (hob:OV P (g.bA h.length r) (h++o'::os) w' h.length o')
 (hobs:∀j o,os[j]? =some o->OV P (g.bA h.length r) (h++o'::os) w' (h.length+1+j) o):Inv P Γ N (g.bA h.length r) (h++o'::os) w':=by
 have hlt:∀b o,N.K b=some o->b<w.heap.size:=fun b o hb=>by
  have:=H.eG b o hb
  rcases jG b w.heap.size with h1|h1
  ·exact h1
  ·simp[n_ h1]at this
 have hE:=Ext.push (g:=g) (h:=h) (o'::os) r;refine⟨ho.trans H.os,ht.trans H.tape,hp.trans H.output,?_,?_,?_,?_,?_,?_,?_,?_,?_,H.mK,H.iz,H.km⟩
 ·intro b o hb
  rw[hw b (hlt b o hb)];exact H.eG b o hb
 ·intro j b x hj
  by_cases hji:j=h.length
  ·subst hji;rw[cJ]at hj;obtain⟨h1,h2⟩:=hr b x hj;refine⟨?_,h2⟩
   cases hk:N.K b with
   |none=>rfl
   |some o=>have:=hlt b o hk;omega
  ·rw[fT _ _ hji]at hj;exact⟨(H.own j b x hj).1,nh (H.own j b x hj).2 hsz⟩
 ·intro j k b x y hj hk
  by_cases hji:j=h.length
  ·by_cases hki:k=h.length
   ·rw[hji,hki]
   ·subst hji;rw[cJ]at hj;rw[fT _ _ hki]at hk
    have:=(hr b x hj).1;have:=(H.own k b y hk).2;omega
  ·rw[fT _ _ hji]at hj
   by_cases hki:k=h.length
   ·subst hki;rw[cJ]at hk
    have:=(hr b y hk).1;have:=(H.own j b x hj).2;omega
   ·rw[fT _ _ hki]at hk;exact H.inj _ _ b x y hj hk
 ·intro j hj;rw[bp,bC]at hj;rw[fT _ _ (by omega)];exact H.n7 j (by omega)
 ·intro b o v hv;have h0:=H.mem b o v hv;rw[sX (hw b (uQ h0))];exact h0
 ·intro b es ck hb;obtain⟨h1,h2⟩:=H.mm b es ck hb
  have hlt:b<w.heap.size:=by
   rcases jG b w.heap.size with h3|h3
   ·exact h3
   ·simp[n_ h3]at h1
  refine⟨by rw[hw b hlt];exact h1,?_⟩;intro j x hj
  by_cases hji:j=h.length
  ·subst hji;rw[cJ]at hj
   have:=(hr b x hj).1;omega
  ·rw[fT _ _ hji]at hj;exact h2 j x hj
 ·intro j b sz st o v hj hv
  by_cases hji:j=h.length
  ·subst hji;rw[cJ]at hj
   have:=(hr b _ hj).1;have:b<w.heap.size:=uQ (H.mem b o v hv)
   omega
  ·rw[fT _ _ hji]at hj;obtain⟨k,E,es,gr,fl,h1,h2⟩:=H.dX j b sz st o v hj hv;exact⟨k,E,es,gr,fl,by rw[dk (bj h1)];exact h1,h2⟩
 ·intro j o hj
  rcases HF j h.length with hjl|rfl|hjl
  ·rw[dk hjl]at hj;exact mF hE (fT _ _ (by omega)) (fun b y hb=>hw b (H.own j b y hb).2) (H.ob j o hj)
  ·simp at hj;subst hj;exact hob
  ·obtain⟨q,rfl⟩:∃q,j=h.length+1+q:=⟨j-h.length-1,by omega⟩;rw[e_ (by omega),show h.length+1+q-h.length=q+1 by omega,ni]at hj;exact hobs q o hj
 ·intro n a hn;obtain⟨h1,vs,h2,h3⟩:=H.j5 n a hn;exact⟨h1,vs,b_ hE (cV h2) h2,h3⟩
theorem tC(g:G)(h:List Ob):∀v:Value,V g h (jj v) v:=by
 intro v;unfold jj
 split
 all_goals (first|(simp only[V];done)|skip)
 ·simp only[V];exact⟨rfl,none,0,rfl,fun _=>rfl,aU _,Or.inl trivial⟩
theorem mG(g:G)(h:List Ob):∀v:Value,V g h (fw v) v:=by
 intro v;unfold fw
 split
 ·simp only[V];rename_i cs;exact⟨cs.toList,by simp,by have:=oM (g:=g) (h:=h) (f:=jj) (e:=id) (tC g h) cs.toList;simpa using this⟩
 ·simp only[V];exact⟨_,rfl,tC g h _⟩
 ·simp only[V];rename_i cs;exact⟨cs.toList,by simp,by have:=oM (g:=g) (h:=h) (f:=jj) (e:=id) (tC g h) cs.toList;simpa using this⟩
 ·exact tC g h v
theorem AS{g:G}{h:List Ob}{t:List AV}{a:Act}(ht:VL g h t a.tmps.toList)(x:Operand):V g h (ax t (ay x)) (a.eval x):=by
 cases x with
 |tmp i=>
  have:=rK i ht;simpa[ay,ax,Act.eval]using this
 |const v=>exact mG g h v
 |global n=>simp[ay,ax,Act.eval,V]
 |func f=>simp only[ay,ax,Act.eval,V];exact⟨[],[],rfl,by simp[VL],by simp[VL]⟩
def aG(P:Program)(Γ:Nat->Option AV)(N:Env)(r:Operand->Value)(o:Oper)(w:World)(g:G)(h h':List Ob)(res:Option AV):Prop:=
 ∃g' w' nx,(execOp r o).run P w=.ok nx w'/\Inv P Γ N g' h' w'/\Ext h.length g h g' h'/\
  match res with
  |some a=>∃u,nx=.value u/\V g' h' a u
  |none=>nx=.skip
section
variable{P:Program}{Γ:Nat->Option AV}{N:Env}{g:G}{h:List Ob}{w:World}{r:Operand->Value}{o:Oper}{t:List AV}
theorem aG.same(H:Inv P Γ N g h w){a:AV}{u:Value}(hr:(execOp r o).run P w=.ok (.value u) w)(hv:V g h a u):aG P Γ N r o w g h h (some a):=
 ⟨g,w,_,hr,H,Ext.refl _ _ _,u,rfl,hv⟩
theorem gN{t:TypeId}{s:Nat}(h:bm P t=some s)(w:World):(sizeOf t).run P w=.ok s w:=by
 unfold bm at h
 cases hi:P.info? t with
 |none=>simp[hi]at h
 |some i=>simp[hi]at h;simp[sizeOf,typeInfo,hi,h]
theorem Am{t:TypeId}{b:Bool}(h:fB P t=some b)(w:World):(isAgg t).run P w=.ok b w:=by
 unfold fB at h
 cases hi:P.underlying t with
 |none=>simp[hi]at h
 |some d=>
  simp only[hi,eb,al]at h;simp only[isAgg,Sem.run_bind,run_underlying hi,Result.andThen_ok]
  cases d<;>simp_all
theorem DU{t:TypeId}{z:AV}(h:dy P t=some z)(w:World):∃v,(zeroValue t).run P w=.ok v w/\z=fw v:=by
 unfold dy at h
 cases hi:P.info? t with
 |none=>simp[hi]at h
 |some i=>
  cases hz:i.zero with
  |none=>simp[hi,hz]at h
  |some v=>simp[hi,hz]at h;exact⟨v,by simp[zeroValue,typeInfo,hi,hz],h.symm⟩
theorem dC{k:IntKind}{n:Int}{v:Value}(h1:V g h (.int k n) v):v=.int k n:=by simpa only [V]using h1
theorem kD{b:Bool}{v:Value}(h1:V g h (.bool b) v):v=.bool b:=by simpa only [V]using h1
theorem il{s:List UInt8}{v:Value}(h1:V g h (.str s) v):v=.string ⟨s.toArray⟩:=by simpa only [V]using h1
theorem ND(H:Inv P Γ N g h w){x:Operand}(ho:o.op=.move x\/o.op=.assign x)(hx:V g h (ax t (ay x)) (r x)):aG P Γ N r o w g h h (some (ax t (ay x))):=by
 refine aG.same H ?_ hx
 rcases ho with ho|ho<;>simp[execOp,ho]
theorem Me(H:Inv P Γ N g h w){c x y:Operand}(ho:o.op=.pick c x y){b:Bool}(hc:r c=.bool b){a:AV}(ha:V g h a (if b then r x else r y)):
 aG P Γ N r o w g h h (some a):=by
 refine aG.same H (u:=if b then r x else r y) ?_ ha;simp[execOp,ho,hc,asBool]
theorem vS(H:Inv P Γ N g h w){x:Operand}(ho:o.op=.nilCheck x){a:AV}(ha:V g h a (r x))
 (hk:match a with|.ptr _ _|.cL _ _ _ _|.dF _ _|.fn (.func _) _ _|.bX _ _=>True|_=>False):aG P Γ N r o w g h h (some a):=by
 refine aG.same H (u:=r x) ?_ ha
 match a,ha,hk with
 |.cL _ _ _ _,ha,_=>
  simp only[V]at ha;obtain⟨_,_,_,_,_,_,hx⟩:=ha;simp[execOp,ho,hx]
 |.ptr _ _,ha,_=>
  simp only[V]at ha;obtain⟨_,_,_,_,hx⟩:=ha;simp[execOp,ho,hx]
 |.dF _ _,ha,_=>simp only[V]at ha;simp[execOp,ho,ha]
 |.bX _ _,ha,_=>
  simp only[V]at ha;obtain⟨_,hx,_⟩:=ha;simp[execOp,ho,hx]
 |.fn (.func _) _ _,ha,_=>
  simp only[V]at ha;obtain⟨_,_,hx,_⟩:=ha;simp[execOp,ho,hx]
theorem fH{op:BinOp}{ty:TypeId}{x y:Operand}{a b:Value}(h1:a≠.nilIface\/b≠.nilIface)(h2:(∀c,a≠.agg c)\/∀c,b≠.agg c)(w:World):
 (eqGuard op ty x y a b).run P w=.ok () w:=by
 unfold eqGuard
 cases op<;>simp
 all_goals
  split
  ·simp at h1
  ·simp at h2
  ·rfl
theorem ZH(H:Inv P Γ N g h w){op:BinOp}{ib:IB}{ty ty':TypeId}{x y:Operand}(ho:o.op=.binOp op ty x y ty')(hop:FI op=some ib){k j:IntKind}{a b n:Int}
 (hx:r x=.int k a)(hy:r y=.int j b)(hkj:k=j\/ib=.shl\/ib=.shr)(hn:gf ib k a b=some n):aG P Γ N r o w g h h (some (.int k n)):=by
 refine aG.same H (u:=.int k n) ?_ (by simp[V]);simp only[execOp,ho,hx,hy,Sem.run_bind];rw[fH (by simp) (by simp)]
 cases op<;>simp only[FI,al,reduceCtorEq]at hop
 all_goals
  subst hop;simp only[reduceCtorEq,mi,or_self,or_true]at hkj;simp only[gf]at hn
  try subst hkj
 all_goals (first
  |(simp only[al]at hn;subst hn;simp[binOp,Op.intArith,Op.intBits];done)
  |(split at hn
    ·simp at hn
    ·rename_i h0;simp only[al]at hn
     simp[binOp,Op.intDiv,Op.shift,h0,hn]))
theorem aao(H:Inv P Γ N g h w){op:BinOp}{c:CK}{ty ty':TypeId}{x y:Operand}(ho:o.op=.binOp op ty x y ty')(hop:qA op=some c){k:IntKind}{a b:Int}
 (hx:r x=.int k a)(hy:r y=.int k b):aG P Γ N r o w g h h (some (.bool (lS c a b))):=by
 refine aG.same H (u:=.bool (lS c a b)) ?_ (by simp[V]);simp only[execOp,ho,hx,hy,Sem.run_bind];rw[fH (by simp) (by simp)]
 cases op<;>simp only[qA,al,reduceCtorEq]at hop
 all_goals
  subst hop;simp[binOp,Op.intCmp,lS]
theorem zM(a b:List UInt8):((⟨a.toArray⟩:ByteArray).toList==(⟨b.toArray⟩:ByteArray).toList)=(a==b):=by
 have h:∀l:List UInt8,(⟨l.toArray⟩:ByteArray).toList=l:=fun l=>by
  rw[ByteArray.toList_eq]
 rw[h,h]
theorem W0(H:Inv P Γ N g h w){ty ty':TypeId}{x y:Operand}(ho:o.op=.binOp .add ty x y ty'){a b:List UInt8}
 (hx:r x=.string ⟨a.toArray⟩)(hy:r y=.string ⟨b.toArray⟩)(hl:a.length+b.length<=2^47):aG P Γ N r o w g h h (some (.str (a++b))):=by
 refine aG.same H (u:=.string ⟨(a++b).toArray⟩) ?_ (by simp[V]);simp only[execOp,ho,hx,hy,Sem.run_bind];rw[fH (by simp) (by simp)]
 have h1:(⟨a.toArray⟩:ByteArray).size=a.length:=by simp[ByteArray.size]
 have h2:(⟨b.toArray⟩:ByteArray).size=b.length:=by simp[ByteArray.size]
 have h3:¬(9223372036854775807<((a.length:Int)+(b.length:Int))):=by
  have:a.length+b.length<=140737488355328:=by simpa using hl
  omega
 simp only[Result.andThen_ok,binOp,Op.stringOp,h1,h2];simp[h3];apply ByteArray.ext;apply gp;simp
end
section
variable{P:Program}{Γ:Nat->Option AV}{N:Env}{g:G}{h:List Ob}{w:World}{r:Operand->Value}{o:Oper}{t:List AV}
theorem tv(s:List UInt8):(⟨s.toArray⟩:ByteArray).size=s.length:=by simp[ByteArray.size]
theorem aa5(H:Inv P Γ N g h w){ty:TypeId}{x:Operand}(ho:o.op=.unOp .not ty x){b:Bool}(hx:r x=.bool b):aG P Γ N r o w g h h (some (.bool !b)):=
 aG.same H (u:=.bool !b) (by simp[execOp,ho,hx,Op.unary]) (by simp[V])
theorem aaT(H:Inv P Γ N g h w){ty:TypeId}{x:Operand}(ho:o.op=.unOp .neg ty x){k:IntKind}{n:Int}(hx:r x=.int k n):aG P Γ N r o w g h h (some (.int k (k.wrap (0-n)))):=
 aG.same H (u:=.int k (k.wrap (0-n))) (by simp[execOp,ho,hx,Op.unary,Op.intArith]) (by simp[V])
theorem Xu(H:Inv P Γ N g h w){ty:TypeId}{x:Operand}(ho:o.op=.unOp .xor ty x){k:IntKind}{n:Int}(hx:r x=.int k n):
 aG P Γ N r o w g h h (some (.int k (k.wrap ((BitVec.ofInt k.bits (if k.signed then-1 else k.max))^^^(BitVec.ofInt k.bits n)).toNat))):=
 aG.same H (u:=.int k (k.wrap ((BitVec.ofInt k.bits (if k.signed then-1 else k.max))^^^(BitVec.ofInt k.bits n)).toNat)) (by simp[execOp,ho,hx,Op.unary,Op.intBits]) (by simp[V])
theorem Y_(H:Inv P Γ N g h w){s d:TypeId}{x:Operand}(ho:o.op=.convert s d x){j k k':IntKind}{n:Int}(hs:P.underlying s=some (.int j))(hd:P.underlying d=some (.int k))
 (hx:r x=.int k' n):aG P Γ N r o w g h h (some (.int k (k.wrap n))):=
 aG.same H (u:=.int k (k.wrap n)) (by simp[execOp,ho,hx,convert,run_underlying hs,run_underlying hd,Conv.intToInt]) (by simp[V])
theorem aag(H:Inv P Γ N g h w){s d:TypeId}{x:Operand}(ho:o.op=.convert s d x){l:List UInt8}(hs:P.underlying s=some .string)(hd:P.underlying d=some .string)
 (hx:r x=.string ⟨l.toArray⟩):aG P Γ N r o w g h h (some (.str l)):=
 aG.same H (u:=.string ⟨l.toArray⟩) (by simp[execOp,ho,hx,convert,run_underlying hs,run_underlying hd]) (by simp[V])
theorem UF(H:Inv P Γ N g h w){ty:TypeId}{x:Operand}(ho:o.op=.makeInterface ty x){d:TypeDesc}(hd:P.underlying ty=some d)(hd':∀ms,d≠.interface ms){a:AV}
 (ha:V g h a (r x)):aG P Γ N r o w g h h (some (.bX ty a)):=by
 refine aG.same H (u:=.iface ty (r x)) ?_ (by simp only[V];exact⟨_,rfl,ha⟩)
 cases d<;>first
  |(exfalso;exact hd' _ rfl)
  |simp[execOp,ho,Instr.makeInterface,run_underlying hd]
theorem VZ(H:Inv P Γ N g h w){f:Fn}{a b:Array Operand}(ho:o.op=.makeFunc f a b)(he:∀x,V g h (ax t (ay x)) (r x)):
 aG P Γ N r o w g h h (some (.fn f ((a.toList.map ay).map (ax t)) ((b.toList.map ay).map (ax t)))):=by
 refine aG.same H (u:=.func f (a.map r) (b.map r)) (by simp[execOp,ho,Instr.makeFunc]) ?_;simp only[V];refine⟨a.toList.map r,b.toList.map r,?_,?_,?_⟩
 ·congr 1<;>apply gp<;>simp
 ·rw[lf];exact oM he _
 ·rw[lf];exact oM he _
theorem Vn(H:Inv P Γ N g h w){x:Operand}{i:Nat}(ho:o.op=.extract x i){vs:List AV}(hx:V g h (.aL vs) (r x)){a:AV}(ha:vs[i]? =some a):aG P Γ N r o w g h h (some a):=by
 simp only[V]at hx;obtain⟨us,hu,hl⟩:=hx;obtain⟨u,h1,h2⟩:=qc hl ha;exact aG.same H (u:=u) (by simp[execOp,ho,hu,Instr.extract,h1]) h2
theorem LP{ty:TypeId}{agg:Bool}{sz off:Nat}{cs:List AV}{a:AV}(hp:lE agg sz off cs=some a)(h1:fB P ty=some agg)(h2:bm P ty=some sz){vs:List Value}
 (hv:VL g h cs vs)(w:World):∃u,(part ty vs.toArray off).run P w=.ok u w/\V g h a u:=by
 unfold lE at hp
 cases agg
 ·simp only[dU,cE]at hp
  split at hp
  ·obtain⟨u,hu,h3⟩:=qc hv hp;refine⟨u,?_,h3⟩;simp[part,Am h1,hu]
  ·simp at hp
 ·simp only[bY]at hp
  split at hp
  ·rename_i hle;simp only[al]at hp;subst hp;refine⟨.agg ((vs.drop off).take sz).toArray,?_,?_⟩
   ·simp only[part,Sem.run_bind,Am h1,gN h2,Result.andThen_ok,bY];simp only[Sem.run_pure];congr 3;simp
   ·simp only[V];exact⟨_,rfl,Aa _ (Aj _ hv)⟩
  ·simp at hp
theorem abi(H:Inv P Γ N g h w){ty:TypeId}{x:Operand}{i:Nat}(ho:o.op=.field ty x i){fs:Array Field}{f:Field}(hu:P.underlying ty=some (.struct fs))(hf:fs[i]? =some f)
 {agg:Bool}{sz:Nat}(h1:fB P f.type=some agg)(h2:bm P f.type=some sz){cs:List AV}(hx:V g h (.agg cs) (r x)){a:AV}(hp:lE agg sz f.offset cs=some a):
 aG P Γ N r o w g h h (some a):=by
 simp only[V]at hx;obtain⟨vs,hv,hl⟩:=hx;obtain⟨u,h3,h4⟩:=LP hp h1 h2 hl w;exact aG.same H (u:=u) (by simp[execOp,ho,hv,Instr.field,run_underlying hu,hf,asAgg,h3]) h4
theorem Yg(H:Inv P Γ N g h w){ty e:TypeId}{x i:Operand}(ho:o.op=.index ty x i){n:Nat}(hu:P.underlying ty=some (.array n e))
 {agg:Bool}{sz:Nat}(h1:fB P e=some agg)(h2:bm P e=some sz){cs:List AV}(hx:V g h (.agg cs) (r x)){k:IntKind}{m:Int}(hi:r i=.int k m)(hm:0<=m/\m<n)
 {a:AV}(hp:lE agg sz (m.toNat*sz) cs=some a):aG P Γ N r o w g h h (some a):=by
 simp only[V]at hx;obtain⟨vs,hv,hl⟩:=hx;obtain⟨u,h3,h4⟩:=LP hp h1 h2 hl w;exact aG.same H (u:=u) (by simp[execOp,ho,hv,hi,Instr.index,asIntOf,run_underlying hu,hm,gN h2,h3]) h4
theorem Xv(H:Inv P Γ N g h w){ty:TypeId}{x i:Operand}(ho:o.op=.index ty x i)(hu:P.underlying ty=some .string){s:List UInt8}(hx:r x=.string ⟨s.toArray⟩)
 {k:IntKind}{m:Int}(hi:r i=.int k m)(hm:0<=m){b:UInt8}(hb:s[m.toNat]? =some b):aG P Γ N r o w g h h (some (gB b)):=by
 refine aG.same H (u:=.int .u8 b.toNat) ?_ (by simp[gB,V])
 have h1:(⟨s.toArray⟩:ByteArray)[m.toNat]? =some b:=by
  have hl:=bj hb
  have h2:(⟨s.toArray⟩:ByteArray).size=s.length:=by simp[ByteArray.size]
  rw[getElem?_pos _ _ (by rw[h2];exact hl)];rw[a_ hl]at hb;simp only[al]at hb;rw[<-hb];rfl
 simp[execOp,ho,hx,hi,Instr.index,asIntOf,run_underlying hu,hm,h1]
theorem jO(b o n:Nat):(⟨b,o,none⟩:Addr).add n=⟨b,o+n,none⟩:=by unfold Addr.add;split<;>simp_all
theorem EZ(H:Inv P Γ N g h w){ty:TypeId}{x:Operand}{i:Nat}(ho:o.op=.fieldAddr ty x i){fs:Array Field}{f:Field}(hu:P.underlying ty=some (.struct fs))(hf:fs[i]? =some f)
 {sz:Nat}(h2:bm P f.type=some (sz+1)){b m:Nat}(hx:r x=.pointer (some ⟨b,m,none⟩)){a:AV}(ha:V g h a (.pointer (some ⟨b,m+f.offset,none⟩))):
 aG P Γ N r o w g h h (some a):=by
 refine aG.same H ?_ ha;simp[execOp,ho,hx,Instr.fieldAt,run_underlying hu,hf,Instr.sureAddr,fieldPlace,gN h2,jO]
theorem Db(H:Inv P Γ N g h w){ty e:TypeId}{x i:Operand}(ho:o.op=.indexAddr ty x i){n:Nat}(hu:P.underlying ty=some (.array n e)){sz:Nat}(h2:bm P e=some sz)
 {b m:Nat}(hx:r x=.pointer (some ⟨b,m,none⟩)){k:IntKind}{q:Int}(hi:r i=.int k q)(hq:0<=q/\q<n){a:AV}
 (ha:V g h a (.pointer (some ⟨b,m+q.toNat*sz,none⟩))):aG P Γ N r o w g h h (some a):=by
 refine aG.same H ?_ ha;simp[execOp,ho,hx,hi,Instr.indexAt,asIntOf,run_underlying hu,Instr.sureAddr,hq,gN h2,jO]
theorem WL(H:Inv P Γ N g h w){ty e:TypeId}{x i:Operand}(ho:o.op=.indexAddr ty x i)(hu:P.underlying ty=some (.slice e)){sz:Nat}(h2:bm P e=some sz)
 {a:AV}(hx:V g h a (r x)){m:Nat}(hm:nP a=some m){k:IntKind}{q:Int}(hi:r i=.int k q)(hq:0<=q/\q<m):
 aG P Γ N r o w g h h (some (.cL a sz q.toNat 0)):=by
 have hb:∃b p cap,r x=.slice (some ⟨b,p,none⟩) m cap:=by
  cases a<;>simp only[nP,al,reduceCtorEq]at hm
  case list f k es=>
   subst hm;simp only[V]at hx;obtain⟨_,ad,cap,hv,_,_,h3⟩:=hx
   rcases h3 with rfl|⟨b,p,vs,rfl,_⟩
   ·simp at hq;omega
   ·exact⟨b,p,cap,hv⟩
  case sl i' off n=>
   subst hm;simp only[V]at hx;obtain⟨k,E,es,gr,fl,sh,hi',hle,ad,cap,hv,hc,hn,_⟩:=hx;obtain⟨b,p,rfl⟩:=hn (by omega);exact⟨b,p,cap,hv⟩
 obtain⟨b,p,cap,hv⟩:=hb;refine aG.same H (u:=.pointer (some ⟨b,p+q.toNat*sz,none⟩)) ?_ ?_
 ·simp[execOp,ho,hv,hi,Instr.indexAt,asIntOf,run_underlying hu,hq,gN h2,jO]
 ·simp only[V];exact⟨r x,b,p,hx,by simp[hv,AP],⟨m,hm,by omega⟩,by simp⟩
theorem wj(H:Inv P Γ N g h w){x:Operand}{ty:TypeId}(ho:o.op=.call ⟨.builtin .len,#[x],#[ty]⟩)
 {n:Nat}(hk:(∃s:List UInt8,P.underlying ty=some .string/\r x=.string ⟨s.toArray⟩/\n=s.length)\/(∃e a c,P.underlying ty=some (.slice e)/\r x=.slice a n c)\/
  (∃e,P.underlying ty=some (.array n e))\/(∃k e,P.underlying ty=some (.map k e)/\r x=.map none/\n=0)):aG P Γ N r o w g h h (some (.int .i64 n)):=by
 refine aG.same H (u:=.int .i64 n) ?_ (by simp[V])
 rcases hk with⟨s,hu,hx,rfl⟩|⟨e,a,c,hu,hx⟩|⟨e,hu⟩|⟨k,e,hu,hx,rfl⟩
 ·simp[execOp,ho,resolve,invoke,builtin,Builtin.len_,hx,run_underlying hu,goInt,tv]
 ·simp[execOp,ho,resolve,invoke,builtin,Builtin.len_,hx,run_underlying hu,goInt]
 ·simp[execOp,ho,resolve,invoke,builtin,Builtin.len_,run_underlying hu,goInt]
 ·simp[execOp,ho,resolve,invoke,builtin,Builtin.len_,hx,run_underlying hu,goInt]
theorem aaB(H:Inv P Γ N g h w){x:Operand}{ty e:TypeId}(ho:o.op=.call ⟨.builtin .cap,#[x],#[ty]⟩)(hu:P.underlying ty=some (.slice e)){a:Option Addr}{l c:Nat}
 (hx:r x=.slice a l c):aG P Γ N r o w g h h (some (.int .i64 c)):=by
 refine aG.same H (u:=.int .i64 c) ?_ (by simp[V]);simp[execOp,ho,resolve,invoke,builtin,Builtin.cap_,hx,run_underlying hu,goInt]
theorem IP(s:List UInt8)(l u:Nat):(⟨s.toArray⟩:ByteArray).extract l u=⟨((s.take u).drop l).toArray⟩:=by
 apply ByteArray.ext;apply gp;simp[ByteArray.data_extract,List.drop_take]
theorem Jb(isSlice:Bool)(len cap l u:Nat)(lo hi:Option Value)(h1:match lo with|none=>l=0|some v=>∃k,v=.int k l)(h2:match hi with|none=>u=len|some v=>∃k,v=.int k u)
 (hlu:l<=u)(hu:u<=cap)(w:World):(Instr.sliceBounds isSlice len cap lo hi none).run P w=.ok (l,u,cap) w:=by
 cases lo<;>cases hi<;>simp only at h1 h2
 ·subst h1;subst h2;simp[Instr.sliceBounds]
 ·obtain⟨k,rfl⟩:=h2;subst h1;simp[Instr.sliceBounds,run_sliceBound,hu]
 ·obtain⟨k,rfl⟩:=h1;subst h2
  simp only[Instr.sliceBounds,Sem.run_bind,Sem.run_pure,Result.andThen_ok,Option.isSome_none,dU,cE];rw[run_sliceBound w k l u _ (by omega) (by omega)];simp
 ·obtain⟨k,rfl⟩:=h1;obtain⟨k',rfl⟩:=h2
  simp only[Instr.sliceBounds,Sem.run_bind,Sem.run_pure,Result.andThen_ok,Option.isSome_none,dU,cE];rw[run_sliceBound w k' u cap _ (by omega) (by omega)];simp only[Result.andThen_ok,cZ];rw[run_sliceBound w k l u _ (by omega) (by omega)];simp
theorem ow{d n:Nat}{x:Option Operand}(hb:bound t d (x.map ay)=some n)(he:∀x,V g h (ax t (ay x)) (r x)):
 match x.map r with|none=>n=d|some v=>∃k,v=.int k n:=by
 cases x with
 |none=>simp only[Option.map_none,bound,al]at hb;simp[hb]
 |some x=>
  simp only[eb,bound]at hb
  split at hb
  ·rename_i k m hm
   split at hb
   ·rename_i h0;simp only[al]at hb;have:=he x;rw[hm]at this;refine⟨k,?_⟩;rw[dC this];congr 1;omega
   ·simp at hb
  ·simp at hb
theorem T5(H:Inv P Γ N g h w){ty:TypeId}{x:Operand}{lo hi:Option Operand}(ho:o.op=.slice ty x lo hi none)(hu:P.underlying ty=some .string){s:List UInt8}
 (hx:r x=.string ⟨s.toArray⟩)(he:∀x,V g h (ax t (ay x)) (r x)){l u:Nat}(hl:bound t 0 (lo.map ay)=some l)(hh:bound t s.length (hi.map ay)=some u)(hlu:l<=u/\u<=s.length):
 aG P Γ N r o w g h h (some (.str ((s.take u).drop l))):=by
 refine aG.same H (u:=.string ⟨((s.take u).drop l).toArray⟩) ?_ (by simp[V]);have:=Jb (P:=P) false s.length s.length l u (lo.map r) (hi.map r) (ow hl he) (ow hh he) hlu.1 hlu.2 w;simp[execOp,ho,hx,Instr.sliceAt,Instr.slice,run_underlying hu,tv,this,IP]
end
def dz(k:Nat)(es:List AV):Prop:=∀e∈es,e.cells.length=k/\bO e.cells=true
theorem jf:∀{es:List AV}{k:Nat},cj es k=true->dz k es
 |[],_,_=>fun e he=>by simp at he
 |a::as,k,h=>by
  simp only[cj,aC,a8]at h;intro e he
  rcases bw.1 he with rfl|he
  ·exact⟨h.1.1.1,h.1.1.2⟩
  ·exact jf h.2 e he
theorem Dh{es:List AV}{k:Nat}:cj es k=true↔dz k es/\∀e∈es,aO 0 e.cells=true:=by
 induction es with
 |nil=>simp[cj,dz]
 |cons a as ih=>
  simp only[cj,aC,a8,ih,dz,QY];constructor
  ·rintro⟨⟨⟨a1,a2⟩,a3⟩,a4,a5⟩;exact⟨⟨⟨a1,a2⟩,a4⟩,a3,a5⟩
  ·rintro⟨⟨⟨a1,a2⟩,a4⟩,a3,a5⟩;exact⟨⟨⟨a1,a2⟩,a3⟩,a4,a5⟩
theorem sM{es fs:List AV}{k:Nat}:cj (es++fs) k=true↔cj es k=true/\cj fs k=true:=by
 induction es with
 |nil=>simp[cj]
 |cons a as ih=>simp only[ek,cj,aC,ih,and_assoc]
theorem ov{es fs:List AV}{k:Nat}(h:cj es k=true)(hs:∀e∈fs,e∈es):cj fs k=true:=by
 rw[Dh]at h⊢;exact⟨fun e he=>h.1 e (hs e he),fun e he=>h.2 e (hs e he)⟩
section
variable{g:G}{h:List Ob}
theorem Cv{a:AV}{v:Value}(ho:bO a.cells=true)(hv:V g h a v):v.cells.toList.length=a.cells.length:=fe (oG (pT ho) hv)
theorem gv{k:Nat}:∀{es:List AV}{vs:List Value},dz k es->VE g h es vs->vs.length=es.length*k
 |[],vs,_,hv=>by simp only[VE]at hv;simp[hv]
 |e::es,vs,hk,hv=>by
  simp only[VE]at hv;obtain⟨v,vs',h1,rfl,h2⟩:=hv;have:=hk e (by simp);rw[bp,Cv this.2 h1,this.1,gv (fun x hx=>hk x (by simp[hx])) h2,bC,fa];omega
theorem oA:∀{as bs:List AV}{vs ws:List Value},VE g h as vs->VE g h bs ws->VE g h (as++bs) (vs++ws)
 |[],bs,vs,ws,hv,hw=>by simp only[VE]at hv;subst hv;simpa using hw
 |a::as,bs,vs,ws,hv,hw=>by
  simp only[VE]at hv;obtain⟨v,vs',h1,rfl,hr⟩:=hv;simp only[ek,VE];exact⟨v,vs'++ws,h1,by simp,oA hr hw⟩
theorem Cy:∀{as bs:List AV}{vs:List Value},VE g h (as++bs) vs->∃xs ys,vs=xs++ys/\VE g h as xs/\VE g h bs ys
 |[],bs,vs,hv=>⟨[],vs,rfl,by simp[VE],by simpa using hv⟩
 |a::as,bs,vs,hv=>by
  simp only[ek,VE]at hv;obtain⟨v,vs',h1,rfl,hr⟩:=hv;obtain⟨xs,ys,rfl,h2,h3⟩:=Cy hr;exact⟨v.cells.toList++xs,ys,by simp,by simp only[VE];exact⟨v,xs,h1,rfl,h2⟩,h3⟩
theorem tO{k:Nat}{es:List AV}{vs:List Value}(hk:dz k es)(hv:VE g h es vs)(n:Nat):VE g h (es.drop n) (vs.drop (n*k)):=by
 by_cases hn:n<=es.length
 ·have h1:es=es.take n++es.drop n:=(oa n es).symm;rw[h1]at hv;obtain⟨xs,ys,rfl,h2,h3⟩:=Cy hv;have hl:=gv (k:=k) (fun e he=>hk e (jH he)) h2;rw[fc,qP hn]at hl;rw[B7,<-hl,uR];simpa using h3
 ·have hl:=gv hk hv;rw[bq (by omega),bq (by rw[hl];exact kq _ (by omega))];simp[VE]
theorem v8{k:Nat}{es:List AV}{vs:List Value}(hk:dz k es)(hv:VE g h es vs)(n:Nat):VE g h (es.take n) (vs.take (n*k)):=by
 by_cases hn:n<=es.length
 ·have h1:es=es.take n++es.drop n:=(oa n es).symm;rw[h1]at hv;obtain⟨xs,ys,rfl,h2,h3⟩:=Cy hv;have hl:=gv (k:=k) (fun e he=>hk e (jH he)) h2;rw[fc,qP hn]at hl;rw[List.take_append,<-hl,HG];simpa using h2
 ·have hl:=gv hk hv;rw[cF (by omega),cF (by rw[hl];exact kq _ (by omega))];exact hv
theorem E6{k:Nat}:∀{es:List AV}{vs:List Value}{i:Nat}{e:AV},dz k es->VE g h es vs->es[i]? =some e->
 ∃v,V g h e v/\∀j u,v.cells.toList[j]? =some u->vs[i*k+j]? =some u
 |[],vs,i,e,_,hv,he=>by simp at he
 |a::as,vs,i,e,hk,hv,he=>by
  simp only[VE]at hv;obtain⟨v,vs',h1,rfl,hr⟩:=hv;have ha:=hk a (by simp)
  have hl:v.cells.toList.length=k:=by rw[Cv ha.2 h1,ha.1]
  cases i with
  |zero=>
   simp at he;subst he;refine⟨v,h1,fun j u hu=>?_⟩;rw[uS,gY,dk (bj hu)];exact hu
  |succ i=>
   simp at he;obtain⟨u,h2,h3⟩:=E6 (fun x hx=>hk x (by simp[hx])) hr he;refine⟨u,h2,fun j x hx=>?_⟩;rw[fa,e_ (by omega)];rw[<-h3 j x hx];congr 1;omega
theorem Ng{k:Nat}:∀{es:List AV}{vs:List Value},VE g h es vs->dz 1 es->(∀e∈es,e.one=true)->k=1->VL g h es vs
 |[],vs,hv,_,_,_=>by simpa only [VE,VL]using hv
 |e::es,vs,hv,hk,ho,h1=>by
  simp only[VE]at hv;obtain⟨v,vs',h2,rfl,hr⟩:=hv;simp only[VL];refine⟨v,vs',?_,h2,Ng hr (fun x hx=>hk x (by simp[hx])) (fun x hx=>ho x (by simp[hx])) h1⟩;rw[CC (ho e (by simp)) h2];rfl
end
section
variable{P:Program}{Γ:Nat->Option AV}{N:Env}{g:G}{h:List Ob}{w:World}{r:Operand->Value}{o:Oper}{t:List AV}
theorem CU{ty:TypeId}{agg:Bool}{sz off:Nat}{cs:List AV}{a:AV}(hp:lE agg sz off cs=some a)(h1:fB P ty=some agg)(h2:bm P ty=some sz){vs:List Value}
 (hv:VL g h cs vs){b m:Nat}(hc:∀j v,vs[j]? =some v->w.cell? ⟨b,m+j,none⟩=some v):∃u,(loadVar ty ⟨b,m+off,none⟩).run P w=.ok u w/\V g h a u:=by
 unfold lE at hp
 cases agg
 ·simp only[dU,cE]at hp
  split at hp
  ·obtain⟨u,hu,h3⟩:=qc hv hp;refine⟨u,?_,h3⟩;simp[loadVar,Am h1,hc _ _ hu]
  ·simp at hp
 ·simp only[bY]at hp
  split at hp
  ·rename_i hle;simp only[al]at hp;subst hp;have hl:=fe hv;refine⟨.agg ((vs.drop off).take sz).toArray,?_,?_⟩
   ·have:=run_loadCells_list (P:=P) w ⟨b,m+off,none⟩ ((vs.drop off).take sz) (by
     intro j v hj;rw[jO,mj];apply hc;rw[pC]at hj
     split at hj
     ·rw[nj]at hj;exact hj
     ·simp at hj)
    have hl2:((vs.drop off).take sz).length=sz:=by simp;omega
    rw[hl2]at this;simp[loadVar,Am h1,gN h2,this]
   ·simp only[V];exact⟨_,rfl,Aa _ (Aj _ hv)⟩
  ·simp at hp
theorem KN(H:Inv P Γ N g h w){i off n:Nat}{v:Value}(hv:V g h (.sl i off n) v){k:Nat}{E:TypeId}{es:List AV}{gr:Option Nat}{fl sh:Bool}
 (hi:h[i]? =some (.row k E es gr fl sh))(hok:cr es gr off n=true):
 dz k es/\∃a cap vs,v=.slice a n cap/\VE g h ((es.drop off).take n) vs/\(n=0\/∃b p,a=some ⟨b,p,none⟩/\∀j u,vs[j]? =some u->w.cell? ⟨b,p+j,none⟩=some u):=by
 have ho:=H.ob i _ hi;simp only[OV]at ho;obtain⟨hk0,hk,hfl,hgl,hb⟩:=ho;have hK:dz k es:=hk;refine⟨hK,?_⟩;simp only[V]at hv;obtain⟨k',E',es',gr',fl',sh',hi',hle,a,cap,rfl,hc,hn,hq⟩:=hv;rw[hi]at hi';simp only[al,Ob.row.injEq]at hi';obtain⟨rfl,rfl,rfl,rfl,rfl,rfl⟩:=hi'
 by_cases h0:n=0
 ·subst h0;exact⟨a,cap,[],rfl,by simp[VE],Or.inl rfl⟩
 ·rcases(hq hok).2 with⟨h1,_⟩|⟨b,sz,st,hρ,hst,rfl,hcap⟩
  ·exact absurd h1 h0
  ·rw[hρ]at hb;simp only at hb;obtain⟨hst',c,E',fz,vs,hw,hsz,hfree,hE,hcells⟩:=hb
   have hlo:gr.getD 0<=off:=by
    cases gr with
    |none=>simp
    |some lo=>
     simp only[cr,aC,a8]at hok;simpa using hok.1
   have hK':dz k (es.drop (gr.getD 0)):=fun e he=>hK e (iA he)
   have hE2:=v8 (k:=k) (fun e he=>hK e (iA (iA he))) (tO hK' hE (off-gr.getD 0)) n;rw[List.drop_drop,show gr.getD 0+(off-gr.getD 0)=off by omega]at hE2;refine⟨_,cap,_,rfl,hE2,Or.inr ⟨b,(off-st)*k,rfl,?_⟩⟩;intro j u hj;rw[pC]at hj
   split at hj
   ·rw[nj]at hj;have hlt:=bj hj;rw[a_ hlt,al]at hj;have:=hcells _ hlt;rw[hj]at this;rw[cell_of_row w b _ c E' fz hw,<-this];congr 1
    have e1:(off-st)*k=(gr.getD 0-st)*k+(off-gr.getD 0)*k:=by rw[<-fa];congr 1;omega
    omega
   ·simp at hj
theorem vq(H:Inv P Γ N g h w){a:AV}{v:Value}(hv:V g h a v){k:Nat}{es:List AV}(he:jh h a=some (k,es)):
 dz k es/\∃ad cap vs,v=.slice ad es.length cap/\VE g h es vs/\(es=[]\/∃b p,ad=some ⟨b,p,none⟩/\∀j u,vs[j]? =some u->w.cell? ⟨b,p+j,none⟩=some u):=by
 cases a<;>simp only[jh,reduceCtorEq,al,bH]at he
 case list f k' es'=>
  obtain⟨rfl,rfl⟩:=he;simp only[V]at hv;obtain⟨hk,ad,cap,rfl,_,_,h3⟩:=hv;refine⟨jf hk,?_⟩
  rcases h3 with rfl|⟨b,p,vs,rfl,h4,h5⟩
  ·exact⟨ad,cap,[],rfl,by simp[VE],Or.inl rfl⟩
  ·refine⟨_,cap,vs,rfl,h4,Or.inr ⟨b,p,rfl,fun j u hj=>?_⟩⟩;have hl:=bj hj;rw[a_ hl,al]at hj;exact H.mem b _ u (hj▸h5 j hl)
 case sl i off n=>
  split at he
  ·rename_i k' E es' gr fl sh hi
   split at he
   ·rename_i hok;simp only[al,bH]at he;obtain⟨rfl,rfl⟩:=he;obtain⟨hK,ad,cap,vs,rfl,h1,h2⟩:=KN H hv hi hok
    have hln:((es'.drop off).take n).length=n:=by
     have:off+n<=es'.length:=by
      cases gr with
      |none=>simpa[cr]using hok
      |some lo=>simp only[cr,aC,a8,ml]at hok;omega
     simp;omega
    refine⟨fun e he=>hK e (iA (jH he)),ad,cap,vs,by rw[hln],h1,?_⟩
    rcases h2 with h2|h2
    ·left;apply k_.1;rw[hln,h2]
    ·exact Or.inr h2
   ·simp at he
  ·simp at he
theorem CQ(H:Inv P Γ N g h w){ty:TypeId}{agg:Bool}{sz:Nat}(h1:fB P ty=some agg)(h2:bm P ty=some sz){a p:AV}{v:Value}(hp:V g h p v)
 (hl:oY Γ h agg sz p=some a):∃ad u,v=.pointer (some ad)/\(loadVar ty ad).run P w=.ok u w/\V g h a u:=by
 cases p<;>simp only[oY,reduceCtorEq]at hl
 case ptr i off=>
  simp only[V]at hp;obtain⟨⟨cs',hi⟩,b,s,hρ,rfl⟩:=hp;rw[hi]at hl;simp only at hl;obtain⟨c,E,fz,hw,_,hv⟩:=H.ob i _ hi b s 0 hρ
  have:=CU (w:=w) hl h1 h2 hv (b:=b) (m:=0) (by
   intro j u hj;rw[cell_of_row w b _ c E fz hw]
   simpa using hj)
  obtain⟨u,h3,h4⟩:=this;exact⟨_,u,rfl,by simpa using h3,h4⟩
 case cL a' k ix off=>
  simp only[V]at hp;obtain⟨u,b,p,hu,hb,⟨m,hm,hix⟩,rfl⟩:=hp
  split at hl
  ·rename_i k' es he
   split at hl
   ·rename_i hkk;subst hkk;obtain⟨hK,ad,cap,vs,rfl,h3,h4⟩:=vq H hu he
    cases hes:es[ix]? with
    |none=>simp[hes]at hl
    |some e=>
     simp only[hes,jb]at hl;obtain⟨x,h5,h6⟩:=E6 hK h3 hes
     have hne:es≠[]:=by rintro rfl;simp at hes
     rcases h4 with h4|⟨b',p',rfl,h7⟩
     ·exact absurd h4 hne
     ·simp only[AP,al,Addr.mk.injEq,pD]at hb;obtain⟨rfl,rfl⟩:=hb
      have:=CU (w:=w) hl h1 h2 (oG (pT (hK e (fQ hes)).2) h5) (b:=b') (m:=p'+ix*k') (by
       intro j y hj;rw[mj]
       exact h7 _ _ (h6 j y hj))
      obtain⟨y,h8,h9⟩:=this;exact⟨_,y,rfl,h8,h9⟩
   ·simp at hl
  ·simp at hl
 case dF n off=>
  simp only[V]at hp;subst hp
  cases hn:Γ n with
  |none=>simp[hn]at hl
  |some a'=>
   simp only[hn,jb]at hl;obtain⟨_,vs,hv,hm⟩:=H.j5 n a' hn
   have:=CU (w:=w) hl h1 h2 hv (b:=n) (m:=0) (by
    intro j u hj;have hlt:=bj hj;rw[a_ hlt,al]at hj;rw[gY]
    exact H.mem n j u (hj▸hm j hlt))
   obtain⟨u,h3,h4⟩:=this;exact⟨_,u,rfl,by simpa using h3,h4⟩
theorem Y7(H:Inv P Γ N g h w){ty:TypeId}{x:Operand}(ho:o.op=.load ty x){agg:Bool}{sz:Nat}(h1:fB P ty=some agg)(h2:bm P ty=some sz){a p:AV}
 (hx:V g h p (r x))(hl:oY Γ h agg sz p=some a):aG P Γ N r o w g h h (some a):=by
 obtain⟨ad,u,h3,h4,h5⟩:=CQ H h1 h2 hx hl;exact aG.same H (u:=u) (by simp[execOp,ho,h3,Instr.loadAt,Instr.sureAddr,h4]) h5
theorem Iv:∀{es:List AV}{s:List UInt8},nD es=some s->(∀e∈es,e.one=true)/\∀(g:G)(h:List Ob)(vs:List Value),VL g h es vs->
 ∃ns:List Int,vs=ns.map (Value.int .u8)/\ns.map (fun n=>UInt8.ofNat n.toNat)=s
 |[],s,hs=>by
  simp only[nD,al]at hs;subst hs;exact⟨by simp,fun g h vs hv=>⟨[],by simp only[VL]at hv;simp[hv],rfl⟩⟩
 |a::as,s,hs=>by
  simp only[nD]at hs
  split at hs
  ·rename_i b bs hb hbs;simp only[al]at hs;subst hs;obtain⟨h1,h2⟩:=Iv hbs
   cases a<;>simp only[Ay,reduceCtorEq]at hb
   case int k n=>
    cases k<;>simp only[reduceCtorEq,al]at hb
    refine⟨by intro e he;rcases bw.1 he with rfl|he;·rfl
              ·exact h1 e he,fun g h vs hv=>?_⟩
    simp only[VL,V]at hv;obtain⟨v,vs',rfl,rfl,hr⟩:=hv;obtain⟨ns,rfl,h4⟩:=h2 g h vs' hr;exact⟨n::ns,rfl,by simp[hb,h4]⟩
  ·simp at hs
theorem foldl_push:∀(ns:List Int)(s:ByteArray),(ns.foldl (fun r n=>r.push (UInt8.ofNat n.toNat)) s)=⟨(s.data.toList++ns.map (fun n=>UInt8.ofNat n.toNat)).toArray⟩
 |[],s=>by simp
 |n::ns,s=>by
  rw[sw,foldl_push];apply ByteArray.ext;apply gp;simp[ByteArray.data_push]
theorem SG{a:AV}{es:List AV}(he:elems h a=some es):∃k,jh h a=some (k,es):=by
 cases a<;>simp only[elems,reduceCtorEq]at he
 case list f k es'=>simp only[al]at he;subst he;exact⟨k,rfl⟩
 case sl i off n=>
  split at he
  ·rename_i k E es' gr fl sh hi;refine⟨k,?_⟩;simp only[jh,hi]
   split at he
   ·rename_i hok;simp only[al]at he;simp[hok,he]
   ·simp at he
  ·simp at he
theorem XT(H:Inv P Γ N g h w){s d e:TypeId}{x:Operand}(ho:o.op=.convert s d x)(hs:P.underlying s=some (.slice e))(he:P.underlying e=some (.int .u8))
 (hd:P.underlying d=some .string){a:AV}(hx:V g h a (r x)){es:List AV}(hes:elems h a=some es){l:List UInt8}(hl:nD es=some l):aG P Γ N r o w g h h (some (.str l)):=by
 obtain⟨k,hk⟩:=SG hes;obtain⟨hK,ad,cap,vs,hv,h3,h4⟩:=vq H hx hk;obtain⟨h5,h6⟩:=Iv hl;refine aG.same H (u:=.string ⟨l.toArray⟩) ?_ (by simp[V])
 have hrun:(convert s d (r x)).run P w=.ok (.string ⟨l.toArray⟩) w:=by
  rw[hv,run_convert_bytes_string w s d e ad es.length cap hs he hd]
  rcases h4 with rfl|⟨b,p,rfl,h7⟩
  ·simp only[nD,al]at hl;subst hl
   cases ad with
   |none=>simp[Conv.bytesToString];rfl
   |some b=>
    have:=run_bytesToString (P:=P) w b 0 cap [] (by simp[loadCells,loadCellsFrom]);simp only[cN,this];rfl
  ·have hK1:dz 1 es:=fun e he=>⟨by
    have:=h5 e he
    cases e<;>first|rfl|simp[AV.one]at this,(hK e he).2⟩
   have hVL:=Ng (k:=1) h3 hK1 h5 rfl;obtain⟨ns,rfl,h8⟩:=h6 g h vs hVL
   have hlen:ns.length=es.length:=by have:=fe hVL;simpa using this
   have h9:=run_loadCells_list (P:=P) w ⟨b,p,none⟩ (ns.map (Value.int .u8)) (fun j v hj=>by rw[jO];exact h7 j v hj);rw[iB,hlen]at h9;rw[run_bytesToString w _ _ _ ns h9,foldl_push];simp only[h8];congr 3
 simp[execOp,ho,hrun]
end
section
variable{P:Program}{Γ:Nat->Option AV}{N:Env}{g:G}{h:List Ob}{w:World}{r:Operand->Value}{o:Oper}{t:List AV}
theorem J2{ty e:TypeId}{k:Nat}(hu:P.underlying ty=some (.slice e))(hk:bm P e=some k){a:Option Addr}{n cap l u:Nat}{lo hi:Option Value}
 (h1:match lo with|none=>l=0|some v=>∃k,v=.int k l)(h2:match hi with|none=>u=n|some v=>∃k,v=.int k u)(hlu:l<=u)(hc:u<=cap):
 (Instr.sliceAt ty (.slice a n cap) lo hi none).run P w=.ok (.slice (if cap=l then a else a.map (·.add (l*k))) (u-l) (cap-l)) w:=by
 have:=Jb (P:=P) true n cap l u lo hi h1 h2 hlu hc w;simp[Instr.sliceAt,Instr.slice,run_underlying hu,gN hk,this]
theorem Tk{f:Bool}{k:Nat}{es:List AV}{a:Option Addr}{n cap l u s:Nat}(hv:V g h (.list f k es) (.slice a n cap))(hlu:l<=u)(hu:u<=es.length)(hk:k=s\/es=[]):
 V g h (.list (f&&u==es.length) k ((es.take u).drop l)) (.slice (if cap=l then a else a.map (·.add (l*s))) (u-l) (cap-l)):=by
 simp only[V]at hv⊢;obtain⟨hok,a',cap',he,hf,hcap,h3⟩:=hv;simp only[Value.slice.injEq]at he;obtain⟨rfl,rfl,rfl⟩:=he;refine⟨ov hok (fun e he=>jH (iA he)),(if cap=l then a else a.map (·.add (l*s))),cap-l,?_,?_,?_,?_⟩
 ·congr 1;simp;omega
 ·intro hf';simp only[aC,ml]at hf';have:=hf hf'.1
  simp;omega
 ·simp;omega
 ·by_cases hul:u=l
  ·left;apply k_.1
   simp;omega
  ·right
   have hne:es≠[]:=by rintro rfl;simp at hu;omega
   rcases h3 with h3|⟨b,p,vs,rfl,h4,h5⟩
   ·exact absurd h3 hne
   ·have hks:k=s:=hk.resolve_right hne;subst hks;have hK:=jf hok;have h6:=tO (fun e he=>hK e (jH he)) (v8 hK h4 u) l;refine⟨b,p+l*k,_,?_,h6,?_⟩
    ·rw[if_neg (by omega)];simp[jO]
    ·intro j hj;have hl:=gv hK h4;simp only[HH,fc]at hj;rw[List.getElem_drop,xk,mj];exact h5 _ _
theorem U'{i off n l u s:Nat}{a:Option Addr}{m cap:Nat}(hv:V g h (.sl i off n) (.slice a m cap))(hlu:l<=u)(hu:u<=n){E:TypeId}{es:List AV}{gr:Option Nat}{fl sh:Bool}
 (hi:h[i]? =some (.row s E es gr fl sh))(hok:cr es gr off n=true):
 V g h (.sl i (off+l) (u-l)) (.slice (if cap=l then a else a.map (·.add (l*s))) (u-l) (cap-l)):=by
 simp only[V]at hv⊢;obtain⟨k,E',es',gr',fl',sh',hi',hle,a',cap',he,hc,hn,hq⟩:=hv;rw[hi]at hi';simp only[al,Ob.row.injEq]at hi';obtain⟨rfl,rfl,rfl,rfl,rfl,rfl⟩:=hi';simp only[Value.slice.injEq]at he;obtain⟨rfl,rfl,rfl⟩:=he;refine⟨_,_,_,_,_,_,hi,by omega,_,_,rfl,by omega,?_,?_⟩
 ·intro h0;obtain⟨b,p,rfl⟩:=hn (by omega)
  by_cases hcl:cap=l
  ·exact⟨b,p,by simp[hcl]⟩
  ·exact⟨b,p+l*s,by simp[hcl,jO]⟩
 ·intro hok';obtain⟨hlc,hq⟩:=hq hok;refine⟨by omega,?_⟩
  rcases hq with⟨h1,h2⟩|⟨b,sz,st,h1,h2,rfl,h4⟩
  ·left;omega
  ·by_cases hcl:cap=l
   ·left;omega
   ·right;refine⟨b,sz,st,h1,by omega,?_,?_⟩
    ·rw[if_neg hcl];simp only[eb,jO,al,Addr.mk.injEq,uT,pD]
     rw[<-fa];congr 1;omega
    ·have:off+l-st+(cap-l)=off-st+cap:=by omega
     rw[this];exact h4
theorem SX(H:Inv P Γ N g h w){ty e:TypeId}{x:Operand}{lo hi:Option Operand}(ho:o.op=.slice ty x lo hi none)(hu:P.underlying ty=some (.slice e)){s:Nat}(hs:bm P e=some s)
 {f:Bool}{k:Nat}{es:List AV}(hx:V g h (.list f k es) (r x))(he:∀x,V g h (ax t (ay x)) (r x)){l u:Nat}(hl:bound t 0 (lo.map ay)=some l)(hh:bound t es.length (hi.map ay)=some u)
 (hlu:l<=u/\u<=es.length/\(k=s\/es=[])):aG P Γ N r o w g h h (some (.list (f&&u==es.length) k ((es.take u).drop l))):=by
 have hx0:=hx;simp only[V]at hx0;obtain⟨_,a,cap,hv,_,hcap,_⟩:=hx0;rw[hv]at hx;refine aG.same H ?_ (Tk hx hlu.1 hlu.2.1 hlu.2.2);have:=J2 (w:=w) hu hs (a:=a) (n:=es.length) (cap:=cap) (ow hl he) (ow hh he) hlu.1 (by omega);simp[execOp,ho,hv,this]
theorem T_(H:Inv P Γ N g h w){ty e:TypeId}{x:Operand}{lo hi:Option Operand}(ho:o.op=.slice ty x lo hi none)(hu:P.underlying ty=some (.slice e)){s:Nat}(hs:bm P e=some s)
 {i off n:Nat}(hx:V g h (.sl i off n) (r x))(he:∀x,V g h (ax t (ay x)) (r x)){l u:Nat}(hl:bound t 0 (lo.map ay)=some l)(hh:bound t n (hi.map ay)=some u)
 (hlu:l<=u/\u<=n){E:TypeId}{es:List AV}{gr:Option Nat}{fl sh:Bool}(hi':h[i]? =some (.row s E es gr fl sh))(hok:cr es gr off n=true):
 aG P Γ N r o w g h h (some (.sl i (off+l) (u-l))):=by
 have hx0:=hx;simp only[V]at hx0;obtain⟨_,_,_,_,_,_,_,_,a,cap,hv,hcap,_⟩:=hx0;rw[hv]at hx;refine aG.same H ?_ (U' hx hlu.1 hlu.2 hi' hok);have:=J2 (w:=w) hu hs (a:=a) (n:=n) (cap:=cap) (ow hl he) (ow hh he) hlu.1 (by omega);simp[execOp,ho,hv,this]
inductive F2{α β:Type}(R:α->β->Prop):List α->List β->Prop
 |nil:F2 R [] []
 |cons {a:α} {b:β} {as:List α} {bs:List β}:R a b->F2 R as bs->F2 R (a::as) (b::bs)
theorem Dx(off:Nat):∀(l:List Value)(k:Nat)(cells:Array Value),off+k+l.length<=cells.size->
 ((l.zipIdx k).foldl (fun cs (x:Value×Nat)=>cs.setIfInBounds (off+x.2) x.1) cells).toList=cells.toList.take (off+k)++l++cells.toList.drop (off+k+l.length)
 |[],k,cells,_=>by simp
 |v::l,k,cells,hl=>by
  simp only[bC]at hl;rw[List.zipIdx_cons,sw,Dx off l (k+1) _ (by simp;omega)];rw[HI];have e:=list_seg_step cells.toList (off+k) v l (by simp;omega);simpa[mj]using e
theorem ME{cs new:List AV}{vs ns:List Value}{off:Nat}(h1:VL g h cs vs)(h2:VL g h new ns):VL g h (over cs off new) (vs.take off++ns++vs.drop (off+ns.length)):=by
 unfold over;rw[fe h2];exact jN (jN (Aa _ h1) h2) (Aj _ h1)
theorem CX(place:Nat->Option (Nat×Nat)):∀(ps:List (Nat×Nat×AV))(parts:List (Nat×Value))(cs out:List AV)(zs:Array Value),
 F2 (fun(p:Nat×Nat×AV) (q:Nat×Value)=>place q.1=some (p.1,p.2.1)/\V g h p.2.2 q.2) ps parts->
 rS cs ps=some out->VL g h cs zs.toList->∃us,Instr.fill place zs parts=some us/\VL g h out us.toList
 |[],parts,cs,out,zs,hf,ho,hv=>by
  cases hf
  simp only[rS,al]at ho;subst ho;exact⟨zs,rfl,hv⟩
 |(off,sz,a)::ps,parts,cs,out,zs,hf,ho,hv=>by
  cases hf with
  |cons hq hf=>
   rename_i q parts;obtain⟨i,v⟩:=q;obtain⟨hp,ha⟩:=hq;simp only[rS]at ho
   split at ho
   ·rename_i hc;obtain⟨hok,hsz,hle⟩:=hc;have hcells:=oG hok ha;have hl:=fe hcells;have hlz:=fe hv
    have h1:v.cells.size=sz:=by rw[<-hsz,<-hl];simp
    have h2:¬(off+v.cells.size>zs.size):=by
     have:zs.toList.length=zs.size:=by simp
     omega
    have hfold:=Dx off v.cells.toList 0 zs (by simp;omega)
    have hzip:v.cells.zipIdx.foldl (fun cs (x:Value×Nat)=>cs.setIfInBounds (off+x.2) x.1) zs=(v.cells.toList.zipIdx 0).foldl (fun cs (x:Value×Nat)=>cs.setIfInBounds (off+x.2) x.1) zs:=by
     rw[<-B8,Array.toList_zipIdx]
    obtain⟨us,h3,h4⟩:=CX place ps parts _ out (v.cells.zipIdx.foldl (fun cs (x:Value×Nat)=>cs.setIfInBounds (off+x.2) x.1) zs) hf ho (by
     rw[hzip,hfold];have:=ME (off:=off) hv hcells
     simpa using this)
    refine⟨us,?_,h4⟩;simp only[Instr.fill,hp];rw[if_neg (by simp only[fR,a8,ne_eq,not_or,B9];exact⟨h1,h2⟩)];exact h3
   ·simp at ho
theorem CF(g:G)(h:List Ob)(v:Value):VL g h (fw v).cells v.cells.toList:=by
 by_cases ha:∃cs,v=.agg cs
 ·obtain⟨cs,rfl⟩:=ha;have:=oM (g:=g) (h:=h) (f:=jj) (e:=id) (tC g h) cs.toList;simpa[fw,AV.cells,Value.cells]using this
 ·have h1:v.cells=#[v]:=by cases v<;>first|rfl|exact absurd ⟨_,rfl⟩ ha
  have h2:(fw v).cells=[fw v]:=by
   have:∀cs,fw v≠.agg cs:=by
    intro cs hc;unfold fw at hc
    split at hc<;>first|exact ha ⟨_,rfl⟩|cases hc|(unfold jj at hc;split at hc<;>cases hc)
   revert this
   cases fw v<;>intro this<;>first|rfl|exact absurd rfl (this _)
  rw[h1,h2];simp only[VL];exact⟨v,[],rfl,mG g h v,rfl⟩
theorem II:∀{fs:List Field},fs.all (fun f=>(bm P f.type).isSome)=true->∀w:World,
 (fs.mapM (m:=Sem) fun f=>Prod.mk f.offset<$>sizeOf f.type).run P w=.ok (fs.map fun f=>(f.offset,(bm P f.type).getD 0)) w
 |[],_,_=>rfl
 |f::fs,hf,w=>by
  simp only[sx,aC]at hf;obtain⟨s,hs⟩:=HJ.1 hf.1;simp[sy,gN hs,II hf.2,hs]
theorem YA(H:Inv P Γ N g h w){ty:TypeId}{ps:Array (Nat×Operand)}(ho:o.op=.build ty ps){z:AV}(hz:dy P ty=some z)(hpl:vO P ty=true){aps:List (Nat×Nat×AX)}
 (hps:oK P ty ps.toList=some aps)(he:∀x,V g h (ax t (ay x)) (r x)){cs:List AV}(hf:rS z.cells (aps.map fun p=>(p.1,p.2.1,ax t p.2.2))=some cs):
 aG P Γ N r o w g h h (some (.agg cs)):=by
 obtain⟨zv,hzr,rfl⟩:=DU hz w
 have hF:∀(l:List (Nat×Operand))(aps:List (Nat×Nat×AX)),oK P ty l=some aps->
  F2 (fun(p:Nat×Nat×AV) (q:Nat×Value)=>placeOf P ty q.1=some (p.1,p.2.1)/\V g h p.2.2 q.2) (aps.map fun p=>(p.1,p.2.1,ax t p.2.2)) (l.map fun p=>(p.1,r p.2)):=by
  intro l
  induction l with
  |nil=>intro aps hl;simp[oK]at hl;subst hl;exact .nil
  |cons q l ih=>
   intro aps hl;simp only[oK,sy]at hl;obtain⟨i,x⟩:=q
   cases hp:placeOf P ty i with
   |none=>simp[hp]at hl
   |some os=>
    obtain⟨of,s⟩:=os
    cases hm:oK P ty l with
    |none=>simp only[oK]at hm;simp[hp,hm]at hl
    |some aps'=>
     have hm':=hm;simp only[oK]at hm;simp[hp,hm]at hl;subst hl;exact .cons ⟨hp,he x⟩ (ih aps' hm')
 have hF:=hF ps.toList aps hps
 have hparts:(ps.map fun(p:Nat×Operand)=>(p.1,r p.2)).toList=ps.toList.map fun p=>(p.1,r p.2):=by simp
 cases hu:P.underlying ty with
 |none=>simp[vO,hu]at hpl
 |some d=>
  cases d<;>simp only[vO,hu,dU]at hpl
  case struct fs=>
   have hpm:=II (P:=P) (fs:=fs.toList) hpl w
   obtain⟨us,h1,h2⟩:=CX (fun i=>((fs.toList.map fun f=>(f.offset,(bm P f.type).getD 0)).toArray)[i]?) _ _ _ cs zv.cells (by
    have:∀{l:List (Nat×Nat×AV)}{m:List (Nat×Value)},F2 (fun(p:Nat×Nat×AV) (q:Nat×Value)=>placeOf P ty q.1=some (p.1,p.2.1)/\V g h p.2.2 q.2) l m->
     F2 (fun(p:Nat×Nat×AV) (q:Nat×Value)=>((fs.toList.map fun f=>(f.offset,(bm P f.type).getD 0)).toArray)[q.1]? =some (p.1,p.2.1)/\V g h p.2.2 q.2) l m:=by
     intro l m hlm
     induction hlm with
     |nil=>exact .nil
     |cons hq _ ih=>
      refine .cons ⟨?_,hq.2⟩ ih;have hq:=hq.1;simp only[placeOf,hu]at hq
      split at hq
      ·rename_i f hfi;simp only[bN]at hq;obtain⟨s,hs1,hs2⟩:=hq;simp[hfi,hs1,<-hs2]
      ·simp at hq
    exact this hF) hf (CF g h zv)
   refine aG.same H (u:=.agg us) ?_ (by simp only[V];exact⟨us.toList,by simp,h2⟩);rw[<-hparts]at h1;simp[execOp,ho,Instr.build,run_underlying hu,hzr,Array.mapM_eq_mapM_toList,hpm];simp at h1;rw[h1];simp
  case array n e=>
   cases hs:bm P e with
   |none=>
    simp[hs]at hpl
   |some s=>
    obtain⟨us,h1,h2⟩:=CX (fun i=>some (i*s,s)) _ _ _ cs zv.cells (by
     have:∀{l:List (Nat×Nat×AV)}{m:List (Nat×Value)},F2 (fun(p:Nat×Nat×AV) (q:Nat×Value)=>placeOf P ty q.1=some (p.1,p.2.1)/\V g h p.2.2 q.2) l m->
      F2 (fun(p:Nat×Nat×AV) (q:Nat×Value)=>(fun i=>some (i*s,s)) q.1=some (p.1,p.2.1)/\V g h p.2.2 q.2) l m:=by
      intro l m hlm
      induction hlm with
      |nil=>exact .nil
      |cons hq _ ih=>
       refine .cons ⟨?_,hq.2⟩ ih;have hq:=hq.1;simp only[placeOf,hu,hs,eb]at hq;exact hq
     exact this hF) hf (CF g h zv)
    refine aG.same H (u:=.agg us) ?_ (by simp only[V];exact⟨us.toList,by simp,h2⟩);rw[<-hparts]at h1;simp[execOp,ho,Instr.build,run_underlying hu,hzr,gN hs];simp at h1;rw[h1];simp
end
section
variable{P:Program}{Γ:Nat->Option AV}{N:Env}{g:G}{h:List Ob}{w:World}{r:Operand->Value}{o:Oper}{t:List AV}
theorem C6(H:Inv P Γ N g h w){x:Operand}{ty ty':TypeId}{ok:Bool}(ho:o.op=.typeAssert x ty' ty ok){d:TypeDesc}(hd:P.underlying ty=some d)(hd':∀ms,d≠.interface ms){z:AV}
 (hz:dy P ty=some z){a:AV}(ha:V g h a (r x)){v:AV}
 (hv:(∃u b,a=.bX u b/\((u=ty/\v=if ok then .aL [b,.bool true]else b)\/(u≠ty/\ok=true/\v=.aL [z,.bool false])))\/(a=.dZ/\ok=true/\v=.aL [z,.bool false])):
 aG P Γ N r o w g h h (some v):=by
 obtain⟨zv,hzr,rfl⟩:=DU hz w
 have hd2:∀(x:Value),(match d,x with|.interface _,.nilIface=>false|_,_=>true)=true:=by intro x;cases d<;>first|rfl|exact absurd rfl (hd' _)
 rcases hv with⟨u,b,rfl,h1⟩|⟨rfl,rfl,rfl⟩
 ·simp only[V]at ha;obtain⟨y,hx,hb⟩:=ha
  rcases h1 with⟨rfl,rfl⟩|⟨hne,rfl,rfl⟩
  ·cases ok
   ·refine aG.same H (u:=y) ?_ hb
    cases d<;>first
     |exact absurd rfl (hd' _)
     |simp[execOp,ho,hx,Instr.typeAssert,run_underlying hd]
   ·refine aG.same H (u:=.tuple #[y,.bool true]) ?_ (by simp only[bY,V,VL];exact⟨[y,.bool true],rfl,_,_,rfl,hb,_,_,rfl,rfl,rfl⟩)
    cases d<;>first
     |exact absurd rfl (hd' _)
     |simp[execOp,ho,hx,Instr.typeAssert,run_underlying hd]
  ·refine aG.same H (u:=.tuple #[zv,.bool false]) ?_ (by simp only[V,VL];exact⟨[zv,.bool false],rfl,_,_,rfl,mG g h zv,_,_,rfl,rfl,rfl⟩)
   cases d<;>first
    |exact absurd rfl (hd' _)
    |simp[execOp,ho,hx,Instr.typeAssert,run_underlying hd,hne,hzr]
 ·simp only[V]at ha;refine aG.same H (u:=.tuple #[zv,.bool false]) ?_ (by simp only[V,VL];exact⟨[zv,.bool false],rfl,_,_,rfl,mG g h zv,_,_,rfl,rfl,rfl⟩)
  cases d<;>first
   |exact absurd rfl (hd' _)
   |simp[execOp,ho,ha,Instr.typeAssert,run_underlying hd,hzr]
theorem Km:∀{xs:List AV}{a v:AV}{vs:List Value}{u:Value},pn a xs=some v->V g h a u->VL g h xs vs->∃y,(vs.foldlM Builtin.min2 u).run P w=.ok y w/\V g h v y
 |[],a,v,vs,u,hm,ha,hx=>by
  simp only[VL]at hx;subst hx
  cases a<;>simp only[pn,reduceCtorEq,al]at hm
  subst hm;exact⟨u,by simp,ha⟩
 |b::xs,a,v,vs,u,hm,ha,hx=>by
  simp only[VL]at hx;obtain⟨y,vs',rfl,hb,hr⟩:=hx
  cases a<;>try (simp only[pn,reduceCtorEq]at hm;done)
  cases b<;>simp only[pn,reduceCtorEq]at hm
  split at hm
  ·rename_i hk;subst hk;rw[dC ha,dC hb];obtain⟨z,h1,h2⟩:=Km (u:=.int _ _) hm (by simp only[V];rfl) hr;exact⟨z,by rw[List.foldlM_cons];simp[Builtin.min2,h1],h2⟩
  ·simp at hm
theorem Kv:∀{xs:List AV}{a v:AV}{vs:List Value}{u:Value},pg a xs=some v->V g h a u->VL g h xs vs->∃y,(vs.foldlM Builtin.max2 u).run P w=.ok y w/\V g h v y
 |[],a,v,vs,u,hm,ha,hx=>by
  simp only[VL]at hx;subst hx
  cases a<;>simp only[pg,reduceCtorEq,al]at hm
  subst hm;exact⟨u,by simp,ha⟩
 |b::xs,a,v,vs,u,hm,ha,hx=>by
  simp only[VL]at hx;obtain⟨y,vs',rfl,hb,hr⟩:=hx
  cases a<;>try (simp only[pg,reduceCtorEq]at hm;done)
  cases b<;>simp only[pg,reduceCtorEq]at hm
  split at hm
  ·rename_i hk;subst hk;rw[dC ha,dC hb];obtain⟨z,h1,h2⟩:=Kv (u:=.int _ _) hm (by simp only[V];rfl) hr;exact⟨z,by rw[List.foldlM_cons];simp[Builtin.max2,h1],h2⟩
  ·simp at hm
theorem aay(H:Inv P Γ N g h w){xs:Array Operand}{ts:Array TypeId}(ho:o.op=.call ⟨.builtin .min,xs,ts⟩)(he:∀x,V g h (ax t (ay x)) (r x)){a v:AV}{as:List AV}
 (hx:(xs.toList.map ay).map (ax t)=a::as)(hv:pn a as=some v):aG P Γ N r o w g h h (some v):=by
 have h1:VL g h (a::as) (xs.toList.map r):=by rw[<-hx,lf];exact oM he _
 simp only[VL]at h1;obtain⟨u,vs,h2,h3,h4⟩:=h1;obtain⟨y,h5,h6⟩:=Km (P:=P) (w:=w) hv h3 h4;refine aG.same H (u:=y) ?_ h6
 have h7:(xs.map r).toList=u::vs:=by simpa using h2
 simp[execOp,ho,resolve,invoke,builtin,Builtin.min_,h2,h5]
theorem abm(H:Inv P Γ N g h w){xs:Array Operand}{ts:Array TypeId}(ho:o.op=.call ⟨.builtin .max,xs,ts⟩)(he:∀x,V g h (ax t (ay x)) (r x)){a v:AV}{as:List AV}
 (hx:(xs.toList.map ay).map (ax t)=a::as)(hv:pg a as=some v):aG P Γ N r o w g h h (some v):=by
 have h1:VL g h (a::as) (xs.toList.map r):=by rw[<-hx,lf];exact oM he _
 simp only[VL]at h1;obtain⟨u,vs,h2,h3,h4⟩:=h1;obtain⟨y,h5,h6⟩:=Kv (P:=P) (w:=w) hv h3 h4;refine aG.same H (u:=y) ?_ h6
 have h7:(xs.map r).toList=u::vs:=by simpa using h2
 simp[execOp,ho,resolve,invoke,builtin,Builtin.max_,h2,h5]
theorem ot{ty:TypeId}{s:SK}(hs:jT P ty=some s):P.cellsOf ty=1/\match s with|.int=>∃k,P.underlying ty=some (.int k)|.str=>P.underlying ty=some .string|.bool=>P.underlying ty=some .bool:=by
 unfold jT at hs
 split at hs
 ·rename_i hc;refine⟨by simpa using hc,?_⟩
  split at hs<;>simp only[al,reduceCtorEq]at hs<;>subst hs<;>simp_all
 ·simp at hs
theorem Sb{ty:TypeId}{s:SK}(hs:jT P ty=some s)(w:World):(isAgg ty).run P w=.ok false w:=by
 obtain⟨_,h1⟩:=ot hs
 cases s<;>simp only at h1
 ·obtain⟨k,hk⟩:=h1;simp[isAgg,run_underlying hk]
 ·simp[isAgg,run_underlying h1]
 ·simp[isAgg,run_underlying h1]
theorem sJ{ty:TypeId}{s:SK}(hs:jT P ty=some s){xs:Array Value}{i:Nat}{x:Value}(hx:xs[i]? =some x)(w:World):(part ty xs i).run P w=.ok x w:=by
 simp[part,Sb hs,hx]
theorem JQ(a b:List UInt8):((⟨a.toArray⟩:ByteArray)==⟨b.toArray⟩)=(a==b):=by
 rw[beq_toListBytes,zM]
theorem zo{ty:TypeId}{s:SK}(hs:jT P ty=some s){a b:AV}{c:Bool}(hc:eD s a b=some c){x y:Value}(hx:V g h a x)(hy:V g h b y)(d:Nat)(w:World):
 (Op.equalIn (d+1) ty x y).run P w=.ok c w:=by
 obtain⟨_,h1⟩:=ot hs
 cases s<;>simp only at h1<;>cases a<;>cases b<;>simp only[eD,reduceCtorEq,al]at hc
 ·obtain⟨k,hk⟩:=h1
  split at hc
  ·rename_i hkk;subst hkk;simp only[al]at hc;rw[dC hx,dC hy,run_equalIn_int w d ty _ k _ _ hk,hc]
  ·simp at hc
 ·rw[il hx,il hy,run_equalIn_string w d ty _ _ h1,zM,hc]
 ·rw[kD hx,kD hy,run_equalIn_bool w d ty _ _ h1,hc]
theorem IC{d:Nat}:∀{fs:List Field}{ss:List SK}{i:Nat}{as bs:List AV}{xs ys:Array Value}{c:Bool},rT P i fs=some ss->VL g h as (xs.toList.drop i)->VL g h bs (ys.toList.drop i)->
 fN ss as bs=some c->∀w:World,(Op.eqFields (d+1) xs ys fs).run P w=.ok c w
 |[],ss,i,as,bs,xs,ys,c,hf,hx,hy,hc,w=>by
  simp only[rT,al]at hf;subst hf
  cases as<;>cases bs<;>simp only[fN,reduceCtorEq,al]at hc
  subst hc;simp[Op.eqFields]
 |f::fs,ss,i,as,bs,xs,ys,c,hf,hx,hy,hc,w=>by
  simp only[rT]at hf
  split at hf
  ·rename_i s ss' hs hss
   split at hf
   ·rename_i hn;simp only[aC,bne_iff_ne,ne_eq,ml]at hn;simp only[al]at hf;subst hf
    cases as with
    |nil=>simp[fN]at hc
    |cons a as=>
     cases bs with
     |nil=>simp[fN]at hc
     |cons b bs=>
      simp only[VL]at hx hy;obtain⟨x,xs',hx1,hx2,hx3⟩:=hx;obtain⟨y,ys',hy1,hy2,hy3⟩:=hy
      have hxi:xs[i]? =some x:=by
       have:=congrArg (·[0]?) hx1;simp[nj]at this;exact this
      have hyi:ys[i]? =some y:=by
       have:=congrArg (·[0]?) hy1;simp[nj]at this;exact this
      have hxd:xs.toList.drop (i+1)=xs':=by rw[<-xl,hx1];rfl
      have hyd:ys.toList.drop (i+1)=ys':=by rw[<-xl,hy1];rfl
      simp only[fN]at hc
      cases he:eD s a b with
      |none=>simp[he]at hc
      |some e=>
       have h1:=zo hs he hx2 hy2 d w;simp only[he]at hc;have hp1:=sJ hs hxi w;have hp2:=sJ hs hyi w;simp only[Op.eqFields,hn.1,ne_eq,not_false_eq_true,bY,Sem.run_bind,Result.andThen_ok,hn.2,hp1,hp2,h1]
       cases e
       ·simp only[al]at hc;subst hc;simp
       ·simp only at hc;simp only[pE,dU,cE];exact IC hss (by rw[hxd];exact hx3) (by rw[hyd];exact hy3) hc w
   ·simp at hf
  ·simp at hf
def rE(d:Nat)(e:TypeId)(n:Nat)(xs ys:Array Value):List Nat->Sem Bool
 |[]=>pure true
 |i::is=>do
  let a<-part e xs (i*n)
  let b<-part e ys (i*n)
  let r<-Op.equalIn d e a b
  if(!r)=true then pure false else rE d e n xs ys is
theorem run_equalIn_array(d:Nat)(ty e:TypeId)(len s:Nat)(xs ys:Array Value)(ht:P.underlying ty=some (.array len e))(hs:bm P e=some s)(w:World):
 (Op.equalIn (d+1) ty (.agg xs) (.agg ys)).run P w=(rE d e s xs ys (List.range' 0 len)).run P w:=by
 simp only[Op.equalIn,Sem.run_bind,run_underlying ht,Result.andThen_ok,gN hs];rw[aoj];simp only[Std.Legacy.Range.size,xm,Nat.add_sub_cancel,Nat.div_one];generalize List.range' 0 len=is
 induction is generalizing w with
 |nil=>simp[rE]
 |cons i is ih=>
  simp only[List.forIn_cons,rE,Sem.run_bind,Sem.run_ite];generalize(part e xs (i*s)).run P w=r1
  cases r1 with
  |ok a w1=>
   simp only[Result.andThen_ok];generalize(part e ys (i*s)).run P w1=r2
   cases r2 with
   |ok b w2=>
    simp only[Result.andThen_ok];generalize(Op.equalIn d e a b).run P w2=r3
    cases r3 with
    |ok r w3=>
     cases r
     ·simp only[Result.andThen_ok,uU,bY,Sem.run_pure]
     ·simp only[Result.andThen_ok,pE,dU,cE,Sem.run_pure];exact ih w3
    |halt x w3=>simp[Result.andThen]
   |halt x w2=>simp[Result.andThen]
  |halt x w1=>simp[Result.andThen]
theorem IG{d:Nat}{e:TypeId}{s:SK}(hs:jT P e=some s):∀{n i:Nat}{as bs:List AV}{xs ys:Array Value}{c:Bool},VL g h as (xs.toList.drop i)->VL g h bs (ys.toList.drop i)->
 fN (List.replicate n s) as bs=some c->∀w:World,(rE (d+1) e 1 xs ys (List.range' i n)).run P w=.ok c w
 |0,i,as,bs,xs,ys,c,hx,hy,hc,w=>by
  simp only[List.replicate_zero]at hc
  cases as<;>cases bs<;>simp only[fN,reduceCtorEq,al]at hc
  subst hc;simp[rE]
 |n+1,i,as,bs,xs,ys,c,hx,hy,hc,w=>by
  simp only[qN]at hc
  cases as with
  |nil=>simp[fN]at hc
  |cons a as=>
   cases bs with
   |nil=>simp[fN]at hc
   |cons b bs=>
    simp only[VL]at hx hy;obtain⟨x,xs',hx1,hx2,hx3⟩:=hx;obtain⟨y,ys',hy1,hy2,hy3⟩:=hy
    have hxi:xs[i]? =some x:=by
     have:=congrArg (·[0]?) hx1;simp[nj]at this;exact this
    have hyi:ys[i]? =some y:=by
     have:=congrArg (·[0]?) hy1;simp[nj]at this;exact this
    have hxd:xs.toList.drop (i+1)=xs':=by rw[<-xl,hx1];rfl
    have hyd:ys.toList.drop (i+1)=ys':=by rw[<-xl,hy1];rfl
    simp only[fN]at hc
    cases he:eD s a b with
    |none=>simp[he]at hc
    |some e'=>
     have h1:=zo hs he hx2 hy2 d w;simp only[he]at hc;have hp1:=sJ hs hxi w;have hp2:=sJ hs hyi w;simp only[List.range'_succ,rE,Sem.run_bind,Result.andThen_ok,Nat.mul_one,hp1,hp2,h1]
     cases e'
     ·simp only[al]at hc;subst hc;simp
     ·simp only at hc;simp only[pE,dU,cE];exact IG hs (by rw[hxd];exact hx3) (by rw[hyd];exact hy3) hc w
theorem cellsOf_size{ty:TypeId}{s:SK}(hs:jT P ty=some s):bm P ty=some 1:=by
 obtain⟨h1,h2⟩:=ot hs
 have hu:∃d,P.underlying ty=some d:=by
  cases s<;>simp only at h2
  ·exact⟨_,h2.choose_spec⟩
  ·exact⟨_,h2⟩
  ·exact⟨_,h2⟩
 unfold Program.cellsOf at h1;unfold bm
 cases hi:P.info? ty with
 |none=>simp[hi]at h1
 |some i=>simp[hi]at h1;simp[h1]
theorem Kz{ty:TypeId}{ss:List SK}(hs:uf P ty=some ss){as bs:List AV}{xs ys:List Value}{c:Bool}(hx:VL g h as xs)(hy:VL g h bs ys)(hc:fN ss as bs=some c)(d:Nat)(w:World):
 (Op.equalIn (d+2) ty (.agg xs.toArray) (.agg ys.toArray)).run P w=.ok c w:=by
 unfold uf at hs
 split at hs
 ·rename_i fs hu
  split at hs
  ·rename_i hst
   have hst':P.stoodInHeld ty=false:=by simpa using hst
   have hfo:P.fieldsOf ty=fs:=by simp[Program.fieldsOf,hu]
   rw[run_equalIn_struct w (d+1) ty _ _ (by rw[hfo];exact hu) hst',hfo];exact IC hs (by simpa using hx) (by simpa using hy) hc w
  ·simp at hs
 ·rename_i n e hu;simp only[bN]at hs;obtain⟨s,h1,rfl⟩:=hs;rw[run_equalIn_array (d+1) ty e n 1 _ _ hu (cellsOf_size h1)];exact IG h1 (by simpa using hx) (by simpa using hy) hc w
 ·simp at hs
theorem Wm{ty:TypeId}{e:EK}(hk:gO P ty=some e){a b:AV}{c:Bool}(hc:bU e a b=some c){x y:Value}(hx:V g h a x)(hy:V g h b y)(w:World):
 (Op.equal ty x y).run P w=.ok c w:=by
 unfold gO at hk
 split at hk
 ·rename_i s hs;simp only[al]at hk;subst hk;exact zo hs hc hx hy 9999 w
 ·simp only[bN]at hk;obtain⟨ss,hss,rfl⟩:=hk
  cases a<;>cases b<;>simp only[bU,reduceCtorEq]at hc
  split at hc
  ·simp only[V]at hx hy;obtain⟨xs,rfl,hx⟩:=hx;obtain⟨ys,rfl,hy⟩:=hy;exact Kz hss hx hy hc 9998 w
  ·simp at hc
end
section
variable{P:Program}{Γ:Nat->Option AV}{N:Env}{g:G}{h:List Ob}{w:World}{r:Operand->Value}{o:Oper}{t:List AV}
theorem Tz{ty:TypeId}{ms:Array (String×TypeId)}(hu:P.underlying ty=some (.interface ms))(u:TypeId)(v:Value)(d:Nat)(w:World):
 (Op.equalIn (d+1) ty .nilIface (.iface u v)).run P w=.ok false w/\(Op.equalIn (d+1) ty (.iface u v) .nilIface).run P w=.ok false w:=by
 constructor<;>simp[Op.equalIn,run_underlying hu]
theorem ze{ty:TypeId}{ms:Array (String×TypeId)}(hu:P.underlying ty=some (.interface ms))(u:TypeId)(v:Value)(w:World):
 (Op.equal ty .nilIface (.iface u v)).run P w=.ok false w/\(Op.equal ty (.iface u v) .nilIface).run P w=.ok false w:=Tz hu u v 9999 w
theorem TN{ty:TypeId}{p q:Array TypeId}{v:Bool}(hu:P.underlying ty=some (.func p q v))(f:Fn)(a b:Array Value)(d:Nat)(w:World):
 (Op.equalIn (d+1) ty .nilFunc .nilFunc).run P w=.ok true w/\(Op.equalIn (d+1) ty .nilFunc (.func f a b)).run P w=.ok false w/\(Op.equalIn (d+1) ty (.func f a b) .nilFunc).run P w=.ok false w:=by
 refine⟨?_,?_,?_⟩<;>simp[Op.equalIn,run_underlying hu]
theorem tf{ty:TypeId}{p q:Array TypeId}{v:Bool}(hu:P.underlying ty=some (.func p q v))(f:Fn)(a b:Array Value)(w:World):
 (Op.equal ty .nilFunc .nilFunc).run P w=.ok true w/\(Op.equal ty .nilFunc (.func f a b)).run P w=.ok false w/\(Op.equal ty (.func f a b) .nilFunc).run P w=.ok false w:=TN hu f a b 9999 w
theorem rm{ty:TypeId}{x y:Value}{c:Bool}(h1:binOp .eql ty x y=(do pure (.bool (<-Op.equal ty x y))))(h2:(Op.equal ty x y).run P w=.ok c w):(binOp .eql ty x y).run P w=.ok (.bool c) w:=by
 rw[h1,Sem.run_bind,h2];rfl
theorem rk{ty:TypeId}{x y:Value}{c:Bool}(h1:binOp .neq ty x y=(do pure (.bool (!(<-Op.equal ty x y)))))(h2:(Op.equal ty x y).run P w=.ok c w):(binOp .neq ty x y).run P w=.ok (.bool !c) w:=by
 rw[h1,Sem.run_bind,h2];rfl
theorem J0{ty:TypeId}{e:EK}(hk:oT P ty=some e){x y:Operand}{a b:AV}{c:Bool}(hc:bU e a b=some c)(hx:V g h a (r x))(hy:V g h b (r y))(w:World):
 (do eqGuard .eql ty x y (r x) (r y);binOp .eql ty (r x) (r y):Sem Value).run P w=.ok (.bool c) w/\
 (do eqGuard .neq ty x y (r x) (r y);binOp .neq ty (r x) (r y):Sem Value).run P w=.ok (.bool !c) w:=by
 unfold oT at hk
 split at hk
 ·rename_i s hs;simp only[al]at hk;subst hk;have hq:=zo hs hc hx hy 9999;obtain⟨_,h1⟩:=ot hs
  cases s<;>simp only at h1<;>cases a<;>cases b<;>simp only[bU,eD,reduceCtorEq,al]at hc
  ·obtain⟨k,hk⟩:=h1
   split at hc
   ·rename_i hkk;subst hkk;simp only[al]at hc;subst hc;rw[dC hx,dC hy];constructor
    ·simp only[Sem.run_bind];rw[fH (by simp) (by simp)];simp[binOp,Op.intCmp]
    ·simp only[Sem.run_bind];rw[fH (by simp) (by simp)];simp[binOp,Op.intCmp,bne]
   ·simp at hc
  ·rw[il hx,il hy];subst hc;constructor
   ·simp only[Sem.run_bind];rw[fH (by simp) (by simp)];simp only[Result.andThen_ok,binOp,Op.stringOp,zM];rfl
   ·simp only[Sem.run_bind];rw[fH (by simp) (by simp)];simp only[Result.andThen_ok,binOp,Op.stringOp,zM];rfl
  ·rw[kD hx,kD hy]at*;subst hc;constructor
   ·simp only[Sem.run_bind];rw[fH (by simp) (by simp)];exact rm rfl (run_equal_bool w ty _ _ h1)
   ·simp only[Sem.run_bind];rw[fH (by simp) (by simp)];exact rk rfl (run_equal_bool w ty _ _ h1)
 ·split at hk
  iterate 2
   ·split at hk
    ·rename_i hg
     have hg':P.eqGuardType P.depth ty=false:=by simpa using hg
     simp only[bN]at hk;obtain⟨ss,hss,rfl⟩:=hk
     cases a<;>cases b<;>simp only[bU,reduceCtorEq]at hc
     split at hc
     ·simp only[V]at hx hy;obtain⟨xs,hx1,hx⟩:=hx;obtain⟨ys,hy1,hy⟩:=hy;have:=Kz hss hx hy hc 9998 w;rw[hx1,hy1];constructor
      ·simp only[Sem.run_bind];rw[run_eqGuard_agg w .eql ty x y _ _ hg'];simp only[Result.andThen_ok,run_eql_struct,this]
      ·simp only[Sem.run_bind];rw[run_eqGuard_agg w .neq ty x y _ _ hg'];simp only[Result.andThen_ok,run_neq_struct,this]
     ·simp at hc
    ·simp at hk
  ·rename_i ms hu;simp only[al]at hk;subst hk
   cases a<;>cases b<;>simp only[bU,reduceCtorEq,al]at hc
   all_goals
    subst hc;simp only[V]at hx hy
   ·obtain⟨y',hy,_⟩:=hy;rw[hx,hy];constructor
    ·simp only[Sem.run_bind];rw[fH (by simp) (by simp)];exact rm rfl (ze hu _ _ w).1
    ·simp only[Sem.run_bind];rw[fH (by simp) (by simp)];exact rk rfl (ze hu _ _ w).1
   ·obtain⟨y',hx,_⟩:=hx;rw[hx,hy];constructor
    ·simp only[Sem.run_bind];rw[fH (by simp) (by simp)];exact rm rfl (ze hu _ _ w).2
    ·simp only[Sem.run_bind];rw[fH (by simp) (by simp)];exact rk rfl (ze hu _ _ w).2
  ·rename_i p q v hu;simp only[al]at hk;subst hk
   cases a<;>cases b<;>simp only[bU,reduceCtorEq,al]at hc
   all_goals
    subst hc;simp only[V]at hx hy
   ·rw[hx,hy];constructor
    ·simp only[Sem.run_bind];rw[fH (by simp) (by simp)];exact rm rfl (tf hu (.func 0) #[] #[] w).1
    ·simp only[Sem.run_bind];rw[fH (by simp) (by simp)];exact rk rfl (tf hu (.func 0) #[] #[] w).1
   ·obtain⟨_,_,hy,_⟩:=hy;rw[hx,hy];constructor
    ·simp only[Sem.run_bind];rw[fH (by simp) (by simp)];exact rm rfl (tf hu _ _ _ w).2.1
    ·simp only[Sem.run_bind];rw[fH (by simp) (by simp)];exact rk rfl (tf hu _ _ _ w).2.1
   ·obtain⟨_,_,hx,_⟩:=hx;rw[hx,hy];constructor
    ·simp only[Sem.run_bind];rw[fH (by simp) (by simp)];exact rm rfl (tf hu _ _ _ w).2.2
    ·simp only[Sem.run_bind];rw[fH (by simp) (by simp)];exact rk rfl (tf hu _ _ _ w).2.2
  ·simp at hk
theorem aaw(H:Inv P Γ N g h w){ty ty':TypeId}{x y:Operand}(ho:o.op=.binOp .eql ty x y ty'){e:EK}(hk:oT P ty=some e){a b:AV}{c:Bool}(hc:bU e a b=some c)
 (hx:V g h a (r x))(hy:V g h b (r y)):aG P Γ N r o w g h h (some (.bool c)):=by
 refine aG.same H (u:=.bool c) ?_ (by simp[V]);have:=(J0 hk hc hx hy w).1;simp only[execOp,ho];rw[Sem.run_bind,this];rfl
theorem aaR(H:Inv P Γ N g h w){ty ty':TypeId}{x y:Operand}(ho:o.op=.binOp .neq ty x y ty'){e:EK}(hk:oT P ty=some e){a b:AV}{c:Bool}(hc:bU e a b=some c)
 (hx:V g h a (r x))(hy:V g h b (r y)):aG P Γ N r o w g h h (some (.bool !c)):=by
 refine aG.same H (u:=.bool !c) ?_ (by simp[V]);have:=(J0 hk hc hx hy w).2;simp only[execOp,ho];rw[Sem.run_bind,this];rfl
theorem Cj{ty:TypeId}{s:SK}(hs:jT P ty=some s)(em:Bool)(n:Nat)(x:Value)(w:World):(Instr.checkKey em (n+1) ty x).run P w=.ok () w:=by
 obtain⟨_,h1⟩:=ot hs
 cases s<;>simp only at h1
 ·obtain⟨k,hk⟩:=h1;simp[Instr.checkKey,run_underlying hk]
 ·simp[Instr.checkKey,run_underlying h1]
 ·simp[Instr.checkKey,run_underlying h1]
theorem I6{em:Bool}{n:Nat}:∀{fs:List Field}{ss:List SK}{i:Nat}{as:List AV}{xs:Array Value},rT P i fs=some ss->VL g h as (xs.toList.drop i)->cz ss as=true->
 ∀w:World,(forIn (m:=Sem) fs PUnit.unit fun f _=>
  if f.name≠ "_" then do
   let x<-part f.type xs f.offset
   Instr.checkKey em (n+1) f.type x
   pure (ForInStep.yield PUnit.unit)
  else pure (ForInStep.yield PUnit.unit)).run P w=.ok PUnit.unit w
 |[],ss,i,as,xs,hf,hx,hc,w=>by simp
 |f::fs,ss,i,as,xs,hf,hx,hc,w=>by
  simp only[rT]at hf
  split at hf
  ·rename_i s ss' hs hss
   split at hf
   ·rename_i hn;simp only[aC,bne_iff_ne,ne_eq,ml]at hn;simp only[al]at hf;subst hf
    cases as with
    |nil=>simp[cz]at hc
    |cons a as=>
     simp only[VL]at hx;obtain⟨x,xs',hx1,hx2,hx3⟩:=hx
     have hxi:xs[i]? =some x:=by
      have:=congrArg (·[0]?) hx1;simp[nj]at this;exact this
     have hxd:xs.toList.drop (i+1)=xs':=by rw[<-xl,hx1];rfl
     simp only[cz,aC]at hc;have hp1:=sJ hs hxi w;have ih:=I6 (em:=em) (n:=n) (xs:=xs) hss (by rw[hxd];exact hx3) hc.2 w;rw[List.forIn_cons];simp only[Sem.run_bind,hn.1,ne_eq,not_false_eq_true,bY,hn.2,hp1,Result.andThen_ok,Cj hs,Sem.run_pure];exact ih
   ·simp at hf
  ·simp at hf
theorem Jg{em:Bool}{n:Nat}{e:TypeId}{s:SK}(hs:jT P e=some s):∀{m i:Nat}{as:List AV}{xs:Array Value},VL g h as (xs.toList.drop i)->cz (List.replicate m s) as=true->
 ∀w:World,(forIn (m:=Sem) (List.range' i m) PUnit.unit fun i _=>do
  Instr.checkKey em (n+1) e (<-part e xs (i*(<-sizeOf e)))
  pure (ForInStep.yield PUnit.unit)).run P w=.ok PUnit.unit w
 |0,i,as,xs,hx,hc,w=>by simp
 |m+1,i,as,xs,hx,hc,w=>by
  cases as with
  |nil=>simp[qN,cz]at hc
  |cons a as=>
   simp only[VL]at hx;obtain⟨x,xs',hx1,hx2,hx3⟩:=hx
   have hxi:xs[i]? =some x:=by
    have:=congrArg (·[0]?) hx1;simp[nj]at this;exact this
   have hxd:xs.toList.drop (i+1)=xs':=by rw[<-xl,hx1];rfl
   simp only[qN,cz,aC]at hc;have hp1:=sJ hs hxi w;have ih:=Jg (em:=em) (n:=n) hs (xs:=xs) (by rw[hxd];exact hx3) hc.2 w;rw[List.range'_succ,List.forIn_cons];simp only[Sem.run_bind,gN (cellsOf_size hs),Nat.mul_one,hp1,Result.andThen_ok,Cj hs,Sem.run_pure];exact ih
theorem SA{ty:TypeId}{e:EK}(hk:gO P ty=some e){a:AV}(ha:isKey e a=true){x:Value}(hx:V g h a x)(em:Bool)(n:Nat)(w:World):(Instr.checkKey em (n+2) ty x).run P w=.ok () w:=by
 unfold gO at hk
 split at hk
 ·rename_i s hs;exact Cj hs em (n+1) x w
 ·simp only[bN]at hk;obtain⟨ss,hss,rfl⟩:=hk
  cases a<;>simp only[isKey,dU]at ha
  simp only[V]at hx;obtain⟨xs,rfl,hx⟩:=hx;unfold uf at hss
  split at hss
  ·rename_i fs hu
   split at hss
   ·have:=I6 (em:=em) (n:=n) (xs:=xs.toArray) hss (by simpa using hx) ha w;rw[show n+2=(n+1)+1 from rfl,Instr.checkKey];simp only[Sem.run_bind,run_underlying hu,Result.andThen_ok];rw[<-Array.forIn_toList];rw[this];rfl
   ·simp at hss
  ·rename_i m e hu;simp only[bN]at hss;obtain⟨s,h1,rfl⟩:=hss;have:=Jg (em:=em) (n:=n) h1 (i:=0) (xs:=xs.toArray) (by simpa using hx) ha w;rw[show n+2=(n+1)+1 from rfl,Instr.checkKey];simp only[Sem.run_bind,run_underlying hu,Result.andThen_ok];rw[aoj];simp only[Std.Legacy.Range.size,xm,Nat.add_sub_cancel,Nat.div_one];rw[this];rfl
  ·simp at hss
theorem run_checkKey{ty:TypeId}{e:EK}(hk:gO P ty=some e){a:AV}(ha:isKey e a=true){x:Value}(hx:V g h a x)(em:Bool)(w:World):(Instr.checkKey em 10000 ty x).run P w=.ok () w:=
 SA hk ha hx em 9998 w
def findAt(e:EK)(k:AV):List (AV×AV)->Option (Option Nat)
 |[]=>some none
 |(a,_)::es=>
  match bU e k a with
  |some true=>some (some 0)
  |some false=>(findAt e k es).map (·.map (·+1))
  |none=>none
theorem Kt{e:EK}{k:AV}:∀{es:List (AV×AV)}{q:Option AV},fm e k es=some q->∃p,findAt e k es=some p/\match p with|none=>q=none|some i=>∃x,es[i]? =some x/\q=some x.2
 |[],q,hq=>by simp only[fm,al]at hq;exact⟨none,rfl,hq.symm⟩
 |(a,v)::es,q,hq=>by
  simp only[fm]at hq;simp only[findAt]
  split at hq
  ·rename_i h1;simp only[al]at hq;exact⟨some 0,by first|rw[h1]|rfl,_,rfl,hq.symm⟩
  ·rename_i h1;obtain⟨p,h2,h3⟩:=Kt hq
   first|rw[h1,h2]|rw[h2]
   cases p with
   |none=>exact⟨none,rfl,h3⟩
   |some i=>exact⟨some (i+1),rfl,by simpa using h3⟩
  ·simp at hq
theorem LL{e:EK}{k v:AV}:∀{es es':List (AV×AV)},iK e k v es=some es'->∃p,findAt e k es=some p/\match p with|none=>es'=es++[(k,v)]|some i=>i<es.length/\es'=es.set i (k,v)
 |[],es',hq=>by simp only[iK,al]at hq;exact⟨none,rfl,by simp[<-hq]⟩
 |(a,u)::es,es',hq=>by
  simp only[iK]at hq;simp only[findAt]
  split at hq
  ·rename_i h1;simp only[al]at hq;exact⟨some 0,by first|rw[h1]|rfl,by simp,by simp[<-hq]⟩
  ·rename_i h1;simp only[bN]at hq;obtain⟨es2,h4,h5⟩:=hq;obtain⟨p,h2,h3⟩:=LL h4
   first|rw[h1,h2]|rw[h2]
   cases p with
   |none=>exact⟨none,rfl,by simp[<-h5,h3]⟩
   |some i=>exact⟨some (i+1),rfl,by simpa using h3.1,by simp[<-h5,h3.2]⟩
  ·simp at hq
theorem K9{e:EK}{k:AV}:∀{es es':List (AV×AV)},uu e k es=some es'->∃p,findAt e k es=some p/\match p with|none=>es'=es|some i=>i<es.length/\es'=es.eraseIdx i
 |[],es',hq=>by simp only[uu,al]at hq;exact⟨none,rfl,by simp[<-hq]⟩
 |(a,u)::es,es',hq=>by
  simp only[uu]at hq;simp only[findAt]
  split at hq
  ·rename_i h1;simp only[al]at hq;exact⟨some 0,by first|rw[h1]|rfl,by simp,by simp[<-hq]⟩
  ·rename_i h1;simp only[bN]at hq;obtain⟨es2,h4,h5⟩:=hq;obtain⟨p,h2,h3⟩:=K9 h4
   first|rw[h1,h2]|rw[h2]
   cases p with
   |none=>exact⟨none,rfl,by simp[<-h5,h3]⟩
   |some i=>exact⟨some (i+1),rfl,by simpa using h3.1,by simp[<-h5,h3.2]⟩
  ·simp at hq
theorem Ih{ty:TypeId}{e:EK}(hk:gO P ty=some e){k:AV}{x:Value}(hx:V g h k x):∀{es:List (AV×AV)}{bd:List MapEntry}{p:Option Nat}(j:Nat),VL g h (es.map (·.1)) (bd.map (·.key))->
 findAt e k es=some p->∀w:World,(Instr.findAsking ty x bd j).run P w=.ok (p.bind fun i=>(bd[i]?).map fun m=>(j+i,m.val)) w
 |[],bd,p,j,hv,hp,w=>by
  simp only[iC,VL]at hv
  have:bd=[]:=by simpa using hv
  subst this;simp only[findAt,al]at hp;subst hp;simp[Instr.findAsking]
 |(a,v)::es,bd,p,j,hv,hp,w=>by
  simp only[cv,VL]at hv;obtain⟨y,ys,h1,h2,h3⟩:=hv
  cases bd with
  |nil=>simp at h1
  |cons m bd=>
   simp only[cv,xn]at h1;obtain⟨rfl,rfl⟩:=h1;simp only[findAt]at hp
   cases he:bU e k a with
   |none=>simp[he]at hp
   |some c=>
    have hq:=Wm hk he hx h2 w;simp only[he]at hp;simp only[Instr.findAsking,Sem.run_bind,hq,Result.andThen_ok]
    cases c
    ·simp only[bN]at hp;obtain⟨p',hp',rfl⟩:=hp;simp only[dU,cE];rw[Ih hk hx (j+1) h3 hp' w]
     cases p' with
     |none=>simp
     |some i=>simp[mj,Nat.add_comm 1 i]
    ·simp only[al]at hp;subst hp;simp
theorem findNow_spec{ty:TypeId}{s:SK}(hs:jT P ty=some s){d:TypeDesc}(hd:P.underlying ty=some d){k:AV}{x:Value}(hx:V g h k x):
 ∀{es:List (AV×AV)}{bd:List MapEntry}{p:Option Nat}(j:Nat),VL g h (es.map (·.1)) (bd.map (·.key))->
 findAt (.sc s) k es=some p->Instr.findNow d x bd j=some (p.bind fun i=>(bd[i]?).map fun m=>(j+i,m.val))
 |[],bd,p,j,hv,hp=>by
  simp only[iC,VL]at hv
  have:bd=[]:=by simpa using hv
  subst this;simp only[findAt,al]at hp;subst hp;simp[Instr.findNow]
 |(a,v)::es,bd,p,j,hv,hp=>by
  simp only[cv,VL]at hv;obtain⟨y,ys,h1,h2,h3⟩:=hv
  cases bd with
  |nil=>simp at h1
  |cons m bd=>
   simp only[cv,xn]at h1;obtain⟨rfl,rfl⟩:=h1;simp only[findAt]at hp
   cases he:bU (.sc s) k a with
   |none=>simp[he]at hp
   |some c=>
    have hq:Instr.sameNow d x m.key=some c:=by
     obtain⟨_,h1⟩:=ot hs;simp only[bU]at he
     cases s<;>simp only at h1<;>cases k<;>cases a<;>simp only[eD,reduceCtorEq,al]at he
     ·obtain⟨k',hk'⟩:=h1;rw[hk']at hd;simp only[al]at hd;subst hd;rw[dC hx,dC h2];simpa[Instr.sameNow]using he
     ·rw[h1]at hd;simp only[al]at hd;subst hd;rw[il hx,il h2];simp only[Instr.sameNow,JQ,he]
     ·rw[h1]at hd;simp only[al]at hd;subst hd;rw[kD hx,kD h2];simp only[Instr.sameNow,he]
    simp only[he]at hp;simp only[Instr.findNow,hq]
    cases c
    ·simp only[bN]at hp;obtain⟨p',hp',rfl⟩:=hp;simp only;rw[findNow_spec hs hd hx (j+1) h3 hp']
     cases p' with
     |none=>simp
     |some i=>simp[mj,Nat.add_comm 1 i]
    ·simp only[al]at hp;subst hp;simp
theorem Ui{d:TypeDesc}{x:Value}(hd:(∃fs,d=.struct fs)\/∃n e,d=.array n e):∀(bd:List MapEntry)(j:Nat),Instr.findNow d x bd j=if bd=[]then some none else none
 |[],j=>by simp[Instr.findNow]
 |m::bd,j=>by
  have:Instr.sameNow d x m.key=none:=by
   rcases hd with⟨fs,rfl⟩|⟨n,e,rfl⟩<;>cases x<;>cases m.key<;>rfl
  simp[Instr.findNow,this]
theorem run_findKey{ty:TypeId}{e:EK}(hk:gO P ty=some e){k:AV}{x:Value}(hx:V g h k x){es:List (AV×AV)}{bd:List MapEntry}{p:Option Nat}(hv:VL g h (es.map (·.1)) (bd.map (·.key)))
 (hp:findAt e k es=some p)(w:World):(Instr.findKey ty x bd).run P w=.ok (p.bind fun i=>(bd[i]?).map fun m=>(i,m.val)) w:=by
 have hk0:=hk;unfold gO at hk
 split at hk
 ·rename_i s hs;simp only[al]at hk;subst hk
  have hu:∃d,P.underlying ty=some d:=by
   obtain⟨_,h2⟩:=ot hs
   cases s<;>simp only at h2
   ·exact⟨_,h2.choose_spec⟩
   ·exact⟨_,h2⟩
   ·exact⟨_,h2⟩
  obtain⟨d,hd⟩:=hu;simp[Instr.findKey,run_underlying hd,findNow_spec hs hd hx 0 hv hp]
 ·simp only[bN]at hk;obtain⟨ss,hss,rfl⟩:=hk
  have hu:∃d,P.underlying ty=some d/\((∃fs,d=.struct fs)\/∃n e,d=.array n e):=by
   unfold uf at hss
   split at hss
   ·rename_i fs hu;exact⟨_,hu,Or.inl ⟨_,rfl⟩⟩
   ·rename_i n e hu;exact⟨_,hu,Or.inr ⟨_,_,rfl⟩⟩
   ·simp at hss
  obtain⟨d,hd,hd'⟩:=hu;have h1:=Ih hk0 hx 0 hv hp w;simp only[gY]at h1;simp only[Instr.findKey,Sem.run_bind,run_underlying hd,Result.andThen_ok,Ui hd']
  by_cases h0:bd=[]
  ·subst h0
   have:es=[]:=by
    have:=fe hv;simpa using this.symm
   subst this;simp only[findAt,al]at hp;subst hp;simp
  ·simp only[h0,cE];exact h1
theorem C5{es:List (AV×AV)}{bd:List MapEntry}(hv:VL g h (es.map (·.1)) (bd.map (·.key))):bd.length=es.length:=by have:=fe hv;simpa using this
theorem Kn(H:Inv P Γ N g h w){ty kt et:TypeId}{x i:Operand}{ok:Bool}(ho:o.op=.lookup ty x i ok)(hu:P.underlying ty=some (.map kt et)){e:EK}(hk:gO P kt=some e){z:AV}
 (hz:dy P et=some z){k:AV}(hi:V g h k (r i))(hkey:isKey e k=true){es:List (AV×AV)}{a:AV}(hx:V g h a (r x))
 (ha:(a=.eu/\es=[])\/(∃ks vs,a=.de ks vs/\es=ks.zip vs)\/∃j fl,a=.mp j/\h[j]? =some (.map es fl)){q:Option AV}(hq:fm e k es=some q){v:AV}
 (hv:v=match q with|some u=>(if ok then .aL [u,.bool true]else u)|none=>if ok then .aL [z,.bool false]else z):aG P Γ N r o w g h h (some v):=by
 obtain⟨zv,hzr,rfl⟩:=DU hz w
 have hm:∃(bd:Array MapEntry),VL g h (es.map (·.1)) (bd.toList.map (·.key))/\VL g h (es.map (·.2)) (bd.toList.map (·.val))/\
  ((r x=.map none/\bd=#[])\/∃b ck,r x=.map (some b)/\w.heap[b]? =some (.map bd ck)):=by
  rcases ha with⟨rfl,rfl⟩|⟨ks,vs,rfl,rfl⟩|⟨j,fl,rfl,hj⟩
  ·simp only[V]at hx;exact⟨#[],by simp[VL],by simp[VL],Or.inl ⟨hx,rfl⟩⟩
  ·simp only[V]at hx;obtain⟨b,bd,ck,h1,h2,h3,h4⟩:=hx
   have hl:ks.length=vs.length:=by
    have a1:=fe h3;have a2:=fe h4
    simp at a1 a2;omega
   refine⟨bd,?_,?_,Or.inr ⟨b,ck,h1,(H.mm b bd ck h2).1⟩⟩
   ·rw[List.map_fst_zip (by omega)];exact h3
   ·rw[List.map_snd_zip (by omega)];exact h4
  ·simp only[V]at hx;obtain⟨_,b,sz,hρ,h1⟩:=hx;obtain⟨_,h2⟩:=H.ob j _ hj;obtain⟨bd,ck,h3,h4,h5⟩:=h2 b sz 0 hρ;exact⟨bd,h4,h5,Or.inr ⟨b,ck,h1,h3⟩⟩
 obtain⟨bd,h1,h2,h3⟩:=hm;obtain⟨p,hp1,hp2⟩:=Kt hq;have hf:=run_findKey hk hi h1 hp1 w
 have hck:=fun em=>run_checkKey hk hkey hi em w
 have hrun:∃u,(Instr.lookup ty (r x) (r i) ok).run P w=.ok u w/\V g h v u:=by
  have hgo:∀(y:Value)(b:Bool),p.bind (fun i=>(bd.toList[i]?).map fun m=>(i,m.val))=(if b then p.map fun i=>(i,y)else none)->(b=false->p=none/\y=zv)->(b=true->p.isSome)->
   (Instr.lookup ty (r x) (r i) ok).run P w=.ok (if ok then .tuple #[y,.bool b]else y) w:=by
   intro y b hb hb0 hb1;rw[hb]at hf
   rcases h3 with⟨h3,rfl⟩|⟨bk,ck,h3,h4⟩
   ·cases b
    ·obtain⟨rfl,rfl⟩:=hb0 rfl;simp[Instr.lookup,run_underlying hu,h3,hck,hf,hzr]
    ·obtain⟨j,rfl⟩:=HJ.1 (hb1 rfl);simp[Instr.lookup,run_underlying hu,h3,hck,hf]
   ·have hg:(getObj bk).run P w=.ok (.map bd ck) w:=by simp only[getObj,Sem.run,h4]
    cases b
    ·obtain⟨rfl,rfl⟩:=hb0 rfl;simp[Instr.lookup,run_underlying hu,h3,hg,hck,hf,hzr]
    ·obtain⟨j,rfl⟩:=HJ.1 (hb1 rfl);simp[Instr.lookup,run_underlying hu,h3,hg,hck,hf]
  cases p with
  |none=>
   simp only at hp2;subst hp2;subst hv;refine⟨_,hgo zv false (by simp) (fun _=>⟨rfl,rfl⟩) (by simp),?_⟩
   cases ok
   ·exact mG g h zv
   ·simp only[bY,V,VL];exact⟨[zv,.bool false],rfl,_,_,rfl,mG g h zv,_,_,rfl,rfl,rfl⟩
  |some j=>
   obtain⟨y,hy1,rfl⟩:=hp2;obtain⟨u,hu1,hu2⟩:=qc (i:=j) (a:=y.2) h2 (by simp[hy1]);simp only[jc,bN]at hu1;obtain⟨m,hm1,rfl⟩:=hu1;subst hv;refine⟨_,hgo m.val true (by simp only[jb,hm1,eb,bY]) (by simp) (by simp),?_⟩
   cases ok
   ·exact hu2
   ·simp only[bY,V,VL];exact⟨[m.val,.bool true],rfl,_,_,rfl,hu2,_,_,rfl,rfl,rfl⟩
 obtain⟨u,hu1,hu2⟩:=hrun;exact aG.same H (u:=u) (by simp[execOp,ho,hu1]) hu2
end
section
variable{P:Program}{Γ:Nat->Option AV}{N:Env}{g:G}{h:List Ob}{w:World}{r:Operand->Value}{o:Oper}{t:List AV}
theorem tG(c:Array Value):lQ c (0,0):=Or.inl rfl
theorem kx(w:World)(o:Obj):(w.alloc o).heap[w.heap.size]? =some o:=by
 show(w.heap.push o)[w.heap.size]? =_
 simp
theorem vP(w:World)(o:Obj):∀b,b<w.heap.size->(w.alloc o).heap[b]? =w.heap[b]? :=fun b hb=>Below.heap_alloc w o b hb
theorem aG.make(H:Inv P Γ N g h w){x:AV}{u:Value}{w':World}(hh:w'.heap=w.heap)(hos:w'.os=w.os)(htp:w'.tape=w.tape)(hout:w'.output=w.output){b:Obj}{o':Ob}{os:List Ob}{sz:Nat}
 (hr:(execOp r o).run P w=.ok (.value u) (w'.alloc b))
 (hob:OV P (g.bA h.length (some (w.heap.size,sz,0))) (h++o'::os) (w'.alloc b) h.length o')
 (hobs:∀j o,os[j]? =some o->OV P (g.bA h.length (some (w.heap.size,sz,0))) (h++o'::os) (w'.alloc b) (h.length+1+j) o)
 (hv:V (g.bA h.length (some (w.heap.size,sz,0))) (h++o'::os) x u):aG P Γ N r o w g h (h++o'::os) (some x):=by
 have hs:w'.heap.size=w.heap.size:=by rw[hh]
 refine⟨_,_,_,hr,H.push hos htp hout (fun b' hb=>?_) ?_ ?_ hob hobs,Ext.push _ _,u,rfl,hv⟩
 ·rw[vP _ _ _ (by omega),hh]
 ·simp;omega
 ·intro b' x hx;simp only[al,bH]at hx;obtain⟨rfl,_⟩:=hx
  simp;omega
theorem p_(h:List Ob)(o:Ob)(os:List Ob):(h++o::os)[h.length]? =some o:=by simp
theorem Jo(h:List Ob)(o:Ob)(os:List Ob)(j:Nat):(h++o::os)[h.length+1+j]? =os[j]? :=by
 rw[e_ (by omega),show h.length+1+j-h.length=j+1 by omega,ni]
theorem aaJ(H:Inv P Γ N g h w){ty:TypeId}{x:Operand}(ho:o.op=.box ty x){a:AV}(ha:V g h a (r x))(h1:bO a.cells=true):
 aG P Γ N r o w g h (h++[.cells a.cells]) (some (.ptr h.length 0)):=by
 have hc:=oG (pT h1) ha;refine aG.make H (w':=w) rfl rfl rfl rfl (b:=.cells (r x).cells ty) (sz:=0) (u:=.pointer (some ⟨w.heap.size,0,none⟩)) ?_ ?_ (by simp) ?_
 ·simp[execOp,ho,Instr.box,newVar,newRow]
 ·intro b sz st hb;rw[cJ]at hb;simp only[al,bH]at hb;obtain⟨rfl,rfl,rfl⟩:=hb;exact⟨_,_,_,kx _ _,tG _,b_ (Ext.push _ _) (cV hc) hc⟩
 ·simp only[V];exact⟨⟨_,p_ _ _ _⟩,_,_,cJ _ _ _,rfl⟩
theorem zz{g':G}{h':List Ob}:∀{as:List AV}{vs:List Value}{z:List AV}{n:Nat},pf as vs=some z->(∀j o,(bP n z).2[j]? =some o->h'[n+j]? =some o)->
 VL g' h' (bP n z).1 vs/\∀o∈(bP n z).2,∃k E,o=.row (k+1) E [] none true false
 |[],[],z,n,hz,_=>by simp only[pf,al]at hz;subst hz;simp[bP,VL]
 |[],_::_,z,n,hz,_=>by simp[pf]at hz
 |_::_,[],z,n,hz,_=>by simp[pf]at hz
 |a::as,v::vs,z,n,hz,hh=>by
  simp only[pf,bN]at hz;obtain⟨z',hz',rfl⟩:=hz
  have hone:(∃k E,dW n (Ab a v)=(.sl n 0 0,[.row (k+1) E [] none true false])/\v=.slice none 0 0)\/dW n (Ab a v)=(jj v,[]):=by
   unfold Ab
   split
   ·left;exact⟨_,_,rfl,rfl⟩
   ·right
    have:∀k E es,jj v≠.own k E es:=by
     intro k E es hc;unfold jj at hc
     split at hc<;>cases hc
    revert this
    cases jj v<;>intro this<;>first|rfl|exact absurd rfl (this _ _ _)
  simp only[bP]at hh⊢
  rcases hone with⟨k,E,h1,rfl⟩|h1
  ·rw[h1]at hh⊢;simp only[xo,sA]at hh⊢
   obtain⟨h2,h3⟩:=zz (n:=n+1) hz' (by
    intro j o hj;have:=hh (j+1) o (by simpa using hj)
    rwa[show n+(j+1)=n+1+j by omega]at this)
   refine⟨?_,?_⟩
   ·simp only[VL,V];refine⟨_,_,rfl,?_,h2⟩;have:=hh 0 _ (by simp;rfl);exact⟨k+1,E,[],none,true,false,by simpa using this,by simp,none,0,rfl,by simp,by simp,fun _=>⟨by simp,Or.inl ⟨rfl,rfl⟩⟩⟩
   ·intro o ho
    rcases bw.1 ho with rfl|ho
    ·exact⟨k,E,rfl⟩
    ·exact h3 o ho
  ·rw[h1]at hh⊢;simp only[cN,lg,jd]at hh⊢;obtain⟨h2,h3⟩:=zz (n:=n) hz' hh;refine⟨?_,h3⟩;simp only[VL];exact⟨_,_,rfl,tC _ _ _,h2⟩
theorem YF(H:Inv P Γ N g h w){ty:TypeId}(ho:o.op=.alloc ty){zv:Value}(hz:(P.info? ty).bind (·.zero)=some zv){as z:List AV}(hzf:pf as zv.cells.toList=some z):
 aG P Γ N r o w g h (h++.cells (bP (h.length+1) z).1::(bP (h.length+1) z).2) (some (.ptr h.length 0)):=by
 have hzr:(zeroValue ty).run P w=.ok zv w:=by
  cases hi:P.info? ty with
  |none=>simp[hi]at hz
  |some i=>simp[hi]at hz;simp[zeroValue,typeInfo,hi,hz]
 refine aG.make H (w':=w) rfl rfl rfl rfl (b:=.cells zv.cells ty) (sz:=0) (u:=.pointer (some ⟨w.heap.size,0,none⟩)) ?_ ?_ ?_ ?_
 ·simp[execOp,ho,Instr.alloc,hzr,newVar,newRow]
 ·intro b sz st hb;rw[cJ]at hb;simp only[al,bH]at hb;obtain⟨rfl,rfl,rfl⟩:=hb;exact⟨_,_,_,kx _ _,tG _,(zz hzf (fun j o hj=>by rw[Jo];exact hj)).1⟩
 ·intro j o hj;obtain⟨k,E,rfl⟩:=(zz (g':=g) (h':=h++.gone::(bP (h.length+1) z).2) hzf (fun j o hj=>by rw[Jo];exact hj)).2 o (fQ hj);simp only[OV];refine⟨by omega,by simp,fun _=>rfl,by simp,?_⟩;rw[fT _ _ (by omega),H.n7 _ (by omega)];trivial
 ·simp only[V];exact⟨⟨_,p_ _ _ _⟩,_,_,cJ _ _ _,rfl⟩
theorem WC(H:Inv P Γ N g h w)(ho:o.op=.assign (.const (.slice none 0 0)))(hr:r (.const (.slice none 0 0))=.slice none 0 0){k:Nat}(hk:0<k)(E:TypeId):
 aG P Γ N r o w g h (h++[.row k E [] none true false]) (some (.sl h.length 0 0)):=by
 refine⟨g.bA h.length none,w,.value (.slice none 0 0),by simp[execOp,ho,hr],H.push rfl rfl rfl (fun _ _=>rfl) (aU _) (by simp) ?_ (by simp),Ext.push _ _,_,rfl,?_⟩
 ·simp only[OV];exact⟨hk,by simp,fun _=>rfl,by simp,by rw[cJ];trivial⟩
 ·simp only[V];exact⟨k,E,[],none,true,false,p_ _ _ _,by simp,none,0,rfl,by simp,by simp,fun _=>⟨by simp,Or.inl ⟨rfl,rfl⟩⟩⟩
theorem Xw(H:Inv P Γ N g h w){ty:TypeId}(ho:o.op=.makeMap ty none):aG P Γ N r o w g h (h++[.map [] true]) (some (.mp h.length)):=by
 refine aG.make H (w':=w) rfl rfl rfl rfl (b:=.map #[] 0) (sz:=0) (u:=.map (some w.heap.size)) ?_ ?_ (by simp) ?_
 ·simp[execOp,ho,Instr.makeMap]
 ·refine⟨fun _=>rfl,?_⟩;intro b sz st hb;rw[cJ]at hb;simp only[al,bH]at hb;obtain⟨rfl,rfl,rfl⟩:=hb;exact⟨_,_,kx _ _,by simp[VL],by simp[VL]⟩
 ·simp only[V];exact⟨⟨_,_,p_ _ _ _⟩,_,_,cJ _ _ _,rfl⟩
theorem Yw(H:Inv P Γ N g h w){ty:TypeId}{x:Operand}(ho:o.op=.range ty x)(hu:P.underlying ty=some .string){s:List UInt8}(hx:r x=.string ⟨s.toArray⟩):
 aG P Γ N r o w g h (h++[.gC s 0]) (some (.it h.length)):=by
 refine aG.make H (w':=w) rfl rfl rfl rfl (b:=.stringIter ⟨s.toArray⟩ 0) (sz:=0) (u:=.pointer (some ⟨w.heap.size,0,none⟩)) ?_ ?_ (by simp) ?_
 ·simp[execOp,ho,hx,Instr.range,run_underlying hu]
 ·intro b sz st hb;rw[cJ]at hb;simp only[al,bH]at hb;obtain⟨rfl,rfl,rfl⟩:=hb;exact kx _ _
 ·simp only[V];exact⟨⟨_,_,p_ _ _ _⟩,_,_,cJ _ _ _,rfl⟩
theorem Ag{g':G}{w':World}{k:Nat}{E ty:TypeId}{es:List AV}{cs:List Value}{rest:List Value}{fz:Nat×Nat}{b sz:Nat}(hk:0<k)(hK:dz k es){fl:Bool}(hfl:fl=true->cj es k=true)
 (hb:g'.ρ h.length=some (b,sz,0))(hw:w'.heap[b]? =some (.cells (cs++rest).toArray ty fz))(hsz:sz=(cs++rest).length)(hfree:lQ (cs++rest).toArray fz)
 {os:List Ob}{sh:Bool}(hE:VE g' (h++.row k E es none fl sh::os) es cs):OV P g' (h++.row k E es none fl sh::os) w' h.length (.row k E es none fl sh):=by
 simp only[OV];refine⟨hk,hK,hfl,by simp,?_⟩;rw[hb];simp only;refine⟨by simp,_,_,_,cs,hw,by simp[hsz],hfree,by simpa using hE,?_⟩;intro j hj;simp[dk hj,hj]
theorem zn{g':G}{k:Nat}{E:TypeId}{es:List AV}{b sz cap:Nat}(hb:g'.ρ h.length=some (b,sz,0))(hcap:es.length<=cap)(hsz:cap*k<=sz){os:List Ob}{fl sh:Bool}:
 V g' (h++.row k E es none fl sh::os) (.sl h.length 0 es.length) (.slice (some ⟨b,0,none⟩) es.length cap):=by
 simp only[V];refine⟨k,E,es,none,fl,sh,p_ _ _ _,by simp,_,cap,rfl,hcap,fun _=>⟨b,0,rfl⟩,fun _=>⟨by omega,Or.inr ⟨b,sz,0,hb,by simp,by simp,by simpa using hsz⟩⟩⟩
theorem sP{a:AV}{v:Value}(ha:V g h a v):∀n:Nat,VE g h (List.replicate n a) (List.replicate n v.cells.toList).flatten
 |0=>by simp[VE]
 |n+1=>by
  simp only[qN,List.flatten_cons,VE];exact⟨v,_,ha,rfl,sP ha n⟩
theorem sH{a:AV}{k:Nat}(h1:a.cells.length=k)(h2:bO a.cells=true)(h3:aO 0 a.cells=true):∀n:Nat,cj (List.replicate n a) k=true
 |0=>rfl
 |n+1=>by simp only[qN,cj,aC,a8];exact⟨⟨⟨h1,h2⟩,h3⟩,sH h1 h2 h3 n⟩
end
theorem tg{c d:Array Value}{fz:Nat×Nat}(h:lQ c fz)(hs:d.size=c.size):lQ d fz:=h.imp id fun h=>by omega
theorem xL(P:Program)(b o:Nat)(E:TypeId)(fz:Nat×Nat):∀(vs:List Value)(i:Nat)(cur:Array Value)(w:World),w.heap[b]? =some (.cells cur E fz)->lQ cur fz->
 o+i+vs.length<=cur.size->(∀v∈vs,v.oneCell'=true)->
 (storeCells ⟨b,o,none⟩ vs i).run P w=.ok () (w.setRow b (cur.toList.take (o+i)++vs++cur.toList.drop (o+i+vs.length)).toArray)
 |[],i,cur,w,hg,_,_,_=>by
  simp only[storeCells,eL,cN,jd,oa,Array.toArray_toList];rw[setRow_self w b cur E fz hg];rfl
 |v::rest,i,cur,w,hg,hf,hl,h1=>by
  have hi:o+i<cur.size:=by simp at hl;omega
  have hcell:w.cell? ⟨b,o+i,none⟩=some cur[o+i]:=by simp[World.cell?,hg,hi]
  have hfro:w.frozen? ⟨b,o+i,none⟩=false:=by
   simp only[World.frozen?,hg];exact hf.at hi
  have hst:(store ((⟨b,o,none⟩:Addr).add i) v).run P w=.ok () (w.setRow b (cur.setIfInBounds (o+i) v)):=by
   rw[jO,run_store P w _ v _ (h1 v (by simp)),hcell];simp[hfro,setCell_eq_setRow w b (o+i) cur E fz v hg]
  have ih:=xL P b o E fz rest (i+1) (cur.setIfInBounds (o+i) v) (w.setRow b (cur.setIfInBounds (o+i) v)) (setRow_heap w b cur _ E _ hg) (tg hf (by simp)) (by simp at hl⊢;omega)
   (fun x hx=>h1 x (by simp[hx]))
  simp only[storeCells,Sem.run_bind,hst,Result.andThen_ok,ih,setRow_setRow];congr 3;have e:=list_seg_step cur.toList (o+i) v rest (by simp at hl⊢;omega);simpa[HI,mj]using e
def dO{α:Type}(l:List α)(m:Nat)(s:List α):List α:=l.take m++s++l.drop (m+s.length)
theorem mC{α:Type}{l s:List α}{m:Nat}(hm:m+s.length<=l.length)(x:Nat):(dO l m s)[x]? =if x<m then l[x]? else if x<m+s.length then s[x-m]? else l[x]? :=by
 unfold dO
 have hmm:min m l.length=m:=by omega
 by_cases h1:x<m
 ·rw[if_pos h1,c8,dk (by simp;omega),pC,if_pos h1]
 ·rw[if_neg h1]
  by_cases h2:x<m+s.length
  ·rw[if_pos h2,c8,e_ (by simp;omega),dk (by simp;omega)];simp[hmm]
  ·rw[if_neg h2,e_ (by simp;omega),nj];congr 1;simp;omega
theorem pQ{α:Type}{l s:List α}{m:Nat}(hm:m+s.length<=l.length):(dO l m s).length=l.length:=by
 simp[dO];omega
theorem SH{α:Type}{vs v s:List α}{j k q:Nat}(hj:j+k<=vs.length)(hv:v=(vs.drop j).take k)(hq:q+s.length<=k):dO vs j (dO v q s)=dO vs (j+q) s:=by
 have hvl:v.length=k:=by rw[hv];simp;omega
 have hsl:(dO v q s).length=k:=by rw[pQ (by omega),hvl]
 apply lh;intro x;have e1:=mC (l:=vs) (s:=dO v q s) (m:=j) (by omega) x;have e2:=mC (l:=vs) (s:=s) (m:=j+q) (by omega) x;rw[e1,e2,hsl]
 by_cases h1:x<j
 ·rw[if_pos h1,if_pos (by omega)]
 ·rw[if_neg h1]
  by_cases h2:x<j+k
  ·rw[if_pos h2,mC (by omega)]
   have hvx:v[x-j]? =vs[x]? :=by
    rw[hv,pC,if_pos (by omega),nj]
    congr 1;omega
   by_cases h3:x<j+q
   ·rw[if_pos (by omega),if_pos h3,hvx]
   ·rw[if_neg (by omega),if_neg h3]
    by_cases h4:x<j+q+s.length
    ·rw[if_pos (by omega),if_pos h4]
     congr 1;omega
    ·rw[if_neg (by omega),if_neg h4,hvx]
  ·rw[if_neg h2,if_neg (by omega),if_neg (by omega)]
theorem E8{g:G}{h:List Ob}{k:Nat}:∀{es:List AV}{vs:List Value}{i:Nat}{a:AV}{u:Value},dz k es->VE g h es vs->i<es.length->V g h a u->u.cells.toList.length=k->
 VE g h (es.set i a) (dO vs (i*k) u.cells.toList)
 |[],vs,i,a,u,_,_,hi,_,_=>by simp at hi
 |e::es,vs,i,a,u,hk,hv,hi,ha,hl=>by
  simp only[VE]at hv;obtain⟨v,vs',h1,rfl,hr⟩:=hv;have he:=hk e (by simp)
  have hvl:v.cells.toList.length=k:=by rw[Cv he.2 h1,he.1]
  cases i with
  |zero=>
   simp only[xj,VE,uS,dO,List.take_zero,lg,gY];refine⟨u,vs',ha,?_,hr⟩;rw[hl,B7,<-hvl,uR];simp
  |succ i=>
   have ih:=E8 (fun x hx=>hk x (by simp[hx])) hr (by simpa using hi) ha hl;simp only[uP,VE];refine⟨v,_,h1,?_,ih⟩;simp only[dO];rw[fa,Nat.one_mul,List.take_append,B7,hvl,cF (by omega),bq (by omega)];simp only[lg,c8];congr 3
   ·congr 1;omega
   ·congr 1;omega
theorem Jr:∀{l:List AV},bO l=true↔∀a∈l,a.one=true
 |[]=>by simp[bO]
 |a::l=>by simp[bO,Jr (l:=l)]
section
variable{P:Program}{Γ:Nat->Option AV}{N:Env}{g:G}{h:List Ob}{w:World}{r:Operand->Value}{o:Oper}{t:List AV}
theorem Ext.Dt{i:Nat}{vs vs':List AV}(hi:h[i]? =some (.cells vs)):Ext h.length g h (g.bA i (g.ρ i)) (h.set i (.cells vs')):=by
 have hil:=bj hi
 have hρ:∀j,(g.bA i (g.ρ i)).ρ j=g.ρ j:=fun j=>by by_cases hj:j=i;·subst hj;rw[cJ]
                                                  ·rw[fT _ _ hj]
 have ho:∀{j x},j≠i->h[j]? =some x->(h.set i (.cells vs'))[j]? =some x:=fun{j x} hj hx=>by rw[dK (by omega)];exact hx
 refine⟨fun _ _ _ x=>x,fun _ _ x=>x,?_,?_,?_,?_,?_,?_⟩
 ·intro j us _ hj
  by_cases hji:j=i
  ·subst hji;exact⟨⟨vs',gn hil⟩,fun x hx=>by rw[hρ];exact hx⟩
  ·exact⟨⟨us,ho hji hj⟩,fun x hx=>by rw[hρ];exact hx⟩
 ·intro j es fl _ hj
  have hji:j≠i:=by rintro rfl;rw[hi]at hj;cases hj
  exact⟨⟨_,_,ho hji hj⟩,fun x hx=>by rw[hρ];exact hx⟩
 ·intro j es fl _ hj
  have hji:j≠i:=by rintro rfl;rw[hi]at hj;cases hj
  exact⟨⟨_,_,ho hji hj⟩,fun x hx=>by rw[hρ];exact hx⟩
 ·intro j st q fn t ps a b _ hj
  have hji:j≠i:=by rintro rfl;rw[hi]at hj;cases hj
  exact⟨⟨_,_,ho hji hj⟩,fun x hx=>by rw[hρ];exact hx⟩
 ·intro j l _ hj
  have hji:j≠i:=by rintro rfl;rw[hi]at hj;cases hj
  exact⟨⟨_,ho hji hj⟩,fun x hx=>by rw[hρ];exact hx⟩
 ·intro j k E es gr fl sh _ hj
  have hji:j≠i:=by rintro rfl;rw[hi]at hj;cases hj
  exact⟨_,_,_,_,_,ho hji hj,aU _,fun _ _ _ hk=>⟨hk,rfl,fun x hx=>by rw[hρ];exact hx⟩⟩
theorem Ext.oJ{i:Nat}{k:Nat}{E E':TypeId}{es es':List AV}{gr gr':Option Nat}{fl fl' sh sh':Bool}{ρ':Option (Nat×Nat×Nat)}(hi:h[i]? =some (.row k E es gr fl sh))(hl:es.length<=es'.length)
 (hq:∀off m,off+m<=es.length->cr es' gr' off m=true->cr es gr off m=true/\es'.length=es.length/\∀x,g.ρ i=some x->ρ'=some x):
 Ext h.length g h (g.bA i ρ') (h.set i (.row k E' es' gr' fl' sh')):=by
 have hil:=bj hi
 have hρ:∀j,j≠i->(g.bA i ρ').ρ j=g.ρ j:=fun j hj=>fT _ _ hj
 have ho:∀{j x},j≠i->h[j]? =some x->(h.set i (.row k E' es' gr' fl' sh'))[j]? =some x:=fun{j x} hj hx=>by rw[dK (by omega)];exact hx
 refine⟨fun _ _ _ x=>x,fun _ _ x=>x,?_,?_,?_,?_,?_,?_⟩
 ·intro j us _ hj
  have hji:j≠i:=by rintro rfl;rw[hi]at hj;cases hj
  exact⟨⟨us,ho hji hj⟩,fun x hx=>by rw[hρ _ hji];exact hx⟩
 ·intro j es fl _ hj
  have hji:j≠i:=by rintro rfl;rw[hi]at hj;cases hj
  exact⟨⟨_,_,ho hji hj⟩,fun x hx=>by rw[hρ _ hji];exact hx⟩
 ·intro j es fl _ hj
  have hji:j≠i:=by rintro rfl;rw[hi]at hj;cases hj
  exact⟨⟨_,_,ho hji hj⟩,fun x hx=>by rw[hρ _ hji];exact hx⟩
 ·intro j st q fn t ps a b _ hj
  have hji:j≠i:=by rintro rfl;rw[hi]at hj;cases hj
  exact⟨⟨_,_,ho hji hj⟩,fun x hx=>by rw[hρ _ hji];exact hx⟩
 ·intro j l _ hj
  have hji:j≠i:=by rintro rfl;rw[hi]at hj;cases hj
  exact⟨⟨_,ho hji hj⟩,fun x hx=>by rw[hρ _ hji];exact hx⟩
 ·intro j k' E2 es2 gr2 fl2 sh2 _ hj
  by_cases hji:j=i
  ·subst hji;rw[hi]at hj;simp only[al,Ob.row.injEq]at hj;obtain⟨rfl,rfl,rfl,rfl,rfl,rfl⟩:=hj;refine⟨_,_,_,_,_,gn hil,hl,fun off m hom hok=>?_⟩;obtain⟨q1,q2,q3⟩:=hq off m hom hok;exact⟨q1,q2,fun x hx=>by rw[cJ];exact q3 x hx⟩
  ·exact⟨_,_,_,_,_,ho hji hj,aU _,fun _ _ _ hk=>⟨hk,rfl,fun x hx=>by rw[hρ _ hji];exact hx⟩⟩
theorem cK(g:G)(i:Nat):g.bA i (g.ρ i)=g:=by
 cases g
 simp only[G.bA];congr 1
 funext j
 split
 ·rename_i hj;subst hj;rfl
 ·rfl
theorem Inv.write{i b:Nat}{x:Nat×Nat}{o':Ob}{c c':Array Value}{E:TypeId}{fz:Nat×Nat}(H:Inv P Γ N g h w)(hil:i<h.length)(hρ:g.ρ i=some (b,x))(hb:w.heap[b]? =some (.cells c E fz))
 (hE:Ext h.length g h g (h.set i o'))(hM:∀o v,g.M b o=some v->c'[o]? =c[o]?)
 (hm:∀sz st o v,g.ρ i=some (b,sz,st)->g.M b o=some v->∃k E es gr fl,o'=.row k E es gr fl true/\o<(es.length-st)*k)
 (hob:OV P g (h.set i o') (w.setRow b c') i o'):Inv P Γ N g (h.set i o') (w.setRow b c'):=by
 have hlt:b<w.heap.size:=(H.own i b x hρ).2
 have:=Inv.set (r:=g.ρ i) (w':=w.setRow b c') H hil (by rw[cK];exact hE) rfl rfl rfl (fun b' _ hne=>setRow_other w b b' c' (fun e=>hne x (by rw[e];exact hρ))) (by simp)
  (fun b' y hy=>⟨Or.inl ⟨y,hy⟩,by simp;exact(H.own i b' y hy).2⟩) (by
   intro b' y o v hy hv;rw[hρ]at hy;simp only[al,bH]at hy;obtain⟨rfl,rfl⟩:=hy;have h0:=H.mem b o v hv;rw[cell_of_row w b o c E fz hb]at h0
   rw[cell_of_row _ b o c' E fz (setRow_heap w b c c' E fz hb),hM o v hv,h0])
  (by
   intro b' sz st o v hy hv;rw[hρ]at hy
   have hbb:b'=b:=by simp only[al,bH]at hy;exact hy.1.symm
   subst hbb
   exact hm sz st o v (hρ.trans hy) hv)
  (by rw[cK];exact hob)
 rw[cK]at this;exact this
theorem LW{cs new:List AV}{vs ns:List Value}{off:Nat}(h1:VL g h cs vs)(h2:VL g h new ns):VL g h (over cs off new) (vs.take off++ns++vs.drop (off+ns.length)):=ME h1 h2
theorem TX{cs new:List AV}{off:Nat}(hl:off+new.length<=cs.length):(over cs off new).length=cs.length:=by
 unfold over;simp;omega
theorem SY{e:AV}{cs:List AV}(h1:bO e.cells=true)(h2:cs.length=e.cells.length)(h3:bO cs=true):(jR cs e).cells=cs:=by
 cases e<;>simp only[AV.cells,bO,AV.one,dU,pF]at h1 h2<;>first
  |rfl
  |(match cs,h2,h3 with
    |[c],_,h3=>
     simp only[bO,pF]at h3;simp only[jR]
     cases c<;>first|rfl|simp[AV.one]at h3)
theorem Wr{e:AV}{v:Value}{cs:List AV}{vs:List Value}(h1:bO e.cells=true)(he:V g h e v)(h2:cs.length=e.cells.length)(h3:bO cs=true)(hv:VL g h cs vs):
 ∃u,V g h (jR cs e) u/\u.cells.toList=vs:=by
 by_cases ha:∃ds,e=.agg ds
 ·obtain⟨ds,rfl⟩:=ha;exact⟨.agg vs.toArray,by simp only[jR,V];exact⟨vs,rfl,hv⟩,by simp[Value.cells]⟩
 ·have hc:e.cells=[e]:=by cases e<;>first|rfl|exact absurd ⟨_,rfl⟩ ha
  rw[hc]at h2
  match cs,h2,h3,hv with
  |[c],_,h3,hv=>
   simp only[VL]at hv;obtain⟨u,_,rfl,hu,rfl⟩:=hv;simp only[bO,pF]at h3
   have:jR [c] e=c:=by cases e<;>first|rfl|exact absurd ⟨_,rfl⟩ ha
   rw[this];exact⟨u,hu,by rw[CC h3 hu]⟩
theorem Ym(H:Inv P Γ N g h w){ty:TypeId}{p x:Operand}(ho:o.op=.store ty p x){sz:Nat}(h2:bm P ty=some sz){a b:AV}(hp:V g h a (r p))(hx:V g h b (r x)){h':List Ob}
 (hs:uc h sz a b=some h'):aG P Γ N r o w g h h' none:=by
 simp only[uc]at hs
 split at hs
 ·rename_i hb;obtain⟨hbl,hbo⟩:=hb;have hbc:=oG (pT hbo) hx;have hbn:=fe hbc
  have hrun:∀(bk m:Nat)(c:Array Value)(E:TypeId)(fz:Nat×Nat),r p=.pointer (some ⟨bk,m,none⟩)->w.heap[bk]? =some (.cells c E fz)->lQ c fz->m+sz<=c.size->
   (execOp r o).run P w=.ok .skip (w.setRow bk (c.toList.take m++(r x).cells.toList++c.toList.drop (m+sz)).toArray):=by
   intro bk m c E fz hrp hbk hfree hms;have h3:=xL P bk m E fz (r x).cells.toList 0 c w hbk hfree (by omega) (Cl hbo hbc)
   have h4:(r x).cells.size=sz:=by rw[<-hbl,<-hbn];simp
   rw[jd,show m+(r x).cells.toList.length=m+sz by omega]at h3;simp[execOp,ho,hrp,Instr.storeAt,Instr.sureAddr,storeVar,gN h2,h4,h3]
  split at hs
  ·rename_i i off
   split at hs
   ·rename_i cs hi
    split at hs
    ·rename_i hle;simp only[al]at hs;subst hs;simp only[V]at hp;obtain⟨_,bk,s,hρ,hrp⟩:=hp;obtain⟨c,E,fz,hw,hfree,hv⟩:=H.ob i _ hi bk s 0 hρ;have hcl:=fe hv
     have hE:Ext h.length g h g (h.set i (.cells (over cs off b.cells))):=by have:=Ext.Dt (g:=g) (vs':=over cs off b.cells) hi;rwa[cK]at this
     have hov:=LW (off:=off) (b_ hE (cV hv) hv) (b_ hE (cV hbc) hbc);rw[hbn,hbl]at hov;refine⟨g,_,_,hrun bk off c E fz hrp hw hfree (by simp at hcl;omega),Inv.write H (bj hi) hρ hw hE ?_ ?_ ?_,hE,rfl⟩
     ·intro o v hv;obtain⟨k,E,es,gr,fl,h5,_⟩:=H.dX i bk s 0 o v hρ hv;rw[hi]at h5
      cases h5
     ·intro sz' st o v hρ' hv;obtain⟨k,E,es,gr,fl,h5,_⟩:=H.dX i bk sz' st o v hρ' hv;rw[hi]at h5
      cases h5
     ·intro b' s' st' hb';rw[hρ]at hb';simp only[al,bH]at hb';obtain⟨rfl,rfl,rfl⟩:=hb';refine⟨_,E,fz,setRow_heap w bk c _ E fz hw,tg hfree ?_,by simpa using hov⟩
      have h4:(r x).cells.size=sz:=by rw[<-hbl,<-hbn];simp
      have h5:c.size=cs.length:=by rw[<-hcl];simp
      simp only[pG,bp,fc,uV,HH];omega
    ·simp at hs
   ·simp at hs
  ·rename_i i off n k' ix q
   split at hs
   ·rename_i k E es gr fl hi
    split at hs
    ·rename_i hc;obtain⟨rfl,hok,hix⟩:=hc
     split at hs
     ·rename_i e he
      split at hs
      ·rename_i hle;simp only[al]at hs;subst hs;simp only[V]at hp;obtain⟨u,bk,p0,hu,hbase,_,hrp⟩:=hp;have hil:=bj hi;have ho0:=H.ob i _ hi;simp only[OV]at ho0;obtain⟨hk0,hK,hfl,hgl,hb⟩:=ho0;obtain⟨k2,E2,es2,gr2,fl2,sh2,hi2,hle2,ad,cap,rfl,hcap,hn,hq⟩:=hu;rw[hi]at hi2;simp only[al,Ob.row.injEq]at hi2;obtain⟨rfl,rfl,rfl,rfl,rfl,rfl⟩:=hi2;obtain⟨hlc,hq⟩:=hq hok
       rcases hq with⟨h0,_⟩|⟨bk',s,st,hρ,hst,rfl,hcs⟩
       ·omega
       simp only[AP,al,Addr.mk.injEq,pD]at hbase;obtain⟨rfl,rfl⟩:=hbase;rw[hρ]at hb;simp only at hb;obtain⟨hst',c,E',fz,vs,hw,hsz,hfree,hVE,hcells⟩:=hb
       have hlo:gr.getD 0<=off:=by
        cases gr with
        |none=>simp
        |some lo=>simp only[cr,aC,a8]at hok;simpa using hok.1
       have hKe:=hK e (fQ he)
       have hKd:dz k' (es.drop (gr.getD 0)):=fun x hx=>hK x (iA hx)
       have hlen:=gv hKd hVE
       have hdl:(es.drop (gr.getD 0)).length=es.length-gr.getD 0:=by simp
       have hel:=bj he
       have hed:(es.drop (gr.getD 0))[off+ix-gr.getD 0]? =some e:=by rw[nj,show gr.getD 0+(off+ix-gr.getD 0)=off+ix by omega];exact he
       obtain⟨v,hve,hvc⟩:=E6 hKd hVE hed;have hvcl:=fe (oG (pT hKe.2) hve);have hol:(over e.cells q b.cells).length=e.cells.length:=TX (by rw[hbl,hKe.1];exact hle)
       have hoo:bO (over e.cells q b.cells)=true:=by
        rw[Jr]at*;intro y hy;simp only[over,ba]at hy
        rcases hy with(hy|hy)|hy
        ·exact hKe.2 y (jH hy)
        ·exact hbo y hy
        ·exact hKe.2 y (iA hy)
       have hoc:=SY hKe.2 hol hoo
       have hE:Ext h.length g h g (h.set i (.row k' E (es.set (off+ix) (jR (over e.cells q b.cells) e)) gr (fl&&aO 0 b.cells) false)):=by
        have:=Ext.oJ (g:=g) (E':=E) (es':=es.set (off+ix) (jR (over e.cells q b.cells) e)) (gr':=gr) (fl':=fl&&aO 0 b.cells) (sh':=false) (ρ':=g.ρ i) hi (by simp) (by
         intro off' m _ h1;refine⟨?_,by simp,fun _ h=>h⟩
         cases gr<;>simpa[cr]using h1)
        rwa[cK]at this
       have hov:VL g h (over e.cells q b.cells) (v.cells.toList.take q++(r x).cells.toList++v.cells.toList.drop (q+sz)):=by
        have:=LW (off:=q) (oG (pT hKe.2) hve) hbc;rwa[hbn,hbl]at this
       obtain⟨u',hu',huc⟩:=Wr hKe.2 hve hol hoo hov
       have epos:(off-st)*k'+ix*k'+q=(gr.getD 0-st)*k'+((off+ix-gr.getD 0)*k'+q):=by
        have e1:(off-st)*k'+ix*k'=(off+ix-st)*k':=by rw[<-fa];congr 1;omega
        have e2:(gr.getD 0-st)*k'+(off+ix-gr.getD 0)*k'=(off+ix-st)*k':=by rw[<-fa];congr 1;omega
        omega
       have hjb:(off+ix-gr.getD 0)*k'+k'<=vs.length:=by
        rw[hlen,hdl]
        have:(off+ix-gr.getD 0)*k'+k'=(off+ix-gr.getD 0+1)*k':=by rw[fa,Nat.one_mul]
        rw[this];exact kq _ (by omega)
       have hvsz:(gr.getD 0-st)*k'+vs.length<=c.size:=by
        by_cases h0:vs.length=0
        ·have:=hK;omega
        ·have h5:=hcells (vs.length-1) (by omega)
         have h6:(gr.getD 0-st)*k'+(vs.length-1)<c.size:=by
          rcases jG ((gr.getD 0-st)*k'+(vs.length-1)) c.size with h7|h7
          ·exact h7
          ·simp[n_ h7]at h5
         omega
       have hr:=hrun bk' ((off-st)*k'+ix*k'+q) c E' fz hrp hw hfree (by rw[epos];omega)
       have hnoM:∀o v,g.M bk' o=some v->False:=by
        intro o v hv;obtain⟨_,_,_,_,_,h5,_⟩:=H.dX i bk' s st o v hρ hv;rw[hi]at h5;simp at h5
       refine⟨g,_,_,hr,Inv.write H hil hρ hw hE (fun o v hv=>(hnoM o v hv).elim) (fun sz' st' o v _ hv=>(hnoM o v hv).elim) ?_,hE,rfl⟩;simp only[OV];refine⟨hk0,?_,?_,by simpa using hgl,?_⟩
       ·intro y hy
        rcases xp hy with hy|rfl
        ·exact hK y hy
        ·rw[hoc];exact⟨hol.trans hKe.1,hoo⟩
       ·intro hfb;simp only[aC]at hfb;rw[Dh];have:=Dh.1 (hfl hfb.1);refine⟨?_,?_⟩
        ·intro y hy
         rcases xp hy with hy|rfl
         ·exact hK y hy
         ·rw[hoc];exact⟨hol.trans hKe.1,hoo⟩
        ·intro y hy
         rcases xp hy with hy|rfl
         ·exact this.2 y hy
         ·rw[hoc];have hbe:=this.2 e (fQ he)
          have hsplit:∀{l:List AV},aO 0 l=true↔∀a∈l,aJ 0 a=true:=by
           intro l;induction l with
           |nil=>simp[aO]
           |cons a l ih=>simp[aO,ih]
          rw[hsplit]at*;intro z hz;simp only[over,ba]at hz
          rcases hz with(hz|hz)|hz
          ·exact hbe z (jH hz)
          ·exact hfb.2 z hz
          ·exact hbe z (iA hz)
       ·rw[hρ];simp only
        have hucl:u'.cells.toList.length=k':=by rw[huc];simp;rw[<-uV,hvcl,hKe.1];have:=hbn;simp at this;omega
        have h4:(r x).cells.toList.length=sz:=by rw[<-hbl,<-hbn]
        have hset:=E8 (i:=off+ix-gr.getD 0) hKd hVE (by rw[hdl];omega) hu' hucl
        have hvv:v.cells.toList=(vs.drop ((off+ix-gr.getD 0)*k')).take k':=by
         apply lh;intro y;rw[pC,nj]
         by_cases hy:y<k'
         ·rw[if_pos hy]
          have:y<v.cells.toList.length:=by rw[hvcl,hKe.1];exact hy
          rw[a_ this];exact(hvc y _ (a_ this)).symm
         ·rw[if_neg hy,mh (by rw[hvcl,hKe.1];omega)]
        have hsp:dO vs ((off+ix-gr.getD 0)*k') u'.cells.toList=dO vs ((off+ix-gr.getD 0)*k'+q) (r x).cells.toList:=by
         rw[huc,<-SH (k:=k') hjb hvv (by rw[h4];exact hle)];simp only[dO,h4]
        rw[hsp]at hset
        have hm:(off-st)*k'+ix*k'+q+(r x).cells.toList.length<=c.toList.length:=by rw[epos,h4];simp;omega
        have hcs:c.toList.take ((off-st)*k'+ix*k'+q)++(r x).cells.toList++c.toList.drop ((off-st)*k'+ix*k'+q+sz)=dO c.toList ((off-st)*k'+ix*k'+q) (r x).cells.toList:=by
         simp only[dO,h4]
        rw[hcs];have hsl:=pQ hm;refine⟨hst',_,E',fz,dO vs ((off+ix-gr.getD 0)*k'+q) (r x).cells.toList,setRow_heap w bk' c _ E' fz hw,?_,tg hfree ?_,?_,?_⟩
        ·simp only[pG];rw[hsl];simpa using hsz
        ·simp only[pG];rw[hsl];simp
        ·rw[List.drop_set,if_neg (by omega)];exact fg hE (jm hset) hset
        ·intro j hj;have hj2:=mC (l:=vs) (s:=(r x).cells.toList) (m:=(off+ix-gr.getD 0)*k'+q) (by omega) j;rw[a_ hj]at hj2;rw[oc,mC hm,hj2,epos];rw[pQ (by omega)]at hj
         by_cases h7:j<(off+ix-gr.getD 0)*k'+q
         ·rw[if_pos (by omega),if_pos h7];have:=hcells j hj;rw[a_ hj,<-this];simp
         ·rw[if_neg (by omega),if_neg h7]
          by_cases h8:j<(off+ix-gr.getD 0)*k'+q+(r x).cells.toList.length
          ·rw[if_pos (by omega),if_pos h8]
           congr 1;omega
          ·rw[if_neg (by omega),if_neg h8];have:=hcells j hj;rw[a_ hj,<-this];simp
      ·simp at hs
     ·simp at hs
    ·simp at hs
   ·simp at hs
  ·simp at hs
 ·simp at hs
end
end Go.AM
