/- The abstract machine: values, objects, compiled code. Nothing here speaks of one program. -/
import Derived.WalkKit
set_option linter.unusedSimpArgs false
set_option linter.unusedVariables false
namespace Go.AM
abbrev aj:=@Option.some.injEq
abbrev av:=@Bool.and_eq_true
abbrev aU:=@Nat.le_refl
abbrev a_:=@decide_eq_true_eq
abbrev bg:=@List.getElem?_eq_getElem
abbrev bl:=@List.mem_append
abbrev bo:=@List.getD_eq_getElem?_getD
abbrev bt:=@List.mem_cons
abbrev bw:=@List.drop_eq_nil_of_le
abbrev bC:=@List.getElem_mem
abbrev bL:=@Prod.mk.injEq
abbrev bM:=@List.drop_eq_getElem_cons
abbrev bP:=@List.length_cons
abbrev bR:=@List.length_append
abbrev bS:=@Option.map_eq_some_iff
abbrev b9:=@List.map_cons
abbrev cq:=@if_true
abbrev cv:=@eq_true
abbrev cC:=@List.mem_map
abbrev cR:=@List.getElem?_append_left
abbrev cS:=@List.take_of_length_le
abbrev c9:=@if_false
abbrev dh:=@List.length_nil
abbrev dt:=@Option.map_some
abbrev dB:=@List.getElem?_set_ne
abbrev dC:=@List.mem_singleton
abbrev dD:=@List.getElem?_eq_some_iff
abbrev dE:=@List.all_eq_true
abbrev dF:=@List.getElem?_append_right
abbrev dP:=@List.mem_filter
abbrev eb:=@Bool.false_eq_true
abbrev ec:=@List.mem_cons_of_mem
abbrev er:=@List.getElem?_set_self
abbrev eu:=@List.mem_range
abbrev eP:=@List.cons_append
abbrev eQ:=@List.append_assoc
abbrev eY:=@Bool.or_eq_true
abbrev eZ:=@Bool.eq_iff_iff
abbrev fB:=@Int.toNat_natCast
abbrev fC:=@Nat.add_mul
abbrev fZ:=@List.append_nil
abbrev gD:=@Nat.lt_of_lt_of_le
abbrev gE:=@List.length_take
abbrev gF:=@Array.getD_eq_getD_getElem?
abbrev gV:=@Array.ext'
abbrev gW:=@Nat.add_zero
abbrev ij:=@List.map_map
abbrev ik:=@List.mem_of_getElem?
abbrev il:=@List.length_map
abbrev iq:=@List.drop_zero
abbrev iM:=@Nat.zero_add
abbrev iO:=@decide_eq_false_iff_not
abbrev jg:=@List.length_set
abbrev jh:=@List.mem_of_mem_drop
abbrev ji:=@List.ext_getElem?
abbrev jj:=@Option.getD_some
abbrev jk:=@Array.getElem?_eq_getElem
abbrev jl:=@Bool.not_eq_true'
abbrev jJ:=@List.getElem?_eq_none
abbrev jK:=@Bool.or_eq_false_iff
abbrev j5:=@List.mem_of_mem_take
abbrev j6:=@Option.bind_some
abbrev j7:=@eq_false
abbrev j8:=@List.set_append_left
abbrev kU:=@List.length_eq_zero_iff
abbrev kV:=@List.replicate_succ
abbrev kW:=@Nat.lt_or_ge
abbrev kX:=@Nat.mul_le_mul_right
abbrev kY:=@List.nil_append
abbrev kZ:=@List.map_append
abbrev k5:=@List.take_succ_eq_append_getElem
abbrev k6:=@Int.eq_ofNat_of_zero_le
abbrev k7:=@List.nodup_cons
abbrev k8:=@List.getElem_of_mem
abbrev lK:=@beq_iff_eq
abbrev mB:=@List.getElem?_cons_succ
abbrev mC:=@List.map_nil
abbrev mD:=@Bool.and_self
abbrev mE:=@decide_false
abbrev mF:=@Iff.rfl
abbrev nf:=@Array.getElem?_eq_none
abbrev ng:=@List.take_append_drop
abbrev nh:=@Nat.add_assoc
abbrev ni:=@List.getElem?_drop
abbrev nj:=@List.getElem?_set
abbrev nk:=@List.map_congr_left
abbrev nn:=@Bool.false_or
abbrev np:=@Option.bind_eq_some_iff
abbrev nq:=@List.flatMap_cons
abbrev nr:=@Bool.and_assoc
abbrev oe:=@and_true
abbrev og:=@Bool.and_true
abbrev oh:=@List.mem_or_eq_of_mem_set
abbrev oi:=@List.getElem?_toArray
abbrev oj:=@List.length_replicate
abbrev om:=@Option.bind_eq_bind
abbrev oo:=@decide_eq_true
abbrev pF:=@List.set_cons_succ
abbrev pG:=@or_false
abbrev pH:=@List.getElem?_take
abbrev pI:=@Bool.not_true
abbrev pJ:=@List.size_toArray
abbrev pK:=@List.getElem?_cons_zero
abbrev pL:=@List.map_set
abbrev pM:=@List.mem_flatMap
abbrev pN:=@List.mem_cons_self
abbrev pO:=@List.not_mem_nil
abbrev qO:=@Nat.le_trans
abbrev qP:=@Nat.min_eq_left
abbrev qQ:=@List.getElem_take
abbrev qR:=@List.all_cons
abbrev qS:=@List.mapM_cons
abbrev qT:=@List.singleton_append
abbrev qU:=@List.length_pos_iff
abbrev qV:=@Array.all_toList
abbrev qW:=@List.mem_map_of_mem
abbrev qX:=@Int.natCast_ediv
abbrev qY:=@Int.natCast_emod
abbrev qZ:=@Int.natCast_add
abbrev q9:=@List.nodup_append
abbrev q_:=@List.set_set
abbrev sH:=@Option.map_none
abbrev sI:=@List.cons.injEq
abbrev sJ:=@List.length_singleton
abbrev sK:=@Option.getD_none
abbrev sL:=@Array.getElem?_setIfInBounds
abbrev sM:=@Bool.true_and
abbrev sN:=@List.mem_append_left
abbrev sO:=@List.getElem_cons_succ
abbrev u0:=@List.set_cons_zero
abbrev u5:=@Go.block_lt_of_cell
abbrev u6:=@List.drop_append
abbrev u7:=@Nat.zero_mul
abbrev u9:=@List.foldl_cons
abbrev u_:=@true_and
abbrev vc:=@Bool.not_false
abbrev vd:=@List.getElem?_map
abbrev ve:=@Array.length_toList
abbrev vf:=@Array.getElem?_toList
abbrev vg:=@List.mem_iff_getElem?
abbrev vh:=@Nat.add_sub_cancel_left
abbrev vk:=@List.filterMap_cons
abbrev vl:=@Decidable.byContradiction
abbrev vm:=@beq_eq_false_iff_ne
abbrev vn:=@List.take_left'
abbrev vo:=@List.set_append_right
abbrev vp:=@decide_eq_false
abbrev xQ:=@Nat.zero_le
abbrev xR:=@List.tail_drop
abbrev xS:=@Nat.add_comm
abbrev xT:=@List.length_range
abbrev xU:=@List.getElem?_modify
abbrev xV:=@Bool.not_eq_false
abbrev xW:=@List.contains_eq_mem
abbrev xX:=@List.getElem?_take_of_lt
abbrev xY:=@List.filter_eq_self
abbrev xZ:=@List.filter_cons
abbrev x_:=@Function.comp_def
abbrev CX:=@List.length_drop
abbrev CY:=@Array.foldl_toList
abbrev CZ:=@Nat.sub_zero
abbrev C0:=@List.getElem_append_left
abbrev C1:=@List.getElem_append_right
abbrev C2:=@Nat.sub_self
abbrev C3:=@List.exists_mem_of_length_pos
abbrev C4:=@Bool.eq_false_iff
abbrev C5:=@Nat.xor_zero
abbrev C6:=@List.getElem_cons_zero
abbrev C7:=@Nat.succ_mul
abbrev C8:=@List.getElem_inj
abbrev C9:=@of_decide_eq_true
abbrev I6:=@List.take_succ_cons
abbrev I7:=@Nat.lt_trichotomy
abbrev I8:=@List.drop_length
abbrev I9:=@Array.toList_setIfInBounds
abbrev I_:=@Decidable.not_not
abbrev I':=@Option.isSome_iff_exists
abbrev Ja:=@Nat.mul_eq_zero
abbrev Jb:=@beq_self_eq_true
abbrev Jc:=@List.zip_cons_cons
abbrev Jd:=@List.length_pos_of_mem
abbrev Je:=@UInt8.toNat_inj
abbrev Jf:=@List.getElem?_replicate
abbrev Jg:=@Option.pure_def
abbrev Jh:=@List.mem_append_right
abbrev Ji:=@forall_eq_or_imp
abbrev Jj:=@List.getElem_set_ne
abbrev Jk:=@List.eq_nil_iff_forall_not_mem
abbrev Jl:=@List.length_filter_le
abbrev Sx:=@List.forall_mem_cons
abbrev Sy:=@List.mem_zipIdx_iff_getElem?
abbrev Sz:=@List.reverse_singleton
abbrev SA:=@Array.getElem?_replicate
abbrev SB:=@Nat.eq_zero_or_pos
abbrev SC:=@List.count_pos_iff
abbrev SD:=@BitVec.toNat_ofInt
abbrev SE:=@List.contains_iff_mem
abbrev SF:=@Bool.not_eq_false'
abbrev SG:=@List.append_eq_nil_iff
abbrev SH:=@decide_eq_true_iff
abbrev SI:=@List.mem_replicate
abbrev SJ:=@Classical.byContradiction
abbrev avf:=@Std.Legacy.Range.forIn_eq_forIn_range'
inductive AV where
 |undef
 |bool (b:Bool)
 |int (k:IntKind) (n:Int)
 |str (s:List UInt8)
 |i_|c_|df|eh
 |list (full:Bool) (k:Nat) (es:List AV)
 |own (k:Nat) (E:TypeId) (es:List AV)
 |sl (i off n:Nat)
 |cZ (a:AV) (k ix off:Nat)
 |ptr (i off:Nat)
 |dU (g off:Nat)
 |mp (i:Nat)
 |db (ks vs:List AV)
 |it (i:Nat)
 |agg (cs:List AV)
 |aH (vs:List AV)
 |fn (f:Fn) (first cap:List AV)
 |cV (i:Nat)
 |bW (t:TypeId) (v:AV)
 deriving Inhabited,Repr
def jQ:Value->AV
 |.bool b=>.bool b
 |.int k n=>.int k n
 |.string s=>.str s.data.toList
 |.pointer none=>.i_
 |.map none=>.c_
 |.nilFunc=>.df
 |.nilIface=>.eh
 |.slice none 0 0=>.list true 0 []
 |_=>.undef
def fP:Value->AV
 |.agg cs=>.agg (cs.toList.map jQ)
 |.iface t v=>.bW t (jQ v)
 |.tuple vs=>.aH (vs.toList.map jQ)
 |v=>jQ v
def AV.cells:AV->List AV
 |.agg cs=>cs
 |a=>[a]
def AV.ok:AV->Bool
 |.aH _|.undef|.own _ _ _=>false
 |_=>true
def AV.one:AV->Bool
 |.agg _|.aH _|.undef|.own _ _ _=>false
 |_=>true
inductive AX where
 |t (i:Nat)
 |c (v:AV)
 |g (n:Nat)
 |f (n:Nat)
 deriving Inhabited,Repr
inductive CK where
 |eql|neq|lss|leq|gtr|geq
 deriving DecidableEq,Inhabited,Repr
inductive IB where
 |add|sub|mul|quo|rem|and|or|xor|andNot|shl|shr
 deriving DecidableEq,Inhabited,Repr
inductive SK where
 |int|str|bool
 deriving DecidableEq,Inhabited,Repr
inductive EK where
 |sc (s:SK)
 |iE (ks:List SK)
 |iface
 |nil
 deriving DecidableEq,Inhabited,Repr
inductive AO where
 |mv (x:AX)
 |bE (k:Nat) (E:TypeId)
 |pick (c a b:AX)
 |alloc (z:List AV)
 |box (n:Nat) (x:AX)
 |build (z:List AV) (parts:List (Nat×Nat×AX))
 |lit (k:Nat) (zs:List AV) (parts:List (Nat×AX))
 |load (agg:Bool) (sz:Nat) (a:AX)
 |store (sz:Nat) (a x:AX)
 |cr (x:AX)
 |bB (op:IB) (x y:AX)
 |cmp (op:CK) (e:EK) (x y:AX)
 |concat (x y:AX)
 |not (x:AX)
 |neg (x:AX)
 |Gx (x:AX)
 |conv (k:IntKind) (x:AX)
 |same (x:AX)
 |jq (neg:Bool) (x:AX)
 |mark (x:AX)
 |wI (E:TypeId) (x:AX)
 |toStr (x:AX)
 |lg (t:TypeId) (x:AX)
 |fH (f:Fn) (first cap:List AX)
 |mkMap
 |mkSlice (k:Nat) (E:TypeId) (bytes:Nat) (z:AV) (n c:AX)
 |AF (x:AX) (lo hi:Option AX)
 |slice (k:Nat) (x:AX) (lo hi:Option AX)
 |slice3 (k:Nat) (x:AX) (lo:Option AX) (hi mx:AX)
 |off (n:Nat) (x:AX)
 |H7 (agg:Bool) (off sz:Nat) (x:AX)
 |g_ (k:Nat) (x i:AX)
 |eB (n k:Nat) (x i:AX)
 |sa (x i:AX)
 |GC (n:Nat) (agg:Bool) (k:Nat) (x i:AX)
 |lookup (e:EK) (z:AV) (x i:AX) (ok:Bool)
 |bG (e:EK) (m k x:AX)
 |range (x:AX)
 |next (x:AX)
 |rM (x:AX) (t:TypeId) (z:AV) (ok:Bool)
 |extract (x:AX) (i:Nat)
 |len (x:AX)
 |lS (x:AX)
 |cap (x:AX)
 |Gl (n:Nat)
 |uq (x:AX)
 |append (k:Nat) (E:TypeId) (bytes:Nat) (x y:AX)
 |p8 (k:Nat) (E:TypeId) (bytes:Nat) (z:AV) (x n:AX)
 |delete (e:EK) (m k:AX)
 |clear (k:Nat) (z:AV) (x:AX)
 |min (xs:List AX)
 |max (xs:List AX)
 |recover
 |panic (x:AX)
 |call (f:AX) (args:List AX)
 |invoke (x:AX) (name:String) (args:List AX)
 |defer (f:AX) (args:List AX)
 deriving Inhabited,Repr
structure AG where
 dst:Option Nat
 guard:Option (Nat×Bool)
 op:AO
 deriving Inhabited,Repr
inductive ah where
 |skip
 |ae (ops:List AG)
 |aQ (loose:List Bool) (fin:List Nat) (ops:List AG)
 |fj (afters:List (List Nat)) (ops:List AG)
 |seq (a b:ah)
 |cond (c:AX) (a b:ah)
 |block (id:Nat) (mask:List Bool) (c:ah)
 |loop (mask:List Bool) (c:ah)
 |rangeFunc (f:AX) (params:List Nat) (mask:List Bool) (assign body:ah)
 |exit (id:Nat)
 |ret
 |bad
 deriving Inhabited,Repr
inductive pg where
 |tmp (t:Nat)
 |cell (a:Nat) (agg:Bool) (sz:Nat)
 deriving Inhabited,Repr
structure aA where
 body:ah
 nt:Nat
 res:List pg
 deriving Inhabited,Repr
inductive Jump where
 |none
 |ret
 |exit (id:Nat)
 deriving DecidableEq,Inhabited,Repr
inductive Ob where
 |gone
 |cells (vs:List AV)
 |row (k:Nat) (E:TypeId) (es:List AV) (g:Option Nat) (fl sh:Bool)
 |map (es:List (AV×AV)) (fl:Bool)
 |gK (s:List UInt8) (pos:Nat)
 |loop (st:LoopState) (pend:Jump) (fn:FuncId) (nt:List AV) (params:List Nat) (assign body:ah)
 |bx (live:Bool)
 deriving Inhabited,Repr
def ax(t:List AV):AX->AV
 |.t i=>t.getD i .undef
 |.c v=>v
 |.g n=>.dU n 0
 |.f n=>.fn (.func n) [] []
mutual
def aG(n:Nat):AV->Bool
 |.sl i _ _=>decide (i<n)
 |.ptr i _=>decide (i<n)
 |.mp i=>decide (i<n)
 |.it i=>decide (i<n)
 |.cV i=>decide (i<n)
 |.cZ a _ _ _=>aG n a
 |.agg cs=>aK n cs
 |.aH cs=>aK n cs
 |.fn _ a b=>aK n a&&aK n b
 |.bW _ v=>aG n v
 |.own _ _ _=>false
 |.list _ _ es=>aK n es
 |.db ks vs=>aK n ks&&aK n vs
 |_=>true
def aK(n:Nat):List AV->Bool
 |[]=>true
 |a::as=>aG n a&&aK n as
end
def bV:List AV->Bool
 |[]=>true
 |a::as=>a.one&&bV as
def cg:List AV->Nat->Bool
 |[],_=>true
 |a::as,k=>decide (a.cells.length=k)&&bV a.cells&&aK 0 a.cells&&cg as k
mutual
theorem wm{n m:Nat}(h:n<=m):∀{a:AV},aG n a=true->aG m a=true
 |.undef,_|.bool _,_|.int _ _,_|.str _,_|.i_,_|.c_,_|.df,_|.eh,_|.dU _ _,_=>rfl
 |.list _ _ es,hb=>by simp only[aG]at hb⊢;exact p3 h hb
 |.own _ _ _,hb=>by simp[aG]at hb
 |.sl _ _ _,hb|.ptr _ _,hb|.mp _,hb|.it _,hb|.cV _,hb=>by simp only[aG,a_]at hb⊢;omega
 |.cZ a _ _ _,hb=>by simp only[aG]at hb⊢;exact wm h hb
 |.db _ _,hb|.fn _ _ _,hb=>by simp only[aG,av]at hb⊢;exact⟨p3 h hb.1,p3 h hb.2⟩
 |.agg _,hb|.aH _,hb=>by simp only[aG]at hb⊢;exact p3 h hb
 |.bW _ _,hb=>by simp only[aG]at hb⊢;exact wm h hb
theorem p3{n m:Nat}(h:n<=m):∀{as:List AV},aK n as=true->aK m as=true
 |[],_=>rfl
 |a::as,hb=>by simp only[aK,av]at hb⊢;exact⟨wm h hb.1,p3 h hb.2⟩
end
theorem Xv{n:Nat}{a:AV}(h:aK n a.cells=true):aG n a=true:=by
 cases a<;>simp_all [AV.cells,aG,aK]
theorem iQ{n k:Nat}:∀{es:List AV},cg es k=true->aK n es=true
 |[],_=>rfl
 |a::as,h=>by
  simp only[cg,av]at h;simp only[aK,av];exact⟨wm (xQ _) (Xv h.1.2),iQ h.2⟩
def cF(es:List AV)(g:Option Nat)(off n:Nat):Bool:=
 match g with
 |none=>decide (off+n<=es.length)
 |some lo=>decide (lo<=off)&&off+n==es.length
def elems(h:List Ob):AV->Option (List AV)
 |.list _ _ es=>some es
 |.sl i off n=>
  match h[i]? with
  |some (.row _ _ es g _ _)=>if cF es g off n then some ((es.drop off).take n)else none
  |_=>none
 |_=>none
def jP(h:List Ob):AV->Option (Nat×List AV)
 |.list _ k es=>some (k,es)
 |.sl i off n=>
  match h[i]? with
  |some (.row k _ es g _ _)=>if cF es g off n then some (k,(es.drop off).take n)else none
  |_=>none
 |_=>none
def nR:AV->Option Nat
 |.list _ _ es=>some es.length
 |.sl _ _ n=>some n
 |_=>none
def ux(h:List Ob):AV->Option (Nat×List AV)
 |.list _ k es=>some (k,es)
 |.sl i off n=>
  match h[i]? with
  |some (.row k _ es g true _)=>if cF es g off n then some (k,(es.drop off).take n)else none
  |_=>none
 |_=>none
mutual
def view(h:List Ob):AV->Option AV
 |.list _ k es=>some (.list false k es)
 |.sl i off n=>(ux h (.sl i off n)).map fun p=>.list false p.1 p.2
 |.agg cs=>(bU h cs).map .agg
 |.aH cs=>(bU h cs).map .aH
 |.fn f a b=>
  match bU h a,bU h b with
  |some a',some b'=>some (.fn f a' b')
  |_,_=>none
 |.bW t v=>(view h v).map (.bW t)
 |.ptr _ _|.mp _|.it _|.cV _|.cZ _ _ _ _|.own _ _ _=>none
 |.db ks vs=>if aK 0 ks&&aK 0 vs then some (.db ks vs)else none
 |a=>some a
def bU(h:List Ob):List AV->Option (List AV)
 |[]=>some []
 |a::as=>
  match view h a,bU h as with
  |some a',some as'=>some (a'::as')
  |_,_=>none
end
mutual
def rowsOf:AV->List Nat
 |.sl i _ _=>[i]
 |.agg cs=>bN cs
 |.aH cs=>bN cs
 |.fn _ a b=>bN a++bN b
 |.bW _ v=>rowsOf v
 |_=>[]
def bN:List AV->List Nat
 |[]=>[]
 |a::as=>rowsOf a++bN as
end
def iR:Ob->Ob
 |.row k E es g fl _=>.row k E es g fl true
 |o=>o
def share:List Nat->List Ob->List Ob
 |[],h=>h
 |i::is,h=>share is (h.modify i iR)
inductive R where
 |val (v:AV) (h:List Ob)
 |skip (h:List Ob)
 |c8 (v:AV)
 |call (f:FuncId) (args:List AV)
 |qH
 |bx (f:FuncId) (args:List AV)
 |yield (l:Nat) (args:List AV)
 |either
 |bad
 deriving Inhabited
def eI:SK->AV->AV->Option Bool
 |.int,.int k a,.int j b=>if k=j then some (a==b)else none
 |.str,.str a,.str b=>some (a==b)
 |.bool,.bool a,.bool b=>some (a==b)
 |_,_,_=>none
def gn:List SK->List AV->List AV->Option Bool
 |[],[],[]=>some true
 |s::ss,a::as,b::bs=>
  match eI s a b with
  |some true=>gn ss as bs
  |some false=>some false
  |none=>none
 |_,_,_=>none
def cP:SK->AV->Bool
 |.int,.int _ _|.str,.str _|.bool,.bool _=>true
 |_,_=>false
def cf:List SK->List AV->Bool
 |[],[]=>true
 |s::ss,a::as=>cP s a&&cf ss as
 |_,_=>false
def isKey:EK->AV->Bool
 |.sc s,a=>cP s a
 |.iE ss,.agg cs=>cf ss cs
 |_,_=>false
def b_(e:EK)(x y:AV):Option Bool:=
 match e with
 |.iE ss=>match x,y with
  |.agg as,.agg bs=>if cf ss as&&cf ss bs then gn ss as bs else none
  |_,_=>none
 |.sc s=>eI s x y
 |.iface=>match x,y with
  |.eh,.bW _ _=>some false
  |.bW _ _,.eh=>some false
  |_,_=>none
 |.nil=>match x,y with
  |.df,.df=>some true
  |.df,.fn _ _ _=>some false
  |.fn _ _ _,.df=>some false
  |_,_=>none
def eD(e:EK)(k:AV):List (AV×AV)->Option (Option AV)
 |[]=>some none
 |(a,v)::es=>
  match b_ e k a with
  |some true=>some (some v)
  |some false=>eD e k es
  |none=>none
def h_(e:EK)(k v:AV):List (AV×AV)->Option (List (AV×AV))
 |[]=>some [(k,v)]
 |(a,u)::es=>
  match b_ e k a with
  |some true=>some ((k,v)::es)
  |some false=>(h_ e k v es).map ((a,u)::·)
  |none=>none
def ma(e:EK)(k:AV):List (AV×AV)->Option (List (AV×AV))
 |[]=>some []
 |(a,u)::es=>
  match b_ e k a with
  |some true=>some es
  |some false=>(ma e k es).map ((a,u)::·)
  |none=>none
def mh(op:CK)(a b:Int):Bool:=
 match op with
 |.eql=>a==b
 |.neq=>a !=b
 |.lss=>decide (a<b)
 |.leq=>decide (a<=b)
 |.gtr=>decide (a>b)
 |.geq=>decide (a≥b)
def gv(op:IB)(k:IntKind)(x y:Int):Option Int:=
 match op with
 |.add=>some (k.wrap (x+y))
 |.sub=>some (k.wrap (x-y))
 |.mul=>some (k.wrap (x*y))
 |.quo=>if y=0 then none else some (k.wrap (x.tdiv y))
 |.rem=>if y=0 then none else some (x.tmod y)
 |.and=>some (k.wrap ((BitVec.ofInt k.bits x)&&&(BitVec.ofInt k.bits y)).toNat)
 |.or=>some (k.wrap ((BitVec.ofInt k.bits x)|||(BitVec.ofInt k.bits y)).toNat)
 |.xor=>some (k.wrap ((BitVec.ofInt k.bits x)^^^(BitVec.ofInt k.bits y)).toNat)
 |.andNot=>some (k.wrap ((BitVec.ofInt k.bits x)&&&~~~(BitVec.ofInt k.bits y)).toNat)
 |.shl=>if y<0 then none else some (k.wrap (x*2^(min y.toNat k.bits)))
 |.shr=>if y<0 then none else some (x.fdiv (2^(min y.toNat k.bits)))
def l_(agg:Bool)(sz off:Nat)(cs:List AV):Option AV:=
 if agg then(if off+sz<=cs.length then some (.agg ((cs.drop off).take sz))else none)
 else if sz=1 then cs[off]? else none
def over(cs:List AV)(off:Nat)(new:List AV):List AV:=cs.take off++new++cs.drop (off+new.length)
def eR:List AV->AV->AV
 |cs,.agg _=>.agg cs
 |[c],_=>c
 |_,_=>.undef
def o_(Γ:Nat->Option AV)(h:List Ob)(agg:Bool)(sz:Nat):AV->Option AV
 |.ptr i off=>
  match h[i]? with
  |some (.cells cs)=>l_ agg sz off cs
  |_=>none
 |.cZ a k ix off=>
  match jP h a with
  |some (k',es)=>if k'=k then es[ix]?.bind fun e=>l_ agg sz off e.cells else none
  |none=>none
 |.dU n off=>(Γ n).bind fun v=>l_ agg sz off v.cells
 |_=>none
def uv(h:List Ob)(sz:Nat)(p x:AV):Option (List Ob):=
 if x.cells.length=sz/\bV x.cells=true then
  match p with
  |.ptr i off=>
   match h[i]? with
   |some (.cells cs)=>if off+sz<=cs.length then some (h.set i (.cells (over cs off x.cells)))else none
   |_=>none
  |.cZ (.sl i o n) k' ix off=>
   match h[i]? with
   |some (.row k E es g fl false)=>
    if k'=k/\cF es g o n=true/\ix<n then
     match es[o+ix]? with
     |some e=>
      if off+sz<=k then
       some (h.set i (.row k E (es.set (o+ix) (eR (over e.cells off x.cells) e)) g (fl&&aK 0 x.cells) false))
      else none
     |none=>none
    else none
   |_=>none
  |_=>none
 else none
def gI(h:List Ob)(k:Nat)(E:TypeId)(bytes:Nat)(x:AV)(ys:List AV)(fY:Bool):R:=
 match x with
 |.list true k' es=>
  if(es.length+ys.length)*bytes<=2^47/\(k'=k\/es=[])then
   match ys with
   |[]=>.val x h
   |_::_=>.val (.sl h.length 0 (es.length+ys.length)) (h++[.row k E (es++ys) none fY false])
  else .bad
 |.sl i off n=>
  match h[i]? with
  |some (.row k' E' es g fl sh)=>
   if k'=k/\E'=E/\cF es g off n=true/\(n+ys.length)*bytes<=2^47 then
    if off+n=es.length then
     .val (.sl i off (n+ys.length)) (h.set i (.row k E (es++ys) (if ys.isEmpty then g else some off) (fl&&fY) sh))
    else if off+n+ys.length<=es.length/\sh=false then
     .val (.sl i off (n+ys.length)) (h.set i (.row k E (es.take (off+n)++ys++es.drop (off+n+ys.length)) g (fl&&fY) false))
    else .bad
   else .bad
  |_=>.bad
 |_=>.bad
def eT(b:UInt8):AV:=.int .u8 b.toNat
def Bl:AV->Option UInt8
 |.int .u8 n=>some (UInt8.ofNat n.toNat)
 |_=>none
def oP:List AV->Option (List UInt8)
 |[]=>some []
 |a::as=>
  match Bl a,oP as with
  |some b,some bs=>some (b::bs)
  |_,_=>none
def bound(t:List AV)(d:Nat):Option AX->Option Nat
 |none=>some d
 |some x=>match ax t x with
  |.int _ n=>if 0<=n then some n.toNat else none
  |_=>none
def rY(cells:List AV):List (Nat×Nat×AV)->Option (List AV)
 |[]=>some cells
 |(off,sz,v)::r=>if v.ok=true/\v.cells.length=sz/\off+sz<=cells.length then rY (over cells off v.cells) r else none
def mZ(k:Nat)(es:List AV):List (Nat×AV)->Option (List AV)
 |[]=>some es
 |(i,v)::r=>if i<es.length/\v.cells.length=k/\bV v.cells=true then mZ k (es.set i v) r else none
def lE:AV->List AV->Option AV
 |.int k a,.int j b::r=>if k=j then lE (.int k (if b<a then b else a)) r else none
 |.int k a,[]=>some (.int k a)
 |_,_=>none
def pr:AV->List AV->Option AV
 |.int k a,.int j b::r=>if k=j then pr (.int k (if a<b then b else a)) r else none
 |.int k a,[]=>some (.int k a)
 |_,_=>none
def nD(h:List Ob):List (Nat×AV)->Option (List (Nat×AV)×List Ob)
 |[]=>some ([],h)
 |(i,v)::r=>
  match view h v with
  |some v'=>
   match nD (share (rowsOf v) h) r with
   |some (ps,h')=>some ((i,v')::ps,h')
   |none=>none
  |none=>none
def ee(n:Nat):AV->AV×List Ob
 |.own k E es=>(.sl n 0 es.length,[.row k E es none true false])
 |a=>(a,[])
def bY(n:Nat):List AV->List AV×List Ob
 |[]=>([],[])
 |a::as=>((ee n a).1::(bY (n+(ee n a).2.length) as).1,(ee n a).2++(bY (n+(ee n a).2.length) as).2)
def dH(n:Nat):AV->AV×List Ob
 |.aH vs=>(.aH (bY n vs).1,(bY n vs).2)
 |a=>ee n a
def dv(t:List AV):Option (Nat×Bool)->Option Bool
 |none=>some true
 |some (j,b)=>match t.getD j .undef with
  |.bool x=>some (x==b)
  |.aH []=>some false
  |_=>none
def fU(P:Program)(t:TypeId):Option Bool:=(P.underlying t).map fun|.struct _|.array _ _=>true|_=>false
def bu(P:Program)(t:TypeId):Option Nat:=(P.info? t).map (·.size)
def Bt(P:Program)(t:TypeId)(f:FuncId)(ptr:Bool):Option (FuncId×Option (Bool×Nat)):=match P.underlying t with
 |some (.pointer e)=>if ptr then some (f,none)else match fU P e,bu P e with
  |some a,some s=>some (f,some (a,s))
  |_,_=>none
 |some (.interface _)=>none
 |some _=>if ptr then none else some (f,none)
 |none=>none
def lX(P:Program)(t:TypeId)(name:String):Option (FuncId×Option (Bool×Nat)):=match P.info? t with
 |some i=>match i.methods.find? (·.name==name)with
  |some m=>match m.func with
   |some (f,ptr)=>if m.path.isEmpty then Bt P t f ptr else none
   |none=>none
  |none=>none
 |none=>none
def ar(P:Program)(f:FuncId):Bool:=match P.funcs[f]? with
 |some fn=>fn.body.isSome&&fn.name != "runtime.NumGoroutine"
 |none=>false
def m4(P:Program)(Γ:Nat->Option AV)(h:List Ob)(ty:TypeId)(name:String)(v:AV)(args:List AV):R:=
 match lX P ty name with
 |some (f,none)=>.call f (v::args)
 |some (f,some (agg,sz))=>match v with
  |.ptr i o=>match o_ Γ h agg sz (.ptr i o)with
   |some x=>.call f (x::args)
   |none=>.bad
  |_=>.bad
 |none=>.bad
def aw(P:Program)(Γ:Nat->Option AV)(t:List AV)(h:List Ob):AO->R
 |.mv x=>.val (ax t x) h
 |.bE k E=>.val (.sl h.length 0 0) (h++[.row k E [] none true false])
 |.pick c a b=>match ax t c with
  |.bool true=>.val (ax t a) h
  |.bool false=>.val (ax t b) h
  |_=>.bad
 |.alloc z=>.val (.ptr h.length 0) (h++.cells (bY (h.length+1) z).1::(bY (h.length+1) z).2)
 |.box n x=>if(ax t x).cells.length=n/\bV (ax t x).cells=true then .val (.ptr h.length 0) (h++[.cells (ax t x).cells])else .bad
 |.build z parts=>match rY z (parts.map fun p=>(p.1,p.2.1,ax t p.2.2))with
  |some cs=>.val (.agg cs) h
  |none=>.bad
 |.lit k zs parts=>match nD h (parts.map fun p=>(p.1,ax t p.2))with
  |some (ps,h')=>match mZ k zs ps with
   |some es=>if cg es k=true then .val (.list true k es) h' else .bad
   |none=>.bad
  |none=>.bad
 |.load agg sz a=>match o_ Γ h agg sz (ax t a)with
  |some v=>.val v h
  |none=>.bad
 |.store sz a x=>match uv h sz (ax t a) (ax t x)with
  |some h'=>.skip h'
  |none=>.bad
 |.cr x=>match ax t x with
  |.ptr i o=>.val (.ptr i o) h
  |.cZ a k i o=>.val (.cZ a k i o) h
  |.dU i o=>.val (.dU i o) h
  |.fn (.func f) a b=>.val (.fn (.func f) a b) h
  |.bW ty v=>.val (.bW ty v) h
  |_=>.bad
 |.bB op x y=>match ax t x,ax t y with
  |.int k a,.int j b=>if k=j\/op=.shl\/op=.shr then(match gv op k a b with
   |some n=>.val (.int k n) h
   |none=>.bad)else .bad
  |_,_=>.bad
 |.cmp op e x y=>match e with
  |.sc .int=>match ax t x,ax t y with
   |.int k a,.int j b=>if k=j then .val (.bool (mh op a b)) h else .bad
   |_,_=>.bad
  |e=>match op with
   |.eql=>match b_ e (ax t x) (ax t y)with
    |some b=>.val (.bool b) h
    |none=>.bad
   |.neq=>match b_ e (ax t x) (ax t y)with
    |some b=>.val (.bool !b) h
    |none=>.bad
   |_=>.bad
 |.concat x y=>match ax t x,ax t y with
  |.str a,.str b=>if a.length+b.length<=2^47 then .val (.str (a++b)) h else .bad
  |_,_=>.bad
 |.not x=>match ax t x with
  |.bool b=>.val (.bool !b) h
  |_=>.bad
 |.neg x=>match ax t x with
  |.int k n=>.val (.int k (k.wrap (0-n))) h
  |_=>.bad
 |.Gx x=>match ax t x with
  |.int k n=>.val (.int k (k.wrap ((BitVec.ofInt k.bits (if k.signed then-1 else k.max))^^^(BitVec.ofInt k.bits n)).toNat)) h
  |_=>.bad
 |.conv k x=>match ax t x with
  |.int _ n=>.val (.int k (k.wrap n)) h
  |_=>.bad
 |.same x=>match ax t x with
  |.str s=>.val (.str s) h
  |_=>.bad
 |.jq neg x=>match nR (ax t x)with
  |some (_+1)=>.val (.bool neg) h
  |some 0=>.either
  |none=>.bad
 |.mark x=>match ax t x with
  |.sl i o n=>match h[i]? with
   |some (.row 1 _ es none _ _)=>if n=0\/o≠0\/n≠es.length then .bad else .val (.sl i o n) h
   |_=>.bad
  |_=>.bad
 |.wI E x=>match ax t x with
  |.str s=>if s.length<=2^47 then .val (.sl h.length 0 s.length) (h++[.row 1 E (s.map eT) none true false])else .bad
  |_=>.bad
 |.toStr x=>match elems h (ax t x)with
  |some es=>match oP es with
   |some s=>.val (.str s) h
   |none=>.bad
  |none=>.bad
 |.lg ty x=>.val (.bW ty (ax t x)) h
 |.fH f a b=>.val (.fn f (a.map (ax t)) (b.map (ax t))) h
 |.mkMap=>.val (.mp h.length) (h++[.map [] true])
 |.mkSlice k E bytes z n c=>match ax t n,ax t c with
  |.int _ n,.int _ c=>if 0<=n/\n=c/\c*bytes<=2^47/\c<=2^47 then .val (.sl h.length 0 n.toNat) (h++[.row k E (List.replicate n.toNat z) none true false])else .bad
  |_,_=>.bad
 |.AF x lo hi=>match ax t x with
  |.str s=>match bound t 0 lo,bound t s.length hi with
   |some l,some u=>if l<=u/\u<=s.length then .val (.str ((s.take u).drop l)) h else .bad
   |_,_=>.bad
  |_=>.bad
 |.slice k x lo hi=>match ax t x with
  |.list f k' es=>match bound t 0 lo,bound t es.length hi with
   |some l,some u=>if l<=u/\u<=es.length/\(k'=k\/es=[])then .val (.list (f&&u==es.length) k' ((es.take u).drop l)) h else .bad
   |_,_=>.bad
  |.sl i off n=>match bound t 0 lo,bound t n hi with
   |some l,some u=>if l<=u/\u<=n then(match h[i]? with
    |some (.row k' _ es g _ _)=>if k'=k/\cF es g off n=true then .val (.sl i (off+l) (u-l)) h else .bad
    |_=>.bad)else .bad
   |_,_=>.bad
  |_=>.bad
 |.slice3 k x lo hi mx=>match view h (ax t x)with
  |some (.list _ k' es)=>match bound t 0 lo,bound t 0 (some hi),bound t 0 (some mx)with
   |some l,some u,some m=>if l<=u/\u<=es.length/\m=u/\(k'=k\/es=[])then .val (.list true k' ((es.take u).drop l)) (share (rowsOf (ax t x)) h)else .bad
   |_,_,_=>.bad
  |_=>.bad
 |.off n x=>match ax t x with
  |.ptr i o=>.val (.ptr i (o+n)) h
  |.cZ a k i o=>.val (.cZ a k i (o+n)) h
  |.dU g o=>.val (.dU g (o+n)) h
  |_=>.bad
 |.H7 agg off sz x=>match ax t x with
  |.agg cs=>match l_ agg sz off cs with
   |some v=>.val v h
   |none=>.bad
  |_=>.bad
 |.g_ k x i=>match nR (ax t x),ax t i with
  |some m,.int _ n=>if 0<=n/\n<m then .val (.cZ (ax t x) k n.toNat 0) h else .bad
  |_,_=>.bad
 |.eB len k x i=>match ax t i with
  |.int _ n=>if 0<=n/\n<len then(match ax t x with
   |.ptr j o=>.val (.ptr j (o+n.toNat*k)) h
   |.cZ a k' j o=>.val (.cZ a k' j (o+n.toNat*k)) h
   |.dU g o=>.val (.dU g (o+n.toNat*k)) h
   |_=>.bad)else .bad
  |_=>.bad
 |.sa x i=>match ax t x,ax t i with
  |.str s,.int _ n=>if 0<=n then(match s[n.toNat]? with
   |some b=>.val (eT b) h
   |none=>.bad)else .bad
  |_,_=>.bad
 |.GC len agg k x i=>match ax t x,ax t i with
  |.agg cs,.int _ n=>if 0<=n/\n<len then(match l_ agg k (n.toNat*k) cs with
   |some v=>.val v h
   |none=>.bad)else .bad
  |_,_=>.bad
 |.lookup e z x i ok=>
  let es:=match ax t x with
   |.c_=>some []
   |.db ks vs=>some (ks.zip vs)
   |.mp j=>match h[j]? with
    |some (.map es _)=>some es
    |_=>none
   |_=>none
  match es with
  |some es=>if isKey e (ax t i)=false then .bad else match eD e (ax t i) es with
   |some (some v)=>.val (if ok then .aH [v,.bool true]else v) h
   |some none=>.val (if ok then .aH [z,.bool false]else z) h
   |none=>.bad
  |none=>.bad
 |.bG e m k x=>match ax t m with
  |.mp j=>match h[j]? with
   |some (.map es fl)=>if isKey e (ax t k)=false then .bad else match h_ e (ax t k) (ax t x) es with
    |some es'=>.skip (h.set j (.map es' (fl&&aG 0 (ax t x))))
    |none=>.bad
   |_=>.bad
  |_=>.bad
 |.range x=>match ax t x with
  |.str s=>.val (.it h.length) (h++[.gK s 0])
  |_=>.bad
 |.next x=>match ax t x with
  |.it i=>match h[i]? with
   |some (.gK s pos)=>
    if pos<s.length then
     (let r:=Utf8.decode ⟨s.toArray⟩ pos
     .val (.aH [.bool true,.int .i64 pos,.int .i32 r.1]) (h.set i (.gK s (pos+r.2))))
    else .val (.aH [.bool false]) h
   |_=>.bad
  |_=>.bad
 |.rM x ty z ok=>match ax t x with
  |.bW u v=>if u=ty then .val (if ok then .aH [v,.bool true]else v) h
   else if ok then .val (.aH [z,.bool false]) h else .bad
  |.eh=>if ok then .val (.aH [z,.bool false]) h else .bad
  |_=>.bad
 |.extract x i=>match ax t x with
  |.aH vs=>match vs[i]? with
   |some v=>.val v h
   |none=>.bad
  |_=>.bad
 |.lS x=>match ax t x with
  |.str s=>.val (.int .i64 s.length) h
  |_=>.bad
 |.len x=>match ax t x with
  |.list _ _ es=>.val (.int .i64 es.length) h
  |.sl _ _ n=>.val (.int .i64 n) h
  |_=>.bad
 |.cap x=>match ax t x with
  |.list true _ es=>.val (.int .i64 es.length) h
  |_=>.bad
 |.Gl n=>.val (.int .i64 n) h
 |.uq x=>match ax t x with
  |.c_=>.val (.int .i64 0) h
  |.db ks _=>.val (.int .i64 ks.length) h
  |.mp j=>match h[j]? with
   |some (.map es _)=>.val (.int .i64 es.length) h
   |_=>.bad
  |_=>.bad
 |.append k E bytes x y=>match ax t y with
  |.list _ k' es=>if k'=k\/es=[]then gI h k E bytes (ax t x) es true else .bad
  |.sl i o n=>match jP h (.sl i o n),h[i]? with
   |some (k',es),some (.row _ _ _ _ fl _)=>if k'=k then gI h k E bytes (ax t x) es fl else .bad
   |_,_=>.bad
  |.str s=>if k=1 then gI h 1 E bytes (ax t x) (s.map eT) true else .bad
  |_=>.bad
 |.p8 k E bytes z x n=>match ax t n with
  |.int _ n=>if 0<=n/\n<=2^47 then gI h k E bytes (ax t x) (List.replicate n.toNat z) true else .bad
  |_=>.bad
 |.delete e m k=>match ax t m with
  |.mp j=>match h[j]? with
   |some (.map es fl)=>if isKey e (ax t k)=false then .bad else match ma e (ax t k) es with
    |some es'=>.val (.aH []) (h.set j (.map es' fl))
    |none=>.bad
   |_=>.bad
  |_=>.bad
 |.clear k z x=>match ax t x with
  |.sl i off n=>match h[i]? with
   |some (.row k' E es none fl false)=>if k'=k/\off+n<=es.length then .val (.aH []) (h.set i (.row k E (es.take off++List.replicate n z++es.drop (off+n)) none fl false))else .bad
   |_=>.bad
  |_=>.bad
 |.min xs=>match xs.map (ax t)with
  |a::r=>match lE a r with
   |some v=>.val v h
   |none=>.bad
  |[]=>.bad
 |.max xs=>match xs.map (ax t)with
  |a::r=>match pr a r with
   |some v=>.val v h
   |none=>.bad
  |[]=>.bad
 |.recover=>.qH
 |.panic x=>match ax t x with
  |.bW ty v=>.c8 (.bW ty v)
  |_=>.bad
 |.call f args=>match ax t f with
  |.fn (.func n) a b=>.call n (a++args.map (ax t)++b)
  |.fn (.methodOf ty name) a b=>match a++args.map (ax t),b with
   |r::as,[]=>m4 P Γ h ty name r as
   |_,_=>.bad
  |.cV l=>.yield l (args.map (ax t))
  |_=>.bad
 |.invoke x name args=>match ax t x with
  |.bW ty v=>m4 P Γ h ty name v (args.map (ax t))
  |_=>.bad
 |.defer f args=>match ax t f with
  |.fn (.func n) a b=>.bx n (a++args.map (ax t)++b)
  |_=>.bad
inductive It where
 |code (c:ah)
 |inBlock (id:Nat) (mask:List Bool)
 |inLoop (mask:List Bool) (c:ah)
 |ops (os:List AG)
 |jm (l:Nat)
 |tX (l:Nat)
 |beginRound
 deriving Inhabited
inductive dn where
 |call (f:FuncId) (args:List AV)
 |mark (i:Nat)
 deriving Inhabited
inductive Md where
 |run
 |ret
 |c8 (v:AV) (rc:Bool)
 deriving Inhabited
inductive FK where
 |norm
 |bx
 |round (l:Nat)
 deriving DecidableEq,Inhabited
structure Fr where
 md:Md
 fn:FuncId
 its:List It
 t:List AV
 ds:List dn
 kind:FK
 base:Nat
 deriving Inhabited
inductive aq where
 |fr (f:Fr) (up:List Fr) (h:List Ob)
 |cl (f:FuncId) (args:List AV) (up:List Fr) (h:List Ob)
 |back (up:List Fr) (v:AV) (h:List Ob)
 |die (up:List Fr) (v:AV) (h:List Ob)
 |bad
 deriving Inhabited
def aY(t:List AV):Option Nat->AV->List AV
 |some d,v=>t.set d v
 |none,_=>t
def dd:List Bool->List AV->List AV
 |true::ms,a::as=>a::dd ms as
 |false::ms,_::as=>.undef::dd ms as
 |[],as=>as
 |_,[]=>[]
def jR(t:List AV):List Nat->List AV->List AV
 |p::ps,a::as=>jR (t.set p a) ps as
 |_,_=>t
def nN(id:Nat):List It->Option (List It×List Bool)
 |.inBlock i m::k=>if i=id then some (k,m)else nN id k
 |_::k=>nN id k
 |[]=>none
def enter(f:FuncId)(F:aA)(args:List AV)(kind:FK)(h:List Ob):Fr:=
 {md:=.run,fn:=f,its:=[.code F.body],t:=args++List.replicate (F.nt-args.length) .undef,ds:=[],kind,base:=h.length}
def Fr.finish(f:Fr)(v:AV):Option Fr:=
 match f.its with
 |.ops (o::os)::k=>some {f with its:=.ops os::k,t:=aY f.t o.dst v}
 |.jm l::k=>some {f with its:=.tX l::k}
 |_=>none
def uf(Γ:Nat->Option AV)(t:List AV)(h:List Ob):pg->Option AV
 |.tmp i=>some (t.getD i .undef)
 |.cell a agg sz=>o_ Γ h agg sz (t.getD a .undef)
def rH(Γ:Nat->Option AV)(t:List AV)(h:List Ob):List pg->Option (List AV)
 |[]=>some []
 |r::rs=>
  match uf Γ t h r,rH Γ t h rs with
  |some v,some vs=>some (v::vs)
  |_,_=>none
def Am(Γ:Nat->Option AV)(t:List AV)(h:List Ob)(rs:List pg):Option AV:=
 match rH Γ t h rs with
 |some [v]=>some v
 |some vs=>some (.aH vs)
 |none=>none
def leave(f:Fr)(up:List Fr)(h:List Ob)(j:Jump):aq:=
 match f.kind with
 |.round l=>match h[l]? with
  |some (.loop _ _ fn t ps a b)=>.back up (.bool (j==.none)) (h.set l (.loop (if j=.none then .ready else .done) j fn t ps a b))
  |_=>.bad
 |_=>match j with
  |.exit _=>.bad
  |_=>.fr {f with md:=.ret} up h
def uz(f:Fr)(up:List Fr):Option (AV×List Fr):=
 match f.kind with
 |.bx=>match up with
  |c::rest=>match c.md with
   |.c8 v false=>some (v,{c with md:=.c8 v true}::rest)
   |_=>some (.eh,up)
  |[]=>some (.eh,up)
 |.norm=>some (.eh,up)
 |.round _=>none
def fq(P:Program)(f:Fr)(up:List Fr)(h:List Ob)(o:AG)(os:List AG)(k:List It):R->aq
 |.val v h'=>.fr {f with its:=.ops os::k,t:=aY f.t o.dst v} up h'
 |.skip h'=>.fr {f with its:=.ops os::k,t:=aY f.t o.dst (.aH [])} up h'
 |.c8 v=>.fr {f with md:=.c8 v false} up h
 |.call g args=>if ar P g=true then .cl g args (f::up) h else .bad
 |.qH=>match uz f up with
  |some (v,up')=>.fr {f with its:=.ops os::k,t:=aY f.t o.dst v} up' h
  |none=>.bad
 |.bx g args=>match f.kind with
  |.round _=>.bad
  |_=>.fr {f with its:=.ops os::k,t:=aY f.t o.dst (.aH []),ds:=.call g args::f.ds} up h
 |.yield l args=>match h[l]? with
  |some (.loop _ _ fi t ps a b)=>
   if args.length=ps.length then
    .fr {md:=.run,fn:=fi,its:=[.code a,.beginRound,.code b],t:=jR t ps args,ds:=[],kind:=.round l,base:=h.length} (f::up) h
   else .bad
  |_=>.bad
 |.either=>.fr f up h
 |.bad=>.bad
def gZ(P:Program)(Γ:Nat->Option AV)(f:Fr)(up:List Fr)(h:List Ob):List It->aq
 |.code .skip::k=>.fr {f with its:=k} up h
 |.code (.ae os)::k=>.fr {f with its:=.ops os::k} up h
 |.code (.aQ _ _ _)::_=>.bad
 |.code (.fj _ _)::_=>.bad
 |.code (.seq a b)::k=>.fr {f with its:=.code a::.code b::k} up h
 |.code (.cond x a b)::k=>match ax f.t x with
  |.bool v=>.fr {f with its:=.code (if v then a else b)::k} up h
  |_=>.bad
 |.code (.block id m b)::k=>.fr {f with its:=.code b::.inBlock id m::k} up h
 |.inBlock _ m::k=>.fr {f with its:=k,t:=dd m f.t} up h
 |.code (.loop m b)::k=>.fr {f with its:=.code b::.inLoop m b::k,t:=dd m f.t} up h
 |.inLoop m b::k=>.fr {f with its:=.code b::.inLoop m b::k,t:=dd m f.t} up h
 |.code (.exit id)::k=>match nN id k with
  |some (k',m)=>.fr {f with its:=k',t:=dd m f.t} up h
  |none=>leave f up h (.exit id)
 |.code .ret::_=>leave f up h .ret
 |[]=>leave f up h .none
 |.code .bad::_=>.bad
 |.ops []::k=>.fr {f with its:=k} up h
 |.ops (o::os)::k=>match dv f.t o.guard with
  |some true=>fq P f up h o os k (aw P Γ f.t h o.op)
  |some false=>.fr {f with its:=.ops os::k,t:=aY f.t o.dst (.aH [])} up h
  |none=>.bad
 |.code (.rangeFunc x ps m a b)::k=>match ax f.t x with
  |.fn (.func g) fs cs=>if ar P g=false then .bad else match f.kind with
   |.round _=>
    .cl g (fs++.cV h.length::cs) ({f with its:=.jm h.length::k}::up) (h++[.loop .ready .none f.fn (dd m f.t) ps a b])
   |_=>
    .cl g (fs++.cV (h.length+1)::cs) ({f with its:=.jm (h.length+1)::k,ds:=.mark h.length::f.ds}::up)
     (h++[.bx true,.loop .ready .none f.fn (dd m f.t) ps a b])
  |_=>.bad
 |.jm _::_=>.bad
 |.beginRound::k=>match f.kind with
  |.round l=>match h[l]? with
   |some (.loop .ready j fn t ps a b)=>.fr {f with its:=k} up (h.set l (.loop .busy j fn t ps a b))
   |_=>.bad
  |_=>.bad
 |.tX l::k=>match h[l]? with
  |some (.loop st j fn t ps a b)=>
   if st=.busy then .bad
   else .fr {f with its:=(match j with|.none=>k|.ret=>.code .ret::k|.exit id=>.code (.exit id)::k)} up (h.set l (.loop .exhausted j fn t ps a b))
  |_=>.bad
def fT(n:Nat):List (AV×AV)->Bool
 |[]=>true
 |(a,b)::r=>aG n a&&aG n b&&fT n r
def gA(n:Nat):Ob->Bool
 |.cells cs=>aK n cs
 |.row _ _ es _ fl _=>fl||aK n es
 |.map es _=>fT n es
 |.loop _ _ _ t _ _ _=>aK n t
 |_=>true
def cE(n:Nat):List Ob->Bool
 |[]=>true
 |o::os=>gA n o&&cE n os
def jY(n:Nat):List dn->Bool
 |[]=>true
 |.call _ args::ds=>aK n args&&jY n ds
 |.mark i::ds=>decide (i<n)&&jY n ds
def fS(n:Nat):List It->Bool
 |[]=>true
 |.jm l::k=>decide (l<n)&&fS n k
 |.tX l::k=>decide (l<n)&&fS n k
 |_::k=>fS n k
mutual
def iJ(i m:Nat):AV->Bool
 |.sl j off n=>!(j==i)||off+n==m
 |.cZ a _ _ _=>iJ i m a
 |.agg cs=>cY i m cs
 |.aH cs=>cY i m cs
 |.fn _ a b=>cY i m a&&cY i m b
 |.bW _ v=>iJ i m v
 |.db ks vs=>aK 0 ks&&aK 0 vs
 |_=>true
def cY(i m:Nat):List AV->Bool
 |[]=>true
 |a::as=>iJ i m a&&cY i m as
end
def m6(i m:Nat):List (AV×AV)->Bool
 |[]=>true
 |(a,b)::r=>iJ i m a&&iJ i m b&&m6 i m r
def lB(i m:Nat):Ob->Bool
 |.cells cs=>cY i m cs
 |.row _ _ es _ fl _=>fl||cY i m es
 |.map es _=>m6 i m es
 |.loop _ _ _ t _ _ _=>cY i m t
 |_=>true
def cH(i m:Nat):List Ob->Bool
 |[]=>true
 |o::os=>lB i m o&&cH i m os
def n3(i m:Nat):List dn->Bool
 |[]=>true
 |.call _ args::ds=>cY i m args&&n3 i m ds
 |.mark _::ds=>n3 i m ds
def oW(h:List Ob)(all:List Nat):AV->Option AV
 |.sl i off n=>
  match h[i]? with
  |some (.row k E es g true sh)=>
   if cF es g off n=true then
    if off=0/\n=es.length/\sh=false/\all.count i=1 then some (.own k E es)else some (.list false k ((es.drop off).take n))
   else none
  |_=>none
 |.list f k es=>some (.list f k es)
 |a=>view h a
def jD(h:List Ob)(all:List Nat):List AV->Option (List AV)
 |[]=>some []
 |a::as=>
  match oW h all a,jD h all as with
  |some a',some as'=>some (a'::as')
  |_,_=>none
def sq(h:List Ob):AV->Option AV
 |.aH vs=>(jD h (bN vs) vs).map .aH
 |a=>oW h (rowsOf a) a
mutual
def dV:AV->Bool
 |.list _ _ es=>es.isEmpty
 |.db _ _=>false
 |.own _ _ es=>ew es
 |.agg cs=>ew cs
 |.aH cs=>ew cs
 |.fn _ a b=>ew a&&ew b
 |.bW _ v=>dV v
 |.cZ a _ _ _=>dV a
 |_=>true
def ew:List AV->Bool
 |[]=>true
 |a::as=>dV a&&ew as
end
def ga(h:List Ob)(args:List AV)(r:AV):List Ob:=
 (if dV r=true then h else share (bN args) h)++(dH h.length r).2
def di:AO->Nat
 |.load _ _ _|.slice _ _ _ _|.toStr _|.lookup _ _ _ _ _|.uq _=>1
 |.bE _ _|.alloc _|.box _ _|.lit _ _ _|.store _ _ _|.wI _ _|.mkMap|.mkSlice _ _ _ _ _ _|.slice3 _ _ _ _ _|.bG _ _ _ _|.range _|.next _
 |.append _ _ _ _ _|.p8 _ _ _ _ _ _|.delete _ _ _|.clear _ _ _|.mark _|.call _ _|.invoke _ _ _=>2
 |.recover|.panic _|.defer _ _|.jq _ _=>3
 |_=>0
def fG:AO->Bool
 |.call _ _|.invoke _ _ _=>true
 |_=>false
def jG(q:Bool)(o:AO):Nat:=if q&&fG o then 1 else di o
inductive jf where
 |fn (f:FuncId)
 |yl (l:Nat)
 deriving Inhabited
def jf.cfg:jf->List AV->List Fr->List Ob->aq
 |.fn f,args,up,h=>.cl f args up h
 |.yl l,args,up,h=>match h[l]? with
  |some (.loop _ _ fi t ps a b)=>
   if args.length=ps.length then
    .fr {md:=.run,fn:=fi,its:=[.code a,.beginRound,.code b],t:=jR t ps args,ds:=[],kind:=.round l,base:=h.length} up h
   else .bad
  |_=>.bad
def jf.ok(P:Program):jf->Bool
 |.fn f=>ar P f
 |.yl _=>true
def R.BV:R->Option (jf×List AV)
 |.call f as=>some (.fn f,as)
 |.yield l as=>some (.yl l,as)
 |_=>none
structure fW where
 f:jf
 args:List AV
 h:List Ob
 v:AV
 h':List Ob
 deriving Inhabited
def gR(P:Program)(Γ:Nat->Option AV):List (AV×List Ob)->List AG->List AV->List Ob->Option (List AV×List Ob×List fW×List (List Ob))
 |_,[],t,h=>some (t,h,[],[])
 |orc,o::os,t,h=>
  match dv t o.guard with
  |some true=>
   match aw P Γ t h o.op with
   |.val v h'=>(gR P Γ orc os (aY t o.dst v) h').map fun r=>(r.1,r.2.1,r.2.2.1,h'::r.2.2.2)
   |.skip h'=>(gR P Γ orc os (aY t o.dst (.aH [])) h').map fun r=>(r.1,r.2.1,r.2.2.1,h'::r.2.2.2)
   |.call f args=>if ar P f=false then none else match orc with
    |(v,h')::orc=>(gR P Γ orc os (aY t o.dst v) h').map fun r=>(r.1,r.2.1,⟨.fn f,args,h,v,h'⟩::r.2.2.1,h'::r.2.2.2)
    |[]=>none
   |.yield l args=>match orc with
    |(v,h')::orc=>(gR P Γ orc os (aY t o.dst v) h').map fun r=>(r.1,r.2.1,⟨.yl l,args,h,v,h'⟩::r.2.2.1,h'::r.2.2.2)
    |[]=>none
   |_=>none
  |some false=>(gR P Γ orc os (aY t o.dst (.aH [])) h).map fun r=>(r.1,r.2.1,r.2.2.1,h::r.2.2.2)
  |none=>none
def calm(P:Program)(Γ:Nat->Option AV)(obls:List fW)(hs:List (List Ob)):List Bool->List Nat->List (AV×List Ob)->List AG->List AV->List Ob->Prop
 |_,_,_,[],_,_=>True
 |l,ws,orc,o::os,t,h=>
  match dv t o.guard with
  |some true=>
   match aw P Γ t h o.op with
   |.val v h'=>(l.headD true=true->di o.op=1->∀g∈hs.take (ws.headD 0),aw P Γ t g o.op=.val v g)/\calm P Γ obls hs l.tail ws.tail orc os (aY t o.dst v) h'
   |.skip h'=>calm P Γ obls hs l.tail ws.tail orc os (aY t o.dst (.aH [])) h'
   |.call f args=>match orc with
    |(v,h')::orc=>(l.headD true=true->h'=h/\∀g∈hs.take (ws.headD 0),aw P Γ t g o.op=.call f args/\⟨.fn f,args,g,v,g⟩∈obls)/\calm P Γ obls hs l.tail ws.tail orc os (aY t o.dst v) h'
    |[]=>False
   |.yield _ _=>match orc with
    |(v,h')::orc=>l.headD true=false/\calm P Γ obls hs l.tail ws.tail orc os (aY t o.dst v) h'
    |[]=>False
   |_=>False
  |some false=>calm P Γ obls hs l.tail ws.tail orc os (aY t o.dst (.aH [])) h
  |none=>False
def au:Operand->AX
 |.tmp t=>.t t
 |.const v=>.c (fP v)
 |.global g=>.g g
 |.func f=>.f f
def lu(P:Program)(t:TypeId):Option Nat:=(P.info? t).map (·.bytes)
def dL(P:Program)(t:TypeId):Option AV:=((P.info? t).bind (·.zero)).map fP
def kE(P:Program)(t:TypeId):Option TypeId:=match P.underlying t with|some (.slice e)=>some e|_=>none
def j3(k:Nat)(z:AV):Bool:=decide (z.cells.length=k)&&bV z.cells&&aK 0 z.cells
def Bf(P:Program):Nat->TypeId->Option (List AV)
 |0,_=>none
 |n+1,t=>match P.underlying t with
  |some (.slice e)=>match bu P e with
   |some (k+1)=>some [.own (k+1) e []]
   |_=>none
  |some (.struct fs)=>(fs.toList.mapM fun f=>Bf P n f.type).map List.flatten
  |some (.array k e)=>(Bf P n e).map fun c=>(List.replicate k c).flatten
  |_=>(dL P t).map AV.cells
def AZ:AV->Value->AV
 |.own (k+1) E [],.slice none 0 0=>.own (k+1) E []
 |_,v=>jQ v
def pt:List AV->List Value->Option (List AV)
 |[],[]=>some []
 |a::as,v::vs=>(pt as vs).map (AZ a v::·)
 |_,_=>none
def kq(P:Program)(t:TypeId):Option SK:=if P.cellsOf t==1 then(match P.underlying t with
 |some (.int _)=>some .int
 |some .string=>some .str
 |some .bool=>some .bool
 |_=>none)else none
def r8(P:Program):Nat->List Field->Option (List SK)
 |_,[]=>some []
 |i,f::fs=>match kq P f.type,r8 P (i+1) fs with
  |some s,some ss=>if f.name != "_" &&f.offset==i then some (s::ss)else none
  |_,_=>none
def uA(P:Program)(t:TypeId):Option (List SK):=match P.underlying t with
 |some (.struct fs)=>if !P.stoodInHeld t then r8 P 0 fs.toList else none
 |some (.array n e)=>(kq P e).map fun s=>List.replicate n s
 |_=>none
def iv(P:Program)(t:TypeId):Option EK:=match kq P t with
 |some s=>some (.sc s)
 |none=>(uA P t).map .iE
def oT(P:Program)(t:TypeId):Option EK:=match kq P t with
 |some s=>some (.sc s)
 |none=>match P.underlying t with
  |some (.struct _)|some (.array _ _)=>if !P.eqGuardType P.depth t then(uA P t).map .iE else none
  |some (.interface _)=>some .iface
  |some (.func _ _ _)=>some .nil
  |_=>none
def qA:BinOp->Option CK
 |.eql=>some .eql|.neq=>some .neq|.lss=>some .lss|.leq=>some .leq|.gtr=>some .gtr|.geq=>some .geq
 |_=>none
def GY:BinOp->Option IB
 |.add=>some .add|.sub=>some .sub|.mul=>some .mul|.quo=>some .quo|.rem=>some .rem|.and=>some .and
 |.or=>some .or|.xor=>some .xor|.andNot=>some .andNot|.shl=>some .shl|.shr=>some .shr
 |_=>none
def placeOf(P:Program)(t:TypeId)(i:Nat):Option (Nat×Nat):=match P.underlying t with
 |some (.struct fs)=>match fs[i]? with
  |some f=>(bu P f.type).map fun s=>(f.offset,s)
  |none=>none
 |some (.array _ e)=>(bu P e).map fun s=>(i*s,s)
 |_=>none
def wD(P:Program)(t:TypeId):Bool:=match P.underlying t with
 |some (.struct fs)=>fs.toList.all fun f=>(bu P f.type).isSome
 |some (.array _ e)=>(bu P e).isSome
 |_=>false
def oY(P:Program)(t:TypeId)(ps:List (Nat×Operand)):Option (List (Nat×Nat×AX)):=
 ps.mapM fun(i,x)=>(placeOf P t i).map fun(o,s)=>(o,s,au x)
def l5(P:Program)(c:Call):Option AO:=match c.callee with
 |.value f=>some (.call (au f) (c.args.toList.map au))
 |.invoke x name=>some (.invoke (au x) name (c.args.toList.map au))
 |.builtin b=>
  match b,c.args.toList,c.argTypes.toList with
  |.len,[x],[t]=>match P.underlying t with
   |some .string=>some (.lS (au x))
   |some (.slice _)=>some (.len (au x))
   |some (.array n _)=>some (.Gl n)
   |some (.map _ _)=>some (.uq (au x))
   |_=>none
  |.cap,[x],[t]=>match P.underlying t with
   |some (.slice _)=>some (.cap (au x))
   |_=>none
  |.append,[x,y],[t,u]=>do
   let e<-kE P t
   let k<-bu P e
   let b<-lu P e
   let z<-dL P e
   if k=0\/b=0\/j3 k z=false then none
   match P.underlying u with
   |some (.int _)=>some (.p8 k e b z (au x) (au y))
   |some _=>some (.append k e b (au x) (au y))
   |none=>none
  |.delete,[m,k],[t,_]=>match P.underlying t with
   |some (.map key _)=>(iv P key).map fun e=>.delete e (au m) (au k)
   |_=>none
  |.clear,[x],[t]=>do
   let e<-kE P t
   let k<-bu P e
   let z<-dL P e
   if k=0\/j3 k z=false then none
   some (.clear k z (au x))
  |.min,xs,_=>some (.min (xs.map au))
  |.max,xs,_=>some (.max (xs.map au))
  |.recover,[],_=>some .recover
  |_,_,_=>none
def bO(P:Program)(o:Oper):Option AO:=match o.op with
 |.move x=>some (.mv (au x))
 |.assign x=>match x with
  |.const (.slice none 0 0)=>do
   let e<-kE P o.type
   let k<-bu P e
   if k=0 then none
   some (.bE k e)
  |_=>some (.mv (au x))
 |.pick c a b=>some (.pick (au c) (au a) (au b))
 |.alloc t=>do
  let z<-(P.info? t).bind (·.zero)
  some (.alloc (<-pt (<-Bf P 8 t) z.cells.toList))
 |.box t x=>do some (.box (<-bu P t) (au x))
 |.build t ps=>do
  let z<-dL P t
  if wD P t then some (.build z.cells (<-oY P t ps.toList))else none
 |.buildSlice t n ps=>do
  let e<-kE P t
  let k<-bu P e
  let z<-dL P e
  if k=0\/n*k>2^24\/j3 k z=false then none
  some (.lit k (List.replicate n z) (ps.toList.map fun(i,x)=>(i,au x)))
 |.load t a=>do some (.load (<-fU P t) (<-bu P t) (au a))
 |.store t a x=>do some (.store (<-bu P t) (au a) (au x))
 |.nilCheck x=>some (.cr (au x))
 |.binOp op t x y _=>match P.underlying t with
  |some (.int _)=>match qA op with
   |some c=>some (.cmp c (.sc .int) (au x) (au y))
   |none=>(GY op).map fun b=>.bB b (au x) (au y)
  |some .string=>if op=.add then some (.concat (au x) (au y))else match qA op,oT P t with
   |some c,some e=>some (.cmp c e (au x) (au y))
   |_,_=>none
  |some (.slice _)=>match op,x,y with
   |.eql,x,.const (.slice none 0 0)=>some (.jq false (au x))
   |.neq,x,.const (.slice none 0 0)=>some (.jq true (au x))
   |_,_,_=>none
  |_=>match qA op,oT P t with
   |some c,some e=>some (.cmp c e (au x) (au y))
   |_,_=>none
 |.unOp op _ x=>match op with
  |.not=>some (.not (au x))
  |.neg=>some (.neg (au x))
  |.xor=>some (.Gx (au x))
  |.plus=>none
 |.convert s d x=>match P.underlying s,P.underlying d with
  |some (.int _),some (.int k)=>some (.conv k (au x))
  |some .string,some .string=>some (.same (au x))
  |some .string,some (.slice e)=>match P.underlying e with
   |some (.int .u8)=>if bu P e=some 1 then some (.wI e (au x))else none
   |_=>none
  |some (.slice _),some (.slice e)=>match P.underlying e with
   |some (.int .u8)=>if s=d then some (.mark (au x))else none
   |_=>none
  |some (.slice e),some .string=>match P.underlying e with
   |some (.int .u8)=>some (.toStr (au x))
   |_=>none
  |_,_=>none
 |.makeInterface t x=>match P.underlying t with
  |some (.interface _)|none=>none
  |_=>some (.lg t (au x))
 |.makeFunc f a b=>some (.fH f (a.toList.map au) (b.toList.map au))
 |.makeMap t none=>match P.underlying t with
  |some (.map _ _)=>some .mkMap
  |_=>none
 |.makeSlice t n c=>do
  let e<-kE P t
  let k<-bu P e
  let z<-dL P e
  if k=0\/j3 k z=false then none
  some (.mkSlice k e (<-lu P e) z (au n) (au c))
 |.slice t x lo hi none=>match P.underlying t with
  |some .string=>some (.AF (au x) (lo.map au) (hi.map au))
  |some (.slice e)=>match bu P e with
   |some (k+1)=>some (.slice (k+1) (au x) (lo.map au) (hi.map au))
   |_=>none
  |_=>none
 |.slice t x lo (some hi) (some mx)=>match P.underlying t with
  |some (.slice e)=>match bu P e with
   |some (k+1)=>some (.slice3 (k+1) (au x) (lo.map au) (au hi) (au mx))
   |_=>none
  |_=>none
 |.fieldAddr t x i=>match P.underlying t with
  |some (.struct fs)=>match fs[i]? with
   |some f=>match bu P f.type with
    |some (_+1)=>some (.off f.offset (au x))
    |_=>none
   |none=>none
  |_=>none
 |.field t x i=>match P.underlying t with
  |some (.struct fs)=>match fs[i]? with
   |some f=>do some (.H7 (<-fU P f.type) f.offset (<-bu P f.type) (au x))
   |none=>none
  |_=>none
 |.indexAddr t x i=>match P.underlying t with
  |some (.slice e)=>match bu P e with
   |some (k+1)=>some (.g_ (k+1) (au x) (au i))
   |_=>none
  |some (.array n e)=>match bu P e with
   |some (k+1)=>some (.eB n (k+1) (au x) (au i))
   |_=>none
  |_=>none
 |.index t x i=>match P.underlying t with
  |some .string=>some (.sa (au x) (au i))
  |some (.array n e)=>do some (.GC n (<-fU P e) (<-bu P e) (au x) (au i))
  |_=>none
 |.lookup t x i ok=>match P.underlying t with
  |some (.map k e)=>do some (.lookup (<-iv P k) (<-dL P e) (au x) (au i) ok)
  |_=>none
 |.mapUpdate t m k x|.insert t m k x=>match P.underlying t with
  |some (.map key _)=>(iv P key).map fun e=>.bG e (au m) (au k) (au x)
  |_=>none
 |.range t x=>match P.underlying t with
  |some .string=>some (.range (au x))
  |_=>none
 |.next x true=>some (.next (au x))
 |.typeAssert x _ t ok=>match P.underlying t with
  |some (.interface _)|none=>none
  |_=>do some (.rM (au x) t (<-dL P t) ok)
 |.extract x i=>some (.extract (au x) i)
 |.call c=>l5 P c
 |.defer c=>match c.callee with
  |.value f=>some (.defer (au f) (c.args.toList.map au))
  |_=>none
 |.panic x=>some (.panic (au x))
 |_=>none
def Ba(ops:List Oper)(o:Oper):Option (Option (Nat×Bool)):=match o.guard with
 |none=>some none
 |some (j,b)=>match(ops[j]?).bind (·.dst)with
  |some d=>some (some (d,b))
  |none=>none
def na(P:Program)(ops:List Oper)(o:Oper):Option AG:=do
 let g<-Ba ops o
 some ⟨o.dst,g,<-bO P o⟩
def dW:AX->List Nat
 |.t i=>[i]
 |_=>[]
def kp:AO->List Nat
 |.mv x|.box _ x|.load _ _ x|.cr x|.not x|.neg x|.Gx x|.conv _ x|.same x|.jq _ x|.mark x|.wI _ x|.toStr x|.lg _ x|.off _ x|.H7 _ _ _ x
 |.range x|.next x|.rM x _ _ _|.extract x _|.len x|.lS x|.cap x|.uq x|.clear _ _ x|.panic x=>dW x
 |.pick c a b|.bG _ c a b=>dW c++dW a++dW b
 |.build _ ps=>ps.flatMap fun p=>dW p.2.2
 |.lit _ _ ps=>ps.flatMap fun p=>dW p.2
 |.store _ a x|.bB _ a x|.cmp _ _ a x|.concat a x|.g_ _ a x|.eB _ _ a x|.sa a x|.GC _ _ _ a x|.lookup _ _ a x _|.append _ _ _ a x
 |.p8 _ _ _ _ a x|.delete _ a x|.mkSlice _ _ _ _ a x=>dW a++dW x
 |.fH _ a b=>a.flatMap dW++b.flatMap dW
 |.AF x lo hi|.slice _ x lo hi=>dW x++(lo.map dW).getD []++(hi.map dW).getD []
 |.slice3 _ x lo hi mx=>dW x++(lo.map dW).getD []++dW hi++dW mx
 |.min xs|.max xs=>xs.flatMap dW
 |.call f xs|.defer f xs=>dW f++xs.flatMap dW
 |.invoke x _ xs=>dW x++xs.flatMap dW
 |.alloc _|.bE _ _|.mkMap|.Gl _|.recover=>[]
def rK(g:AG):List Nat:=(g.guard.map fun x=>[x.1]).getD []++kp g.op
def PA(b:Array Nat)(i j:Nat):Bool:=if j<i then(b.getD i 0).testBit j else(b.getD j 0).testBit i
def quietAt(b:Array Nat)(gs:List AG)(i:Nat):Bool:=
 match gs[i]? with
 |none=>false
 |some gi=>fG gi.op&&(List.range gs.length).any fun j=>
  match gs[j]? with
  |none=>false
  |some gj=>di gj.op==2&&!fG gj.op&&!PA b i j
def lU(qi qj:Bool)(gi gj:AG)(kQ:Bool):Bool:=
 (gi.dst.isNone||gi.dst !=gj.dst)&&
 (kQ||((match gj.dst with|some d=>!(rK gi).contains d|none=>true)&&(match gi.dst with|some d=>!(rK gj).contains d|none=>true)&&
  !(jG qi gi.op==2&&jG qj gj.op==2)))
def ui(ops:Array Oper)(gs:List AG):Bool:=
 let b:=Region.before ops
 (List.range gs.length).all fun i=>
  match gs[i]? with
  |none=>false
  |some gi=>di gi.op !=3&&(List.range i).all fun j=>
   match gs[j]? with
   |none=>false
   |some gj=>lU (quietAt b gs i) (quietAt b gs j) gi gj ((b.getD i 0).testBit j)
def looseAt(b:Array Nat)(gs:List AG)(i:Nat):Bool:=
 match gs[i]? with
 |none=>true
 |some gi=>if fG gi.op then quietAt b gs i else di gi.op==1&&(List.range gs.length).any fun j=>
  match gs[j]? with
  |none=>true
  |some gj=>jG (quietAt b gs j) gj.op==2&&!PA b i j
def lV(ops:Array Oper)(gs:List AG):List Bool:=(List.range gs.length).map (looseAt (Region.before ops) gs)
def Bx(b:Array Nat)(gs:List AG)(i:Nat):Nat:=
 ((List.range gs.length).find? fun j=>decide (i<j)&&(match gs[j]? with
  |none=>false
  |some gj=>jG (quietAt b gs j) gj.op==2&&(b.getD j 0).testBit i)).getD gs.length+1
def uI(ops:Array Oper)(gs:List AG):List Nat:=(List.range gs.length).map (Bx (Region.before ops) gs)
def nF(ops:Array Oper):Bool:=ops.toList.zipIdx.all fun x=>x.1.after.all fun e=>!Region.binds .any e||decide (e.on<x.2)
def wR(P:Program)(ops:Array Oper)(gs:List AG):Bool:=ui ops gs&&nF ops&&(P.follows .mixedOrders||!Region.departs ops)
def mU(ops:Array Oper):List (List Nat):=ops.toList.map fun o=>(o.after.toList.filter (Region.binds .any)).map (·.on)
def fe(P:Program):Code->ah
 |.skip|.label _=>.skip
 |.region _ ops draw=>match ops.toList.mapM (na P ops.toList)with
  |some gs=>if draw then(if wR P ops gs then .aQ (lV ops gs) (uI ops gs) gs else if nF ops&&(P.follows .mixedOrders||!Region.departs ops)then .fj (mU ops) gs else .bad)else .ae gs
  |none=>.bad
 |.seq a b=>.seq (fe P a) (fe P b)
 |.cond c a b=>.cond (au c) (fe P a) (fe P b)
 |.block id c=>.block id [] (fe P c)
 |.loop c=>.loop [] (fe P c)
 |.exit id=>.exit id
 |.ret=>.ret
 |.rangeFunc f ps a b=>.rangeFunc (au f) ps.toList [] (fe P a) (fe P b)
 |.scope _|.goto _|.refuse _=>.bad
def ins(x:Nat)(l:List Nat):List Nat:=if l.contains x then l else x::l
def sf(xs l:List Nat):List Nat:=xs.foldl (fun l x=>ins x l) l
def Nq:List AG->List Nat->List Nat
 |[],out=>out
 |o::os,out=>
  let l:=Nq os out
  let l:=match o.dst with
   |some d=>l.filter (· !=d)
   |_=>l
  sf ((o.guard.map fun g=>[g.1]).getD []) (sf (kp o.op) l)
def live(rs:List Nat):ah->List (Nat×List Nat)->List Nat->List Nat
 |.skip,_,out=>out
 |.ae os,_,out|.aQ _ _ os,_,out|.fj _ os,_,out=>Nq os out
 |.seq a b,E,out=>live rs a E (live rs b E out)
 |.cond x a b,E,out=>sf (dW x) (sf (live rs a E out) (live rs b E out))
 |.block id _ c,E,out=>live rs c ((id,out)::E) out
 |.loop _ c,E,_=>
  let x:=live rs c E []
  let x:=live rs c E x
  live rs c E x
 |.rangeFunc f ps _ a b,_,out=>
  sf (dW f) (sf ((live rs a [] (live rs b [] rs)).filter fun s=>!ps.contains s) (sf rs out))
 |.exit id,E,_=>(E.lookup id).getD rs
 |.ret,_,_=>rs
 |.bad,_,_=>[]
def Gj(nt:Nat)(x:List Nat):List Bool:=(List.range nt).map x.contains
def abp:ah->Bool
 |.loop _ _=>true
 |_=>false
def fM(rs:List Nat)(nt:Nat):ah->List (Nat×List Nat)->List Nat->ah
 |.seq a b,E,out=>.seq (fM rs nt a E (live rs b E out)) (fM rs nt b E out)
 |.cond x a b,E,out=>.cond x (fM rs nt a E out) (fM rs nt b E out)
 |.block id _ c,E,out=>.block id (if abp c then Gj nt out else[]) (fM rs nt c ((id,out)::E) out)
 |.loop _ c,E,out=>
  let x:=live rs (.loop [] c) E out
  .loop (Gj nt x) (fM rs nt c E x)
 |.rangeFunc f ps _ a b,_,_=>
  let x:=live rs b [] rs
  .rangeFunc f ps (Gj nt ((live rs a [] x).filter fun s=>!ps.contains s)) (fM rs nt a [] x) (fM rs nt b [] rs)
 |c,_,_=>c
def nQ(P:Program):ResultVar->Option pg
 |.tmp t=>some (.tmp t)
 |.cell a t=>do some (.cell a (<-fU P t) (<-bu P t))
def Z7:pg->Nat
 |.tmp t=>t
 |.cell a _ _=>a
def az(P:Program)(f:FuncId):Option aA:=do
 let fn<-P.funcs[f]?
 let b<-fn.body
 let rs<-fn.results.toList.mapM (nQ P)
 let sl:=rs.map Z7
 some {body:=fM sl fn.ntmps (fe P b) [] sl,nt:=fn.ntmps,res:=rs}
def mM(P:Program)(Γ:Nat->Option AV)(f:Fr)(up:List Fr)(h:List Ob):aq:=
 match f.ds with
 |.mark i::ds=>match h[i]? with
  |some (.bx true)=>.fr {f with ds} up (h.set i (.bx false))
  |_=>.bad
 |.call g args::ds=>if ar P g=false then .bad else match az P g with
  |some F=>.fr (enter g F args .bx h) ({f with ds}::up) h
  |none=>.bad
 |[]=>match f.md with
  |.run=>.bad
  |.c8 v rc=>if rc then .bad else .die up v h
  |.ret=>match az P f.fn with
   |some F=>match Am Γ f.t h F.res with
    |some v=>match f.kind with
     |.norm=>.back up v h
     |.bx=>match up with
      |c::rest=>match c.md with
       |.c8 _ true=>.fr {c with md:=.ret} rest h
       |.c8 _ false=>.fr c rest h
       |.ret=>.fr c rest h
       |.run=>.bad
      |[]=>.bad
     |.round _=>.bad
    |none=>.bad
   |none=>.bad
def fg(P:Program)(Γ:Nat->Option AV):aq->aq
 |.fr f up h=>match f.md with
  |.run=>gZ P Γ f up h f.its
  |_=>mM P Γ f up h
 |.cl g args up h=>match az P g with
  |some F=>.fr (enter g F args .norm h) up h
  |none=>.bad
 |.back (c::up) v h=>match c.finish v with
  |some c'=>.fr c' up h
  |none=>.bad
 |.back [] v h=>.back [] v h
 |.die (c::up) v h=>match c.md with
  |.run=>.fr {c with md:=.c8 v false} up h
  |_=>.bad
 |.die [] v h=>.die [] v h
 |.bad=>.bad
end Go.AM
namespace Go.AM
open Go.RowKit
structure G where
 ρ:Nat->Option (Nat×Nat×Nat)
 M:Nat->Nat->Option Value
 MM:Nat->Option (Array MapEntry×Nat)
def Cz(g:G)(h:List Ob)(i off n:Nat)(v:Value):Prop:=
 ∃k E es gr fl sh,h[i]? =some (.row k E es gr fl sh)/\off+n<=es.length/\∃a cap,v=.slice a n cap/\n<=cap/\(0<n->∃b o,a=some ⟨b,o,none⟩)/\
  (cF es gr off n=true->es.length<=off+cap/\(
   (n=0/\cap=0)\/∃b sz st,g.ρ i=some (b,sz,st)/\st<=off/\a=some ⟨b,(off-st)*k,none⟩/\((off-st)+cap)*k<=sz))
def isCells(h:List Ob)(i:Nat):Prop:=∃vs,h[i]? =some (.cells vs)
def isMap(h:List Ob)(i:Nat):Prop:=∃es fl,h[i]? =some (.map es fl)
def Oo(h:List Ob)(i:Nat):Prop:=∃s p,h[i]? =some (.gK s p)
def Gk(h:List Ob)(i:Nat):Prop:=∃st j fn t ps a b,h[i]? =some (.loop st j fn t ps a b)
def Bz:Value->Option Addr
 |.slice a _ _=>a
 |_=>none
mutual
def V(g:G)(h:List Ob):AV->Value->Prop
 |.undef,_=>True
 |.bool b,v=>v=.bool b
 |.int k n,v=>v=.int k n
 |.str s,v=>v=.string ⟨s.toArray⟩
 |.i_,v=>v=.pointer none
 |.c_,v=>v=.map none
 |.df,v=>v=.nilFunc
 |.eh,v=>v=.nilIface
 |.list full k es,v=>cg es k=true/\∃a cap,v=.slice a es.length cap/\(full=true->cap=es.length)/\es.length<=cap/\
  (es=[]\/∃b o vs,a=some ⟨b,o,none⟩/\VE g h es vs/\∀j(hj:j<vs.length),g.M b (o+j)=some vs[j])
 |.own _ _ _,_=>False
 |.sl i off n,v=>Cz g h i off n v
 |.cZ a k ix off,v=>∃u b o,V g h a u/\Bz u=some ⟨b,o,none⟩/\(∃m,nR a=some m/\ix<m)/\v=.pointer (some ⟨b,o+ix*k+off,none⟩)
 |.ptr i off,v=>isCells h i/\∃b sz,g.ρ i=some (b,sz,0)/\v=.pointer (some ⟨b,off,none⟩)
 |.dU n off,v=>v=.pointer (some ⟨n,off,none⟩)
 |.mp i,v=>isMap h i/\∃b sz,g.ρ i=some (b,sz,0)/\v=.map (some b)
 |.db ks us,v=>∃b es ck,v=.map (some b)/\g.MM b=some (es,ck)/\VL g h ks (es.toList.map (·.key))/\VL g h us (es.toList.map (·.val))
 |.it i,v=>Oo h i/\∃b sz,g.ρ i=some (b,sz,0)/\v=.pointer (some ⟨b,0,none⟩)
 |.cV i,v=>Gk h i/\∃b sz,g.ρ i=some (b,sz,0)/\v=.func (.yield b) #[] #[]
 |.agg cs,v=>∃vs,v=.agg vs.toArray/\VL g h cs vs
 |.aH cs,v=>∃vs,v=.tuple vs.toArray/\VL g h cs vs
 |.fn f a b,v=>∃xs ys,v=.func f xs.toArray ys.toArray/\VL g h a xs/\VL g h b ys
 |.bW t a,v=>∃x,v=.iface t x/\V g h a x
def VL(g:G)(h:List Ob):List AV->List Value->Prop
 |[],vs=>vs=[]
 |a::as,vs=>∃v vs',vs=v::vs'/\V g h a v/\VL g h as vs'
def VE(g:G)(h:List Ob):List AV->List Value->Prop
 |[],vs=>vs=[]
 |e::es,vs=>∃v vs',V g h e v/\vs=v.cells.toList++vs'/\VE g h es vs'
end
section
variable{g:G}{h:List Ob}
theorem fD:∀{as:List AV}{vs:List Value},VL g h as vs->vs.length=as.length
 |[],vs,hv=>by simp only[VL]at hv;simp[hv]
 |a::as,vs,hv=>by
  simp only[VL]at hv;obtain⟨v,vs',rfl,_,hr⟩:=hv;simp[fD hr]
theorem rW:∀{as:List AV}{vs:List Value}(i:Nat),VL g h as vs->V g h (as.getD i .undef) (vs.getD i undef)
 |[],vs,i,hv=>by simp[V]
 |a::as,vs,i,hv=>by
  simp only[VL]at hv;obtain⟨v,vs',rfl,h1,hr⟩:=hv
  cases i with
  |zero=>simpa using h1
  |succ i=>simpa using rW i hr
theorem qa:∀{as:List AV}{vs:List Value}{i:Nat}{a:AV},VL g h as vs->as[i]? =some a->∃v,vs[i]? =some v/\V g h a v
 |[],vs,i,a,hv,ha=>by simp at ha
 |b::as,vs,i,a,hv,ha=>by
  simp only[VL]at hv;obtain⟨v,vs',rfl,h1,hr⟩:=hv
  cases i with
  |zero=>simp at ha;subst ha;exact⟨v,by simp,h1⟩
  |succ i=>simp at ha;obtain⟨u,h2,h3⟩:=qa hr ha;exact⟨u,by simpa using h2,h3⟩
theorem oV:∀{as:List AV}{vs:List Value}(i:Nat){a:AV}{v:Value},VL g h as vs->V g h a v->VL g h (as.set i a) (vs.set i v)
 |[],vs,i,a,v,hv,ha=>by simp only[VL]at hv;simp[hv,VL]
 |b::as,vs,i,a,v,hv,ha=>by
  simp only[VL]at hv;obtain⟨u,vs',rfl,h1,hr⟩:=hv
  cases i with
  |zero=>simp only[u0,VL];exact⟨v,vs',rfl,ha,hr⟩
  |succ i=>simp only[pF,VL];exact⟨u,_,rfl,h1,oV i hr ha⟩
theorem kf:∀{as bs:List AV}{vs ws:List Value},VL g h as vs->VL g h bs ws->VL g h (as++bs) (vs++ws)
 |[],bs,vs,ws,hv,hw=>by simp only[VL]at hv;subst hv;simpa using hw
 |a::as,bs,vs,ws,hv,hw=>by
  simp only[VL]at hv;obtain⟨v,vs',rfl,h1,hr⟩:=hv;simp only[eP,VL];exact⟨v,vs'++ws,rfl,h1,kf hr hw⟩
theorem A8:∀{as:List AV}{vs:List Value}(n:Nat),VL g h as vs->VL g h (as.take n) (vs.take n)
 |[],vs,n,hv=>by simp only[VL]at hv;subst hv;simp[VL]
 |a::as,vs,n,hv=>by
  simp only[VL]at hv;obtain⟨v,vs',rfl,h1,hr⟩:=hv
  cases n with
  |zero=>simp[VL]
  |succ n=>simp only[I6,VL];exact⟨v,_,rfl,h1,A8 n hr⟩
theorem A4:∀{as:List AV}{vs:List Value}(n:Nat),VL g h as vs->VL g h (as.drop n) (vs.drop n)
 |[],vs,n,hv=>by simp only[VL]at hv;subst hv;simp[VL]
 |a::as,vs,n,hv=>by
  have hv0:=hv;simp only[VL]at hv;obtain⟨v,vs',rfl,h1,hr⟩:=hv
  cases n with
  |zero=>simpa using hv0
  |succ n=>simpa using A4 n hr
theorem oX{α:Type}{f:α->AV}{e:α->Value}(hf:∀x,V g h (f x) (e x)):∀(l:List α),VL g h (l.map f) (l.map e)
 |[]=>by simp[VL]
 |x::l=>by simp only[b9,VL];exact⟨_,_,rfl,hf x,oX hf l⟩
theorem M9:∀(n:Nat)(vs:List Value),vs.length=n->VL g h (List.replicate n .undef) vs
 |0,vs,hl=>by
  have:vs=[]:=kU.1 hl;simp[this,VL]
 |n+1,vs,hl=>by
  cases vs with
  |nil=>simp at hl
  |cons v vs=>simp only[kV,VL];exact⟨v,vs,rfl,by simp[V],M9 n vs (by simpa using hl)⟩
theorem oQ:∀(m:List Bool){as:List AV}{vs:List Value},VL g h as vs->VL g h (dd m as) vs
 |[],as,vs,hv=>by cases as<;>simpa[dd]using hv
 |_::_,[],vs,hv=>by simpa[dd]using hv
 |b::m,a::as,vs,hv=>by
  simp only[VL]at hv;obtain⟨v,vs',rfl,h1,hr⟩:=hv
  cases b
  ·simp only[dd,VL];exact⟨v,vs',rfl,by simp[V],oQ m hr⟩
  ·simp only[dd,VL];exact⟨v,vs',rfl,h1,oQ m hr⟩
theorem DL{a:AV}{v:Value}(ho:a.one=true)(hv:V g h a v):v.cells=#[v]:=by
 cases a<;>simp only[V,AV.one,eb]at hv ho
 case sl=>obtain⟨_,_,_,_,_,_,_,_,a,cap,rfl,_⟩:=hv;rfl
 case cZ=>obtain⟨_,_,_,_,_,_,rfl⟩:=hv;rfl
 case ptr=>obtain⟨_,_,_,_,rfl⟩:=hv;rfl
 case mp=>obtain⟨_,_,_,_,rfl⟩:=hv;rfl
 case db=>obtain⟨_,_,_,rfl,_⟩:=hv;rfl
 case it=>obtain⟨_,_,_,_,rfl⟩:=hv;rfl
 case cV=>obtain⟨_,_,_,_,rfl⟩:=hv;rfl
 case list=>obtain⟨_,_,_,rfl,_⟩:=hv;rfl
 case fn=>obtain⟨_,_,rfl,_⟩:=hv;rfl
 case bW=>obtain⟨_,rfl,_⟩:=hv;rfl
 all_goals (first|(subst hv;rfl)|exact hv.elim)
theorem Vx{a:AV}{v:Value}(ho:a.one=true)(hv:V g h a v):v.oneCell'=true:=by
 cases a<;>simp only[V,AV.one,eb]at hv ho
 case sl=>obtain⟨_,_,_,_,_,_,_,_,a,cap,rfl,_⟩:=hv;rfl
 case cZ=>obtain⟨_,_,_,_,_,_,rfl⟩:=hv;rfl
 case ptr=>obtain⟨_,_,_,_,rfl⟩:=hv;rfl
 case mp=>obtain⟨_,_,_,_,rfl⟩:=hv;rfl
 case db=>obtain⟨_,_,_,rfl,_⟩:=hv;rfl
 case it=>obtain⟨_,_,_,_,rfl⟩:=hv;rfl
 case cV=>obtain⟨_,_,_,_,rfl⟩:=hv;rfl
 case list=>obtain⟨_,_,_,rfl,_⟩:=hv;rfl
 case fn=>obtain⟨_,_,rfl,_⟩:=hv;rfl
 case bW=>obtain⟨_,rfl,_⟩:=hv;rfl
 all_goals (first|(subst hv;rfl)|exact hv.elim)
theorem oR{a:AV}{v:Value}(ho:a.ok=true)(hv:V g h a v):VL g h a.cells v.cells.toList:=by
 by_cases ha:∃cs,a=.agg cs
 ·obtain⟨cs,rfl⟩:=ha;simp only[V]at hv;obtain⟨vs,rfl,hl⟩:=hv;simpa[AV.cells,Value.cells]using hl
 ·have hc:a.cells=[a]:=by
   cases a<;>first|rfl|exact absurd ⟨_,rfl⟩ ha
  have h1:a.one=true:=by
   cases a<;>first|rfl|exact absurd ⟨_,rfl⟩ ha|simp[AV.ok]at ho
  rw[hc];rw[DL h1 hv];simp only[VL];exact⟨v,[],rfl,hv,rfl⟩
theorem pV{a:AV}(h:bV a.cells=true):a.ok=true:=by
 cases a<;>first|rfl|simp[AV.cells,bV,AV.one]at h
theorem Dp:∀{as:List AV}{vs:List Value},bV as=true->VL g h as vs->∀v∈vs,v.oneCell'=true
 |[],vs,_,hv=>by simp only[VL]at hv;subst hv;simp
 |a::as,vs,ho,hv=>by
  simp only[VL]at hv;obtain⟨v,vs',rfl,h1,hr⟩:=hv;simp only[bV,av]at ho;intro u hu
  rcases bt.1 hu with rfl|hu
  ·exact Vx ho.1 h1
  ·exact Dp ho.2 hr u hu
end
structure Ext(n:Nat)(g:G)(h:List Ob)(g':G)(h':List Ob):Prop where
 M:∀b o v,g.M b o=some v->g'.M b o=some v
 MM:∀b x,g.MM b=some x->g'.MM b=some x
 cells:∀i vs,i<n->h[i]? =some (.cells vs)->(∃vs',h'[i]? =some (.cells vs'))/\∀x,g.ρ i=some x->g'.ρ i=some x
 map:∀i es fl,i<n->h[i]? =some (.map es fl)->(∃es' fl',h'[i]? =some (.map es' fl'))/\∀x,g.ρ i=some x->g'.ρ i=some x
 iter:∀i s p,i<n->h[i]? =some (.gK s p)->(∃s' p',h'[i]? =some (.gK s' p'))/\∀x,g.ρ i=some x->g'.ρ i=some x
 loop:∀i st j fn t ps a b,i<n->h[i]? =some (.loop st j fn t ps a b)->(∃st' j',h'[i]? =some (.loop st' j' fn t ps a b))/\∀x,g.ρ i=some x->g'.ρ i=some x
 bx:∀i l,i<n->h[i]? =some (.bx l)->(∃l',h'[i]? =some (.bx l'))/\∀x,g.ρ i=some x->g'.ρ i=some x
 row:∀i k E es gr fl sh,i<n->h[i]? =some (.row k E es gr fl sh)->∃E' es' gr' fl' sh',h'[i]? =some (.row k E' es' gr' fl' sh')/\es.length<=es'.length/\
  ∀off m,off+m<=es.length->cF es' gr' off m=true->cF es gr off m=true/\es'.length=es.length/\∀x,g.ρ i=some x->g'.ρ i=some x
theorem Ext.refl(n:Nat)(g:G)(h:List Ob):Ext n g h g h:=
 ⟨fun _ _ _ x=>x,fun _ _ x=>x,fun _ _ _ x=>⟨⟨_,x⟩,fun _ x=>x⟩,fun _ _ _ _ x=>⟨⟨_,_,x⟩,fun _ x=>x⟩,fun _ _ _ _ x=>⟨⟨_,_,x⟩,fun _ x=>x⟩,
  fun _ _ _ _ _ _ _ _ _ x=>⟨⟨_,_,x⟩,fun _ x=>x⟩,fun _ _ _ x=>⟨⟨_,x⟩,fun _ x=>x⟩,
  fun _ _ _ _ _ _ _ _ x=>⟨_,_,_,_,_,x,aU _,fun _ _ _ h=>⟨h,rfl,fun _ x=>x⟩⟩⟩
theorem Ext.mono{n m:Nat}{g g':G}{h h':List Ob}(a:Ext n g h g' h')(hm:m<=n):Ext m g h g' h':=
 ⟨a.M,a.MM,fun i vs hi=>a.cells i vs (by omega),fun i es fl hi=>a.map i es fl (by omega),fun i s p hi=>a.iter i s p (by omega),
  fun i st j fn t ps x y hi=>a.loop i st j fn t ps x y (by omega),fun i l hi=>a.bx i l (by omega),fun i k E es gr fl sh hi=>a.row i k E es gr fl sh (by omega)⟩
theorem Ext.trans{n:Nat}{g g' g'':G}{h h' h'':List Ob}(a:Ext n g h g' h')(b:Ext n g' h' g'' h''):Ext n g h g'' h'':=by
 refine⟨fun _ _ _ x=>b.M _ _ _ (a.M _ _ _ x),fun _ _ x=>b.MM _ _ (a.MM _ _ x),?_,?_,?_,?_,?_,?_⟩
 ·intro i vs hn hi;obtain⟨⟨vs',h1⟩,r1⟩:=a.cells i vs hn hi;obtain⟨h2,r2⟩:=b.cells i vs' hn h1;exact⟨h2,fun x hx=>r2 x (r1 x hx)⟩
 ·intro i es fl hn hi;obtain⟨⟨es',fl',h1⟩,r1⟩:=a.map i es fl hn hi;obtain⟨h2,r2⟩:=b.map i _ _ hn h1;exact⟨h2,fun x hx=>r2 x (r1 x hx)⟩
 ·intro i es fl hn hi;obtain⟨⟨es',fl',h1⟩,r1⟩:=a.iter i es fl hn hi;obtain⟨h2,r2⟩:=b.iter i _ _ hn h1;exact⟨h2,fun x hx=>r2 x (r1 x hx)⟩
 ·intro i st j fn t ps x y hn hi;obtain⟨⟨st',j',h1⟩,r1⟩:=a.loop i st j fn t ps x y hn hi;obtain⟨h2,r2⟩:=b.loop i _ _ _ _ _ _ _ hn h1;exact⟨h2,fun x hx=>r2 x (r1 x hx)⟩
 ·intro i l hn hi;obtain⟨⟨l',h1⟩,r1⟩:=a.bx i l hn hi;obtain⟨h2,r2⟩:=b.bx i _ hn h1;exact⟨h2,fun x hx=>r2 x (r1 x hx)⟩
 ·intro i k E es gr fl sh hn hi;obtain⟨E',es',gr',fl',sh',h1,l1,q1⟩:=a.row i _ _ _ _ _ _ hn hi;obtain⟨E'',es'',gr'',fl'',sh'',h2,l2,q2⟩:=b.row i _ _ _ _ _ _ hn h1;refine⟨E'',es'',gr'',fl'',sh'',h2,qO l1 l2,?_⟩;intro off m hom hok;obtain⟨x2,l2',r2⟩:=q2 off m (by omega) hok;obtain⟨x1,l1',r1⟩:=q1 off m hom x2;exact⟨x1,l2'.trans l1',fun x hx=>r2 x (r1 x hx)⟩
theorem aaa{n:Nat}{g g':G}{h h':List Ob}(x:Ext n g h g' h'){i off m:Nat}(hb:i<n){v:Value}(hv:Cz g h i off m v):Cz g' h' i off m v:=by
 obtain⟨k,E,es,gr,fl,sh,hi,hle,a,cap,rfl,hc,hn,hq⟩:=hv;obtain⟨E',es',gr',fl',sh',h1,hl,q⟩:=x.row i _ _ _ _ _ _ hb hi;refine⟨k,E',es',gr',fl',sh',h1,qO hle hl,a,cap,rfl,hc,hn,fun hr=>?_⟩;obtain⟨hr0,hll,hρ⟩:=q _ _ hle hr;obtain⟨hlc,hq⟩:=hq hr0;refine⟨by omega,?_⟩
 rcases hq with h0|⟨b,sz,st,h2,h3⟩
 ·exact Or.inl h0
 ·exact Or.inr ⟨b,sz,st,hρ _ h2,h3⟩
mutual
theorem fJ{n:Nat}{g g':G}{h h':List Ob}(x:Ext n g h g' h'):∀{a:AV}{v:Value},aG n a=true->V g h a v->V g' h' a v
 |.undef,_,_,_=>by simp[V]
 |.bool _,_,_,hv=>by simpa only [V]using hv
 |.int _ _,_,_,hv=>by simpa only [V]using hv
 |.str _,_,_,hv=>by simpa only [V]using hv
 |.i_,_,_,hv=>by simpa only [V]using hv
 |.c_,_,_,hv=>by simpa only [V]using hv
 |.df,_,_,hv=>by simpa only [V]using hv
 |.eh,_,_,hv=>by simpa only [V]using hv
 |.dU _ _,_,_,hv=>by simpa only [V]using hv
 |.list full k es,v,hb,hv=>by
  simp only[V]at hv⊢;obtain⟨hk,a,cap,rfl,hf,hc,h1⟩:=hv;refine⟨hk,a,cap,rfl,hf,hc,?_⟩
  rcases h1 with h1|⟨b,o,vs,rfl,he,hm⟩
  ·exact Or.inl h1
  ·refine Or.inr ⟨b,o,vs,rfl,fF x ?_ he,fun j hj=>x.M _ _ _ (hm j hj)⟩;exact iQ hk
 |.own _ _ _,_,_,hv=>by simp only[V]at hv
 |.sl _ _ _,_,hb,hv=>by
  simp only[aG,a_]at hb
  simp only[V]at hv⊢;exact aaa x hb hv
 |.cZ a _ _ _,_,hb,hv=>by
  simp only[V]at hv⊢;simp only[aG]at hb;obtain⟨u,b,o,h1,h2,h4,rfl⟩:=hv;exact⟨u,b,o,fJ x hb h1,h2,h4,rfl⟩
 |.ptr i _,_,hb,hv=>by
  simp only[V]at hv⊢;simp only[aG,a_]at hb;obtain⟨⟨vs,hi⟩,b,sz,hρ,rfl⟩:=hv;obtain⟨h1,h2⟩:=x.cells i vs hb hi;exact⟨h1,b,sz,h2 _ hρ,rfl⟩
 |.mp i,_,hb,hv=>by
  simp only[V]at hv⊢;simp only[aG,a_]at hb;obtain⟨⟨es,fl,hi⟩,b,sz,hρ,rfl⟩:=hv;obtain⟨h1,h2⟩:=x.map i es fl hb hi;exact⟨h1,b,sz,h2 _ hρ,rfl⟩
 |.db ks us,_,hb,hv=>by
  simp only[V]at hv⊢;obtain⟨b,es,ck,rfl,h1,h2,h3⟩:=hv;simp only[aG,av]at hb;exact⟨b,es,ck,rfl,x.MM _ _ h1,cw x hb.1 h2,cw x hb.2 h3⟩
 |.it i,_,hb,hv=>by
  simp only[V]at hv⊢;simp only[aG,a_]at hb;obtain⟨⟨es,fl,hi⟩,b,sz,hρ,rfl⟩:=hv;obtain⟨h1,h2⟩:=x.iter i es fl hb hi;exact⟨h1,b,sz,h2 _ hρ,rfl⟩
 |.cV i,_,hb,hv=>by
  simp only[V]at hv⊢;simp only[aG,a_]at hb;obtain⟨⟨st,j,fn,t,ps,p,q,hi⟩,b,sz,hρ,rfl⟩:=hv;obtain⟨⟨st',j',h1⟩,h2⟩:=x.loop i st j fn t ps p q hb hi;exact⟨⟨_,_,_,_,_,_,_,h1⟩,b,sz,h2 _ hρ,rfl⟩
 |.agg cs,_,hb,hv=>by
  simp only[V]at hv⊢;simp only[aG]at hb;obtain⟨vs,rfl,h1⟩:=hv;exact⟨vs,rfl,cw x hb h1⟩
 |.aH cs,_,hb,hv=>by
  simp only[V]at hv⊢;simp only[aG]at hb;obtain⟨vs,rfl,h1⟩:=hv;exact⟨vs,rfl,cw x hb h1⟩
 |.fn f a b,_,hb,hv=>by
  simp only[V]at hv⊢;simp only[aG,av]at hb;obtain⟨xs,ys,rfl,h1,h2⟩:=hv;exact⟨xs,ys,rfl,cw x hb.1 h1,cw x hb.2 h2⟩
 |.bW t a,_,hb,hv=>by
  simp only[V]at hv⊢;simp only[aG]at hb;obtain⟨y,rfl,h1⟩:=hv;exact⟨y,rfl,fJ x hb h1⟩
theorem cw{n:Nat}{g g':G}{h h':List Ob}(x:Ext n g h g' h'):∀{as:List AV}{vs:List Value},aK n as=true->VL g h as vs->VL g' h' as vs
 |[],_,_,hv=>by simpa only [VL]using hv
 |a::as,_,hb,hv=>by
  simp only[VL]at hv⊢;simp only[aK,av]at hb;obtain⟨v,vs',rfl,h1,h2⟩:=hv;exact⟨v,vs',rfl,fJ x hb.1 h1,cw x hb.2 h2⟩
theorem fF{n:Nat}{g g':G}{h h':List Ob}(x:Ext n g h g' h'):∀{as:List AV}{vs:List Value},aK n as=true->VE g h as vs->VE g' h' as vs
 |[],_,_,hv=>by simpa only [VE]using hv
 |a::as,_,hb,hv=>by
  simp only[VE]at hv⊢;simp only[aK,av]at hb;obtain⟨v,vs',h1,rfl,h2⟩:=hv;exact⟨v,vs',fJ x hb.1 h1,rfl,fF x hb.2 h2⟩
end
def CR(P:Program):Code->ah->Prop
 |_,.bad=>True
 |.skip,.skip=>True
 |.label _,.skip=>True
 |.region _ ops false,.ae gs=>ops.toList.mapM (na P ops.toList)=some gs
 |.region _ ops true,.aQ l ws gs=>ops.toList.mapM (na P ops.toList)=some gs/\wR P ops gs=true/\l=lV ops gs/\ws=uI ops gs
 |.region _ ops true,.fj as gs=>ops.toList.mapM (na P ops.toList)=some gs/\nF ops=true/\(P.follows .mixedOrders||!Region.departs ops)=true/\as=mU ops
 |.seq a b,.seq a' b'=>CR P a a'/\CR P b b'
 |.cond c a b,.cond x a' b'=>x=au c/\CR P a a'/\CR P b b'
 |.block id c,.block id' _ c'=>id=id'/\CR P c c'
 |.loop c,.loop _ c'=>CR P c c'
 |.rangeFunc f ps a b,.rangeFunc x qs _ a' b'=>x=au f/\qs=ps.toList/\CR P a a'/\CR P b b'
 |.exit i,.exit j=>i=j
 |.ret,.ret=>True
 |_,_=>False
theorem oK(P:Program):∀c:Code,CR P c (fe P c)
 |.skip=>by simp[fe,CR]
 |.label _=>by simp[fe,CR]
 |.region _ ops draw=>by
  simp only[fe]
  cases hm:ops.toList.mapM (na P ops.toList)with
  |none=>simp[CR]
  |some gs=>
   cases draw
   ·simp[CR,hm]
   ·by_cases ho:wR P ops gs=true
    ·simp[CR,hm,ho]
    ·by_cases he:(nF ops&&(P.follows .mixedOrders||!Region.departs ops))=true
     ·have he2:=he;rw[av]at he2;simp only[ho,he,cq,eb,c9,CR];exact⟨hm,he2.1,he2.2,trivial⟩
     ·simp[CR,ho,he]
 |.seq a b=>by simp only[fe,CR];exact⟨oK P a,oK P b⟩
 |.cond c a b=>by simp only[fe,CR];exact⟨trivial,oK P a,oK P b⟩
 |.block id c=>by simp only[fe,CR];exact⟨trivial,oK P c⟩
 |.loop c=>by simp only[fe,CR];exact oK P c
 |.rangeFunc f ps a b=>by simp only[fe,CR];exact⟨trivial,trivial,oK P a,oK P b⟩
 |.exit i=>by simp[fe,CR]
 |.ret=>by simp[fe,CR]
 |.scope _=>by simp[fe,CR]
 |.goto _=>by simp[fe,CR]
 |.refuse _=>by simp[fe,CR]
theorem oJ(P:Program)(rs:List Nat)(nt:Nat):∀(a:ah)(c:Code)(E:List (Nat×List Nat))(out:List Nat),CR P c a->CR P c (fM rs nt a E out)
 |.seq a b,c,E,out,h=>by cases c<;>simp only[CR,fM]at h⊢;exact⟨oJ P rs nt a _ _ _ h.1,oJ P rs nt b _ _ _ h.2⟩
 |.cond x a b,c,E,out,h=>by cases c<;>simp only[CR,fM]at h⊢;exact⟨h.1,oJ P rs nt a _ _ _ h.2.1,oJ P rs nt b _ _ _ h.2.2⟩
 |.block id m a,c,E,out,h=>by cases c<;>simp only[CR,fM]at h⊢;exact⟨h.1,oJ P rs nt a _ _ _ h.2⟩
 |.loop m a,c,E,out,h=>by cases c<;>simp only[CR,fM]at h⊢;exact oJ P rs nt a _ _ _ h
 |.rangeFunc f ps m a b,c,E,out,h=>by
  cases c<;>simp only[CR,fM]at h⊢
  exact⟨h.1,h.2.1,oJ P rs nt a _ _ _ h.2.2.1,oJ P rs nt b _ _ _ h.2.2.2⟩
 |.skip,c,E,out,h=>by simpa only [fM]using h
 |.ae _,c,E,out,h=>by simpa only [fM]using h
 |.aQ _ _ _,c,E,out,h=>by simpa only [fM]using h
 |.fj _ _,c,E,out,h=>by simpa only [fM]using h
 |.exit _,c,E,out,h=>by simpa only [fM]using h
 |.ret,c,E,out,h=>by simpa only [fM]using h
 |.bad,c,E,out,h=>by simpa only [fM]using h
def mj(c:Array Value)(fz:Nat×Nat):Prop:=fz.1=fz.2\/c.size<=fz.1
theorem mj.at{c:Array Value}{fz:Nat×Nat}(h:mj c fz){o:Nat}(ho:o<c.size):(fz.1<=o&&o<fz.2)=false:=by
 rcases h with h|h
 ·rw[h];by_cases h2:fz.2<=o<;>simp[h2]<;>omega
 ·have:¬fz.1<=o:=by omega
  simp[this]
def JR:Jump->Option Code->Prop
 |.none,c=>c=none
 |.ret,c=>c=some .ret
 |.exit id,c=>c=some (.exit id)
def OV(P:Program)(g:G)(h:List Ob)(w:World)(i:Nat):Ob->Prop
 |.gone=>True
 |.cells vs=>∀b sz st,g.ρ i=some (b,sz,st)->∃c E fz,w.heap[b]? =some (.cells c E fz)/\mj c fz/\VL g h vs c.toList
 |.row k _ es gr fl _=>0<k/\(∀e∈es,e.cells.length=k/\bV e.cells=true)/\(fl=true->cg es k=true)/\gr.getD 0<=es.length/\
  match g.ρ i with
  |none=>es=[]
  |some (b,sz,st)=>st<=gr.getD 0/\∃c E fz vs,w.heap[b]? =some (.cells c E fz)/\c.size=sz/\mj c fz/\VE g h (es.drop (gr.getD 0)) vs/\
   ∀j(hj:j<vs.length),c[(gr.getD 0-st)*k+j]? =some vs[j]
 |.map es fl=>(fl=true->aK 0 (es.map (·.2))=true)/\
  ∀b sz st,g.ρ i=some (b,sz,st)->∃ba ck,w.heap[b]? =some (.map ba ck)/\VL g h (es.map (·.1)) (ba.toList.map (·.key))/\VL g h (es.map (·.2)) (ba.toList.map (·.val))
 |.gK s p=>∀b sz st,g.ρ i=some (b,sz,st)->w.heap[b]? =some (.stringIter ⟨s.toArray⟩ p)
 |.loop st j fn t ps a b=>∀bk sz sta,g.ρ i=some (bk,sz,sta)->∃L:Loop,w.heap[bk]? =some (.loop L)/\L.state=st/\JR j L.pending/\L.fn=fn/\VL g h t L.tmps.toList/\
  L.params.toList=ps/\CR P L.assign a/\CR P L.body b/\∃F,P.funcs[fn]? =some F
 |.bx live=>∀b sz st,g.ρ i=some (b,sz,st)->w.heap[b]? =some (.deferred (if live then some []else none))
structure Env where
 K:Nat->Option Obj
 M0:Nat->Nat->Option Value
 MM:Nat->Option (Array MapEntry×Nat)
 w0:World
structure Inv(P:Program)(Γ:Nat->Option AV)(N:Env)(g:G)(h:List Ob)(w:World):Prop where
 os:w.os=N.w0.os
 tape:w.tape=N.w0.tape
 output:w.output=N.w0.output
 gu:∀b o,N.K b=some o->w.heap[b]? =some o
 own:∀i b x,g.ρ i=some (b,x)->N.K b=none/\b<w.heap.size
 inj:∀i j b x y,g.ρ i=some (b,x)->g.ρ j=some (b,y)->i=j
 oc:∀i,h.length<=i->g.ρ i=none
 mem:∀b o v,g.M b o=some v->w.cell? ⟨b,o,none⟩=some v
 mm:∀b es ck,g.MM b=some (es,ck)->w.heap[b]? =some (.map es ck)/\∀i x,g.ρ i≠some (b,x)
 ek:∀i b sz st o v,g.ρ i=some (b,sz,st)->g.M b o=some v->∃k E es gr fl,h[i]? =some (.row k E es gr fl true)/\o<(es.length-st)*k
 ob:∀i o,h[i]? =some o->OV P g h w i o
 kH:∀n a,Γ n=some a->aK 0 a.cells=true/\∃vs,VL g h a.cells vs/\∀j(hj:j<vs.length),g.M n j=some vs[j]
 mK:∀b o v B,g.M b o=some v->N.K b=some B->N.M0 b o=some v
 ja:g.MM=N.MM
theorem aV{α:Type}{l:List α}{i:Nat}{a:α}(h:l[i]? =some a):i<l.length:=by
 rcases kW i l.length with hi|hi
 ·exact hi
 ·simp[jJ hi]at h
mutual
theorem kC{g:G}{h:List Ob}:∀{a:AV}{v:Value},V g h a v->aG h.length a=true
 |.undef,_,_|.bool _,_,_|.int _ _,_,_|.str _,_,_|.i_,_,_|.c_,_,_|.df,_,_|.eh,_,_|.dU _ _,_,_=>rfl
 |.list _ _ es,_,hv=>by
  simp only[V]at hv;simp only[aG];exact iQ hv.1
 |.own _ _ _,_,hv=>by simp only[V]at hv
 |.sl i _ _,_,hv=>by
  simp only[V]at hv;obtain⟨_,_,_,_,_,_,hi,_⟩:=hv;simp only[aG,a_];exact aV hi
 |.cZ a _ _ _,_,hv=>by
  simp only[V]at hv;obtain⟨u,b,o,h1,_⟩:=hv
  simp only[aG];exact kC h1
 |.ptr i _,_,hv=>by
  simp only[V]at hv;obtain⟨⟨vs,hi⟩,_⟩:=hv
  simp only[aG,a_];exact aV hi
 |.mp i,_,hv=>by
  simp only[V]at hv;obtain⟨⟨_,_,hi⟩,_⟩:=hv
  simp only[aG,a_];exact aV hi
 |.it i,_,hv=>by
  simp only[V]at hv;obtain⟨⟨_,_,hi⟩,_⟩:=hv
  simp only[aG,a_];exact aV hi
 |.cV i,_,hv=>by
  simp only[V]at hv;obtain⟨⟨_,_,_,_,_,_,_,hi⟩,_⟩:=hv
  simp only[aG,a_];exact aV hi
 |.db _ _,_,hv=>by
  simp only[V]at hv;obtain⟨_,_,_,_,_,h1,h2⟩:=hv
  simp only[aG,av];exact⟨dk h1,dk h2⟩
 |.agg _,_,hv|.aH _,_,hv=>by
  simp only[V]at hv;obtain⟨_,_,h1⟩:=hv
  simp only[aG];exact dk h1
 |.fn _ _ _,_,hv=>by
  simp only[V]at hv;obtain⟨_,_,_,h1,h2⟩:=hv
  simp only[aG,av];exact⟨dk h1,dk h2⟩
 |.bW _ _,_,hv=>by
  simp only[V]at hv;obtain⟨_,_,h1⟩:=hv
  simp only[aG];exact kC h1
theorem dk{g:G}{h:List Ob}:∀{as:List AV}{vs:List Value},VL g h as vs->aK h.length as=true
 |[],_,_=>rfl
 |a::as,_,hv=>by
  simp only[VL]at hv;obtain⟨_,_,_,h1,h2⟩:=hv
  simp only[aK,av];exact⟨kC h1,dk h2⟩
end
theorem jU{g:G}{h:List Ob}:∀{as:List AV}{vs:List Value},VE g h as vs->aK h.length as=true
 |[],_,_=>rfl
 |a::as,_,hv=>by
  simp only[VE]at hv;obtain⟨_,_,h1,_,h2⟩:=hv
  simp only[aK,av];exact⟨kC h1,jU h2⟩
theorem mN{P:Program}{g g':G}{h h':List Ob}{w w':World}(x:Ext h.length g h g' h'){i:Nat}{o:Ob}(hρ:g'.ρ i=g.ρ i)
 (hw:∀b y,g.ρ i=some (b,y)->w'.heap[b]? =w.heap[b]?)(ho:OV P g h w i o):OV P g' h' w' i o:=by
 cases o with
 |gone=>trivial
 |cells vs=>
  intro b sz st hb;rw[hρ]at hb;obtain⟨c,E,fz,h1,h2,h3⟩:=ho b sz st hb;exact⟨c,E,fz,by rw[hw _ _ hb];exact h1,h2,cw x (dk h3) h3⟩
 |row k E es gr fl sh=>
  simp only[OV]at ho⊢;obtain⟨h1,h2,h3,h4,h5⟩:=ho;refine⟨h1,h2,h3,h4,?_⟩;rw[hρ]
  cases hr:g.ρ i with
  |none=>rw[hr]at h5;exact h5
  |some y=>
   obtain⟨b,sz,st⟩:=y;rw[hr]at h5;simp only at h5⊢;obtain⟨h6,c,E',fz,vs,h7,h8,h9,h10,h11⟩:=h5;exact⟨h6,c,E',fz,vs,by rw[hw _ _ hr];exact h7,h8,h9,fF x (jU h10) h10,h11⟩
 |map es fl=>
  obtain⟨h1,h3⟩:=ho;refine⟨h1,fun b sz st hb=>?_⟩;rw[hρ]at hb;obtain⟨ba,ck,h4,h5,h6⟩:=h3 b sz st hb;exact⟨ba,ck,by rw[hw _ _ hb];exact h4,cw x (dk h5) h5,cw x (dk h6) h6⟩
 |gK s p=>
  intro b sz st hb;rw[hρ]at hb
  rw[hw _ _ hb];exact ho b sz st hb
 |loop st j fn t ps a b=>
  intro bk sz sta hb;rw[hρ]at hb;obtain⟨L,h1,h2,h3,h4,h5,h6⟩:=ho bk sz sta hb;exact⟨L,by rw[hw _ _ hb];exact h1,h2,h3,h4,cw x (dk h5) h5,h6⟩
 |bx live=>
  intro b sz st hb;rw[hρ]at hb
  rw[hw _ _ hb];exact ho b sz st hb
theorem tn{w w':World}{b o:Nat}(h:w'.heap[b]? =w.heap[b]?):w'.cell? ⟨b,o,none⟩=w.cell? ⟨b,o,none⟩:=by
 simp only[World.cell?,h]
theorem Inv.world{P:Program}{Γ:Nat->Option AV}{N:Env}{g:G}{h:List Ob}{w w':World}(H:Inv P Γ N g h w)(hh:w'.heap=w.heap)(ho:w'.os=w.os)(ht:w'.tape=w.tape)
 (hp:w'.output=w.output):Inv P Γ N g h w':=by
 have hc:∀a,w'.cell? a=w.cell? a:=fun a=>by simp only[World.cell?,hh]
 refine⟨ho.trans H.os,ht.trans H.tape,hp.trans H.output,fun b o hb=>by rw[hh];exact H.gu b o hb,fun i b x hi=>by rw[hh];exact H.own i b x hi,H.inj,H.oc,
  fun b o v hv=>by rw[hc];exact H.mem b o v hv,fun b es ck hb=>by rw[hh];exact H.mm b es ck hb,H.ek,?_,H.kH,H.mK,H.ja⟩
 intro i o hi;exact mN (Ext.refl _ _ _) rfl (fun b y _=>by rw[hh]) (H.ob i o hi)
def G.bG(g:G)(i:Nat)(r:Option (Nat×Nat×Nat)):G:={g with ρ:=fun j=>if j=i then r else g.ρ j}
theorem cW(g:G)(i:Nat)(r:Option (Nat×Nat×Nat)):(g.bG i r).ρ i=r:=by simp[G.bG]
theorem gG(g:G){i j:Nat}(r:Option (Nat×Nat×Nat))(h:j≠i):(g.bG i r).ρ j=g.ρ j:=by simp[G.bG,h]
theorem Inv.set{P:Program}{Γ:Nat->Option AV}{N:Env}{g:G}{h:List Ob}{w w':World}(H:Inv P Γ N g h w){i:Nat}{o':Ob}{r:Option (Nat×Nat×Nat)}
 (hi:i<h.length)(hE:Ext h.length g h (g.bG i r) (h.set i o'))
 (ho:w'.os=w.os)(ht:w'.tape=w.tape)(hp:w'.output=w.output)
 (hw:∀b,b<w.heap.size->(∀x,g.ρ i≠some (b,x))->w'.heap[b]? =w.heap[b]?)(hsz:w.heap.size<=w'.heap.size)
 (hr:∀b x,r=some (b,x)->((∃y,g.ρ i=some (b,y))\/w.heap.size<=b)/\b<w'.heap.size)
 (hM:∀b y o v,g.ρ i=some (b,y)->g.M b o=some v->w'.cell? ⟨b,o,none⟩=some v)
 (hm:∀b sz st o v,r=some (b,sz,st)->g.M b o=some v->∃k E es gr fl,o'=.row k E es gr fl true/\o<(es.length-st)*k)
 (hob:OV P (g.bG i r) (h.set i o') w' i o'):Inv P Γ N (g.bG i r) (h.set i o') w':=by
 have hlt:∀b o,N.K b=some o->b<w.heap.size:=fun b o hb=>by
  have:=H.gu b o hb
  rcases kW b w.heap.size with h1|h1
  ·exact h1
  ·simp[nf h1]at this
 have hnew:∀b,w.heap.size<=b->N.K b=none:=fun b hb=>by
  cases hk:N.K b with
  |none=>rfl
  |some o=>have:=hlt b o hk;omega
 refine⟨ho.trans H.os,ht.trans H.tape,hp.trans H.output,?_,?_,?_,?_,?_,?_,?_,?_,?_,H.mK,H.ja⟩
 ·intro b o hb;rw[hw b (hlt b o hb) fun x hx=>by have:=(H.own i b x hx).1;simp[hb]at this];exact H.gu b o hb
 ·intro j b x hj
  by_cases hji:j=i
  ·subst hji;rw[cW]at hj;obtain⟨h1,h2⟩:=hr b x hj;refine⟨?_,h2⟩
   rcases h1 with⟨y,hy⟩|h1
   ·exact(H.own j b y hy).1
   ·exact hnew b h1
  ·rw[gG _ _ hji]at hj;exact⟨(H.own j b x hj).1,gD (H.own j b x hj).2 hsz⟩
 ·intro j k b x y hj hk
  by_cases hji:j=i
  ·by_cases hki:k=i
   ·rw[hji,hki]
   ·subst hji;rw[cW]at hj;rw[gG _ _ hki]at hk
    rcases(hr b x hj).1 with⟨z,hz⟩|h1
    ·exact H.inj _ _ b z y hz hk
    ·have:=(H.own k b y hk).2;omega
  ·rw[gG _ _ hji]at hj
   by_cases hki:k=i
   ·subst hki;rw[cW]at hk
    rcases(hr b y hk).1 with⟨z,hz⟩|h1
    ·exact H.inj _ _ b x z hj hz
    ·have:=(H.own j b x hj).2;omega
   ·rw[gG _ _ hki]at hk;exact H.inj _ _ b x y hj hk
 ·intro j hj;rw[jg]at hj;rw[gG _ _ (by omega)];exact H.oc j hj
 ·intro b o v hv
  by_cases hb:∃y,g.ρ i=some (b,y)
  ·obtain⟨y,hy⟩:=hb;exact hM b y o v hy hv
  ·have h0:=H.mem b o v hv;rw[tn (hw b (u5 h0) fun x hx=>hb ⟨x,hx⟩)];exact h0
 ·intro b es ck hb;obtain⟨h1,h2⟩:=H.mm b es ck hb
  have hlt:b<w.heap.size:=by
   rcases kW b w.heap.size with h3|h3
   ·exact h3
   ·simp[nf h3]at h1
  refine⟨by rw[hw b hlt (h2 i)];exact h1,?_⟩;intro j x hj
  by_cases hji:j=i
  ·subst hji;rw[cW]at hj
   rcases(hr b x hj).1 with⟨y,hy⟩|h3
   ·exact h2 _ _ hy
   ·omega
  ·rw[gG _ _ hji]at hj;exact h2 j x hj
 ·intro j b sz st o v hj hv
  by_cases hji:j=i
  ·subst hji;rw[cW]at hj;obtain⟨k,E,es,gr,fl,h1,h2⟩:=hm b sz st o v hj hv;exact⟨k,E,es,gr,fl,by rw[er hi,h1],h2⟩
  ·rw[gG _ _ hji]at hj;obtain⟨k,E,es,gr,fl,h1,h2⟩:=H.ek j b sz st o v hj hv;exact⟨k,E,es,gr,fl,by rw[dB (by omega)];exact h1,h2⟩
 ·intro j o hj
  by_cases hji:j=i
  ·subst hji;rw[er hi]at hj
   cases hj
   exact hob
  ·rw[dB (by omega)]at hj;refine mN hE (gG _ _ hji) ?_ (H.ob j o hj);intro b y hb
   refine hw b (H.own j b y hb).2 fun x hx=>hji (H.inj _ _ b y x hb hx)
 ·intro n a hn;obtain⟨h1,vs,h2,h3⟩:=H.kH n a hn;exact⟨h1,vs,cw hE (dk h2) h2,h3⟩
theorem Ext.push{g:G}{h:List Ob}(o:List Ob)(r:Option (Nat×Nat×Nat)):Ext h.length g h (g.bG h.length r) (h++o):=by
 have hget:∀{i x},h[i]? =some x->(h++o)[i]? =some x:=fun{i x} hx=>by rw[cR (aV hx)];exact hx
 have hρ:∀{i},i<h.length->∀x,g.ρ i=some x->(g.bG h.length r).ρ i=some x:=fun hi x hx=>by rw[gG _ _ (by omega)];exact hx
 exact⟨fun _ _ _ x=>x,fun _ _ x=>x,fun i vs hn hi=>⟨⟨_,hget hi⟩,hρ hn⟩,fun i es fl hn hi=>⟨⟨_,_,hget hi⟩,hρ hn⟩,fun i s p hn hi=>⟨⟨_,_,hget hi⟩,hρ hn⟩,
  fun i st j fn t ps a b hn hi=>⟨⟨_,_,hget hi⟩,hρ hn⟩,fun i l hn hi=>⟨⟨_,hget hi⟩,hρ hn⟩,
  fun i k E es gr fl sh hn hi=>⟨_,_,_,_,_,hget hi,aU _,fun _ _ _ hk=>⟨hk,rfl,hρ hn⟩⟩⟩
theorem Inv.push{P:Program}{Γ:Nat->Option AV}{N:Env}{g:G}{h:List Ob}{w w':World}(H:Inv P Γ N g h w){o':Ob}{os:List Ob}{r:Option (Nat×Nat×Nat)}
 (ho:w'.os=w.os)(ht:w'.tape=w.tape)(hp:w'.output=w.output)
 (hw:∀b,b<w.heap.size->w'.heap[b]? =w.heap[b]?)(hsz:w.heap.size<=w'.heap.size)
 (hr:∀b x,r=some (b,x)->w.heap.size<=b/\b<w'.heap.size)
 (hob:OV P (g.bG h.length r) (h++o'::os) w' h.length o')
 (hobs:∀j o,os[j]? =some o->OV P (g.bG h.length r) (h++o'::os) w' (h.length+1+j) o):Inv P Γ N (g.bG h.length r) (h++o'::os) w':=by
 have hlt:∀b o,N.K b=some o->b<w.heap.size:=fun b o hb=>by
  have:=H.gu b o hb
  rcases kW b w.heap.size with h1|h1
  ·exact h1
  ·simp[nf h1]at this
 have hE:=Ext.push (g:=g) (h:=h) (o'::os) r;refine⟨ho.trans H.os,ht.trans H.tape,hp.trans H.output,?_,?_,?_,?_,?_,?_,?_,?_,?_,H.mK,H.ja⟩
 ·intro b o hb
  rw[hw b (hlt b o hb)];exact H.gu b o hb
 ·intro j b x hj
  by_cases hji:j=h.length
  ·subst hji;rw[cW]at hj;obtain⟨h1,h2⟩:=hr b x hj;refine⟨?_,h2⟩
   cases hk:N.K b with
   |none=>rfl
   |some o=>have:=hlt b o hk;omega
  ·rw[gG _ _ hji]at hj;exact⟨(H.own j b x hj).1,gD (H.own j b x hj).2 hsz⟩
 ·intro j k b x y hj hk
  by_cases hji:j=h.length
  ·by_cases hki:k=h.length
   ·rw[hji,hki]
   ·subst hji;rw[cW]at hj;rw[gG _ _ hki]at hk
    have:=(hr b x hj).1;have:=(H.own k b y hk).2;omega
  ·rw[gG _ _ hji]at hj
   by_cases hki:k=h.length
   ·subst hki;rw[cW]at hk
    have:=(hr b y hk).1;have:=(H.own j b x hj).2;omega
   ·rw[gG _ _ hki]at hk;exact H.inj _ _ b x y hj hk
 ·intro j hj;rw[bR,bP]at hj;rw[gG _ _ (by omega)];exact H.oc j (by omega)
 ·intro b o v hv;have h0:=H.mem b o v hv;rw[tn (hw b (u5 h0))];exact h0
 ·intro b es ck hb;obtain⟨h1,h2⟩:=H.mm b es ck hb
  have hlt:b<w.heap.size:=by
   rcases kW b w.heap.size with h3|h3
   ·exact h3
   ·simp[nf h3]at h1
  refine⟨by rw[hw b hlt];exact h1,?_⟩;intro j x hj
  by_cases hji:j=h.length
  ·subst hji;rw[cW]at hj
   have:=(hr b x hj).1;omega
  ·rw[gG _ _ hji]at hj;exact h2 j x hj
 ·intro j b sz st o v hj hv
  by_cases hji:j=h.length
  ·subst hji;rw[cW]at hj
   have:=(hr b _ hj).1;have:b<w.heap.size:=u5 (H.mem b o v hv)
   omega
  ·rw[gG _ _ hji]at hj;obtain⟨k,E,es,gr,fl,h1,h2⟩:=H.ek j b sz st o v hj hv;exact⟨k,E,es,gr,fl,by rw[cR (aV h1)];exact h1,h2⟩
 ·intro j o hj
  rcases I7 j h.length with hjl|rfl|hjl
  ·rw[cR hjl]at hj;exact mN hE (gG _ _ (by omega)) (fun b y hb=>hw b (H.own j b y hb).2) (H.ob j o hj)
  ·simp at hj;subst hj;exact hob
  ·obtain⟨q,rfl⟩:∃q,j=h.length+1+q:=⟨j-h.length-1,by omega⟩;rw[dF (by omega),show h.length+1+q-h.length=q+1 by omega,mB]at hj;exact hobs q o hj
 ·intro n a hn;obtain⟨h1,vs,h2,h3⟩:=H.kH n a hn;exact⟨h1,vs,cw hE (dk h2) h2,h3⟩
theorem tN(g:G)(h:List Ob):∀v:Value,V g h (jQ v) v:=by
 intro v;unfold jQ
 split
 all_goals (first|(simp only[V];done)|skip)
 ·simp only[V];exact⟨rfl,none,0,rfl,fun _=>rfl,aU _,Or.inl trivial⟩
theorem mP(g:G)(h:List Ob):∀v:Value,V g h (fP v) v:=by
 intro v;unfold fP
 split
 ·simp only[V];rename_i cs;exact⟨cs.toList,by simp,by have:=oX (g:=g) (h:=h) (f:=jQ) (e:=id) (tN g h) cs.toList;simpa using this⟩
 ·simp only[V];exact⟨_,rfl,tN g h _⟩
 ·simp only[V];rename_i cs;exact⟨cs.toList,by simp,by have:=oX (g:=g) (h:=h) (f:=jQ) (e:=id) (tN g h) cs.toList;simpa using this⟩
 ·exact tN g h v
theorem BP{g:G}{h:List Ob}{t:List AV}{a:Act}(ht:VL g h t a.tmps.toList)(x:Operand):V g h (ax t (au x)) (a.eval x):=by
 cases x with
 |tmp i=>
  have:=rW i ht;simpa[au,ax,Act.eval]using this
 |const v=>exact mP g h v
 |global n=>simp[au,ax,Act.eval,V]
 |func f=>simp only[au,ax,Act.eval,V];exact⟨[],[],rfl,by simp[VL],by simp[VL]⟩
def aJ(P:Program)(Γ:Nat->Option AV)(N:Env)(r:Operand->Value)(o:Oper)(w:World)(g:G)(h h':List Ob)(res:Option AV):Prop:=
 ∃g' w' nx,(execOp r o).run P w=.ok nx w'/\Inv P Γ N g' h' w'/\Ext h.length g h g' h'/\
  match res with
  |some a=>∃u,nx=.value u/\V g' h' a u
  |none=>nx=.skip
section
variable{P:Program}{Γ:Nat->Option AV}{N:Env}{g:G}{h:List Ob}{w:World}{r:Operand->Value}{o:Oper}{t:List AV}
theorem aJ.same(H:Inv P Γ N g h w){a:AV}{u:Value}(hr:(execOp r o).run P w=.ok (.value u) w)(hv:V g h a u):aJ P Γ N r o w g h h (some a):=
 ⟨g,w,_,hr,H,Ext.refl _ _ _,u,rfl,hv⟩
theorem iu{t:TypeId}{s:Nat}(h:bu P t=some s)(w:World):(sizeOf t).run P w=.ok s w:=by
 unfold bu at h
 cases hi:P.info? t with
 |none=>simp[hi]at h
 |some i=>simp[hi]at h;simp[sizeOf,typeInfo,hi,h]
theorem AI{t:TypeId}{b:Bool}(h:fU P t=some b)(w:World):(isAgg t).run P w=.ok b w:=by
 unfold fU at h
 cases hi:P.underlying t with
 |none=>simp[hi]at h
 |some d=>
  simp only[hi,dt,aj]at h;simp only[isAgg,Sem.run_bind,run_underlying hi,Result.andThen_ok]
  cases d<;>simp_all
theorem Fb{t:TypeId}{z:AV}(h:dL P t=some z)(w:World):∃v,(zeroValue t).run P w=.ok v w/\z=fP v:=by
 unfold dL at h
 cases hi:P.info? t with
 |none=>simp[hi]at h
 |some i=>
  cases hz:i.zero with
  |none=>simp[hi,hz]at h
  |some v=>simp[hi,hz]at h;exact⟨v,by simp[zeroValue,typeInfo,hi,hz],h.symm⟩
theorem dS{k:IntKind}{n:Int}{v:Value}(h1:V g h (.int k n) v):v=.int k n:=by simpa only [V]using h1
theorem lj{b:Bool}{v:Value}(h1:V g h (.bool b) v):v=.bool b:=by simpa only [V]using h1
theorem iW{s:List UInt8}{v:Value}(h1:V g h (.str s) v):v=.string ⟨s.toArray⟩:=by simpa only [V]using h1
theorem O2(H:Inv P Γ N g h w){x:Operand}(ho:o.op=.move x\/o.op=.assign x)(hx:V g h (ax t (au x)) (r x)):aJ P Γ N r o w g h h (some (ax t (au x))):=by
 refine aJ.same H ?_ hx
 rcases ho with ho|ho<;>simp[execOp,ho]
theorem N_(H:Inv P Γ N g h w){c x y:Operand}(ho:o.op=.pick c x y){b:Bool}(hc:r c=.bool b){a:AV}(ha:V g h a (if b then r x else r y)):
 aJ P Γ N r o w g h h (some a):=by
 refine aJ.same H (u:=if b then r x else r y) ?_ ha;simp[execOp,ho,hc,asBool]
theorem wB(H:Inv P Γ N g h w){x:Operand}(ho:o.op=.nilCheck x){a:AV}(ha:V g h a (r x))
 (hk:match a with|.ptr _ _|.cZ _ _ _ _|.dU _ _|.fn (.func _) _ _|.bW _ _=>True|_=>False):aJ P Γ N r o w g h h (some a):=by
 refine aJ.same H (u:=r x) ?_ ha
 match a,ha,hk with
 |.cZ _ _ _ _,ha,_=>
  simp only[V]at ha;obtain⟨_,_,_,_,_,_,hx⟩:=ha;simp[execOp,ho,hx]
 |.ptr _ _,ha,_=>
  simp only[V]at ha;obtain⟨_,_,_,_,hx⟩:=ha;simp[execOp,ho,hx]
 |.dU _ _,ha,_=>simp only[V]at ha;simp[execOp,ho,ha]
 |.bW _ _,ha,_=>
  simp only[V]at ha;obtain⟨_,hx,_⟩:=ha;simp[execOp,ho,hx]
 |.fn (.func _) _ _,ha,_=>
  simp only[V]at ha;obtain⟨_,_,hx,_⟩:=ha;simp[execOp,ho,hx]
theorem f_{op:BinOp}{ty:TypeId}{x y:Operand}{a b:Value}(h1:a≠.nilIface\/b≠.nilIface)(h2:(∀c,a≠.agg c)\/∀c,b≠.agg c)(w:World):
 (eqGuard op ty x y a b).run P w=.ok () w:=by
 unfold eqGuard
 cases op<;>simp
 all_goals
  split
  ·simp at h1
  ·simp at h2
  ·rfl
theorem abr(H:Inv P Γ N g h w){op:BinOp}{ib:IB}{ty ty':TypeId}{x y:Operand}(ho:o.op=.binOp op ty x y ty')(hop:GY op=some ib){k j:IntKind}{a b n:Int}
 (hx:r x=.int k a)(hy:r y=.int j b)(hkj:k=j\/ib=.shl\/ib=.shr)(hn:gv ib k a b=some n):aJ P Γ N r o w g h h (some (.int k n)):=by
 refine aJ.same H (u:=.int k n) ?_ (by simp[V]);simp only[execOp,ho,hx,hy,Sem.run_bind];rw[f_ (by simp) (by simp)]
 cases op<;>simp only[GY,aj,reduceCtorEq]at hop
 all_goals
  subst hop;simp only[reduceCtorEq,pG,or_self,or_true]at hkj;simp only[gv]at hn
  try subst hkj
 all_goals (first
  |(simp only[aj]at hn;subst hn;simp[binOp,Op.intArith,Op.intBits];done)
  |(split at hn
    ·simp at hn
    ·rename_i h0;simp only[aj]at hn
     simp[binOp,Op.intDiv,Op.shift,h0,hn]))
theorem abq(H:Inv P Γ N g h w){op:BinOp}{c:CK}{ty ty':TypeId}{x y:Operand}(ho:o.op=.binOp op ty x y ty')(hop:qA op=some c){k:IntKind}{a b:Int}
 (hx:r x=.int k a)(hy:r y=.int k b):aJ P Γ N r o w g h h (some (.bool (mh c a b))):=by
 refine aJ.same H (u:=.bool (mh c a b)) ?_ (by simp[V]);simp only[execOp,ho,hx,hy,Sem.run_bind];rw[f_ (by simp) (by simp)]
 cases op<;>simp only[qA,aj,reduceCtorEq]at hop
 all_goals
  subst hop;simp[binOp,Op.intCmp,mh]
theorem Aw(a b:List UInt8):((⟨a.toArray⟩:ByteArray).toList==(⟨b.toArray⟩:ByteArray).toList)=(a==b):=by
 have h:∀l:List UInt8,(⟨l.toArray⟩:ByteArray).toList=l:=fun l=>by
  rw[ByteArray.toList_eq]
 rw[h,h]
theorem Yd(H:Inv P Γ N g h w){ty ty':TypeId}{x y:Operand}(ho:o.op=.binOp .add ty x y ty'){a b:List UInt8}
 (hx:r x=.string ⟨a.toArray⟩)(hy:r y=.string ⟨b.toArray⟩)(hl:a.length+b.length<=2^47):aJ P Γ N r o w g h h (some (.str (a++b))):=by
 refine aJ.same H (u:=.string ⟨(a++b).toArray⟩) ?_ (by simp[V]);simp only[execOp,ho,hx,hy,Sem.run_bind];rw[f_ (by simp) (by simp)]
 have h1:(⟨a.toArray⟩:ByteArray).size=a.length:=by simp[ByteArray.size]
 have h2:(⟨b.toArray⟩:ByteArray).size=b.length:=by simp[ByteArray.size]
 have h3:¬(9223372036854775807<((a.length:Int)+(b.length:Int))):=by
  have:a.length+b.length<=140737488355328:=by simpa using hl
  omega
 simp only[Result.andThen_ok,binOp,Op.stringOp,h1,h2];simp[h3];apply ByteArray.ext;apply gV;simp
end
section
variable{P:Program}{Γ:Nat->Option AV}{N:Env}{g:G}{h:List Ob}{w:World}{r:Operand->Value}{o:Oper}{t:List AV}
theorem tO(s:List UInt8):(⟨s.toArray⟩:ByteArray).size=s.length:=by simp[ByteArray.size]
theorem adL(H:Inv P Γ N g h w){ty:TypeId}{x:Operand}(ho:o.op=.unOp .not ty x){b:Bool}(hx:r x=.bool b):aJ P Γ N r o w g h h (some (.bool !b)):=
 aJ.same H (u:=.bool !b) (by simp[execOp,ho,hx,Op.unary]) (by simp[V])
theorem adF(H:Inv P Γ N g h w){ty:TypeId}{x:Operand}(ho:o.op=.unOp .neg ty x){k:IntKind}{n:Int}(hx:r x=.int k n):aJ P Γ N r o w g h h (some (.int k (k.wrap (0-n)))):=
 aJ.same H (u:=.int k (k.wrap (0-n))) (by simp[execOp,ho,hx,Op.unary,Op.intArith]) (by simp[V])
theorem abl(H:Inv P Γ N g h w){ty:TypeId}{x:Operand}(ho:o.op=.unOp .xor ty x){k:IntKind}{n:Int}(hx:r x=.int k n):
 aJ P Γ N r o w g h h (some (.int k (k.wrap ((BitVec.ofInt k.bits (if k.signed then-1 else k.max))^^^(BitVec.ofInt k.bits n)).toNat))):=
 aJ.same H (u:=.int k (k.wrap ((BitVec.ofInt k.bits (if k.signed then-1 else k.max))^^^(BitVec.ofInt k.bits n)).toNat)) (by simp[execOp,ho,hx,Op.unary,Op.intBits]) (by simp[V])
theorem acz(H:Inv P Γ N g h w){s d:TypeId}{x:Operand}(ho:o.op=.convert s d x){j k k':IntKind}{n:Int}(hs:P.underlying s=some (.int j))(hd:P.underlying d=some (.int k))
 (hx:r x=.int k' n):aJ P Γ N r o w g h h (some (.int k (k.wrap n))):=
 aJ.same H (u:=.int k (k.wrap n)) (by simp[execOp,ho,hx,convert,run_underlying hs,run_underlying hd,Conv.intToInt]) (by simp[V])
theorem ab2(H:Inv P Γ N g h w){s d:TypeId}{x:Operand}(ho:o.op=.convert s d x){l:List UInt8}(hs:P.underlying s=some .string)(hd:P.underlying d=some .string)
 (hx:r x=.string ⟨l.toArray⟩):aJ P Γ N r o w g h h (some (.str l)):=
 aJ.same H (u:=.string ⟨l.toArray⟩) (by simp[execOp,ho,hx,convert,run_underlying hs,run_underlying hd]) (by simp[V])
theorem W4(H:Inv P Γ N g h w){ty:TypeId}{x:Operand}(ho:o.op=.makeInterface ty x){d:TypeDesc}(hd:P.underlying ty=some d)(hd':∀ms,d≠.interface ms){a:AV}
 (ha:V g h a (r x)):aJ P Γ N r o w g h h (some (.bW ty a)):=by
 refine aJ.same H (u:=.iface ty (r x)) ?_ (by simp only[V];exact⟨_,rfl,ha⟩)
 cases d<;>first
  |(exfalso;exact hd' _ rfl)
  |simp[execOp,ho,Instr.makeInterface,run_underlying hd]
theorem Y4(H:Inv P Γ N g h w){f:Fn}{a b:Array Operand}(ho:o.op=.makeFunc f a b)(he:∀x,V g h (ax t (au x)) (r x)):
 aJ P Γ N r o w g h h (some (.fn f ((a.toList.map au).map (ax t)) ((b.toList.map au).map (ax t)))):=by
 refine aJ.same H (u:=.func f (a.map r) (b.map r)) (by simp[execOp,ho,Instr.makeFunc]) ?_;simp only[V];refine⟨a.toList.map r,b.toList.map r,?_,?_,?_⟩
 ·congr 1<;>apply gV<;>simp
 ·rw[ij];exact oX he _
 ·rw[ij];exact oX he _
theorem Xk(H:Inv P Γ N g h w){x:Operand}{i:Nat}(ho:o.op=.extract x i){vs:List AV}(hx:V g h (.aH vs) (r x)){a:AV}(ha:vs[i]? =some a):aJ P Γ N r o w g h h (some a):=by
 simp only[V]at hx;obtain⟨us,hu,hl⟩:=hx;obtain⟨u,h1,h2⟩:=qa hl ha;exact aJ.same H (u:=u) (by simp[execOp,ho,hu,Instr.extract,h1]) h2
theorem MN{ty:TypeId}{agg:Bool}{sz off:Nat}{cs:List AV}{a:AV}(hp:l_ agg sz off cs=some a)(h1:fU P ty=some agg)(h2:bu P ty=some sz){vs:List Value}
 (hv:VL g h cs vs)(w:World):∃u,(part ty vs.toArray off).run P w=.ok u w/\V g h a u:=by
 unfold l_ at hp
 cases agg
 ·simp only[eb,c9]at hp
  split at hp
  ·obtain⟨u,hu,h3⟩:=qa hv hp;refine⟨u,?_,h3⟩;simp[part,AI h1,hu]
  ·simp at hp
 ·simp only[cq]at hp
  split at hp
  ·rename_i hle;simp only[aj]at hp;subst hp;refine⟨.agg ((vs.drop off).take sz).toArray,?_,?_⟩
   ·simp only[part,Sem.run_bind,AI h1,iu h2,Result.andThen_ok,cq];simp only[Sem.run_pure];congr 3;simp
   ·simp only[V];exact⟨_,rfl,A8 _ (A4 _ hv)⟩
  ·simp at hp
theorem adh(H:Inv P Γ N g h w){ty:TypeId}{x:Operand}{i:Nat}(ho:o.op=.field ty x i){fs:Array Field}{f:Field}(hu:P.underlying ty=some (.struct fs))(hf:fs[i]? =some f)
 {agg:Bool}{sz:Nat}(h1:fU P f.type=some agg)(h2:bu P f.type=some sz){cs:List AV}(hx:V g h (.agg cs) (r x)){a:AV}(hp:l_ agg sz f.offset cs=some a):
 aJ P Γ N r o w g h h (some a):=by
 simp only[V]at hx;obtain⟨vs,hv,hl⟩:=hx;obtain⟨u,h3,h4⟩:=MN hp h1 h2 hl w;exact aJ.same H (u:=u) (by simp[execOp,ho,hv,Instr.field,run_underlying hu,hf,asAgg,h3]) h4
theorem ZN(H:Inv P Γ N g h w){ty e:TypeId}{x i:Operand}(ho:o.op=.index ty x i){n:Nat}(hu:P.underlying ty=some (.array n e))
 {agg:Bool}{sz:Nat}(h1:fU P e=some agg)(h2:bu P e=some sz){cs:List AV}(hx:V g h (.agg cs) (r x)){k:IntKind}{m:Int}(hi:r i=.int k m)(hm:0<=m/\m<n)
 {a:AV}(hp:l_ agg sz (m.toNat*sz) cs=some a):aJ P Γ N r o w g h h (some a):=by
 simp only[V]at hx;obtain⟨vs,hv,hl⟩:=hx;obtain⟨u,h3,h4⟩:=MN hp h1 h2 hl w;exact aJ.same H (u:=u) (by simp[execOp,ho,hv,hi,Instr.index,asIntOf,run_underlying hu,hm,iu h2,h3]) h4
theorem Z1(H:Inv P Γ N g h w){ty:TypeId}{x i:Operand}(ho:o.op=.index ty x i)(hu:P.underlying ty=some .string){s:List UInt8}(hx:r x=.string ⟨s.toArray⟩)
 {k:IntKind}{m:Int}(hi:r i=.int k m)(hm:0<=m){b:UInt8}(hb:s[m.toNat]? =some b):aJ P Γ N r o w g h h (some (eT b)):=by
 refine aJ.same H (u:=.int .u8 b.toNat) ?_ (by simp[eT,V])
 have h1:(⟨s.toArray⟩:ByteArray)[m.toNat]? =some b:=by
  have hl:=aV hb
  have h2:(⟨s.toArray⟩:ByteArray).size=s.length:=by simp[ByteArray.size]
  rw[getElem?_pos _ _ (by rw[h2];exact hl)];rw[bg hl]at hb;simp only[aj]at hb;rw[<-hb];rfl
 simp[execOp,ho,hx,hi,Instr.index,asIntOf,run_underlying hu,hm,h1]
theorem kh(b o n:Nat):(⟨b,o,none⟩:Addr).add n=⟨b,o+n,none⟩:=by unfold Addr.add;split<;>simp_all
theorem Gc(H:Inv P Γ N g h w){ty:TypeId}{x:Operand}{i:Nat}(ho:o.op=.fieldAddr ty x i){fs:Array Field}{f:Field}(hu:P.underlying ty=some (.struct fs))(hf:fs[i]? =some f)
 {sz:Nat}(h2:bu P f.type=some (sz+1)){b m:Nat}(hx:r x=.pointer (some ⟨b,m,none⟩)){a:AV}(ha:V g h a (.pointer (some ⟨b,m+f.offset,none⟩))):
 aJ P Γ N r o w g h h (some a):=by
 refine aJ.same H ?_ ha;simp[execOp,ho,hx,Instr.fieldAt,run_underlying hu,hf,Instr.sureAddr,fieldPlace,iu h2,kh]
theorem Ed(H:Inv P Γ N g h w){ty e:TypeId}{x i:Operand}(ho:o.op=.indexAddr ty x i){n:Nat}(hu:P.underlying ty=some (.array n e)){sz:Nat}(h2:bu P e=some sz)
 {b m:Nat}(hx:r x=.pointer (some ⟨b,m,none⟩)){k:IntKind}{q:Int}(hi:r i=.int k q)(hq:0<=q/\q<n){a:AV}
 (ha:V g h a (.pointer (some ⟨b,m+q.toNat*sz,none⟩))):aJ P Γ N r o w g h h (some a):=by
 refine aJ.same H ?_ ha;simp[execOp,ho,hx,hi,Instr.indexAt,asIntOf,run_underlying hu,Instr.sureAddr,hq,iu h2,kh]
theorem X5(H:Inv P Γ N g h w){ty e:TypeId}{x i:Operand}(ho:o.op=.indexAddr ty x i)(hu:P.underlying ty=some (.slice e)){sz:Nat}(h2:bu P e=some sz)
 {a:AV}(hx:V g h a (r x)){m:Nat}(hm:nR a=some m){k:IntKind}{q:Int}(hi:r i=.int k q)(hq:0<=q/\q<m):
 aJ P Γ N r o w g h h (some (.cZ a sz q.toNat 0)):=by
 have hb:∃b p cap,r x=.slice (some ⟨b,p,none⟩) m cap:=by
  cases a<;>simp only[nR,aj,reduceCtorEq]at hm
  case list f k es=>
   subst hm;simp only[V]at hx;obtain⟨_,ad,cap,hv,_,_,h3⟩:=hx
   rcases h3 with rfl|⟨b,p,vs,rfl,_⟩
   ·simp at hq;omega
   ·exact⟨b,p,cap,hv⟩
  case sl i' off n=>
   subst hm;simp only[V]at hx;obtain⟨k,E,es,gr,fl,sh,hi',hle,ad,cap,hv,hc,hn,_⟩:=hx;obtain⟨b,p,rfl⟩:=hn (by omega);exact⟨b,p,cap,hv⟩
 obtain⟨b,p,cap,hv⟩:=hb;refine aJ.same H (u:=.pointer (some ⟨b,p+q.toNat*sz,none⟩)) ?_ ?_
 ·simp[execOp,ho,hv,hi,Instr.indexAt,asIntOf,run_underlying hu,hq,iu h2,kh]
 ·simp only[V];exact⟨r x,b,p,hx,by simp[hv,Bz],⟨m,hm,by omega⟩,by simp⟩
theorem wV(H:Inv P Γ N g h w){x:Operand}{ty:TypeId}(ho:o.op=.call ⟨.builtin .len,#[x],#[ty]⟩)
 {n:Nat}(hk:(∃s:List UInt8,P.underlying ty=some .string/\r x=.string ⟨s.toArray⟩/\n=s.length)\/(∃e a c,P.underlying ty=some (.slice e)/\r x=.slice a n c)\/
  (∃e,P.underlying ty=some (.array n e))\/(∃k e,P.underlying ty=some (.map k e)/\r x=.map none/\n=0)):aJ P Γ N r o w g h h (some (.int .i64 n)):=by
 refine aJ.same H (u:=.int .i64 n) ?_ (by simp[V])
 rcases hk with⟨s,hu,hx,rfl⟩|⟨e,a,c,hu,hx⟩|⟨e,hu⟩|⟨k,e,hu,hx,rfl⟩
 ·simp[execOp,ho,resolve,invoke,builtin,Builtin.len_,hx,run_underlying hu,goInt,tO]
 ·simp[execOp,ho,resolve,invoke,builtin,Builtin.len_,hx,run_underlying hu,goInt]
 ·simp[execOp,ho,resolve,invoke,builtin,Builtin.len_,run_underlying hu,goInt]
 ·simp[execOp,ho,resolve,invoke,builtin,Builtin.len_,hx,run_underlying hu,goInt]
theorem adg(H:Inv P Γ N g h w){x:Operand}{ty e:TypeId}(ho:o.op=.call ⟨.builtin .cap,#[x],#[ty]⟩)(hu:P.underlying ty=some (.slice e)){a:Option Addr}{l c:Nat}
 (hx:r x=.slice a l c):aJ P Γ N r o w g h h (some (.int .i64 c)):=by
 refine aJ.same H (u:=.int .i64 c) ?_ (by simp[V]);simp[execOp,ho,resolve,invoke,builtin,Builtin.cap_,hx,run_underlying hu,goInt]
theorem J5(s:List UInt8)(l u:Nat):(⟨s.toArray⟩:ByteArray).extract l u=⟨((s.take u).drop l).toArray⟩:=by
 apply ByteArray.ext;apply gV;simp[ByteArray.data_extract,List.drop_take]
theorem Ks(isSlice:Bool)(len cap l u:Nat)(lo hi:Option Value)(h1:match lo with|none=>l=0|some v=>∃k,v=.int k l)(h2:match hi with|none=>u=len|some v=>∃k,v=.int k u)
 (hlu:l<=u)(hu:u<=cap)(w:World):(Instr.sliceBounds isSlice len cap lo hi none).run P w=.ok (l,u,cap) w:=by
 cases lo<;>cases hi<;>simp only at h1 h2
 ·subst h1;subst h2;simp[Instr.sliceBounds]
 ·obtain⟨k,rfl⟩:=h2;subst h1;simp[Instr.sliceBounds,run_sliceBound,hu]
 ·obtain⟨k,rfl⟩:=h1;subst h2
  simp only[Instr.sliceBounds,Sem.run_bind,Sem.run_pure,Result.andThen_ok,Option.isSome_none,eb,c9];rw[run_sliceBound w k l u _ (by omega) (by omega)];simp
 ·obtain⟨k,rfl⟩:=h1;obtain⟨k',rfl⟩:=h2
  simp only[Instr.sliceBounds,Sem.run_bind,Sem.run_pure,Result.andThen_ok,Option.isSome_none,eb,c9];rw[run_sliceBound w k' u cap _ (by omega) (by omega)];simp only[Result.andThen_ok,fB];rw[run_sliceBound w k l u _ (by omega) (by omega)];simp
theorem oE{d n:Nat}{x:Option Operand}(hb:bound t d (x.map au)=some n)(he:∀x,V g h (ax t (au x)) (r x)):
 match x.map r with|none=>n=d|some v=>∃k,v=.int k n:=by
 cases x with
 |none=>simp only[sH,bound,aj]at hb;simp[hb]
 |some x=>
  simp only[dt,bound]at hb
  split at hb
  ·rename_i k m hm
   split at hb
   ·rename_i h0;simp only[aj]at hb;have:=he x;rw[hm]at this;refine⟨k,?_⟩;rw[dS this];congr 1;omega
   ·simp at hb
  ·simp at hb
theorem Wt(H:Inv P Γ N g h w){ty:TypeId}{x:Operand}{lo hi:Option Operand}(ho:o.op=.slice ty x lo hi none)(hu:P.underlying ty=some .string){s:List UInt8}
 (hx:r x=.string ⟨s.toArray⟩)(he:∀x,V g h (ax t (au x)) (r x)){l u:Nat}(hl:bound t 0 (lo.map au)=some l)(hh:bound t s.length (hi.map au)=some u)(hlu:l<=u/\u<=s.length):
 aJ P Γ N r o w g h h (some (.str ((s.take u).drop l))):=by
 refine aJ.same H (u:=.string ⟨((s.take u).drop l).toArray⟩) ?_ (by simp[V]);have:=Ks (P:=P) false s.length s.length l u (lo.map r) (hi.map r) (oE hl he) (oE hh he) hlu.1 hlu.2 w;simp[execOp,ho,hx,Instr.sliceAt,Instr.slice,run_underlying hu,tO,this,J5]
end
def dM(k:Nat)(es:List AV):Prop:=∀e∈es,e.cells.length=k/\bV e.cells=true
theorem jM:∀{es:List AV}{k:Nat},cg es k=true->dM k es
 |[],_,_=>fun e he=>by simp at he
 |a::as,k,h=>by
  simp only[cg,av,a_]at h;intro e he
  rcases bt.1 he with rfl|he
  ·exact⟨h.1.1.1,h.1.1.2⟩
  ·exact jM h.2 e he
theorem Eg{es:List AV}{k:Nat}:cg es k=true↔dM k es/\∀e∈es,aK 0 e.cells=true:=by
 induction es with
 |nil=>simp[cg,dM]
 |cons a as ih=>
  simp only[cg,av,a_,ih,dM,Sx];constructor
  ·rintro⟨⟨⟨a1,a2⟩,a3⟩,a4,a5⟩;exact⟨⟨⟨a1,a2⟩,a4⟩,a3,a5⟩
  ·rintro⟨⟨⟨a1,a2⟩,a4⟩,a3,a5⟩;exact⟨⟨⟨a1,a2⟩,a3⟩,a4,a5⟩
theorem tg{es fs:List AV}{k:Nat}:cg (es++fs) k=true↔cg es k=true/\cg fs k=true:=by
 induction es with
 |nil=>simp[cg]
 |cons a as ih=>simp only[eP,cg,av,ih,and_assoc]
theorem oD{es fs:List AV}{k:Nat}(h:cg es k=true)(hs:∀e∈fs,e∈es):cg fs k=true:=by
 rw[Eg]at h⊢;exact⟨fun e he=>h.1 e (hs e he),fun e he=>h.2 e (hs e he)⟩
section
variable{g:G}{h:List Ob}
theorem Du{a:AV}{v:Value}(ho:bV a.cells=true)(hv:V g h a v):v.cells.toList.length=a.cells.length:=fD (oR (pV ho) hv)
theorem gY{k:Nat}:∀{es:List AV}{vs:List Value},dM k es->VE g h es vs->vs.length=es.length*k
 |[],vs,_,hv=>by simp only[VE]at hv;simp[hv]
 |e::es,vs,hk,hv=>by
  simp only[VE]at hv;obtain⟨v,vs',h1,rfl,h2⟩:=hv;have:=hk e (by simp);rw[bR,Du this.2 h1,this.1,gY (fun x hx=>hk x (by simp[hx])) h2,bP,fC];omega
theorem oH:∀{as bs:List AV}{vs ws:List Value},VE g h as vs->VE g h bs ws->VE g h (as++bs) (vs++ws)
 |[],bs,vs,ws,hv,hw=>by simp only[VE]at hv;subst hv;simpa using hw
 |a::as,bs,vs,ws,hv,hw=>by
  simp only[VE]at hv;obtain⟨v,vs',h1,rfl,hr⟩:=hv;simp only[eP,VE];exact⟨v,vs'++ws,h1,by simp,oH hr hw⟩
theorem Dw:∀{as bs:List AV}{vs:List Value},VE g h (as++bs) vs->∃xs ys,vs=xs++ys/\VE g h as xs/\VE g h bs ys
 |[],bs,vs,hv=>⟨[],vs,rfl,by simp[VE],by simpa using hv⟩
 |a::as,bs,vs,hv=>by
  simp only[eP,VE]at hv;obtain⟨v,vs',h1,rfl,hr⟩:=hv;obtain⟨xs,ys,rfl,h2,h3⟩:=Dw hr;exact⟨v.cells.toList++xs,ys,by simp,by simp only[VE];exact⟨v,xs,h1,rfl,h2⟩,h3⟩
theorem t_{k:Nat}{es:List AV}{vs:List Value}(hk:dM k es)(hv:VE g h es vs)(n:Nat):VE g h (es.drop n) (vs.drop (n*k)):=by
 by_cases hn:n<=es.length
 ·have h1:es=es.take n++es.drop n:=(ng n es).symm;rw[h1]at hv;obtain⟨xs,ys,rfl,h2,h3⟩:=Dw hv;have hl:=gY (k:=k) (fun e he=>hk e (j5 he)) h2;rw[gE,qP hn]at hl;rw[u6,<-hl,I8];simpa using h3
 ·have hl:=gY hk hv;rw[bw (by omega),bw (by rw[hl];exact kX _ (by omega))];simp[VE]
theorem wL{k:Nat}{es:List AV}{vs:List Value}(hk:dM k es)(hv:VE g h es vs)(n:Nat):VE g h (es.take n) (vs.take (n*k)):=by
 by_cases hn:n<=es.length
 ·have h1:es=es.take n++es.drop n:=(ng n es).symm;rw[h1]at hv;obtain⟨xs,ys,rfl,h2,h3⟩:=Dw hv;have hl:=gY (k:=k) (fun e he=>hk e (j5 he)) h2;rw[gE,qP hn]at hl;rw[List.take_append,<-hl,List.take_length];simpa using h2
 ·have hl:=gY hk hv;rw[cS (by omega),cS (by rw[hl];exact kX _ (by omega))];exact hv
theorem Gh{k:Nat}:∀{es:List AV}{vs:List Value}{i:Nat}{e:AV},dM k es->VE g h es vs->es[i]? =some e->
 ∃v,V g h e v/\∀j u,v.cells.toList[j]? =some u->vs[i*k+j]? =some u
 |[],vs,i,e,_,hv,he=>by simp at he
 |a::as,vs,i,e,hk,hv,he=>by
  simp only[VE]at hv;obtain⟨v,vs',h1,rfl,hr⟩:=hv;have ha:=hk a (by simp)
  have hl:v.cells.toList.length=k:=by rw[Du ha.2 h1,ha.1]
  cases i with
  |zero=>
   simp at he;subst he;refine⟨v,h1,fun j u hu=>?_⟩;rw[u7,iM,cR (aV hu)];exact hu
  |succ i=>
   simp at he;obtain⟨u,h2,h3⟩:=Gh (fun x hx=>hk x (by simp[hx])) hr he;refine⟨u,h2,fun j x hx=>?_⟩;rw[fC,dF (by omega)];rw[<-h3 j x hx];congr 1;omega
theorem OW{k:Nat}:∀{es:List AV}{vs:List Value},VE g h es vs->dM 1 es->(∀e∈es,e.one=true)->k=1->VL g h es vs
 |[],vs,hv,_,_,_=>by simpa only [VE,VL]using hv
 |e::es,vs,hv,hk,ho,h1=>by
  simp only[VE]at hv;obtain⟨v,vs',h2,rfl,hr⟩:=hv;simp only[VL];refine⟨v,vs',?_,h2,OW hr (fun x hx=>hk x (by simp[hx])) (fun x hx=>ho x (by simp[hx])) h1⟩;rw[DL (ho e (by simp)) h2];rfl
end
section
variable{P:Program}{Γ:Nat->Option AV}{N:Env}{g:G}{h:List Ob}{w:World}{r:Operand->Value}{o:Oper}{t:List AV}
theorem DX{ty:TypeId}{agg:Bool}{sz off:Nat}{cs:List AV}{a:AV}(hp:l_ agg sz off cs=some a)(h1:fU P ty=some agg)(h2:bu P ty=some sz){vs:List Value}
 (hv:VL g h cs vs){b m:Nat}(hc:∀j v,vs[j]? =some v->w.cell? ⟨b,m+j,none⟩=some v):∃u,(loadVar ty ⟨b,m+off,none⟩).run P w=.ok u w/\V g h a u:=by
 unfold l_ at hp
 cases agg
 ·simp only[eb,c9]at hp
  split at hp
  ·obtain⟨u,hu,h3⟩:=qa hv hp;refine⟨u,?_,h3⟩;simp[loadVar,AI h1,hc _ _ hu]
  ·simp at hp
 ·simp only[cq]at hp
  split at hp
  ·rename_i hle;simp only[aj]at hp;subst hp;have hl:=fD hv;refine⟨.agg ((vs.drop off).take sz).toArray,?_,?_⟩
   ·have:=run_loadCells_list (P:=P) w ⟨b,m+off,none⟩ ((vs.drop off).take sz) (by
     intro j v hj;rw[kh,nh];apply hc;rw[pH]at hj
     split at hj
     ·rw[ni]at hj;exact hj
     ·simp at hj)
    have hl2:((vs.drop off).take sz).length=sz:=by simp;omega
    rw[hl2]at this;simp[loadVar,AI h1,iu h2,this]
   ·simp only[V];exact⟨_,rfl,A8 _ (A4 _ hv)⟩
  ·simp at hp
theorem L2(H:Inv P Γ N g h w){i off n:Nat}{v:Value}(hv:V g h (.sl i off n) v){k:Nat}{E:TypeId}{es:List AV}{gr:Option Nat}{fl sh:Bool}
 (hi:h[i]? =some (.row k E es gr fl sh))(hok:cF es gr off n=true):
 dM k es/\∃a cap vs,v=.slice a n cap/\VE g h ((es.drop off).take n) vs/\(n=0\/∃b p,a=some ⟨b,p,none⟩/\∀j u,vs[j]? =some u->w.cell? ⟨b,p+j,none⟩=some u):=by
 have ho:=H.ob i _ hi;simp only[OV]at ho;obtain⟨hk0,hk,hfl,hgl,hb⟩:=ho;have hK:dM k es:=hk;refine⟨hK,?_⟩;simp only[V]at hv;obtain⟨k',E',es',gr',fl',sh',hi',hle,a,cap,rfl,hc,hn,hq⟩:=hv;rw[hi]at hi';simp only[aj,Ob.row.injEq]at hi';obtain⟨rfl,rfl,rfl,rfl,rfl,rfl⟩:=hi'
 by_cases h0:n=0
 ·subst h0;exact⟨a,cap,[],rfl,by simp[VE],Or.inl rfl⟩
 ·rcases(hq hok).2 with⟨h1,_⟩|⟨b,sz,st,hρ,hst,rfl,hcap⟩
  ·exact absurd h1 h0
  ·rw[hρ]at hb;simp only at hb;obtain⟨hst',c,E',fz,vs,hw,hsz,hfree,hE,hcells⟩:=hb
   have hlo:gr.getD 0<=off:=by
    cases gr with
    |none=>simp
    |some lo=>
     simp only[cF,av,a_]at hok;simpa using hok.1
   have hK':dM k (es.drop (gr.getD 0)):=fun e he=>hK e (jh he)
   have hE2:=wL (k:=k) (fun e he=>hK e (jh (jh he))) (t_ hK' hE (off-gr.getD 0)) n;rw[List.drop_drop,show gr.getD 0+(off-gr.getD 0)=off by omega]at hE2;refine⟨_,cap,_,rfl,hE2,Or.inr ⟨b,(off-st)*k,rfl,?_⟩⟩;intro j u hj;rw[pH]at hj
   split at hj
   ·rw[ni]at hj;have hlt:=aV hj;rw[bg hlt,aj]at hj;have:=hcells _ hlt;rw[hj]at this;rw[cell_of_row w b _ c E' fz hw,<-this];congr 1
    have e1:(off-st)*k=(gr.getD 0-st)*k+(off-gr.getD 0)*k:=by rw[<-fC];congr 1;omega
    omega
   ·simp at hj
theorem vS(H:Inv P Γ N g h w){a:AV}{v:Value}(hv:V g h a v){k:Nat}{es:List AV}(he:jP h a=some (k,es)):
 dM k es/\∃ad cap vs,v=.slice ad es.length cap/\VE g h es vs/\(es=[]\/∃b p,ad=some ⟨b,p,none⟩/\∀j u,vs[j]? =some u->w.cell? ⟨b,p+j,none⟩=some u):=by
 cases a<;>simp only[jP,reduceCtorEq,aj,bL]at he
 case list f k' es'=>
  obtain⟨rfl,rfl⟩:=he;simp only[V]at hv;obtain⟨hk,ad,cap,rfl,_,_,h3⟩:=hv;refine⟨jM hk,?_⟩
  rcases h3 with rfl|⟨b,p,vs,rfl,h4,h5⟩
  ·exact⟨ad,cap,[],rfl,by simp[VE],Or.inl rfl⟩
  ·refine⟨_,cap,vs,rfl,h4,Or.inr ⟨b,p,rfl,fun j u hj=>?_⟩⟩;have hl:=aV hj;rw[bg hl,aj]at hj;exact H.mem b _ u (hj▸h5 j hl)
 case sl i off n=>
  split at he
  ·rename_i k' E es' gr fl sh hi
   split at he
   ·rename_i hok;simp only[aj,bL]at he;obtain⟨rfl,rfl⟩:=he;obtain⟨hK,ad,cap,vs,rfl,h1,h2⟩:=L2 H hv hi hok
    have hln:((es'.drop off).take n).length=n:=by
     have:off+n<=es'.length:=by
      cases gr with
      |none=>simpa[cF]using hok
      |some lo=>simp only[cF,av,a_,lK]at hok;omega
     simp;omega
    refine⟨fun e he=>hK e (jh (j5 he)),ad,cap,vs,by rw[hln],h1,?_⟩
    rcases h2 with h2|h2
    ·left;apply kU.1;rw[hln,h2]
    ·exact Or.inr h2
   ·simp at he
  ·simp at he
theorem D2(H:Inv P Γ N g h w){ty:TypeId}{agg:Bool}{sz:Nat}(h1:fU P ty=some agg)(h2:bu P ty=some sz){a p:AV}{v:Value}(hp:V g h p v)
 (hl:o_ Γ h agg sz p=some a):∃ad u,v=.pointer (some ad)/\(loadVar ty ad).run P w=.ok u w/\V g h a u:=by
 cases p<;>simp only[o_,reduceCtorEq]at hl
 case ptr i off=>
  simp only[V]at hp;obtain⟨⟨cs',hi⟩,b,s,hρ,rfl⟩:=hp;rw[hi]at hl;simp only at hl;obtain⟨c,E,fz,hw,_,hv⟩:=H.ob i _ hi b s 0 hρ
  have:=DX (w:=w) hl h1 h2 hv (b:=b) (m:=0) (by
   intro j u hj;rw[cell_of_row w b _ c E fz hw]
   simpa using hj)
  obtain⟨u,h3,h4⟩:=this;exact⟨_,u,rfl,by simpa using h3,h4⟩
 case cZ a' k ix off=>
  simp only[V]at hp;obtain⟨u,b,p,hu,hb,⟨m,hm,hix⟩,rfl⟩:=hp
  split at hl
  ·rename_i k' es he
   split at hl
   ·rename_i hkk;subst hkk;obtain⟨hK,ad,cap,vs,rfl,h3,h4⟩:=vS H hu he
    cases hes:es[ix]? with
    |none=>simp[hes]at hl
    |some e=>
     simp only[hes,j6]at hl;obtain⟨x,h5,h6⟩:=Gh hK h3 hes
     have hne:es≠[]:=by rintro rfl;simp at hes
     rcases h4 with h4|⟨b',p',rfl,h7⟩
     ·exact absurd h4 hne
     ·simp only[Bz,aj,Addr.mk.injEq,oe]at hb;obtain⟨rfl,rfl⟩:=hb
      have:=DX (w:=w) hl h1 h2 (oR (pV (hK e (ik hes)).2) h5) (b:=b') (m:=p'+ix*k') (by
       intro j y hj;rw[nh]
       exact h7 _ _ (h6 j y hj))
      obtain⟨y,h8,h9⟩:=this;exact⟨_,y,rfl,h8,h9⟩
   ·simp at hl
  ·simp at hl
 case dU n off=>
  simp only[V]at hp;subst hp
  cases hn:Γ n with
  |none=>simp[hn]at hl
  |some a'=>
   simp only[hn,j6]at hl;obtain⟨_,vs,hv,hm⟩:=H.kH n a' hn
   have:=DX (w:=w) hl h1 h2 hv (b:=n) (m:=0) (by
    intro j u hj;have hlt:=aV hj;rw[bg hlt,aj]at hj;rw[iM]
    exact H.mem n j u (hj▸hm j hlt))
   obtain⟨u,h3,h4⟩:=this;exact⟨_,u,rfl,by simpa using h3,h4⟩
theorem ac0(H:Inv P Γ N g h w){ty:TypeId}{x:Operand}(ho:o.op=.load ty x){agg:Bool}{sz:Nat}(h1:fU P ty=some agg)(h2:bu P ty=some sz){a p:AV}
 (hx:V g h p (r x))(hl:o_ Γ h agg sz p=some a):aJ P Γ N r o w g h h (some a):=by
 obtain⟨ad,u,h3,h4,h5⟩:=D2 H h1 h2 hx hl;exact aJ.same H (u:=u) (by simp[execOp,ho,h3,Instr.loadAt,Instr.sureAddr,h4]) h5
theorem JV:∀{es:List AV}{s:List UInt8},oP es=some s->(∀e∈es,e.one=true)/\∀(g:G)(h:List Ob)(vs:List Value),VL g h es vs->
 ∃ns:List Int,vs=ns.map (Value.int .u8)/\ns.map (fun n=>UInt8.ofNat n.toNat)=s
 |[],s,hs=>by
  simp only[oP,aj]at hs;subst hs;exact⟨by simp,fun g h vs hv=>⟨[],by simp only[VL]at hv;simp[hv],rfl⟩⟩
 |a::as,s,hs=>by
  simp only[oP]at hs
  split at hs
  ·rename_i b bs hb hbs;simp only[aj]at hs;subst hs;obtain⟨h1,h2⟩:=JV hbs
   cases a<;>simp only[Bl,reduceCtorEq]at hb
   case int k n=>
    cases k<;>simp only[reduceCtorEq,aj]at hb
    refine⟨by intro e he;rcases bt.1 he with rfl|he;·rfl
              ·exact h1 e he,fun g h vs hv=>?_⟩
    simp only[VL,V]at hv;obtain⟨v,vs',rfl,rfl,hr⟩:=hv;obtain⟨ns,rfl,h4⟩:=h2 g h vs' hr;exact⟨n::ns,rfl,by simp[hb,h4]⟩
  ·simp at hs
theorem foldl_push:∀(ns:List Int)(s:ByteArray),(ns.foldl (fun r n=>r.push (UInt8.ofNat n.toNat)) s)=⟨(s.data.toList++ns.map (fun n=>UInt8.ofNat n.toNat)).toArray⟩
 |[],s=>by simp
 |n::ns,s=>by
  rw[u9,foldl_push];apply ByteArray.ext;apply gV;simp[ByteArray.data_push]
theorem Vo{a:AV}{es:List AV}(he:elems h a=some es):∃k,jP h a=some (k,es):=by
 cases a<;>simp only[elems,reduceCtorEq]at he
 case list f k es'=>simp only[aj]at he;subst he;exact⟨k,rfl⟩
 case sl i off n=>
  split at he
  ·rename_i k E es' gr fl sh hi;refine⟨k,?_⟩;simp only[jP,hi]
   split at he
   ·rename_i hok;simp only[aj]at he;simp[hok,he]
   ·simp at he
  ·simp at he
theorem Z_(H:Inv P Γ N g h w){s d e:TypeId}{x:Operand}(ho:o.op=.convert s d x)(hs:P.underlying s=some (.slice e))(he:P.underlying e=some (.int .u8))
 (hd:P.underlying d=some .string){a:AV}(hx:V g h a (r x)){es:List AV}(hes:elems h a=some es){l:List UInt8}(hl:oP es=some l):aJ P Γ N r o w g h h (some (.str l)):=by
 obtain⟨k,hk⟩:=Vo hes;obtain⟨hK,ad,cap,vs,hv,h3,h4⟩:=vS H hx hk;obtain⟨h5,h6⟩:=JV hl;refine aJ.same H (u:=.string ⟨l.toArray⟩) ?_ (by simp[V])
 have hrun:(convert s d (r x)).run P w=.ok (.string ⟨l.toArray⟩) w:=by
  rw[hv,run_convert_bytes_string w s d e ad es.length cap hs he hd]
  rcases h4 with rfl|⟨b,p,rfl,h7⟩
  ·simp only[oP,aj]at hl;subst hl
   cases ad with
   |none=>simp[Conv.bytesToString];rfl
   |some b=>
    have:=run_bytesToString (P:=P) w b 0 cap [] (by simp[loadCells,loadCellsFrom]);simp only[dh,this];rfl
  ·have hK1:dM 1 es:=fun e he=>⟨by
    have:=h5 e he
    cases e<;>first|rfl|simp[AV.one]at this,(hK e he).2⟩
   have hVL:=OW (k:=1) h3 hK1 h5 rfl;obtain⟨ns,rfl,h8⟩:=h6 g h vs hVL
   have hlen:ns.length=es.length:=by have:=fD hVL;simpa using this
   have h9:=run_loadCells_list (P:=P) w ⟨b,p,none⟩ (ns.map (Value.int .u8)) (fun j v hj=>by rw[kh];exact h7 j v hj);rw[il,hlen]at h9;rw[run_bytesToString w _ _ _ ns h9,foldl_push];simp only[h8];congr 3
 simp[execOp,ho,hrun]
end
section
variable{P:Program}{Γ:Nat->Option AV}{N:Env}{g:G}{h:List Ob}{w:World}{r:Operand->Value}{o:Oper}{t:List AV}
theorem Ld{ty e:TypeId}{k:Nat}(hu:P.underlying ty=some (.slice e))(hk:bu P e=some k){a:Option Addr}{n cap l u:Nat}{lo hi:Option Value}
 (h1:match lo with|none=>l=0|some v=>∃k,v=.int k l)(h2:match hi with|none=>u=n|some v=>∃k,v=.int k u)(hlu:l<=u)(hc:u<=cap):
 (Instr.sliceAt ty (.slice a n cap) lo hi none).run P w=.ok (.slice (if cap=l then a else a.map (·.add (l*k))) (u-l) (cap-l)) w:=by
 have:=Ks (P:=P) true n cap l u lo hi h1 h2 hlu hc w;simp[Instr.sliceAt,Instr.slice,run_underlying hu,iu hk,this]
theorem VO{f:Bool}{k:Nat}{es:List AV}{a:Option Addr}{n cap l u s:Nat}(hv:V g h (.list f k es) (.slice a n cap))(hlu:l<=u)(hu:u<=es.length)(hk:k=s\/es=[]):
 V g h (.list (f&&u==es.length) k ((es.take u).drop l)) (.slice (if cap=l then a else a.map (·.add (l*s))) (u-l) (cap-l)):=by
 simp only[V]at hv⊢;obtain⟨hok,a',cap',he,hf,hcap,h3⟩:=hv;simp only[Value.slice.injEq]at he;obtain⟨rfl,rfl,rfl⟩:=he;refine⟨oD hok (fun e he=>j5 (jh he)),(if cap=l then a else a.map (·.add (l*s))),cap-l,?_,?_,?_,?_⟩
 ·congr 1;simp;omega
 ·intro hf';simp only[av,lK]at hf';have:=hf hf'.1
  simp;omega
 ·simp;omega
 ·by_cases hul:u=l
  ·left;apply kU.1
   simp;omega
  ·right
   have hne:es≠[]:=by rintro rfl;simp at hu;omega
   rcases h3 with h3|⟨b,p,vs,rfl,h4,h5⟩
   ·exact absurd h3 hne
   ·have hks:k=s:=hk.resolve_right hne;subst hks;have hK:=jM hok;have h6:=t_ (fun e he=>hK e (j5 he)) (wL hK h4 u) l;refine⟨b,p+l*k,_,?_,h6,?_⟩
    ·rw[if_neg (by omega)];simp[kh]
    ·intro j hj;have hl:=gY hK h4;simp only[CX,gE]at hj;rw[List.getElem_drop,qQ,nh];exact h5 _ _
theorem Xt{i off n l u s:Nat}{a:Option Addr}{m cap:Nat}(hv:V g h (.sl i off n) (.slice a m cap))(hlu:l<=u)(hu:u<=n){E:TypeId}{es:List AV}{gr:Option Nat}{fl sh:Bool}
 (hi:h[i]? =some (.row s E es gr fl sh))(hok:cF es gr off n=true):
 V g h (.sl i (off+l) (u-l)) (.slice (if cap=l then a else a.map (·.add (l*s))) (u-l) (cap-l)):=by
 simp only[V]at hv⊢;obtain⟨k,E',es',gr',fl',sh',hi',hle,a',cap',he,hc,hn,hq⟩:=hv;rw[hi]at hi';simp only[aj,Ob.row.injEq]at hi';obtain⟨rfl,rfl,rfl,rfl,rfl,rfl⟩:=hi';simp only[Value.slice.injEq]at he;obtain⟨rfl,rfl,rfl⟩:=he;refine⟨_,_,_,_,_,_,hi,by omega,_,_,rfl,by omega,?_,?_⟩
 ·intro h0;obtain⟨b,p,rfl⟩:=hn (by omega)
  by_cases hcl:cap=l
  ·exact⟨b,p,by simp[hcl]⟩
  ·exact⟨b,p+l*s,by simp[hcl,kh]⟩
 ·intro hok';obtain⟨hlc,hq⟩:=hq hok;refine⟨by omega,?_⟩
  rcases hq with⟨h1,h2⟩|⟨b,sz,st,h1,h2,rfl,h4⟩
  ·left;omega
  ·by_cases hcl:cap=l
   ·left;omega
   ·right;refine⟨b,sz,st,h1,by omega,?_,?_⟩
    ·rw[if_neg hcl];simp only[dt,kh,aj,Addr.mk.injEq,u_,oe]
     rw[<-fC];congr 1;omega
    ·have:off+l-st+(cap-l)=off-st+cap:=by omega
     rw[this];exact h4
theorem Vb(H:Inv P Γ N g h w){ty e:TypeId}{x:Operand}{lo hi:Option Operand}(ho:o.op=.slice ty x lo hi none)(hu:P.underlying ty=some (.slice e)){s:Nat}(hs:bu P e=some s)
 {f:Bool}{k:Nat}{es:List AV}(hx:V g h (.list f k es) (r x))(he:∀x,V g h (ax t (au x)) (r x)){l u:Nat}(hl:bound t 0 (lo.map au)=some l)(hh:bound t es.length (hi.map au)=some u)
 (hlu:l<=u/\u<=es.length/\(k=s\/es=[])):aJ P Γ N r o w g h h (some (.list (f&&u==es.length) k ((es.take u).drop l))):=by
 have hx0:=hx;simp only[V]at hx0;obtain⟨_,a,cap,hv,_,hcap,_⟩:=hx0;rw[hv]at hx;refine aJ.same H ?_ (VO hx hlu.1 hlu.2.1 hlu.2.2);have:=Ld (w:=w) hu hs (a:=a) (n:=es.length) (cap:=cap) (oE hl he) (oE hh he) hlu.1 (by omega);simp[execOp,ho,hv,this]
theorem WV(H:Inv P Γ N g h w){ty e:TypeId}{x:Operand}{lo hi:Option Operand}(ho:o.op=.slice ty x lo hi none)(hu:P.underlying ty=some (.slice e)){s:Nat}(hs:bu P e=some s)
 {i off n:Nat}(hx:V g h (.sl i off n) (r x))(he:∀x,V g h (ax t (au x)) (r x)){l u:Nat}(hl:bound t 0 (lo.map au)=some l)(hh:bound t n (hi.map au)=some u)
 (hlu:l<=u/\u<=n){E:TypeId}{es:List AV}{gr:Option Nat}{fl sh:Bool}(hi':h[i]? =some (.row s E es gr fl sh))(hok:cF es gr off n=true):
 aJ P Γ N r o w g h h (some (.sl i (off+l) (u-l))):=by
 have hx0:=hx;simp only[V]at hx0;obtain⟨_,_,_,_,_,_,_,_,a,cap,hv,hcap,_⟩:=hx0;rw[hv]at hx;refine aJ.same H ?_ (Xt hx hlu.1 hlu.2 hi' hok);have:=Ld (w:=w) hu hs (a:=a) (n:=n) (cap:=cap) (oE hl he) (oE hh he) hlu.1 (by omega);simp[execOp,ho,hv,this]
inductive F2{α β:Type}(R:α->β->Prop):List α->List β->Prop
 |nil:F2 R [] []
 |cons {a:α} {b:β} {as:List α} {bs:List β}:R a b->F2 R as bs->F2 R (a::as) (b::bs)
theorem Ez(off:Nat):∀(l:List Value)(k:Nat)(cells:Array Value),off+k+l.length<=cells.size->
 ((l.zipIdx k).foldl (fun cs (x:Value×Nat)=>cs.setIfInBounds (off+x.2) x.1) cells).toList=cells.toList.take (off+k)++l++cells.toList.drop (off+k+l.length)
 |[],k,cells,_=>by simp
 |v::l,k,cells,hl=>by
  simp only[bP]at hl;rw[List.zipIdx_cons,u9,Ez off l (k+1) _ (by simp;omega)];rw[I9];have e:=list_seg_step cells.toList (off+k) v l (by simp;omega);simpa[nh]using e
theorem Of{cs new:List AV}{vs ns:List Value}{off:Nat}(h1:VL g h cs vs)(h2:VL g h new ns):VL g h (over cs off new) (vs.take off++ns++vs.drop (off+ns.length)):=by
 unfold over;rw[fD h2];exact kf (kf (A8 _ h1) h2) (A4 _ h1)
theorem Ec(place:Nat->Option (Nat×Nat)):∀(ps:List (Nat×Nat×AV))(parts:List (Nat×Value))(cs out:List AV)(zs:Array Value),
 F2 (fun(p:Nat×Nat×AV) (q:Nat×Value)=>place q.1=some (p.1,p.2.1)/\V g h p.2.2 q.2) ps parts->
 rY cs ps=some out->VL g h cs zs.toList->∃us,Instr.fill place zs parts=some us/\VL g h out us.toList
 |[],parts,cs,out,zs,hf,ho,hv=>by
  cases hf
  simp only[rY,aj]at ho;subst ho;exact⟨zs,rfl,hv⟩
 |(off,sz,a)::ps,parts,cs,out,zs,hf,ho,hv=>by
  cases hf with
  |cons hq hf=>
   rename_i q parts;obtain⟨i,v⟩:=q;obtain⟨hp,ha⟩:=hq;simp only[rY]at ho
   split at ho
   ·rename_i hc;obtain⟨hok,hsz,hle⟩:=hc;have hcells:=oR hok ha;have hl:=fD hcells;have hlz:=fD hv
    have h1:v.cells.size=sz:=by rw[<-hsz,<-hl];simp
    have h2:¬(off+v.cells.size>zs.size):=by
     have:zs.toList.length=zs.size:=by simp
     omega
    have hfold:=Ez off v.cells.toList 0 zs (by simp;omega)
    have hzip:v.cells.zipIdx.foldl (fun cs (x:Value×Nat)=>cs.setIfInBounds (off+x.2) x.1) zs=(v.cells.toList.zipIdx 0).foldl (fun cs (x:Value×Nat)=>cs.setIfInBounds (off+x.2) x.1) zs:=by
     rw[<-CY,Array.toList_zipIdx]
    obtain⟨us,h3,h4⟩:=Ec place ps parts _ out (v.cells.zipIdx.foldl (fun cs (x:Value×Nat)=>cs.setIfInBounds (off+x.2) x.1) zs) hf ho (by
     rw[hzip,hfold];have:=Of (off:=off) hv hcells
     simpa using this)
    refine⟨us,?_,h4⟩;simp only[Instr.fill,hp];rw[if_neg (by simp only[eY,a_,ne_eq,not_or,I_];exact⟨h1,h2⟩)];exact h3
   ·simp at ho
theorem DY(g:G)(h:List Ob)(v:Value):VL g h (fP v).cells v.cells.toList:=by
 by_cases ha:∃cs,v=.agg cs
 ·obtain⟨cs,rfl⟩:=ha;have:=oX (g:=g) (h:=h) (f:=jQ) (e:=id) (tN g h) cs.toList;simpa[fP,AV.cells,Value.cells]using this
 ·have h1:v.cells=#[v]:=by cases v<;>first|rfl|exact absurd ⟨_,rfl⟩ ha
  have h2:(fP v).cells=[fP v]:=by
   have:∀cs,fP v≠.agg cs:=by
    intro cs hc;unfold fP at hc
    split at hc<;>first|exact ha ⟨_,rfl⟩|cases hc|(unfold jQ at hc;split at hc<;>cases hc)
   revert this
   cases fP v<;>intro this<;>first|rfl|exact absurd rfl (this _)
  rw[h1,h2];simp only[VL];exact⟨v,[],rfl,mP g h v,rfl⟩
theorem J8:∀{fs:List Field},fs.all (fun f=>(bu P f.type).isSome)=true->∀w:World,
 (fs.mapM (m:=Sem) fun f=>Prod.mk f.offset<$>sizeOf f.type).run P w=.ok (fs.map fun f=>(f.offset,(bu P f.type).getD 0)) w
 |[],_,_=>rfl
 |f::fs,hf,w=>by
  simp only[qR,av]at hf;obtain⟨s,hs⟩:=I'.1 hf.1;simp[qS,iu hs,J8 hf.2,hs]
theorem aaf(H:Inv P Γ N g h w){ty:TypeId}{ps:Array (Nat×Operand)}(ho:o.op=.build ty ps){z:AV}(hz:dL P ty=some z)(hpl:wD P ty=true){aps:List (Nat×Nat×AX)}
 (hps:oY P ty ps.toList=some aps)(he:∀x,V g h (ax t (au x)) (r x)){cs:List AV}(hf:rY z.cells (aps.map fun p=>(p.1,p.2.1,ax t p.2.2))=some cs):
 aJ P Γ N r o w g h h (some (.agg cs)):=by
 obtain⟨zv,hzr,rfl⟩:=Fb hz w
 have hF:∀(l:List (Nat×Operand))(aps:List (Nat×Nat×AX)),oY P ty l=some aps->
  F2 (fun(p:Nat×Nat×AV) (q:Nat×Value)=>placeOf P ty q.1=some (p.1,p.2.1)/\V g h p.2.2 q.2) (aps.map fun p=>(p.1,p.2.1,ax t p.2.2)) (l.map fun p=>(p.1,r p.2)):=by
  intro l
  induction l with
  |nil=>intro aps hl;simp[oY]at hl;subst hl;exact .nil
  |cons q l ih=>
   intro aps hl;simp only[oY,qS]at hl;obtain⟨i,x⟩:=q
   cases hp:placeOf P ty i with
   |none=>simp[hp]at hl
   |some os=>
    obtain⟨of,s⟩:=os
    cases hm:oY P ty l with
    |none=>simp only[oY]at hm;simp[hp,hm]at hl
    |some aps'=>
     have hm':=hm;simp only[oY]at hm;simp[hp,hm]at hl;subst hl;exact .cons ⟨hp,he x⟩ (ih aps' hm')
 have hF:=hF ps.toList aps hps
 have hparts:(ps.map fun(p:Nat×Operand)=>(p.1,r p.2)).toList=ps.toList.map fun p=>(p.1,r p.2):=by simp
 cases hu:P.underlying ty with
 |none=>simp[wD,hu]at hpl
 |some d=>
  cases d<;>simp only[wD,hu,eb]at hpl
  case struct fs=>
   have hpm:=J8 (P:=P) (fs:=fs.toList) hpl w
   obtain⟨us,h1,h2⟩:=Ec (fun i=>((fs.toList.map fun f=>(f.offset,(bu P f.type).getD 0)).toArray)[i]?) _ _ _ cs zv.cells (by
    have:∀{l:List (Nat×Nat×AV)}{m:List (Nat×Value)},F2 (fun(p:Nat×Nat×AV) (q:Nat×Value)=>placeOf P ty q.1=some (p.1,p.2.1)/\V g h p.2.2 q.2) l m->
     F2 (fun(p:Nat×Nat×AV) (q:Nat×Value)=>((fs.toList.map fun f=>(f.offset,(bu P f.type).getD 0)).toArray)[q.1]? =some (p.1,p.2.1)/\V g h p.2.2 q.2) l m:=by
     intro l m hlm
     induction hlm with
     |nil=>exact .nil
     |cons hq _ ih=>
      refine .cons ⟨?_,hq.2⟩ ih;have hq:=hq.1;simp only[placeOf,hu]at hq
      split at hq
      ·rename_i f hfi;simp only[bS]at hq;obtain⟨s,hs1,hs2⟩:=hq;simp[hfi,hs1,<-hs2]
      ·simp at hq
    exact this hF) hf (DY g h zv)
   refine aJ.same H (u:=.agg us) ?_ (by simp only[V];exact⟨us.toList,by simp,h2⟩);rw[<-hparts]at h1;simp[execOp,ho,Instr.build,run_underlying hu,hzr,Array.mapM_eq_mapM_toList,hpm];simp at h1;rw[h1];simp
  case array n e=>
   cases hs:bu P e with
   |none=>
    simp[hs]at hpl
   |some s=>
    obtain⟨us,h1,h2⟩:=Ec (fun i=>some (i*s,s)) _ _ _ cs zv.cells (by
     have:∀{l:List (Nat×Nat×AV)}{m:List (Nat×Value)},F2 (fun(p:Nat×Nat×AV) (q:Nat×Value)=>placeOf P ty q.1=some (p.1,p.2.1)/\V g h p.2.2 q.2) l m->
      F2 (fun(p:Nat×Nat×AV) (q:Nat×Value)=>(fun i=>some (i*s,s)) q.1=some (p.1,p.2.1)/\V g h p.2.2 q.2) l m:=by
      intro l m hlm
      induction hlm with
      |nil=>exact .nil
      |cons hq _ ih=>
       refine .cons ⟨?_,hq.2⟩ ih;have hq:=hq.1;simp only[placeOf,hu,hs,dt]at hq;exact hq
     exact this hF) hf (DY g h zv)
    refine aJ.same H (u:=.agg us) ?_ (by simp only[V];exact⟨us.toList,by simp,h2⟩);rw[<-hparts]at h1;simp[execOp,ho,Instr.build,run_underlying hu,hzr,iu hs];simp at h1;rw[h1];simp
end
section
variable{P:Program}{Γ:Nat->Option AV}{N:Env}{g:G}{h:List Ob}{w:World}{r:Operand->Value}{o:Oper}{t:List AV}
theorem D'(H:Inv P Γ N g h w){x:Operand}{ty ty':TypeId}{ok:Bool}(ho:o.op=.typeAssert x ty' ty ok){d:TypeDesc}(hd:P.underlying ty=some d)(hd':∀ms,d≠.interface ms){z:AV}
 (hz:dL P ty=some z){a:AV}(ha:V g h a (r x)){v:AV}
 (hv:(∃u b,a=.bW u b/\((u=ty/\v=if ok then .aH [b,.bool true]else b)\/(u≠ty/\ok=true/\v=.aH [z,.bool false])))\/(a=.eh/\ok=true/\v=.aH [z,.bool false])):
 aJ P Γ N r o w g h h (some v):=by
 obtain⟨zv,hzr,rfl⟩:=Fb hz w
 have hd2:∀(x:Value),(match d,x with|.interface _,.nilIface=>false|_,_=>true)=true:=by intro x;cases d<;>first|rfl|exact absurd rfl (hd' _)
 rcases hv with⟨u,b,rfl,h1⟩|⟨rfl,rfl,rfl⟩
 ·simp only[V]at ha;obtain⟨y,hx,hb⟩:=ha
  rcases h1 with⟨rfl,rfl⟩|⟨hne,rfl,rfl⟩
  ·cases ok
   ·refine aJ.same H (u:=y) ?_ hb
    cases d<;>first
     |exact absurd rfl (hd' _)
     |simp[execOp,ho,hx,Instr.typeAssert,run_underlying hd]
   ·refine aJ.same H (u:=.tuple #[y,.bool true]) ?_ (by simp only[cq,V,VL];exact⟨[y,.bool true],rfl,_,_,rfl,hb,_,_,rfl,rfl,rfl⟩)
    cases d<;>first
     |exact absurd rfl (hd' _)
     |simp[execOp,ho,hx,Instr.typeAssert,run_underlying hd]
  ·refine aJ.same H (u:=.tuple #[zv,.bool false]) ?_ (by simp only[V,VL];exact⟨[zv,.bool false],rfl,_,_,rfl,mP g h zv,_,_,rfl,rfl,rfl⟩)
   cases d<;>first
    |exact absurd rfl (hd' _)
    |simp[execOp,ho,hx,Instr.typeAssert,run_underlying hd,hne,hzr]
 ·simp only[V]at ha;refine aJ.same H (u:=.tuple #[zv,.bool false]) ?_ (by simp only[V,VL];exact⟨[zv,.bool false],rfl,_,_,rfl,mP g h zv,_,_,rfl,rfl,rfl⟩)
  cases d<;>first
   |exact absurd rfl (hd' _)
   |simp[execOp,ho,ha,Instr.typeAssert,run_underlying hd,hzr]
theorem K0:∀{xs:List AV}{a v:AV}{vs:List Value}{u:Value},lE a xs=some v->V g h a u->VL g h xs vs->∃y,(vs.foldlM Builtin.min2 u).run P w=.ok y w/\V g h v y
 |[],a,v,vs,u,hm,ha,hx=>by
  simp only[VL]at hx;subst hx
  cases a<;>simp only[lE,reduceCtorEq,aj]at hm
  subst hm;exact⟨u,by simp,ha⟩
 |b::xs,a,v,vs,u,hm,ha,hx=>by
  simp only[VL]at hx;obtain⟨y,vs',rfl,hb,hr⟩:=hx
  cases a<;>try (simp only[lE,reduceCtorEq]at hm;done)
  cases b<;>simp only[lE,reduceCtorEq]at hm
  split at hm
  ·rename_i hk;subst hk;rw[dS ha,dS hb];obtain⟨z,h1,h2⟩:=K0 (u:=.int _ _) hm (by simp only[V];rfl) hr;exact⟨z,by rw[List.foldlM_cons];simp[Builtin.min2,h1],h2⟩
  ·simp at hm
theorem LV:∀{xs:List AV}{a v:AV}{vs:List Value}{u:Value},pr a xs=some v->V g h a u->VL g h xs vs->∃y,(vs.foldlM Builtin.max2 u).run P w=.ok y w/\V g h v y
 |[],a,v,vs,u,hm,ha,hx=>by
  simp only[VL]at hx;subst hx
  cases a<;>simp only[pr,reduceCtorEq,aj]at hm
  subst hm;exact⟨u,by simp,ha⟩
 |b::xs,a,v,vs,u,hm,ha,hx=>by
  simp only[VL]at hx;obtain⟨y,vs',rfl,hb,hr⟩:=hx
  cases a<;>try (simp only[pr,reduceCtorEq]at hm;done)
  cases b<;>simp only[pr,reduceCtorEq]at hm
  split at hm
  ·rename_i hk;subst hk;rw[dS ha,dS hb];obtain⟨z,h1,h2⟩:=LV (u:=.int _ _) hm (by simp only[V];rfl) hr;exact⟨z,by rw[List.foldlM_cons];simp[Builtin.max2,h1],h2⟩
  ·simp at hm
theorem adE(H:Inv P Γ N g h w){xs:Array Operand}{ts:Array TypeId}(ho:o.op=.call ⟨.builtin .min,xs,ts⟩)(he:∀x,V g h (ax t (au x)) (r x)){a v:AV}{as:List AV}
 (hx:(xs.toList.map au).map (ax t)=a::as)(hv:lE a as=some v):aJ P Γ N r o w g h h (some v):=by
 have h1:VL g h (a::as) (xs.toList.map r):=by rw[<-hx,ij];exact oX he _
 simp only[VL]at h1;obtain⟨u,vs,h2,h3,h4⟩:=h1;obtain⟨y,h5,h6⟩:=K0 (P:=P) (w:=w) hv h3 h4;refine aJ.same H (u:=y) ?_ h6
 have h7:(xs.map r).toList=u::vs:=by simpa using h2
 simp[execOp,ho,resolve,invoke,builtin,Builtin.min_,h2,h5]
theorem adq(H:Inv P Γ N g h w){xs:Array Operand}{ts:Array TypeId}(ho:o.op=.call ⟨.builtin .max,xs,ts⟩)(he:∀x,V g h (ax t (au x)) (r x)){a v:AV}{as:List AV}
 (hx:(xs.toList.map au).map (ax t)=a::as)(hv:pr a as=some v):aJ P Γ N r o w g h h (some v):=by
 have h1:VL g h (a::as) (xs.toList.map r):=by rw[<-hx,ij];exact oX he _
 simp only[VL]at h1;obtain⟨u,vs,h2,h3,h4⟩:=h1;obtain⟨y,h5,h6⟩:=LV (P:=P) (w:=w) hv h3 h4;refine aJ.same H (u:=y) ?_ h6
 have h7:(xs.map r).toList=u::vs:=by simpa using h2
 simp[execOp,ho,resolve,invoke,builtin,Builtin.max_,h2,h5]
theorem ow{ty:TypeId}{s:SK}(hs:kq P ty=some s):P.cellsOf ty=1/\match s with|.int=>∃k,P.underlying ty=some (.int k)|.str=>P.underlying ty=some .string|.bool=>P.underlying ty=some .bool:=by
 unfold kq at hs
 split at hs
 ·rename_i hc;refine⟨by simpa using hc,?_⟩
  split at hs<;>simp only[aj,reduceCtorEq]at hs<;>subst hs<;>simp_all
 ·simp at hs
theorem Ur{ty:TypeId}{s:SK}(hs:kq P ty=some s)(w:World):(isAgg ty).run P w=.ok false w:=by
 obtain⟨_,h1⟩:=ow hs
 cases s<;>simp only at h1
 ·obtain⟨k,hk⟩:=h1;simp[isAgg,run_underlying hk]
 ·simp[isAgg,run_underlying h1]
 ·simp[isAgg,run_underlying h1]
theorem s8{ty:TypeId}{s:SK}(hs:kq P ty=some s){xs:Array Value}{i:Nat}{x:Value}(hx:xs[i]? =some x)(w:World):(part ty xs i).run P w=.ok x w:=by
 simp[part,Ur hs,hx]
theorem K_(a b:List UInt8):((⟨a.toArray⟩:ByteArray)==⟨b.toArray⟩)=(a==b):=by
 rw[beq_toListBytes,Aw]
theorem Ab{ty:TypeId}{s:SK}(hs:kq P ty=some s){a b:AV}{c:Bool}(hc:eI s a b=some c){x y:Value}(hx:V g h a x)(hy:V g h b y)(d:Nat)(w:World):
 (Op.equalIn (d+1) ty x y).run P w=.ok c w:=by
 obtain⟨_,h1⟩:=ow hs
 cases s<;>simp only at h1<;>cases a<;>cases b<;>simp only[eI,reduceCtorEq,aj]at hc
 ·obtain⟨k,hk⟩:=h1
  split at hc
  ·rename_i hkk;subst hkk;simp only[aj]at hc;rw[dS hx,dS hy,run_equalIn_int w d ty _ k _ _ hk,hc]
  ·simp at hc
 ·rw[iW hx,iW hy,run_equalIn_string w d ty _ _ h1,Aw,hc]
 ·rw[lj hx,lj hy,run_equalIn_bool w d ty _ _ h1,hc]
theorem JQ{d:Nat}:∀{fs:List Field}{ss:List SK}{i:Nat}{as bs:List AV}{xs ys:Array Value}{c:Bool},r8 P i fs=some ss->VL g h as (xs.toList.drop i)->VL g h bs (ys.toList.drop i)->
 gn ss as bs=some c->∀w:World,(Op.eqFields (d+1) xs ys fs).run P w=.ok c w
 |[],ss,i,as,bs,xs,ys,c,hf,hx,hy,hc,w=>by
  simp only[r8,aj]at hf;subst hf
  cases as<;>cases bs<;>simp only[gn,reduceCtorEq,aj]at hc
  subst hc;simp[Op.eqFields]
 |f::fs,ss,i,as,bs,xs,ys,c,hf,hx,hy,hc,w=>by
  simp only[r8]at hf
  split at hf
  ·rename_i s ss' hs hss
   split at hf
   ·rename_i hn;simp only[av,bne_iff_ne,ne_eq,lK]at hn;simp only[aj]at hf;subst hf
    cases as with
    |nil=>simp[gn]at hc
    |cons a as=>
     cases bs with
     |nil=>simp[gn]at hc
     |cons b bs=>
      simp only[VL]at hx hy;obtain⟨x,xs',hx1,hx2,hx3⟩:=hx;obtain⟨y,ys',hy1,hy2,hy3⟩:=hy
      have hxi:xs[i]? =some x:=by
       have:=congrArg (·[0]?) hx1;simp[ni]at this;exact this
      have hyi:ys[i]? =some y:=by
       have:=congrArg (·[0]?) hy1;simp[ni]at this;exact this
      have hxd:xs.toList.drop (i+1)=xs':=by rw[<-xR,hx1];rfl
      have hyd:ys.toList.drop (i+1)=ys':=by rw[<-xR,hy1];rfl
      simp only[gn]at hc
      cases he:eI s a b with
      |none=>simp[he]at hc
      |some e=>
       have h1:=Ab hs he hx2 hy2 d w;simp only[he]at hc;have hp1:=s8 hs hxi w;have hp2:=s8 hs hyi w;simp only[Op.eqFields,hn.1,ne_eq,not_false_eq_true,cq,Sem.run_bind,Result.andThen_ok,hn.2,hp1,hp2,h1]
       cases e
       ·simp only[aj]at hc;subst hc;simp
       ·simp only at hc;simp only[pI,eb,c9];exact JQ hss (by rw[hxd];exact hx3) (by rw[hyd];exact hy3) hc w
   ·simp at hf
  ·simp at hf
def rN(d:Nat)(e:TypeId)(n:Nat)(xs ys:Array Value):List Nat->Sem Bool
 |[]=>pure true
 |i::is=>do
  let a<-part e xs (i*n)
  let b<-part e ys (i*n)
  let r<-Op.equalIn d e a b
  if(!r)=true then pure false else rN d e n xs ys is
theorem run_equalIn_array(d:Nat)(ty e:TypeId)(len s:Nat)(xs ys:Array Value)(ht:P.underlying ty=some (.array len e))(hs:bu P e=some s)(w:World):
 (Op.equalIn (d+1) ty (.agg xs) (.agg ys)).run P w=(rN d e s xs ys (List.range' 0 len)).run P w:=by
 simp only[Op.equalIn,Sem.run_bind,run_underlying ht,Result.andThen_ok,iu hs];rw[avf];simp only[Std.Legacy.Range.size,CZ,Nat.add_sub_cancel,Nat.div_one];generalize List.range' 0 len=is
 induction is generalizing w with
 |nil=>simp[rN]
 |cons i is ih=>
  simp only[List.forIn_cons,rN,Sem.run_bind,Sem.run_ite];generalize(part e xs (i*s)).run P w=r1
  cases r1 with
  |ok a w1=>
   simp only[Result.andThen_ok];generalize(part e ys (i*s)).run P w1=r2
   cases r2 with
   |ok b w2=>
    simp only[Result.andThen_ok];generalize(Op.equalIn d e a b).run P w2=r3
    cases r3 with
    |ok r w3=>
     cases r
     ·simp only[Result.andThen_ok,vc,cq,Sem.run_pure]
     ·simp only[Result.andThen_ok,pI,eb,c9,Sem.run_pure];exact ih w3
    |halt x w3=>simp[Result.andThen]
   |halt x w2=>simp[Result.andThen]
  |halt x w1=>simp[Result.andThen]
theorem J4{d:Nat}{e:TypeId}{s:SK}(hs:kq P e=some s):∀{n i:Nat}{as bs:List AV}{xs ys:Array Value}{c:Bool},VL g h as (xs.toList.drop i)->VL g h bs (ys.toList.drop i)->
 gn (List.replicate n s) as bs=some c->∀w:World,(rN (d+1) e 1 xs ys (List.range' i n)).run P w=.ok c w
 |0,i,as,bs,xs,ys,c,hx,hy,hc,w=>by
  simp only[List.replicate_zero]at hc
  cases as<;>cases bs<;>simp only[gn,reduceCtorEq,aj]at hc
  subst hc;simp[rN]
 |n+1,i,as,bs,xs,ys,c,hx,hy,hc,w=>by
  simp only[kV]at hc
  cases as with
  |nil=>simp[gn]at hc
  |cons a as=>
   cases bs with
   |nil=>simp[gn]at hc
   |cons b bs=>
    simp only[VL]at hx hy;obtain⟨x,xs',hx1,hx2,hx3⟩:=hx;obtain⟨y,ys',hy1,hy2,hy3⟩:=hy
    have hxi:xs[i]? =some x:=by
     have:=congrArg (·[0]?) hx1;simp[ni]at this;exact this
    have hyi:ys[i]? =some y:=by
     have:=congrArg (·[0]?) hy1;simp[ni]at this;exact this
    have hxd:xs.toList.drop (i+1)=xs':=by rw[<-xR,hx1];rfl
    have hyd:ys.toList.drop (i+1)=ys':=by rw[<-xR,hy1];rfl
    simp only[gn]at hc
    cases he:eI s a b with
    |none=>simp[he]at hc
    |some e'=>
     have h1:=Ab hs he hx2 hy2 d w;simp only[he]at hc;have hp1:=s8 hs hxi w;have hp2:=s8 hs hyi w;simp only[List.range'_succ,rN,Sem.run_bind,Result.andThen_ok,Nat.mul_one,hp1,hp2,h1]
     cases e'
     ·simp only[aj]at hc;subst hc;simp
     ·simp only at hc;simp only[pI,eb,c9];exact J4 hs (by rw[hxd];exact hx3) (by rw[hyd];exact hy3) hc w
theorem cellsOf_size{ty:TypeId}{s:SK}(hs:kq P ty=some s):bu P ty=some 1:=by
 obtain⟨h1,h2⟩:=ow hs
 have hu:∃d,P.underlying ty=some d:=by
  cases s<;>simp only at h2
  ·exact⟨_,h2.choose_spec⟩
  ·exact⟨_,h2⟩
  ·exact⟨_,h2⟩
 unfold Program.cellsOf at h1;unfold bu
 cases hi:P.info? ty with
 |none=>simp[hi]at h1
 |some i=>simp[hi]at h1;simp[h1]
theorem Lr{ty:TypeId}{ss:List SK}(hs:uA P ty=some ss){as bs:List AV}{xs ys:List Value}{c:Bool}(hx:VL g h as xs)(hy:VL g h bs ys)(hc:gn ss as bs=some c)(d:Nat)(w:World):
 (Op.equalIn (d+2) ty (.agg xs.toArray) (.agg ys.toArray)).run P w=.ok c w:=by
 unfold uA at hs
 split at hs
 ·rename_i fs hu
  split at hs
  ·rename_i hst
   have hst':P.stoodInHeld ty=false:=by simpa using hst
   have hfo:P.fieldsOf ty=fs:=by simp[Program.fieldsOf,hu]
   rw[run_equalIn_struct w (d+1) ty _ _ (by rw[hfo];exact hu) hst',hfo];exact JQ hs (by simpa using hx) (by simpa using hy) hc w
  ·simp at hs
 ·rename_i n e hu;simp only[bS]at hs;obtain⟨s,h1,rfl⟩:=hs;rw[run_equalIn_array (d+1) ty e n 1 _ _ hu (cellsOf_size h1)];exact J4 h1 (by simpa using hx) (by simpa using hy) hc w
 ·simp at hs
theorem Yc{ty:TypeId}{e:EK}(hk:iv P ty=some e){a b:AV}{c:Bool}(hc:b_ e a b=some c){x y:Value}(hx:V g h a x)(hy:V g h b y)(w:World):
 (Op.equal ty x y).run P w=.ok c w:=by
 unfold iv at hk
 split at hk
 ·rename_i s hs;simp only[aj]at hk;subst hk;exact Ab hs hc hx hy 9999 w
 ·simp only[bS]at hk;obtain⟨ss,hss,rfl⟩:=hk
  cases a<;>cases b<;>simp only[b_,reduceCtorEq]at hc
  split at hc
  ·simp only[V]at hx hy;obtain⟨xs,rfl,hx⟩:=hx;obtain⟨ys,rfl,hy⟩:=hy;exact Lr hss hx hy hc 9998 w
  ·simp at hc
end
section
variable{P:Program}{Γ:Nat->Option AV}{N:Env}{g:G}{h:List Ob}{w:World}{r:Operand->Value}{o:Oper}{t:List AV}
theorem VR{ty:TypeId}{ms:Array (String×TypeId)}(hu:P.underlying ty=some (.interface ms))(u:TypeId)(v:Value)(d:Nat)(w:World):
 (Op.equalIn (d+1) ty .nilIface (.iface u v)).run P w=.ok false w/\(Op.equalIn (d+1) ty (.iface u v) .nilIface).run P w=.ok false w:=by
 constructor<;>simp[Op.equalIn,run_underlying hu]
theorem zQ{ty:TypeId}{ms:Array (String×TypeId)}(hu:P.underlying ty=some (.interface ms))(u:TypeId)(v:Value)(w:World):
 (Op.equal ty .nilIface (.iface u v)).run P w=.ok false w/\(Op.equal ty (.iface u v) .nilIface).run P w=.ok false w:=VR hu u v 9999 w
theorem WS{ty:TypeId}{p q:Array TypeId}{v:Bool}(hu:P.underlying ty=some (.func p q v))(f:Fn)(a b:Array Value)(d:Nat)(w:World):
 (Op.equalIn (d+1) ty .nilFunc .nilFunc).run P w=.ok true w/\(Op.equalIn (d+1) ty .nilFunc (.func f a b)).run P w=.ok false w/\(Op.equalIn (d+1) ty (.func f a b) .nilFunc).run P w=.ok false w:=by
 refine⟨?_,?_,?_⟩<;>simp[Op.equalIn,run_underlying hu]
theorem tH{ty:TypeId}{p q:Array TypeId}{v:Bool}(hu:P.underlying ty=some (.func p q v))(f:Fn)(a b:Array Value)(w:World):
 (Op.equal ty .nilFunc .nilFunc).run P w=.ok true w/\(Op.equal ty .nilFunc (.func f a b)).run P w=.ok false w/\(Op.equal ty (.func f a b) .nilFunc).run P w=.ok false w:=WS hu f a b 9999 w
theorem rz{ty:TypeId}{x y:Value}{c:Bool}(h1:binOp .eql ty x y=(do pure (.bool (<-Op.equal ty x y))))(h2:(Op.equal ty x y).run P w=.ok c w):(binOp .eql ty x y).run P w=.ok (.bool c) w:=by
 rw[h1,Sem.run_bind,h2];rfl
theorem rA{ty:TypeId}{x y:Value}{c:Bool}(h1:binOp .neq ty x y=(do pure (.bool (!(<-Op.equal ty x y)))))(h2:(Op.equal ty x y).run P w=.ok c w):(binOp .neq ty x y).run P w=.ok (.bool !c) w:=by
 rw[h1,Sem.run_bind,h2];rfl
theorem K8{ty:TypeId}{e:EK}(hk:oT P ty=some e){x y:Operand}{a b:AV}{c:Bool}(hc:b_ e a b=some c)(hx:V g h a (r x))(hy:V g h b (r y))(w:World):
 (do eqGuard .eql ty x y (r x) (r y);binOp .eql ty (r x) (r y):Sem Value).run P w=.ok (.bool c) w/\
 (do eqGuard .neq ty x y (r x) (r y);binOp .neq ty (r x) (r y):Sem Value).run P w=.ok (.bool !c) w:=by
 unfold oT at hk
 split at hk
 ·rename_i s hs;simp only[aj]at hk;subst hk;have hq:=Ab hs hc hx hy 9999;obtain⟨_,h1⟩:=ow hs
  cases s<;>simp only at h1<;>cases a<;>cases b<;>simp only[b_,eI,reduceCtorEq,aj]at hc
  ·obtain⟨k,hk⟩:=h1
   split at hc
   ·rename_i hkk;subst hkk;simp only[aj]at hc;subst hc;rw[dS hx,dS hy];constructor
    ·simp only[Sem.run_bind];rw[f_ (by simp) (by simp)];simp[binOp,Op.intCmp]
    ·simp only[Sem.run_bind];rw[f_ (by simp) (by simp)];simp[binOp,Op.intCmp,bne]
   ·simp at hc
  ·rw[iW hx,iW hy];subst hc;constructor
   ·simp only[Sem.run_bind];rw[f_ (by simp) (by simp)];simp only[Result.andThen_ok,binOp,Op.stringOp,Aw];rfl
   ·simp only[Sem.run_bind];rw[f_ (by simp) (by simp)];simp only[Result.andThen_ok,binOp,Op.stringOp,Aw];rfl
  ·rw[lj hx,lj hy]at*;subst hc;constructor
   ·simp only[Sem.run_bind];rw[f_ (by simp) (by simp)];exact rz rfl (run_equal_bool w ty _ _ h1)
   ·simp only[Sem.run_bind];rw[f_ (by simp) (by simp)];exact rA rfl (run_equal_bool w ty _ _ h1)
 ·split at hk
  iterate 2
   ·split at hk
    ·rename_i hg
     have hg':P.eqGuardType P.depth ty=false:=by simpa using hg
     simp only[bS]at hk;obtain⟨ss,hss,rfl⟩:=hk
     cases a<;>cases b<;>simp only[b_,reduceCtorEq]at hc
     split at hc
     ·simp only[V]at hx hy;obtain⟨xs,hx1,hx⟩:=hx;obtain⟨ys,hy1,hy⟩:=hy;have:=Lr hss hx hy hc 9998 w;rw[hx1,hy1];constructor
      ·simp only[Sem.run_bind];rw[run_eqGuard_agg w .eql ty x y _ _ hg'];simp only[Result.andThen_ok,run_eql_struct,this]
      ·simp only[Sem.run_bind];rw[run_eqGuard_agg w .neq ty x y _ _ hg'];simp only[Result.andThen_ok,run_neq_struct,this]
     ·simp at hc
    ·simp at hk
  ·rename_i ms hu;simp only[aj]at hk;subst hk
   cases a<;>cases b<;>simp only[b_,reduceCtorEq,aj]at hc
   all_goals
    subst hc;simp only[V]at hx hy
   ·obtain⟨y',hy,_⟩:=hy;rw[hx,hy];constructor
    ·simp only[Sem.run_bind];rw[f_ (by simp) (by simp)];exact rz rfl (zQ hu _ _ w).1
    ·simp only[Sem.run_bind];rw[f_ (by simp) (by simp)];exact rA rfl (zQ hu _ _ w).1
   ·obtain⟨y',hx,_⟩:=hx;rw[hx,hy];constructor
    ·simp only[Sem.run_bind];rw[f_ (by simp) (by simp)];exact rz rfl (zQ hu _ _ w).2
    ·simp only[Sem.run_bind];rw[f_ (by simp) (by simp)];exact rA rfl (zQ hu _ _ w).2
  ·rename_i p q v hu;simp only[aj]at hk;subst hk
   cases a<;>cases b<;>simp only[b_,reduceCtorEq,aj]at hc
   all_goals
    subst hc;simp only[V]at hx hy
   ·rw[hx,hy];constructor
    ·simp only[Sem.run_bind];rw[f_ (by simp) (by simp)];exact rz rfl (tH hu (.func 0) #[] #[] w).1
    ·simp only[Sem.run_bind];rw[f_ (by simp) (by simp)];exact rA rfl (tH hu (.func 0) #[] #[] w).1
   ·obtain⟨_,_,hy,_⟩:=hy;rw[hx,hy];constructor
    ·simp only[Sem.run_bind];rw[f_ (by simp) (by simp)];exact rz rfl (tH hu _ _ _ w).2.1
    ·simp only[Sem.run_bind];rw[f_ (by simp) (by simp)];exact rA rfl (tH hu _ _ _ w).2.1
   ·obtain⟨_,_,hx,_⟩:=hx;rw[hx,hy];constructor
    ·simp only[Sem.run_bind];rw[f_ (by simp) (by simp)];exact rz rfl (tH hu _ _ _ w).2.2
    ·simp only[Sem.run_bind];rw[f_ (by simp) (by simp)];exact rA rfl (tH hu _ _ _ w).2.2
  ·simp at hk
theorem ade(H:Inv P Γ N g h w){ty ty':TypeId}{x y:Operand}(ho:o.op=.binOp .eql ty x y ty'){e:EK}(hk:oT P ty=some e){a b:AV}{c:Bool}(hc:b_ e a b=some c)
 (hx:V g h a (r x))(hy:V g h b (r y)):aJ P Γ N r o w g h h (some (.bool c)):=by
 refine aJ.same H (u:=.bool c) ?_ (by simp[V]);have:=(K8 hk hc hx hy w).1;simp only[execOp,ho];rw[Sem.run_bind,this];rfl
theorem adV(H:Inv P Γ N g h w){ty ty':TypeId}{x y:Operand}(ho:o.op=.binOp .neq ty x y ty'){e:EK}(hk:oT P ty=some e){a b:AV}{c:Bool}(hc:b_ e a b=some c)
 (hx:V g h a (r x))(hy:V g h b (r y)):aJ P Γ N r o w g h h (some (.bool !c)):=by
 refine aJ.same H (u:=.bool !c) ?_ (by simp[V]);have:=(K8 hk hc hx hy w).2;simp only[execOp,ho];rw[Sem.run_bind,this];rfl
theorem Dl{ty:TypeId}{s:SK}(hs:kq P ty=some s)(em:Bool)(n:Nat)(x:Value)(w:World):(Instr.checkKey em (n+1) ty x).run P w=.ok () w:=by
 obtain⟨_,h1⟩:=ow hs
 cases s<;>simp only at h1
 ·obtain⟨k,hk⟩:=h1;simp[Instr.checkKey,run_underlying hk]
 ·simp[Instr.checkKey,run_underlying h1]
 ·simp[Instr.checkKey,run_underlying h1]
theorem J0{em:Bool}{n:Nat}:∀{fs:List Field}{ss:List SK}{i:Nat}{as:List AV}{xs:Array Value},r8 P i fs=some ss->VL g h as (xs.toList.drop i)->cf ss as=true->
 ∀w:World,(forIn (m:=Sem) fs PUnit.unit fun f _=>
  if f.name≠ "_" then do
   let x<-part f.type xs f.offset
   Instr.checkKey em (n+1) f.type x
   pure (ForInStep.yield PUnit.unit)
  else pure (ForInStep.yield PUnit.unit)).run P w=.ok PUnit.unit w
 |[],ss,i,as,xs,hf,hx,hc,w=>by simp
 |f::fs,ss,i,as,xs,hf,hx,hc,w=>by
  simp only[r8]at hf
  split at hf
  ·rename_i s ss' hs hss
   split at hf
   ·rename_i hn;simp only[av,bne_iff_ne,ne_eq,lK]at hn;simp only[aj]at hf;subst hf
    cases as with
    |nil=>simp[cf]at hc
    |cons a as=>
     simp only[VL]at hx;obtain⟨x,xs',hx1,hx2,hx3⟩:=hx
     have hxi:xs[i]? =some x:=by
      have:=congrArg (·[0]?) hx1;simp[ni]at this;exact this
     have hxd:xs.toList.drop (i+1)=xs':=by rw[<-xR,hx1];rfl
     simp only[cf,av]at hc;have hp1:=s8 hs hxi w;have ih:=J0 (em:=em) (n:=n) (xs:=xs) hss (by rw[hxd];exact hx3) hc.2 w;rw[List.forIn_cons];simp only[Sem.run_bind,hn.1,ne_eq,not_false_eq_true,cq,hn.2,hp1,Result.andThen_ok,Dl hs,Sem.run_pure];exact ih
   ·simp at hf
  ·simp at hf
theorem KF{em:Bool}{n:Nat}{e:TypeId}{s:SK}(hs:kq P e=some s):∀{m i:Nat}{as:List AV}{xs:Array Value},VL g h as (xs.toList.drop i)->cf (List.replicate m s) as=true->
 ∀w:World,(forIn (m:=Sem) (List.range' i m) PUnit.unit fun i _=>do
  Instr.checkKey em (n+1) e (<-part e xs (i*(<-sizeOf e)))
  pure (ForInStep.yield PUnit.unit)).run P w=.ok PUnit.unit w
 |0,i,as,xs,hx,hc,w=>by simp
 |m+1,i,as,xs,hx,hc,w=>by
  cases as with
  |nil=>simp[kV,cf]at hc
  |cons a as=>
   simp only[VL]at hx;obtain⟨x,xs',hx1,hx2,hx3⟩:=hx
   have hxi:xs[i]? =some x:=by
    have:=congrArg (·[0]?) hx1;simp[ni]at this;exact this
   have hxd:xs.toList.drop (i+1)=xs':=by rw[<-xR,hx1];rfl
   simp only[kV,cf,av]at hc;have hp1:=s8 hs hxi w;have ih:=KF (em:=em) (n:=n) hs (xs:=xs) (by rw[hxd];exact hx3) hc.2 w;rw[List.range'_succ,List.forIn_cons];simp only[Sem.run_bind,iu (cellsOf_size hs),Nat.mul_one,hp1,Result.andThen_ok,Dl hs,Sem.run_pure];exact ih
theorem UZ{ty:TypeId}{e:EK}(hk:iv P ty=some e){a:AV}(ha:isKey e a=true){x:Value}(hx:V g h a x)(em:Bool)(n:Nat)(w:World):(Instr.checkKey em (n+2) ty x).run P w=.ok () w:=by
 unfold iv at hk
 split at hk
 ·rename_i s hs;exact Dl hs em (n+1) x w
 ·simp only[bS]at hk;obtain⟨ss,hss,rfl⟩:=hk
  cases a<;>simp only[isKey,eb]at ha
  simp only[V]at hx;obtain⟨xs,rfl,hx⟩:=hx;unfold uA at hss
  split at hss
  ·rename_i fs hu
   split at hss
   ·have:=J0 (em:=em) (n:=n) (xs:=xs.toArray) hss (by simpa using hx) ha w;rw[show n+2=(n+1)+1 from rfl,Instr.checkKey];simp only[Sem.run_bind,run_underlying hu,Result.andThen_ok];rw[<-Array.forIn_toList];rw[this];rfl
   ·simp at hss
  ·rename_i m e hu;simp only[bS]at hss;obtain⟨s,h1,rfl⟩:=hss;have:=KF (em:=em) (n:=n) h1 (i:=0) (xs:=xs.toArray) (by simpa using hx) ha w;rw[show n+2=(n+1)+1 from rfl,Instr.checkKey];simp only[Sem.run_bind,run_underlying hu,Result.andThen_ok];rw[avf];simp only[Std.Legacy.Range.size,CZ,Nat.add_sub_cancel,Nat.div_one];rw[this];rfl
  ·simp at hss
theorem run_checkKey{ty:TypeId}{e:EK}(hk:iv P ty=some e){a:AV}(ha:isKey e a=true){x:Value}(hx:V g h a x)(em:Bool)(w:World):(Instr.checkKey em 10000 ty x).run P w=.ok () w:=
 UZ hk ha hx em 9998 w
def findAt(e:EK)(k:AV):List (AV×AV)->Option (Option Nat)
 |[]=>some none
 |(a,_)::es=>
  match b_ e k a with
  |some true=>some (some 0)
  |some false=>(findAt e k es).map (·.map (·+1))
  |none=>none
theorem Lq{e:EK}{k:AV}:∀{es:List (AV×AV)}{q:Option AV},eD e k es=some q->∃p,findAt e k es=some p/\match p with|none=>q=none|some i=>∃x,es[i]? =some x/\q=some x.2
 |[],q,hq=>by simp only[eD,aj]at hq;exact⟨none,rfl,hq.symm⟩
 |(a,v)::es,q,hq=>by
  simp only[eD]at hq;simp only[findAt]
  split at hq
  ·rename_i h1;simp only[aj]at hq;exact⟨some 0,by first|rw[h1]|rfl,_,rfl,hq.symm⟩
  ·rename_i h1;obtain⟨p,h2,h3⟩:=Lq hq
   first|rw[h1,h2]|rw[h2]
   cases p with
   |none=>exact⟨none,rfl,h3⟩
   |some i=>exact⟨some (i+1),rfl,by simpa using h3⟩
  ·simp at hq
theorem MA{e:EK}{k v:AV}:∀{es es':List (AV×AV)},h_ e k v es=some es'->∃p,findAt e k es=some p/\match p with|none=>es'=es++[(k,v)]|some i=>i<es.length/\es'=es.set i (k,v)
 |[],es',hq=>by simp only[h_,aj]at hq;exact⟨none,rfl,by simp[<-hq]⟩
 |(a,u)::es,es',hq=>by
  simp only[h_]at hq;simp only[findAt]
  split at hq
  ·rename_i h1;simp only[aj]at hq;exact⟨some 0,by first|rw[h1]|rfl,by simp,by simp[<-hq]⟩
  ·rename_i h1;simp only[bS]at hq;obtain⟨es2,h4,h5⟩:=hq;obtain⟨p,h2,h3⟩:=MA h4
   first|rw[h1,h2]|rw[h2]
   cases p with
   |none=>exact⟨none,rfl,by simp[<-h5,h3]⟩
   |some i=>exact⟨some (i+1),rfl,by simpa using h3.1,by simp[<-h5,h3.2]⟩
  ·simp at hq
theorem M8{e:EK}{k:AV}:∀{es es':List (AV×AV)},ma e k es=some es'->∃p,findAt e k es=some p/\match p with|none=>es'=es|some i=>i<es.length/\es'=es.eraseIdx i
 |[],es',hq=>by simp only[ma,aj]at hq;exact⟨none,rfl,by simp[<-hq]⟩
 |(a,u)::es,es',hq=>by
  simp only[ma]at hq;simp only[findAt]
  split at hq
  ·rename_i h1;simp only[aj]at hq;exact⟨some 0,by first|rw[h1]|rfl,by simp,by simp[<-hq]⟩
  ·rename_i h1;simp only[bS]at hq;obtain⟨es2,h4,h5⟩:=hq;obtain⟨p,h2,h3⟩:=M8 h4
   first|rw[h1,h2]|rw[h2]
   cases p with
   |none=>exact⟨none,rfl,by simp[<-h5,h3]⟩
   |some i=>exact⟨some (i+1),rfl,by simpa using h3.1,by simp[<-h5,h3.2]⟩
  ·simp at hq
theorem JF{ty:TypeId}{e:EK}(hk:iv P ty=some e){k:AV}{x:Value}(hx:V g h k x):∀{es:List (AV×AV)}{ba:List MapEntry}{p:Option Nat}(j:Nat),VL g h (es.map (·.1)) (ba.map (·.key))->
 findAt e k es=some p->∀w:World,(Instr.findAsking ty x ba j).run P w=.ok (p.bind fun i=>(ba[i]?).map fun m=>(j+i,m.val)) w
 |[],ba,p,j,hv,hp,w=>by
  simp only[mC,VL]at hv
  have:ba=[]:=by simpa using hv
  subst this;simp only[findAt,aj]at hp;subst hp;simp[Instr.findAsking]
 |(a,v)::es,ba,p,j,hv,hp,w=>by
  simp only[b9,VL]at hv;obtain⟨y,ys,h1,h2,h3⟩:=hv
  cases ba with
  |nil=>simp at h1
  |cons m ba=>
   simp only[b9,sI]at h1;obtain⟨rfl,rfl⟩:=h1;simp only[findAt]at hp
   cases he:b_ e k a with
   |none=>simp[he]at hp
   |some c=>
    have hq:=Yc hk he hx h2 w;simp only[he]at hp;simp only[Instr.findAsking,Sem.run_bind,hq,Result.andThen_ok]
    cases c
    ·simp only[bS]at hp;obtain⟨p',hp',rfl⟩:=hp;simp only[eb,c9];rw[JF hk hx (j+1) h3 hp' w]
     cases p' with
     |none=>simp
     |some i=>simp[nh,xS 1 i]
    ·simp only[aj]at hp;subst hp;simp
theorem findNow_spec{ty:TypeId}{s:SK}(hs:kq P ty=some s){d:TypeDesc}(hd:P.underlying ty=some d){k:AV}{x:Value}(hx:V g h k x):
 ∀{es:List (AV×AV)}{ba:List MapEntry}{p:Option Nat}(j:Nat),VL g h (es.map (·.1)) (ba.map (·.key))->
 findAt (.sc s) k es=some p->Instr.findNow d x ba j=some (p.bind fun i=>(ba[i]?).map fun m=>(j+i,m.val))
 |[],ba,p,j,hv,hp=>by
  simp only[mC,VL]at hv
  have:ba=[]:=by simpa using hv
  subst this;simp only[findAt,aj]at hp;subst hp;simp[Instr.findNow]
 |(a,v)::es,ba,p,j,hv,hp=>by
  simp only[b9,VL]at hv;obtain⟨y,ys,h1,h2,h3⟩:=hv
  cases ba with
  |nil=>simp at h1
  |cons m ba=>
   simp only[b9,sI]at h1;obtain⟨rfl,rfl⟩:=h1;simp only[findAt]at hp
   cases he:b_ (.sc s) k a with
   |none=>simp[he]at hp
   |some c=>
    have hq:Instr.sameNow d x m.key=some c:=by
     obtain⟨_,h1⟩:=ow hs;simp only[b_]at he
     cases s<;>simp only at h1<;>cases k<;>cases a<;>simp only[eI,reduceCtorEq,aj]at he
     ·obtain⟨k',hk'⟩:=h1;rw[hk']at hd;simp only[aj]at hd;subst hd;rw[dS hx,dS h2];simpa[Instr.sameNow]using he
     ·rw[h1]at hd;simp only[aj]at hd;subst hd;rw[iW hx,iW h2];simp only[Instr.sameNow,K_,he]
     ·rw[h1]at hd;simp only[aj]at hd;subst hd;rw[lj hx,lj h2];simp only[Instr.sameNow,he]
    simp only[he]at hp;simp only[Instr.findNow,hq]
    cases c
    ·simp only[bS]at hp;obtain⟨p',hp',rfl⟩:=hp;simp only;rw[findNow_spec hs hd hx (j+1) h3 hp']
     cases p' with
     |none=>simp
     |some i=>simp[nh,xS 1 i]
    ·simp only[aj]at hp;subst hp;simp
theorem WO{d:TypeDesc}{x:Value}(hd:(∃fs,d=.struct fs)\/∃n e,d=.array n e):∀(ba:List MapEntry)(j:Nat),Instr.findNow d x ba j=if ba=[]then some none else none
 |[],j=>by simp[Instr.findNow]
 |m::ba,j=>by
  have:Instr.sameNow d x m.key=none:=by
   rcases hd with⟨fs,rfl⟩|⟨n,e,rfl⟩<;>cases x<;>cases m.key<;>rfl
  simp[Instr.findNow,this]
theorem run_findKey{ty:TypeId}{e:EK}(hk:iv P ty=some e){k:AV}{x:Value}(hx:V g h k x){es:List (AV×AV)}{ba:List MapEntry}{p:Option Nat}(hv:VL g h (es.map (·.1)) (ba.map (·.key)))
 (hp:findAt e k es=some p)(w:World):(Instr.findKey ty x ba).run P w=.ok (p.bind fun i=>(ba[i]?).map fun m=>(i,m.val)) w:=by
 have hk0:=hk;unfold iv at hk
 split at hk
 ·rename_i s hs;simp only[aj]at hk;subst hk
  have hu:∃d,P.underlying ty=some d:=by
   obtain⟨_,h2⟩:=ow hs
   cases s<;>simp only at h2
   ·exact⟨_,h2.choose_spec⟩
   ·exact⟨_,h2⟩
   ·exact⟨_,h2⟩
  obtain⟨d,hd⟩:=hu;simp[Instr.findKey,run_underlying hd,findNow_spec hs hd hx 0 hv hp]
 ·simp only[bS]at hk;obtain⟨ss,hss,rfl⟩:=hk
  have hu:∃d,P.underlying ty=some d/\((∃fs,d=.struct fs)\/∃n e,d=.array n e):=by
   unfold uA at hss
   split at hss
   ·rename_i fs hu;exact⟨_,hu,Or.inl ⟨_,rfl⟩⟩
   ·rename_i n e hu;exact⟨_,hu,Or.inr ⟨_,_,rfl⟩⟩
   ·simp at hss
  obtain⟨d,hd,hd'⟩:=hu;have h1:=JF hk0 hx 0 hv hp w;simp only[iM]at h1;simp only[Instr.findKey,Sem.run_bind,run_underlying hd,Result.andThen_ok,WO hd']
  by_cases h0:ba=[]
  ·subst h0
   have:es=[]:=by
    have:=fD hv;simpa using this.symm
   subst this;simp only[findAt,aj]at hp;subst hp;simp
  ·simp only[h0,c9];exact h1
theorem D6{es:List (AV×AV)}{ba:List MapEntry}(hv:VL g h (es.map (·.1)) (ba.map (·.key))):ba.length=es.length:=by have:=fD hv;simpa using this
theorem LX(H:Inv P Γ N g h w){ty kt et:TypeId}{x i:Operand}{ok:Bool}(ho:o.op=.lookup ty x i ok)(hu:P.underlying ty=some (.map kt et)){e:EK}(hk:iv P kt=some e){z:AV}
 (hz:dL P et=some z){k:AV}(hi:V g h k (r i))(hkey:isKey e k=true){es:List (AV×AV)}{a:AV}(hx:V g h a (r x))
 (ha:(a=.c_/\es=[])\/(∃ks vs,a=.db ks vs/\es=ks.zip vs)\/∃j fl,a=.mp j/\h[j]? =some (.map es fl)){q:Option AV}(hq:eD e k es=some q){v:AV}
 (hv:v=match q with|some u=>(if ok then .aH [u,.bool true]else u)|none=>if ok then .aH [z,.bool false]else z):aJ P Γ N r o w g h h (some v):=by
 obtain⟨zv,hzr,rfl⟩:=Fb hz w
 have hm:∃(ba:Array MapEntry),VL g h (es.map (·.1)) (ba.toList.map (·.key))/\VL g h (es.map (·.2)) (ba.toList.map (·.val))/\
  ((r x=.map none/\ba=#[])\/∃b ck,r x=.map (some b)/\w.heap[b]? =some (.map ba ck)):=by
  rcases ha with⟨rfl,rfl⟩|⟨ks,vs,rfl,rfl⟩|⟨j,fl,rfl,hj⟩
  ·simp only[V]at hx;exact⟨#[],by simp[VL],by simp[VL],Or.inl ⟨hx,rfl⟩⟩
  ·simp only[V]at hx;obtain⟨b,ba,ck,h1,h2,h3,h4⟩:=hx
   have hl:ks.length=vs.length:=by
    have a1:=fD h3;have a2:=fD h4
    simp at a1 a2;omega
   refine⟨ba,?_,?_,Or.inr ⟨b,ck,h1,(H.mm b ba ck h2).1⟩⟩
   ·rw[List.map_fst_zip (by omega)];exact h3
   ·rw[List.map_snd_zip (by omega)];exact h4
  ·simp only[V]at hx;obtain⟨_,b,sz,hρ,h1⟩:=hx;obtain⟨_,h2⟩:=H.ob j _ hj;obtain⟨ba,ck,h3,h4,h5⟩:=h2 b sz 0 hρ;exact⟨ba,h4,h5,Or.inr ⟨b,ck,h1,h3⟩⟩
 obtain⟨ba,h1,h2,h3⟩:=hm;obtain⟨p,hp1,hp2⟩:=Lq hq;have hf:=run_findKey hk hi h1 hp1 w
 have hck:=fun em=>run_checkKey hk hkey hi em w
 have hrun:∃u,(Instr.lookup ty (r x) (r i) ok).run P w=.ok u w/\V g h v u:=by
  have hgo:∀(y:Value)(b:Bool),p.bind (fun i=>(ba.toList[i]?).map fun m=>(i,m.val))=(if b then p.map fun i=>(i,y)else none)->(b=false->p=none/\y=zv)->(b=true->p.isSome)->
   (Instr.lookup ty (r x) (r i) ok).run P w=.ok (if ok then .tuple #[y,.bool b]else y) w:=by
   intro y b hb hb0 hb1;rw[hb]at hf
   rcases h3 with⟨h3,rfl⟩|⟨bk,ck,h3,h4⟩
   ·cases b
    ·obtain⟨rfl,rfl⟩:=hb0 rfl;simp[Instr.lookup,run_underlying hu,h3,hck,hf,hzr]
    ·obtain⟨j,rfl⟩:=I'.1 (hb1 rfl);simp[Instr.lookup,run_underlying hu,h3,hck,hf]
   ·have hg:(getObj bk).run P w=.ok (.map ba ck) w:=by simp only[getObj,Sem.run,h4]
    cases b
    ·obtain⟨rfl,rfl⟩:=hb0 rfl;simp[Instr.lookup,run_underlying hu,h3,hg,hck,hf,hzr]
    ·obtain⟨j,rfl⟩:=I'.1 (hb1 rfl);simp[Instr.lookup,run_underlying hu,h3,hg,hck,hf]
  cases p with
  |none=>
   simp only at hp2;subst hp2;subst hv;refine⟨_,hgo zv false (by simp) (fun _=>⟨rfl,rfl⟩) (by simp),?_⟩
   cases ok
   ·exact mP g h zv
   ·simp only[cq,V,VL];exact⟨[zv,.bool false],rfl,_,_,rfl,mP g h zv,_,_,rfl,rfl,rfl⟩
  |some j=>
   obtain⟨y,hy1,rfl⟩:=hp2;obtain⟨u,hu1,hu2⟩:=qa (i:=j) (a:=y.2) h2 (by simp[hy1]);simp only[vd,bS]at hu1;obtain⟨m,hm1,rfl⟩:=hu1;subst hv;refine⟨_,hgo m.val true (by simp only[j6,hm1,dt,cq]) (by simp) (by simp),?_⟩
   cases ok
   ·exact hu2
   ·simp only[cq,V,VL];exact⟨[m.val,.bool true],rfl,_,_,rfl,hu2,_,_,rfl,rfl,rfl⟩
 obtain⟨u,hu1,hu2⟩:=hrun;exact aJ.same H (u:=u) (by simp[execOp,ho,hu1]) hu2
end
section
variable{P:Program}{Γ:Nat->Option AV}{N:Env}{g:G}{h:List Ob}{w:World}{r:Operand->Value}{o:Oper}{t:List AV}
theorem tV(c:Array Value):mj c (0,0):=Or.inl rfl
theorem ld(w:World)(o:Obj):(w.alloc o).heap[w.heap.size]? =some o:=by
 show(w.heap.push o)[w.heap.size]? =_
 simp
theorem wx(w:World)(o:Obj):∀b,b<w.heap.size->(w.alloc o).heap[b]? =w.heap[b]? :=fun b hb=>Below.heap_alloc w o b hb
theorem aJ.make(H:Inv P Γ N g h w){x:AV}{u:Value}{w':World}(hh:w'.heap=w.heap)(hos:w'.os=w.os)(htp:w'.tape=w.tape)(hout:w'.output=w.output){b:Obj}{o':Ob}{os:List Ob}{sz:Nat}
 (hr:(execOp r o).run P w=.ok (.value u) (w'.alloc b))
 (hob:OV P (g.bG h.length (some (w.heap.size,sz,0))) (h++o'::os) (w'.alloc b) h.length o')
 (hobs:∀j o,os[j]? =some o->OV P (g.bG h.length (some (w.heap.size,sz,0))) (h++o'::os) (w'.alloc b) (h.length+1+j) o)
 (hv:V (g.bG h.length (some (w.heap.size,sz,0))) (h++o'::os) x u):aJ P Γ N r o w g h (h++o'::os) (some x):=by
 have hs:w'.heap.size=w.heap.size:=by rw[hh]
 refine⟨_,_,_,hr,H.push hos htp hout (fun b' hb=>?_) ?_ ?_ hob hobs,Ext.push _ _,u,rfl,hv⟩
 ·rw[wx _ _ _ (by omega),hh]
 ·simp;omega
 ·intro b' x hx;simp only[aj,bL]at hx;obtain⟨rfl,_⟩:=hx
  simp;omega
theorem p4(h:List Ob)(o:Ob)(os:List Ob):(h++o::os)[h.length]? =some o:=by simp
theorem Kn(h:List Ob)(o:Ob)(os:List Ob)(j:Nat):(h++o::os)[h.length+1+j]? =os[j]? :=by
 rw[dF (by omega),show h.length+1+j-h.length=j+1 by omega,mB]
theorem ac7(H:Inv P Γ N g h w){ty:TypeId}{x:Operand}(ho:o.op=.box ty x){a:AV}(ha:V g h a (r x))(h1:bV a.cells=true):
 aJ P Γ N r o w g h (h++[.cells a.cells]) (some (.ptr h.length 0)):=by
 have hc:=oR (pV h1) ha;refine aJ.make H (w':=w) rfl rfl rfl rfl (b:=.cells (r x).cells ty) (sz:=0) (u:=.pointer (some ⟨w.heap.size,0,none⟩)) ?_ ?_ (by simp) ?_
 ·simp[execOp,ho,Instr.box,newVar,newRow]
 ·intro b sz st hb;rw[cW]at hb;simp only[aj,bL]at hb;obtain⟨rfl,rfl,rfl⟩:=hb;exact⟨_,_,_,ld _ _,tV _,cw (Ext.push _ _) (dk hc) hc⟩
 ·simp only[V];exact⟨⟨_,p4 _ _ _⟩,_,_,cW _ _ _,rfl⟩
theorem zX{g':G}{h':List Ob}:∀{as:List AV}{vs:List Value}{z:List AV}{n:Nat},pt as vs=some z->(∀j o,(bY n z).2[j]? =some o->h'[n+j]? =some o)->
 VL g' h' (bY n z).1 vs/\∀o∈(bY n z).2,∃k E,o=.row (k+1) E [] none true false
 |[],[],z,n,hz,_=>by simp only[pt,aj]at hz;subst hz;simp[bY,VL]
 |[],_::_,z,n,hz,_=>by simp[pt]at hz
 |_::_,[],z,n,hz,_=>by simp[pt]at hz
 |a::as,v::vs,z,n,hz,hh=>by
  simp only[pt,bS]at hz;obtain⟨z',hz',rfl⟩:=hz
  have hone:(∃k E,ee n (AZ a v)=(.sl n 0 0,[.row (k+1) E [] none true false])/\v=.slice none 0 0)\/ee n (AZ a v)=(jQ v,[]):=by
   unfold AZ
   split
   ·left;exact⟨_,_,rfl,rfl⟩
   ·right
    have:∀k E es,jQ v≠.own k E es:=by
     intro k E es hc;unfold jQ at hc
     split at hc<;>cases hc
    revert this
    cases jQ v<;>intro this<;>first|rfl|exact absurd rfl (this _ _ _)
  simp only[bY]at hh⊢
  rcases hone with⟨k,E,h1,rfl⟩|h1
  ·rw[h1]at hh⊢;simp only[sJ,qT]at hh⊢
   obtain⟨h2,h3⟩:=zX (n:=n+1) hz' (by
    intro j o hj;have:=hh (j+1) o (by simpa using hj)
    rwa[show n+(j+1)=n+1+j by omega]at this)
   refine⟨?_,?_⟩
   ·simp only[VL,V];refine⟨_,_,rfl,?_,h2⟩;have:=hh 0 _ (by simp;rfl);exact⟨k+1,E,[],none,true,false,by simpa using this,by simp,none,0,rfl,by simp,by simp,fun _=>⟨by simp,Or.inl ⟨rfl,rfl⟩⟩⟩
   ·intro o ho
    rcases bt.1 ho with rfl|ho
    ·exact⟨k,E,rfl⟩
    ·exact h3 o ho
  ·rw[h1]at hh⊢;simp only[dh,kY,gW]at hh⊢;obtain⟨h2,h3⟩:=zX (n:=n) hz' hh;refine⟨?_,h3⟩;simp only[VL];exact⟨_,_,rfl,tN _ _ _,h2⟩
theorem aap(H:Inv P Γ N g h w){ty:TypeId}(ho:o.op=.alloc ty){zv:Value}(hz:(P.info? ty).bind (·.zero)=some zv){as z:List AV}(hzf:pt as zv.cells.toList=some z):
 aJ P Γ N r o w g h (h++.cells (bY (h.length+1) z).1::(bY (h.length+1) z).2) (some (.ptr h.length 0)):=by
 have hzr:(zeroValue ty).run P w=.ok zv w:=by
  cases hi:P.info? ty with
  |none=>simp[hi]at hz
  |some i=>simp[hi]at hz;simp[zeroValue,typeInfo,hi,hz]
 refine aJ.make H (w':=w) rfl rfl rfl rfl (b:=.cells zv.cells ty) (sz:=0) (u:=.pointer (some ⟨w.heap.size,0,none⟩)) ?_ ?_ ?_ ?_
 ·simp[execOp,ho,Instr.alloc,hzr,newVar,newRow]
 ·intro b sz st hb;rw[cW]at hb;simp only[aj,bL]at hb;obtain⟨rfl,rfl,rfl⟩:=hb;exact⟨_,_,_,ld _ _,tV _,(zX hzf (fun j o hj=>by rw[Kn];exact hj)).1⟩
 ·intro j o hj;obtain⟨k,E,rfl⟩:=(zX (g':=g) (h':=h++.gone::(bY (h.length+1) z).2) hzf (fun j o hj=>by rw[Kn];exact hj)).2 o (ik hj);simp only[OV];refine⟨by omega,by simp,fun _=>rfl,by simp,?_⟩;rw[gG _ _ (by omega),H.oc _ (by omega)];trivial
 ·simp only[V];exact⟨⟨_,p4 _ _ _⟩,_,_,cW _ _ _,rfl⟩
theorem X'(H:Inv P Γ N g h w)(ho:o.op=.assign (.const (.slice none 0 0)))(hr:r (.const (.slice none 0 0))=.slice none 0 0){k:Nat}(hk:0<k)(E:TypeId):
 aJ P Γ N r o w g h (h++[.row k E [] none true false]) (some (.sl h.length 0 0)):=by
 refine⟨g.bG h.length none,w,.value (.slice none 0 0),by simp[execOp,ho,hr],H.push rfl rfl rfl (fun _ _=>rfl) (aU _) (by simp) ?_ (by simp),Ext.push _ _,_,rfl,?_⟩
 ·simp only[OV];exact⟨hk,by simp,fun _=>rfl,by simp,by rw[cW];trivial⟩
 ·simp only[V];exact⟨k,E,[],none,true,false,p4 _ _ _,by simp,none,0,rfl,by simp,by simp,fun _=>⟨by simp,Or.inl ⟨rfl,rfl⟩⟩⟩
theorem abj(H:Inv P Γ N g h w){ty:TypeId}(ho:o.op=.makeMap ty none):aJ P Γ N r o w g h (h++[.map [] true]) (some (.mp h.length)):=by
 refine aJ.make H (w':=w) rfl rfl rfl rfl (b:=.map #[] 0) (sz:=0) (u:=.map (some w.heap.size)) ?_ ?_ (by simp) ?_
 ·simp[execOp,ho,Instr.makeMap]
 ·refine⟨fun _=>rfl,?_⟩;intro b sz st hb;rw[cW]at hb;simp only[aj,bL]at hb;obtain⟨rfl,rfl,rfl⟩:=hb;exact⟨_,_,ld _ _,by simp[VL],by simp[VL]⟩
 ·simp only[V];exact⟨⟨_,_,p4 _ _ _⟩,_,_,cW _ _ _,rfl⟩
theorem aa2(H:Inv P Γ N g h w){ty:TypeId}{x:Operand}(ho:o.op=.range ty x)(hu:P.underlying ty=some .string){s:List UInt8}(hx:r x=.string ⟨s.toArray⟩):
 aJ P Γ N r o w g h (h++[.gK s 0]) (some (.it h.length)):=by
 refine aJ.make H (w':=w) rfl rfl rfl rfl (b:=.stringIter ⟨s.toArray⟩ 0) (sz:=0) (u:=.pointer (some ⟨w.heap.size,0,none⟩)) ?_ ?_ (by simp) ?_
 ·simp[execOp,ho,hx,Instr.range,run_underlying hu]
 ·intro b sz st hb;rw[cW]at hb;simp only[aj,bL]at hb;obtain⟨rfl,rfl,rfl⟩:=hb;exact ld _ _
 ·simp only[V];exact⟨⟨_,_,p4 _ _ _⟩,_,_,cW _ _ _,rfl⟩
theorem AP{g':G}{w':World}{k:Nat}{E ty:TypeId}{es:List AV}{cs:List Value}{rest:List Value}{fz:Nat×Nat}{b sz:Nat}(hk:0<k)(hK:dM k es){fl:Bool}(hfl:fl=true->cg es k=true)
 (hb:g'.ρ h.length=some (b,sz,0))(hw:w'.heap[b]? =some (.cells (cs++rest).toArray ty fz))(hsz:sz=(cs++rest).length)(hfree:mj (cs++rest).toArray fz)
 {os:List Ob}{sh:Bool}(hE:VE g' (h++.row k E es none fl sh::os) es cs):OV P g' (h++.row k E es none fl sh::os) w' h.length (.row k E es none fl sh):=by
 simp only[OV];refine⟨hk,hK,hfl,by simp,?_⟩;rw[hb];simp only;refine⟨by simp,_,_,_,cs,hw,by simp[hsz],hfree,by simpa using hE,?_⟩;intro j hj;simp[cR hj,hj]
theorem Ah{g':G}{k:Nat}{E:TypeId}{es:List AV}{b sz cap:Nat}(hb:g'.ρ h.length=some (b,sz,0))(hcap:es.length<=cap)(hsz:cap*k<=sz){os:List Ob}{fl sh:Bool}:
 V g' (h++.row k E es none fl sh::os) (.sl h.length 0 es.length) (.slice (some ⟨b,0,none⟩) es.length cap):=by
 simp only[V];refine⟨k,E,es,none,fl,sh,p4 _ _ _,by simp,_,cap,rfl,hcap,fun _=>⟨b,0,rfl⟩,fun _=>⟨by omega,Or.inr ⟨b,sz,0,hb,by simp,by simp,by simpa using hsz⟩⟩⟩
theorem th{a:AV}{v:Value}(ha:V g h a v):∀n:Nat,VE g h (List.replicate n a) (List.replicate n v.cells.toList).flatten
 |0=>by simp[VE]
 |n+1=>by
  simp only[kV,List.flatten_cons,VE];exact⟨v,_,ha,rfl,th ha n⟩
theorem sZ{a:AV}{k:Nat}(h1:a.cells.length=k)(h2:bV a.cells=true)(h3:aK 0 a.cells=true):∀n:Nat,cg (List.replicate n a) k=true
 |0=>rfl
 |n+1=>by simp only[kV,cg,av,a_];exact⟨⟨⟨h1,h2⟩,h3⟩,sZ h1 h2 h3 n⟩
end
theorem tI{c d:Array Value}{fz:Nat×Nat}(h:mj c fz)(hs:d.size=c.size):mj d fz:=h.imp id fun h=>by omega
theorem zm(P:Program)(b o:Nat)(E:TypeId)(fz:Nat×Nat):∀(vs:List Value)(i:Nat)(cur:Array Value)(w:World),w.heap[b]? =some (.cells cur E fz)->mj cur fz->
 o+i+vs.length<=cur.size->(∀v∈vs,v.oneCell'=true)->
 (storeCells ⟨b,o,none⟩ vs i).run P w=.ok () (w.setRow b (cur.toList.take (o+i)++vs++cur.toList.drop (o+i+vs.length)).toArray)
 |[],i,cur,w,hg,_,_,_=>by
  simp only[storeCells,fZ,dh,gW,ng,Array.toArray_toList];rw[setRow_self w b cur E fz hg];rfl
 |v::rest,i,cur,w,hg,hf,hl,h1=>by
  have hi:o+i<cur.size:=by simp at hl;omega
  have hcell:w.cell? ⟨b,o+i,none⟩=some cur[o+i]:=by simp[World.cell?,hg,hi]
  have hfro:w.frozen? ⟨b,o+i,none⟩=false:=by
   simp only[World.frozen?,hg];exact hf.at hi
  have hst:(store ((⟨b,o,none⟩:Addr).add i) v).run P w=.ok () (w.setRow b (cur.setIfInBounds (o+i) v)):=by
   rw[kh,run_store P w _ v _ (h1 v (by simp)),hcell];simp[hfro,setCell_eq_setRow w b (o+i) cur E fz v hg]
  have ih:=zm P b o E fz rest (i+1) (cur.setIfInBounds (o+i) v) (w.setRow b (cur.setIfInBounds (o+i) v)) (setRow_heap w b cur _ E _ hg) (tI hf (by simp)) (by simp at hl⊢;omega)
   (fun x hx=>h1 x (by simp[hx]))
  simp only[storeCells,Sem.run_bind,hst,Result.andThen_ok,ih,setRow_setRow];congr 3;have e:=list_seg_step cur.toList (o+i) v rest (by simp at hl⊢;omega);simpa[I9,nh]using e
def dX{α:Type}(l:List α)(m:Nat)(s:List α):List α:=l.take m++s++l.drop (m+s.length)
theorem mJ{α:Type}{l s:List α}{m:Nat}(hm:m+s.length<=l.length)(x:Nat):(dX l m s)[x]? =if x<m then l[x]? else if x<m+s.length then s[x-m]? else l[x]? :=by
 unfold dX
 have hmm:min m l.length=m:=by omega
 by_cases h1:x<m
 ·rw[if_pos h1,eQ,cR (by simp;omega),pH,if_pos h1]
 ·rw[if_neg h1]
  by_cases h2:x<m+s.length
  ·rw[if_pos h2,eQ,dF (by simp;omega),cR (by simp;omega)];simp[hmm]
  ·rw[if_neg h2,dF (by simp;omega),ni];congr 1;simp;omega
theorem pU{α:Type}{l s:List α}{m:Nat}(hm:m+s.length<=l.length):(dX l m s).length=l.length:=by
 simp[dX];omega
theorem Vq{α:Type}{vs v s:List α}{j k q:Nat}(hj:j+k<=vs.length)(hv:v=(vs.drop j).take k)(hq:q+s.length<=k):dX vs j (dX v q s)=dX vs (j+q) s:=by
 have hvl:v.length=k:=by rw[hv];simp;omega
 have hsl:(dX v q s).length=k:=by rw[pU (by omega),hvl]
 apply ji;intro x;have e1:=mJ (l:=vs) (s:=dX v q s) (m:=j) (by omega) x;have e2:=mJ (l:=vs) (s:=s) (m:=j+q) (by omega) x;rw[e1,e2,hsl]
 by_cases h1:x<j
 ·rw[if_pos h1,if_pos (by omega)]
 ·rw[if_neg h1]
  by_cases h2:x<j+k
  ·rw[if_pos h2,mJ (by omega)]
   have hvx:v[x-j]? =vs[x]? :=by
    rw[hv,pH,if_pos (by omega),ni]
    congr 1;omega
   by_cases h3:x<j+q
   ·rw[if_pos (by omega),if_pos h3,hvx]
   ·rw[if_neg (by omega),if_neg h3]
    by_cases h4:x<j+q+s.length
    ·rw[if_pos (by omega),if_pos h4]
     congr 1;omega
    ·rw[if_neg (by omega),if_neg h4,hvx]
  ·rw[if_neg h2,if_neg (by omega),if_neg (by omega)]
theorem Gp{g:G}{h:List Ob}{k:Nat}:∀{es:List AV}{vs:List Value}{i:Nat}{a:AV}{u:Value},dM k es->VE g h es vs->i<es.length->V g h a u->u.cells.toList.length=k->
 VE g h (es.set i a) (dX vs (i*k) u.cells.toList)
 |[],vs,i,a,u,_,_,hi,_,_=>by simp at hi
 |e::es,vs,i,a,u,hk,hv,hi,ha,hl=>by
  simp only[VE]at hv;obtain⟨v,vs',h1,rfl,hr⟩:=hv;have he:=hk e (by simp)
  have hvl:v.cells.toList.length=k:=by rw[Du he.2 h1,he.1]
  cases i with
  |zero=>
   simp only[u0,VE,u7,dX,List.take_zero,kY,iM];refine⟨u,vs',ha,?_,hr⟩;rw[hl,u6,<-hvl,I8];simp
  |succ i=>
   have ih:=Gp (fun x hx=>hk x (by simp[hx])) hr (by simpa using hi) ha hl;simp only[pF,VE];refine⟨v,_,h1,?_,ih⟩;simp only[dX];rw[fC,Nat.one_mul,List.take_append,u6,hvl,cS (by omega),bw (by omega)];simp only[kY,eQ];congr 3
   ·congr 1;omega
   ·congr 1;omega
theorem Kw:∀{l:List AV},bV l=true↔∀a∈l,a.one=true
 |[]=>by simp[bV]
 |a::l=>by simp[bV,Kw (l:=l)]
section
variable{P:Program}{Γ:Nat->Option AV}{N:Env}{g:G}{h:List Ob}{w:World}{r:Operand->Value}{o:Oper}{t:List AV}
theorem Ext.Ex{i:Nat}{vs vs':List AV}(hi:h[i]? =some (.cells vs)):Ext h.length g h (g.bG i (g.ρ i)) (h.set i (.cells vs')):=by
 have hil:=aV hi
 have hρ:∀j,(g.bG i (g.ρ i)).ρ j=g.ρ j:=fun j=>by by_cases hj:j=i;·subst hj;rw[cW]
                                                  ·rw[gG _ _ hj]
 have ho:∀{j x},j≠i->h[j]? =some x->(h.set i (.cells vs'))[j]? =some x:=fun{j x} hj hx=>by rw[dB (by omega)];exact hx
 refine⟨fun _ _ _ x=>x,fun _ _ x=>x,?_,?_,?_,?_,?_,?_⟩
 ·intro j us _ hj
  by_cases hji:j=i
  ·subst hji;exact⟨⟨vs',er hil⟩,fun x hx=>by rw[hρ];exact hx⟩
  ·exact⟨⟨us,ho hji hj⟩,fun x hx=>by rw[hρ];exact hx⟩
 ·intro j es fl _ hj
  have hji:j≠i:=by rintro rfl;rw[hi]at hj;cases hj
  exact⟨⟨_,_,ho hji hj⟩,fun x hx=>by rw[hρ];exact hx⟩
 ·intro j es fl _ hj
  have hji:j≠i:=by rintro rfl;rw[hi]at hj;cases hj
  exact⟨⟨_,_,ho hji hj⟩,fun x hx=>by rw[hρ];exact hx⟩
 ·intro j st q fn t ps a b _ hj
  have hji:j≠i:=by rintro rfl;rw[hi]at hj;cases hj
  exact⟨⟨_,_,ho hji hj⟩,fun x hx=>by rw[hρ];exact hx⟩
 ·intro j l _ hj
  have hji:j≠i:=by rintro rfl;rw[hi]at hj;cases hj
  exact⟨⟨_,ho hji hj⟩,fun x hx=>by rw[hρ];exact hx⟩
 ·intro j k E es gr fl sh _ hj
  have hji:j≠i:=by rintro rfl;rw[hi]at hj;cases hj
  exact⟨_,_,_,_,_,ho hji hj,aU _,fun _ _ _ hk=>⟨hk,rfl,fun x hx=>by rw[hρ];exact hx⟩⟩
theorem Ext.oO{i:Nat}{k:Nat}{E E':TypeId}{es es':List AV}{gr gr':Option Nat}{fl fl' sh sh':Bool}{ρ':Option (Nat×Nat×Nat)}(hi:h[i]? =some (.row k E es gr fl sh))(hl:es.length<=es'.length)
 (hq:∀off m,off+m<=es.length->cF es' gr' off m=true->cF es gr off m=true/\es'.length=es.length/\∀x,g.ρ i=some x->ρ'=some x):
 Ext h.length g h (g.bG i ρ') (h.set i (.row k E' es' gr' fl' sh')):=by
 have hil:=aV hi
 have hρ:∀j,j≠i->(g.bG i ρ').ρ j=g.ρ j:=fun j hj=>gG _ _ hj
 have ho:∀{j x},j≠i->h[j]? =some x->(h.set i (.row k E' es' gr' fl' sh'))[j]? =some x:=fun{j x} hj hx=>by rw[dB (by omega)];exact hx
 refine⟨fun _ _ _ x=>x,fun _ _ x=>x,?_,?_,?_,?_,?_,?_⟩
 ·intro j us _ hj
  have hji:j≠i:=by rintro rfl;rw[hi]at hj;cases hj
  exact⟨⟨us,ho hji hj⟩,fun x hx=>by rw[hρ _ hji];exact hx⟩
 ·intro j es fl _ hj
  have hji:j≠i:=by rintro rfl;rw[hi]at hj;cases hj
  exact⟨⟨_,_,ho hji hj⟩,fun x hx=>by rw[hρ _ hji];exact hx⟩
 ·intro j es fl _ hj
  have hji:j≠i:=by rintro rfl;rw[hi]at hj;cases hj
  exact⟨⟨_,_,ho hji hj⟩,fun x hx=>by rw[hρ _ hji];exact hx⟩
 ·intro j st q fn t ps a b _ hj
  have hji:j≠i:=by rintro rfl;rw[hi]at hj;cases hj
  exact⟨⟨_,_,ho hji hj⟩,fun x hx=>by rw[hρ _ hji];exact hx⟩
 ·intro j l _ hj
  have hji:j≠i:=by rintro rfl;rw[hi]at hj;cases hj
  exact⟨⟨_,ho hji hj⟩,fun x hx=>by rw[hρ _ hji];exact hx⟩
 ·intro j k' E2 es2 gr2 fl2 sh2 _ hj
  by_cases hji:j=i
  ·subst hji;rw[hi]at hj;simp only[aj,Ob.row.injEq]at hj;obtain⟨rfl,rfl,rfl,rfl,rfl,rfl⟩:=hj;refine⟨_,_,_,_,_,er hil,hl,fun off m hom hok=>?_⟩;obtain⟨q1,q2,q3⟩:=hq off m hom hok;exact⟨q1,q2,fun x hx=>by rw[cW];exact q3 x hx⟩
  ·exact⟨_,_,_,_,_,ho hji hj,aU _,fun _ _ _ hk=>⟨hk,rfl,fun x hx=>by rw[hρ _ hji];exact hx⟩⟩
theorem cX(g:G)(i:Nat):g.bG i (g.ρ i)=g:=by
 cases g
 simp only[G.bG];congr 1
 funext j
 split
 ·rename_i hj;subst hj;rfl
 ·rfl
theorem Inv.write{i b:Nat}{x:Nat×Nat}{o':Ob}{c c':Array Value}{E:TypeId}{fz:Nat×Nat}(H:Inv P Γ N g h w)(hil:i<h.length)(hρ:g.ρ i=some (b,x))(hb:w.heap[b]? =some (.cells c E fz))
 (hE:Ext h.length g h g (h.set i o'))(hM:∀o v,g.M b o=some v->c'[o]? =c[o]?)
 (hm:∀sz st o v,g.ρ i=some (b,sz,st)->g.M b o=some v->∃k E es gr fl,o'=.row k E es gr fl true/\o<(es.length-st)*k)
 (hob:OV P g (h.set i o') (w.setRow b c') i o'):Inv P Γ N g (h.set i o') (w.setRow b c'):=by
 have hlt:b<w.heap.size:=(H.own i b x hρ).2
 have:=Inv.set (r:=g.ρ i) (w':=w.setRow b c') H hil (by rw[cX];exact hE) rfl rfl rfl (fun b' _ hne=>setRow_other w b b' c' (fun e=>hne x (by rw[e];exact hρ))) (by simp)
  (fun b' y hy=>⟨Or.inl ⟨y,hy⟩,by simp;exact(H.own i b' y hy).2⟩) (by
   intro b' y o v hy hv;rw[hρ]at hy;simp only[aj,bL]at hy;obtain⟨rfl,rfl⟩:=hy;have h0:=H.mem b o v hv;rw[cell_of_row w b o c E fz hb]at h0
   rw[cell_of_row _ b o c' E fz (setRow_heap w b c c' E fz hb),hM o v hv,h0])
  (by
   intro b' sz st o v hy hv;rw[hρ]at hy
   have hbb:b'=b:=by simp only[aj,bL]at hy;exact hy.1.symm
   subst hbb
   exact hm sz st o v (hρ.trans hy) hv)
  (by rw[cX];exact hob)
 rw[cX]at this;exact this
theorem Nf{cs new:List AV}{vs ns:List Value}{off:Nat}(h1:VL g h cs vs)(h2:VL g h new ns):VL g h (over cs off new) (vs.take off++ns++vs.drop (off+ns.length)):=Of h1 h2
theorem WX{cs new:List AV}{off:Nat}(hl:off+new.length<=cs.length):(over cs off new).length=cs.length:=by
 unfold over;simp;omega
theorem Vs{e:AV}{cs:List AV}(h1:bV e.cells=true)(h2:cs.length=e.cells.length)(h3:bV cs=true):(eR cs e).cells=cs:=by
 cases e<;>simp only[AV.cells,bV,AV.one,eb,og]at h1 h2<;>first
  |rfl
  |(match cs,h2,h3 with
    |[c],_,h3=>
     simp only[bV,og]at h3;simp only[eR]
     cases c<;>first|rfl|simp[AV.one]at h3)
theorem Yr{e:AV}{v:Value}{cs:List AV}{vs:List Value}(h1:bV e.cells=true)(he:V g h e v)(h2:cs.length=e.cells.length)(h3:bV cs=true)(hv:VL g h cs vs):
 ∃u,V g h (eR cs e) u/\u.cells.toList=vs:=by
 by_cases ha:∃ds,e=.agg ds
 ·obtain⟨ds,rfl⟩:=ha;exact⟨.agg vs.toArray,by simp only[eR,V];exact⟨vs,rfl,hv⟩,by simp[Value.cells]⟩
 ·have hc:e.cells=[e]:=by cases e<;>first|rfl|exact absurd ⟨_,rfl⟩ ha
  rw[hc]at h2
  match cs,h2,h3,hv with
  |[c],_,h3,hv=>
   simp only[VL]at hv;obtain⟨u,_,rfl,hu,rfl⟩:=hv;simp only[bV,og]at h3
   have:eR [c] e=c:=by cases e<;>first|rfl|exact absurd ⟨_,rfl⟩ ha
   rw[this];exact⟨u,hu,by rw[DL h3 hu]⟩
theorem abk(H:Inv P Γ N g h w){ty:TypeId}{p x:Operand}(ho:o.op=.store ty p x){sz:Nat}(h2:bu P ty=some sz){a b:AV}(hp:V g h a (r p))(hx:V g h b (r x)){h':List Ob}
 (hs:uv h sz a b=some h'):aJ P Γ N r o w g h h' none:=by
 simp only[uv]at hs
 split at hs
 ·rename_i hb;obtain⟨hbl,hbo⟩:=hb;have hbc:=oR (pV hbo) hx;have hbn:=fD hbc
  have hrun:∀(bk m:Nat)(c:Array Value)(E:TypeId)(fz:Nat×Nat),r p=.pointer (some ⟨bk,m,none⟩)->w.heap[bk]? =some (.cells c E fz)->mj c fz->m+sz<=c.size->
   (execOp r o).run P w=.ok .skip (w.setRow bk (c.toList.take m++(r x).cells.toList++c.toList.drop (m+sz)).toArray):=by
   intro bk m c E fz hrp hbk hfree hms;have h3:=zm P bk m E fz (r x).cells.toList 0 c w hbk hfree (by omega) (Dp hbo hbc)
   have h4:(r x).cells.size=sz:=by rw[<-hbl,<-hbn];simp
   rw[gW,show m+(r x).cells.toList.length=m+sz by omega]at h3;simp[execOp,ho,hrp,Instr.storeAt,Instr.sureAddr,storeVar,iu h2,h4,h3]
  split at hs
  ·rename_i i off
   split at hs
   ·rename_i cs hi
    split at hs
    ·rename_i hle;simp only[aj]at hs;subst hs;simp only[V]at hp;obtain⟨_,bk,s,hρ,hrp⟩:=hp;obtain⟨c,E,fz,hw,hfree,hv⟩:=H.ob i _ hi bk s 0 hρ;have hcl:=fD hv
     have hE:Ext h.length g h g (h.set i (.cells (over cs off b.cells))):=by have:=Ext.Ex (g:=g) (vs':=over cs off b.cells) hi;rwa[cX]at this
     have hov:=Nf (off:=off) (cw hE (dk hv) hv) (cw hE (dk hbc) hbc);rw[hbn,hbl]at hov;refine⟨g,_,_,hrun bk off c E fz hrp hw hfree (by simp at hcl;omega),Inv.write H (aV hi) hρ hw hE ?_ ?_ ?_,hE,rfl⟩
     ·intro o v hv;obtain⟨k,E,es,gr,fl,h5,_⟩:=H.ek i bk s 0 o v hρ hv;rw[hi]at h5
      cases h5
     ·intro sz' st o v hρ' hv;obtain⟨k,E,es,gr,fl,h5,_⟩:=H.ek i bk sz' st o v hρ' hv;rw[hi]at h5
      cases h5
     ·intro b' s' st' hb';rw[hρ]at hb';simp only[aj,bL]at hb';obtain⟨rfl,rfl,rfl⟩:=hb';refine⟨_,E,fz,setRow_heap w bk c _ E fz hw,tI hfree ?_,by simpa using hov⟩
      have h4:(r x).cells.size=sz:=by rw[<-hbl,<-hbn];simp
      have h5:c.size=cs.length:=by rw[<-hcl];simp
      simp only[pJ,bR,gE,ve,CX];omega
    ·simp at hs
   ·simp at hs
  ·rename_i i off n k' ix q
   split at hs
   ·rename_i k E es gr fl hi
    split at hs
    ·rename_i hc;obtain⟨rfl,hok,hix⟩:=hc
     split at hs
     ·rename_i e he
      split at hs
      ·rename_i hle;simp only[aj]at hs;subst hs;simp only[V]at hp;obtain⟨u,bk,p0,hu,hbase,_,hrp⟩:=hp;have hil:=aV hi;have ho0:=H.ob i _ hi;simp only[OV]at ho0;obtain⟨hk0,hK,hfl,hgl,hb⟩:=ho0;obtain⟨k2,E2,es2,gr2,fl2,sh2,hi2,hle2,ad,cap,rfl,hcap,hn,hq⟩:=hu;rw[hi]at hi2;simp only[aj,Ob.row.injEq]at hi2;obtain⟨rfl,rfl,rfl,rfl,rfl,rfl⟩:=hi2;obtain⟨hlc,hq⟩:=hq hok
       rcases hq with⟨h0,_⟩|⟨bk',s,st,hρ,hst,rfl,hcs⟩
       ·omega
       simp only[Bz,aj,Addr.mk.injEq,oe]at hbase;obtain⟨rfl,rfl⟩:=hbase;rw[hρ]at hb;simp only at hb;obtain⟨hst',c,E',fz,vs,hw,hsz,hfree,hVE,hcells⟩:=hb
       have hlo:gr.getD 0<=off:=by
        cases gr with
        |none=>simp
        |some lo=>simp only[cF,av,a_]at hok;simpa using hok.1
       have hKe:=hK e (ik he)
       have hKd:dM k' (es.drop (gr.getD 0)):=fun x hx=>hK x (jh hx)
       have hlen:=gY hKd hVE
       have hdl:(es.drop (gr.getD 0)).length=es.length-gr.getD 0:=by simp
       have hel:=aV he
       have hed:(es.drop (gr.getD 0))[off+ix-gr.getD 0]? =some e:=by rw[ni,show gr.getD 0+(off+ix-gr.getD 0)=off+ix by omega];exact he
       obtain⟨v,hve,hvc⟩:=Gh hKd hVE hed;have hvcl:=fD (oR (pV hKe.2) hve);have hol:(over e.cells q b.cells).length=e.cells.length:=WX (by rw[hbl,hKe.1];exact hle)
       have hoo:bV (over e.cells q b.cells)=true:=by
        rw[Kw]at*;intro y hy;simp only[over,bl]at hy
        rcases hy with(hy|hy)|hy
        ·exact hKe.2 y (j5 hy)
        ·exact hbo y hy
        ·exact hKe.2 y (jh hy)
       have hoc:=Vs hKe.2 hol hoo
       have hE:Ext h.length g h g (h.set i (.row k' E (es.set (off+ix) (eR (over e.cells q b.cells) e)) gr (fl&&aK 0 b.cells) false)):=by
        have:=Ext.oO (g:=g) (E':=E) (es':=es.set (off+ix) (eR (over e.cells q b.cells) e)) (gr':=gr) (fl':=fl&&aK 0 b.cells) (sh':=false) (ρ':=g.ρ i) hi (by simp) (by
         intro off' m _ h1;refine⟨?_,by simp,fun _ h=>h⟩
         cases gr<;>simpa[cF]using h1)
        rwa[cX]at this
       have hov:VL g h (over e.cells q b.cells) (v.cells.toList.take q++(r x).cells.toList++v.cells.toList.drop (q+sz)):=by
        have:=Nf (off:=q) (oR (pV hKe.2) hve) hbc;rwa[hbn,hbl]at this
       obtain⟨u',hu',huc⟩:=Yr hKe.2 hve hol hoo hov
       have epos:(off-st)*k'+ix*k'+q=(gr.getD 0-st)*k'+((off+ix-gr.getD 0)*k'+q):=by
        have e1:(off-st)*k'+ix*k'=(off+ix-st)*k':=by rw[<-fC];congr 1;omega
        have e2:(gr.getD 0-st)*k'+(off+ix-gr.getD 0)*k'=(off+ix-st)*k':=by rw[<-fC];congr 1;omega
        omega
       have hjb:(off+ix-gr.getD 0)*k'+k'<=vs.length:=by
        rw[hlen,hdl]
        have:(off+ix-gr.getD 0)*k'+k'=(off+ix-gr.getD 0+1)*k':=by rw[fC,Nat.one_mul]
        rw[this];exact kX _ (by omega)
       have hvsz:(gr.getD 0-st)*k'+vs.length<=c.size:=by
        by_cases h0:vs.length=0
        ·have:=hK;omega
        ·have h5:=hcells (vs.length-1) (by omega)
         have h6:(gr.getD 0-st)*k'+(vs.length-1)<c.size:=by
          rcases kW ((gr.getD 0-st)*k'+(vs.length-1)) c.size with h7|h7
          ·exact h7
          ·simp[nf h7]at h5
         omega
       have hr:=hrun bk' ((off-st)*k'+ix*k'+q) c E' fz hrp hw hfree (by rw[epos];omega)
       have hnoM:∀o v,g.M bk' o=some v->False:=by
        intro o v hv;obtain⟨_,_,_,_,_,h5,_⟩:=H.ek i bk' s st o v hρ hv;rw[hi]at h5;simp at h5
       refine⟨g,_,_,hr,Inv.write H hil hρ hw hE (fun o v hv=>(hnoM o v hv).elim) (fun sz' st' o v _ hv=>(hnoM o v hv).elim) ?_,hE,rfl⟩;simp only[OV];refine⟨hk0,?_,?_,by simpa using hgl,?_⟩
       ·intro y hy
        rcases oh hy with hy|rfl
        ·exact hK y hy
        ·rw[hoc];exact⟨hol.trans hKe.1,hoo⟩
       ·intro hfb;simp only[av]at hfb;rw[Eg];have:=Eg.1 (hfl hfb.1);refine⟨?_,?_⟩
        ·intro y hy
         rcases oh hy with hy|rfl
         ·exact hK y hy
         ·rw[hoc];exact⟨hol.trans hKe.1,hoo⟩
        ·intro y hy
         rcases oh hy with hy|rfl
         ·exact this.2 y hy
         ·rw[hoc];have hbe:=this.2 e (ik he)
          have hsplit:∀{l:List AV},aK 0 l=true↔∀a∈l,aG 0 a=true:=by
           intro l;induction l with
           |nil=>simp[aK]
           |cons a l ih=>simp[aK,ih]
          rw[hsplit]at*;intro z hz;simp only[over,bl]at hz
          rcases hz with(hz|hz)|hz
          ·exact hbe z (j5 hz)
          ·exact hfb.2 z hz
          ·exact hbe z (jh hz)
       ·rw[hρ];simp only
        have hucl:u'.cells.toList.length=k':=by rw[huc];simp;rw[<-ve,hvcl,hKe.1];have:=hbn;simp at this;omega
        have h4:(r x).cells.toList.length=sz:=by rw[<-hbl,<-hbn]
        have hset:=Gp (i:=off+ix-gr.getD 0) hKd hVE (by rw[hdl];omega) hu' hucl
        have hvv:v.cells.toList=(vs.drop ((off+ix-gr.getD 0)*k')).take k':=by
         apply ji;intro y;rw[pH,ni]
         by_cases hy:y<k'
         ·rw[if_pos hy]
          have:y<v.cells.toList.length:=by rw[hvcl,hKe.1];exact hy
          rw[bg this];exact(hvc y _ (bg this)).symm
         ·rw[if_neg hy,jJ (by rw[hvcl,hKe.1];omega)]
        have hsp:dX vs ((off+ix-gr.getD 0)*k') u'.cells.toList=dX vs ((off+ix-gr.getD 0)*k'+q) (r x).cells.toList:=by
         rw[huc,<-Vq (k:=k') hjb hvv (by rw[h4];exact hle)];simp only[dX,h4]
        rw[hsp]at hset
        have hm:(off-st)*k'+ix*k'+q+(r x).cells.toList.length<=c.toList.length:=by rw[epos,h4];simp;omega
        have hcs:c.toList.take ((off-st)*k'+ix*k'+q)++(r x).cells.toList++c.toList.drop ((off-st)*k'+ix*k'+q+sz)=dX c.toList ((off-st)*k'+ix*k'+q) (r x).cells.toList:=by
         simp only[dX,h4]
        rw[hcs];have hsl:=pU hm;refine⟨hst',_,E',fz,dX vs ((off+ix-gr.getD 0)*k'+q) (r x).cells.toList,setRow_heap w bk' c _ E' fz hw,?_,tI hfree ?_,?_,?_⟩
        ·simp only[pJ];rw[hsl];simpa using hsz
        ·simp only[pJ];rw[hsl];simp
        ·rw[List.drop_set,if_neg (by omega)];exact fF hE (jU hset) hset
        ·intro j hj;have hj2:=mJ (l:=vs) (s:=(r x).cells.toList) (m:=(off+ix-gr.getD 0)*k'+q) (by omega) j;rw[bg hj]at hj2;rw[oi,mJ hm,hj2,epos];rw[pU (by omega)]at hj
         by_cases h7:j<(off+ix-gr.getD 0)*k'+q
         ·rw[if_pos (by omega),if_pos h7];have:=hcells j hj;rw[bg hj,<-this];simp
         ·rw[if_neg (by omega),if_neg h7]
          by_cases h8:j<(off+ix-gr.getD 0)*k'+q+(r x).cells.toList.length
          ·rw[if_pos (by omega),if_pos h8]
           congr 1;omega
          ·rw[if_neg (by omega),if_neg h8];have:=hcells j hj;rw[bg hj,<-this];simp
      ·simp at hs
     ·simp at hs
    ·simp at hs
   ·simp at hs
  ·simp at hs
 ·simp at hs
end
end Go.AM
