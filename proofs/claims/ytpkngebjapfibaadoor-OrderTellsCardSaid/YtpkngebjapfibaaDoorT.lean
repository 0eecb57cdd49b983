/- Chapter 07: what the given statements ask beside the contracts; the map of how many Ins. -/
import Derived.Test.YtpkngebjapfibaaDoorH
import Derived.Test.YtpkngebjapfibaaDoorAMd
import Derived.Test.YtpkngebjapfibaaDoorCards
import Derived.Test.YtpkngebjapfibaaDoorTie
import Derived.ProofKit
import Derived.Deep.DeepHandedRow
import Derived.LaidMore
import Derived.JoinedCond
set_option linter.unusedSimpArgs false
set_option linter.unusedVariables false
namespace Go.Proofs.YtpkngebjapfibaaDoor
open Go.AM Go.Proofs Go.ChangeShapes Go.WideShapes Go.ChangeAt Go.RowKit
theorem own:ownKnob Tryd.prog.godebug=none:=by kernel_rfl
theorem laid:laidOutB Tryd.prog=true:=by kernel_rfl
theorem mapsR:mapsRowed Tryd.prog=true:=by kernel_rfl
def insD:List (Lit×DataW Unit):=match (Rows.laid_patchbay_net_ins:DataW Unit) with
 | .map D=>D
 | _=>[]
theorem insD_eq:(Rows.laid_patchbay_net_ins:DataW Unit)=.map insD:=by kernel_rfl
def insK:List (AV×AV):=[(.int .i64 0,p2 0 0),(.int .i64 1,p2 0 0),(.int .i64 2,p2 1 1),(.int .i64 3,p2 1 1),(.int .i64 4,p2 2 8),(.int .i64 5,p2 2 8),(.int .i64 6,p2 2 8),(.int .i64 7,p2 2 8),(.int .i64 8,p2 2 8),(.int .i64 9,p2 2 8),(.int .i64 10,p2 0 8)]
theorem insD_av:(insD.map fun d=>(keyAV d.1,valAV d.2))=insK:=by kernel_rfl
theorem gIns0:Tryd.prog.globalNamed "patchbay/net.ins" = some 0:=by kernel_rfl
theorem tIns:(Tryd.prog.globals[0]?).map (·.type)=some 109:=by kernel_rfl
theorem uIns:Tryd.prog.underlying 109=some (.map 43 107):=by kernel_rfl
theorem u37:Tryd.prog.underlying 43=some (.int .i64):=by kernel_rfl
theorem u74:Tryd.prog.underlying 107=some (.array 2 3):=by kernel_rfl
theorem u3:Tryd.prog.underlying 3=some (.int .i64):=by kernel_rfl
theorem u4:Tryd.prog.underlying 4=some .bool:=by kernel_rfl
abbrev gFirst:Nat:=1
theorem ins_laid {W:World} (h:laidMetH Tryd.prog Rows.orderTellsRow.laid W):∃ Γ:Nat→Option AV,InsG Γ∧∀ n a,Γ n=some a→belL 0 a.cells=true∧∃ vs,VL (gw W) [] a.cells vs∧∀ j (hj:j<vs.length),W.cell? ⟨n,j,none⟩=some vs[j]:=by
 obtain ⟨ks,us,h1,h2,z,hz,hm⟩:=map_laid h (by kernel_rfl) (name := "patchbay/net.ins") (D:=insD) (by rw [← insD_eq]; exact List.mem_cons_of_mem _ (List.mem_cons_self ..)) gIns0 tIns uIns
  (fun v q hq=>by obtain ⟨a,b,_⟩:=key_int u37 (g:=gw W) (h:=[]) hq; exact ⟨a,b⟩) (fun n v x hf ht=>val_int2 u74 u3 (by kernel_rfl) (by kernel_rfl) hf ht)
 refine ⟨fun n=>if n=0 then some (.kmp ks us) else none,⟨ks,us,rfl,fun n => ?_⟩,fun n a hn => ?_⟩
 ·rw [hz];rw [insD_av] at hm
  obtain ⟨r,e1,e2,e3⟩:=findIn_spec (.sc .int) (.int .i64 n) z (by
   intro y hy;have hy2:=(hm y).1 hy;simp only [insK,List.mem_cons,List.not_mem_nil,or_false] at hy2
   have hcase:∀ m:Int,(eqData (.sc .int) (.int .i64 n) (.int .i64 m)=some true∧AV.int .i64 n=.int .i64 m)∨(eqData (.sc .int) (.int .i64 n) (.int .i64 m)=some false∧AV.int .i64 n≠.int .i64 m):=by
    intro m
    by_cases hnm:n=m
    ·exact .inl ⟨by simp [eqData,eqOne,hnm],by rw [hnm]⟩
    ·exact .inr ⟨by simp [eqData,eqOne,hnm],by simp [hnm]⟩
   rcases hy2 with rfl | rfl | rfl | rfl | rfl | rfl | rfl | rfl | rfl | rfl | rfl <;> exact hcase _)
  rw [e1];unfold insO
  cases r with
  | some v =>
   have hv:=(hm _).1 (e3 v rfl);simp only [insK,List.mem_cons,List.not_mem_nil,or_false,Prod.mk.injEq,AV.int.injEq,true_and] at hv
   rcases hv with ⟨rfl,rfl⟩ | ⟨rfl,rfl⟩ | ⟨rfl,rfl⟩ | ⟨rfl,rfl⟩ | ⟨rfl,rfl⟩ | ⟨rfl,rfl⟩ | ⟨rfl,rfl⟩ | ⟨rfl,rfl⟩ | ⟨rfl,rfl⟩ | ⟨rfl,rfl⟩ | ⟨rfl,rfl⟩ <;> rfl
  | none =>
   have hno:∀ y∈insK,¬ (AV.int .i64 n=y.1):=fun y hy=>e2 rfl y ((hm y).2 hy)
   simp only [insK,List.mem_cons,List.not_mem_nil,or_false,forall_eq_or_imp,forall_eq,AV.int.injEq,true_and] at hno;rw [if_neg (by omega),if_neg (by omega),if_neg (by omega),if_neg (by omega)]
 ·simp only at hn
  split at hn
  ·rename_i h0
   cases hn
   subst h0;exact ⟨h1,h2⟩
  ·cases hn
noncomputable def startW (os:Os):World :=
 { World.doorLaid Tryd.prog 4000 os with heap:=((World.doorLaid Tryd.prog 4000 os).heap.toList.zipIdx.map fun x=>if x.2=gFirst then (match x.1 with
  | .cells _ t q=>.cells (Go.Pinned.utf8FirstZ.map fun n:Nat=>Value.int .u8 (n:Int)).toArray t q
  | o=>o) else x.1).toArray }
theorem door_met (os:Os) (args:Array Value):laidMetH Tryd.prog Rows.orderTellsRow.laid ((startW os).forCall (fun _ _=>0) ⟨#[],args,[]⟩).memory :=
 laidMetH_of_parts3 (fuel:=8) (laidMet_of_run' 8 (by kernel_rfl) (by kernel_rfl)) (by kernel_rfl) (by kernel_rfl)
abbrev shI:Sh:=.int .i64
abbrev shSs:Sh:=.list 1 false .str
abbrev shLt:Sh:=.parts [.str,.str,.int .i64]
abbrev shGt:Sh:=.parts [.str,.int .i64,shSs,shSs,.bool]
abbrev shCt:Sh:=.parts [shSs,shSs,.list 3 true shLt,.list 5 true shGt]
theorem dec_i {B:Nat} {cs:List AV} (h:IsSh B shI cs):∃ n:Int,cs=[.int .i64 n]:=by
 simp only [IsSh] at h;obtain ⟨n,rfl,h1,h2⟩:=h;exact ⟨n,rfl⟩
theorem dec_str {B:Nat} {cs:List AV} (h:IsSh B .str cs):∃ s:List UInt8,cs=[.str s]∧s.length≤B:=by
 simp only [IsSh] at h;exact h
theorem dec_strs {B:Nat} {cs:List AV} (h:IsSh B shSs cs):∃ l:List (List UInt8),cs=[.list false 1 (l.map .str)]∧l.length≤B∧∀ s∈l,s.length≤B:=by
 simp only [IsSh] at h;obtain ⟨xs,rfl,h0,h1⟩:=h
 obtain ⟨l,hl,hn⟩:=map_dec (f:=mkA false) (e:=fun s:{s:List UInt8 // s.length≤B}=>AV.str s.val) (fun x hx=>by
  obtain ⟨⟨n,rfl,hb⟩,_⟩:=h1 x hx
  exact ⟨⟨n,hb⟩,rfl⟩)
 refine ⟨l.map (·.val),by rw [hl,List.map_map]; rfl,by rw [List.length_map]; omega,fun s hs => ?_⟩;obtain ⟨x,_,rfl⟩:=List.mem_map.1 hs;exact x.property
def LtS (B:Nat) (q:Lt):Prop:=q.name.length≤B∧q.next.length≤B
def GtS (B:Nat) (g:Gt):Prop:=g.name.length≤B∧g.ins.length≤B∧g.rows.length≤B∧(∀ s∈g.ins,s.length≤B)∧∀ s∈g.rows,s.length≤B
def CtS (B:Nat) (c:Ct):Prop:=c.inputs.length≤B∧c.outputs.length≤B∧c.latches.length≤B∧c.gates.length≤B∧(∀ g∈c.gates,GtS B g)∧(∀ s∈c.inputs,s.length≤B)∧(∀ s∈c.outputs,s.length≤B)∧∀ q∈c.latches,LtS B q
theorem CtS.toB {B:Nat} {c:Ct} (h:CtS B c) (hB:B<2^40):CtB c:=by
 obtain ⟨h1,h2,h3,h4,h5,h6,h7,h8⟩:=h;refine ⟨by omega,by omega,by omega,by omega,fun g hg => ?_,fun s hs => ?_,fun s hs => ?_,fun q hq => ?_⟩
 ·obtain ⟨a,b,d,e,f⟩:=h5 g hg;exact ⟨by omega,by omega,by omega,fun s hs=>by have:=e s hs; omega,fun s hs=>by have:=f s hs; omega⟩
 ·have:=h6 s hs; omega
 ·have:=h7 s hs; omega
 ·obtain ⟨a,b⟩:=h8 q hq;exact ⟨by omega,by omega⟩
theorem dec_lt {B:Nat} {cs:List AV} (h:IsSh B shLt cs):∃ q:Lt,AV.agg cs=eLt q∧LtS B q:=by
 simp only [IsSh,IsShL] at h;obtain ⟨_,_,rfl,⟨a,rfl,ha⟩,_,_,rfl,⟨b,rfl,hb⟩,_,_,rfl,⟨m,rfl,_⟩,rfl⟩:=h;exact ⟨⟨a,b,m⟩,rfl,ha,hb⟩
theorem dec_gt {B:Nat} {cs:List AV} (h:IsSh B shGt cs):∃ g:Gt,AV.agg cs=eGt g∧GtS B g:=by
 rw [IsSh] at h;simp only [IsShL] at h;obtain ⟨_,_,rfl,h1,_,_,rfl,h2,_,_,rfl,h3,_,_,rfl,h4,_,_,rfl,h5,rfl⟩:=h;obtain ⟨n,rfl,hn⟩:=dec_str h1;obtain ⟨op,rfl⟩:=dec_i h2;obtain ⟨i,rfl,hi,hi2⟩:=dec_strs h3;obtain ⟨r,rfl,hr,hr2⟩:=dec_strs h4;simp only [IsSh] at h5;obtain ⟨b,rfl⟩:=h5;exact ⟨⟨n,op,i,r,b,1,1,.self,.self⟩,rfl,hn,hi,hr,hi2,hr2⟩
theorem dec_ct {B:Nat} {cs:List AV} (h:IsSh B shCt cs):∃ c:Ct,AV.agg cs=eCt c∧CtS B c:=by
 rw [IsSh] at h;simp only [IsShL] at h;obtain ⟨_,_,rfl,h1,_,_,rfl,h2,_,_,rfl,h3,_,_,rfl,h4,rfl⟩:=h;obtain ⟨i,rfl,hi,hi2⟩:=dec_strs h1;obtain ⟨o,rfl,ho,ho2⟩:=dec_strs h2;rw [IsSh] at h3 h4;obtain ⟨xs,rfl,hxs,h3⟩:=h3;obtain ⟨ys,rfl,hys,h4⟩:=h4
 obtain ⟨l,hl,hn⟩:=map_dec (f:=mkA true) (e:=fun q:{q:Lt // LtS B q}=>eLt q.val) (fun x hx=>by
  obtain ⟨t,ht,hb⟩:=dec_lt (h3 x hx).1
  exact ⟨⟨t,hb⟩,ht⟩)
 obtain ⟨g,hg,hm⟩:=map_dec (f:=mkA true) (e:=fun q:{q:Gt // GtS B q}=>eGt q.val) (fun x hx=>by
  obtain ⟨t,ht,hb⟩:=dec_gt (h4 x hx).1
  exact ⟨⟨t,hb⟩,ht⟩)
 refine ⟨⟨i,o,l.map (·.val),g.map (·.val),1,1,3,5,.self,.self,.self,.self⟩,by rw [hl,hg]; simp [eCt,List.map_map,Function.comp_def],hi,ho,by rw [List.length_map]; omega,by rw [List.length_map]; omega,fun x hx => ?_,hi2,ho2,fun x hx => ?_⟩
 ·obtain ⟨y,_,rfl⟩:=List.mem_map.1 hx;exact y.property
 ·obtain ⟨y,_,rfl⟩:=List.mem_map.1 hx;exact y.property
def Small {H:Type} (d:DataW H):Prop:=Rows.uptoBulk d≤1048576
end Go.Proofs.YtpkngebjapfibaaDoor
