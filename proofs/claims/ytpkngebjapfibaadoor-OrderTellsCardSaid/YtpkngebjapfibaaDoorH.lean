/- Order: Check of the netlists below, of any size. -/
import Derived.Test.YtpkngebjapfibaaDoorG
import Derived.Test.YtpkngebjapfibaaDoorF
import Derived.Test.YtpkngebjapfibaaDoorAMd
import Derived.Test.YtpkngebjapfibaaDoorCode
set_option linter.unusedSimpArgs false
set_option linter.unusedVariables false
namespace Go.Proofs.YtpkngebjapfibaaDoor
open Go.AM Go.Proofs
variable {Γ : Nat → Option AV}
def GtB (g:Gt):Prop:=g.name.length<2^40∧g.ins.length<2^40∧g.rows.length<2^40∧(∀ s∈g.ins,s.length<2^40)∧∀ s∈g.rows,s.length<2^40
def CtB (c:Ct):Prop:=c.inputs.length<2^40∧c.outputs.length<2^40∧c.latches.length<2^40∧c.gates.length<2^40∧(∀ g∈c.gates,GtB g) ∧
 (∀ s∈c.inputs,s.length<2^40)∧(∀ s∈c.outputs,s.length<2^40)∧∀ q∈c.latches,q.name.length<2^40∧q.next.length<2^40
theorem anyB_no {α:Type} {p:α→Bool}:∀ {l:List α},anyB p l=false→∀ x∈l,p x=false
 | [],_,x,hx=>by cases hx
 | a::l,h,x,hx=>by
  rw [anyB_cons,Bool.or_eq_false_iff] at h
  rcases List.mem_cons.1 hx with rfl | hx
  ·exact h.1
  ·exact anyB_no h.2 x hx
theorem CtFew.toB {c:Ct} (h:CtFew c):CtB c:=by
 obtain ⟨h1,h2,h3,h4,h5,h6⟩:=h;refine ⟨by omega,by omega,by omega,by omega,fun g hg => ?_,h6⟩;obtain ⟨g1,g2,g3,g4⟩:=h5 g hg;exact ⟨g1,by omega,by omega,g4⟩
theorem few_of_lim {c:Ct} (hb:CtB c) (hl:limC c=false):CtFew c:=by
 simp only [limC,Bool.or_eq_false_iff,decide_eq_false_iff_not] at hl;obtain ⟨h1,h2,h3⟩:=hl;obtain ⟨b1,b2,b3,b4,b5,b6⟩:=hb;refine ⟨by omega,by omega,by omega,by omega,fun g hg => ?_,b6⟩;obtain ⟨g1,g2,g3,g4⟩:=b5 g hg;have:=anyB_no h1 g hg;simp only [largeB,Bool.or_eq_false_iff,decide_eq_false_iff_not] at this;exact ⟨g1,by omega,by omega,g4⟩
set_option maxRecDepth 8000 in
theorem p_CheckB (hΓ:InsG Γ) (c:Ct) (hb:CtB c):PureCon Tryd.prog Γ n_net_Check [eCt c] (eChk (checkC c)):=by
 cases hl:limC c with
 | false=>exact p_Check hΓ c (few_of_lim hb hl)
 | true =>
  have b0:=hb.1;have b1:=hb.2.1;have b3:=hb.2.2.1;have b4:=hb.2.2.2.1;have hC:=p_ContainsFunc_gate (Γ:=Γ) (fl:=false) (a_large c.gates) c.hG (by omega) (h:=ckH c) trivial;have e0:((c.inputs.length:Int)+c.latches.length+c.gates.length≤200)=(c.inputs.length+c.latches.length+c.gates.length≤200):=propext (by omega);have e1:((c.outputs.length:Int)≤200)=(c.outputs.length≤200):=propext (by omega);refine .run 160 c_net_Check (by simp) ?_;unfold checkC
  by_cases h1:c.inputs.length+c.latches.length+c.gates.length≤200
  ·by_cases h2:c.outputs.length≤200
   ·simp (disch:=omega) [e0,e1,h1,h2];refine .rcall 160 hC ?_
    have h3:anyB largeB c.gates=true:=by
     simp only [limC,Bool.or_eq_true,decide_eq_true_eq] at hl
     rcases hl with h | h | h
     ·exact h
     ·omega
     ·omega
    rw [h3];simp;refine .dcall 160 (by simp) (p_need_die 8 []) ?_;simp;refine .dr 90 ?_;simp;exact .back (by simp [hl])
   ·simp (disch:=omega) [e0,e1,h1,h2];refine .dcall 160 (by simp) (p_need_die 8 []) ?_;simp;refine .dr 90 ?_;simp;exact .back (by simp [hl])
  ·simp (disch:=omega) [e0,e1,h1];refine .dcall 160 (by simp) (p_need_die 8 []) ?_;simp;refine .dr 90 ?_;simp;exact .back (by simp [hl])
def rightC (c:Ct):Bool:=decide ((checkC c).1=0)
theorem p_right (hΓ:InsG Γ) (c:Ct) (hb:CtB c):PureCon Tryd.prog Γ n_order_right [eCt c] (.bool (rightC c)):=by
 have hC:=p_CheckB hΓ c hb;unfold rightC;generalize checkC c=r at *;obtain ⟨e,s⟩:=r;refine .run 60 c_order_right (by simp) ?_;simp;refine .call 60 (by simp) hC ?_;simp;exact .back (by simp)
theorem right_ok {c:Ct} (h:rightC c=true):CtOk c∧checkC c=(0,[]):=by
 rcases check_is c with ⟨h1,_⟩ | ⟨h1,h2⟩
 ·exact absurd (of_decide_eq_true h) h1
 ·exact ⟨h2,h1⟩
theorem right_few {c:Ct} (hb:CtB c) (h:rightC c=true):CtFew c:=few_of_lim hb (right_ok h).1.lim
theorem right_names {c:Ct} (h:rightC c=true):(c.gates.map (·.name)).Nodup:=by
 have:=(right_ok h).1.nodup;rw [netsC,List.nodup_append] at this;exact this.2.1
def leftM (c:Ct) (out:List Nat):List (Bs×Nat):=(plM c).filter fun x => !out.contains x.2
theorem pl_get {c:Ct} {x:Bs×Nat} (hx:x∈plM c):∃ h:x.2<c.gates.length,x.1=c.gates[x.2].name:=by
 obtain ⟨j,hj,rfl⟩:=List.getElem_of_mem hx;rw [plM_len] at hj;rw [plM_get c j hj];exact ⟨hj,rfl⟩
theorem name_inj {c:Ct} (hd:(c.gates.map (·.name)).Nodup) {i j:Nat} (hi:i<c.gates.length) (hj:j<c.gates.length) (h:c.gates[i].name=c.gates[j].name):i=j:=by
 have h1:(c.gates.map (·.name))[i]'(by simpa using hi)=(c.gates.map (·.name))[j]'(by simpa using hj):=by simpa using h
 exact (List.getElem_inj hd).1 h1
theorem leftM_del {c:Ct} (hd:(c.gates.map (·.name)).Nodup) (out:List Nat) {a:Nat} (ha:a<c.gates.length):delM c.gates[a].name (leftM c out)=leftM c (out++[a]):=by
 unfold delM leftM;rw [List.filter_filter];apply List.filter_congr;intro x hx;obtain ⟨h1,h2⟩:=pl_get hx;have e:(x.1=c.gates[a].name)↔x.2=a:=⟨fun h=>name_inj hd h1 ha (by rw [← h2,h]),fun h=>by rw [h2]; simp [h]⟩;rw [Bool.eq_iff_iff];simp only [Bool.and_eq_true,decide_eq_true_eq,Bool.not_eq_true',List.contains_eq_mem,decide_eq_false_iff_not,List.mem_append,List.mem_singleton,not_or,e];exact ⟨fun h=>⟨h.2,h.1⟩,fun h=>⟨h.2,h.1⟩⟩
theorem leftM_nodup {c:Ct} (hd:(c.gates.map (·.name)).Nodup) (out:List Nat):((leftM c out).map (·.1)).Nodup:=by
 have h1:((plM c).map (·.1)).Nodup:=by rw [plM_keys]; exact hd
 exact h1.sublist ((List.filter_sublist).map _)
theorem leftM_nil (c:Ct):leftM c []=plM c:=by simp [leftM]
theorem leftM_get {c:Ct} (hd:(c.gates.map (·.name)).Nodup) (out:List Nat) {i:Nat} (hi:i<c.gates.length):getM c.gates[i].name (leftM c out)=if i∈out then none else some i:=by
 have key:∀ l:List (Bs×Nat),(∀ x∈l,x∈plM c)→getM c.gates[i].name (l.filter fun x => !out.contains x.2)=if i∈out then none else if (c.gates[i].name,i)∈l then some i else none:=by
  intro l
  induction l with
  | nil=>intro _; simp [getM]
  | cons x l ih =>
   intro hl;obtain ⟨h1,h2⟩:=pl_get (hl x (by simp))
   have ih:=ih fun y hy=>hl y (by simp [hy])
   by_cases hx:x.2=i
   ·have hx1:x=(c.gates[i].name,i):=by
     obtain ⟨a,b⟩:=x;simp only at hx h2;subst hx;rw [h2]
    by_cases ho:i∈out
    ·rw [List.filter_cons,if_neg (by rw [hx1]; simpa using ho),ih,if_pos ho,if_pos ho]
    ·rw [List.filter_cons,if_pos (by rw [hx1]; simpa using ho),if_neg ho,hx1];simp [getM]
   ·have hne:¬ c.gates[i].name=x.1:=fun h=>hx (name_inj hd h1 hi (by rw [← h2,h])).symm.symm
    have hm:((c.gates[i].name,i)∈x::l)↔(c.gates[i].name,i)∈l:=by
     rw [List.mem_cons];exact ⟨fun h=>h.resolve_left fun h=>hx (by rw [← h]),.inr⟩
    rw [List.filter_cons]
    split
    ·rw [getM,if_neg hne,ih]; simp only [hm]
    ·rw [ih]; simp only [hm]
 have hm:(c.gates[i].name,i)∈plM c:=by
  have:=List.getElem_mem (l:=plM c) (n:=i) (by rw [plM_len]; exact hi);rwa [plM_get c i hi] at this
 rw [leftM,key _ fun x hx=>hx,if_pos hm]
abbrev lpS:Ob:=.loop .ready .none n_order_Sort [U,.ptr 0 0,.sl 1 0 0,.sl 2 0 0,.ptr 3 0,.ptr 7 0,U,U,U,U,U,U,U,U,U,U,U,U,U,U,U,U,U,U,U,U,U,U,U,U,U,U,U,U,U,U,U,U,U,U,U,U,U,U,U,U,U,U,U,U,U,U,U,U] [19] (.reg ydM) ydQ
abbrev lpE:Ob:=.loop .exhausted .none n_order_Sort [U,.ptr 0 0,.sl 1 0 0,.sl 2 0 0,.ptr 3 0,.ptr 7 0,U,U,U,U,U,U,U,U,U,U,U,U,U,U,U,U,U,U,U,U,U,U,U,U,U,U,U,U,U,U,U,U,U,U,U,U,U,U,U,U,U,U,U,U,U,U,U,U] [19] (.reg ydM) ydQ
abbrev hS (c:Ct) (out:List Nat):List Ob:=[.cells (AV.cells (eCt c)),.row 1 t_int [] none true false,.row 1 t_string [] none true false,.cells [.sl 4 0 out.length],.row 1 t_int (out.map iN) none true false,.cells (AV.cells (eCt c)),.map ((leftM c out).map ePl) true,.cells [.mp 6],.cells (AV.cells (eCt c)),.dfr true,lpS]
set_option maxRecDepth 8000 in
theorem b_Sort (c:Ct) (hd:(c.gates.map (·.name)).Nodup) (out:List Nat) (a:Nat) (T:List Ob) (up:List Fr) (ho:out.length<2^20) (ha:a<c.gates.length) (hup:∀ m,up.all (vldF 4 m)=true) (hT:∀ m,vldH 4 m T=true) :
  AM.Reach Tryd.prog Γ ((Cal.yl 10).cfg [.int .i64 a] up (hS c out++T)) (.back up (.bool true) (hS c (out++[a])++T)):=by
 have q2:=eq_true (c.hG.of ha);have hdl:=delIn_gen (E:=.sc .str) (e:=AV.str) eq_str (fun n:Nat=>AV.int .i64 n) c.gates[a].name (leftM_nodup hd out);rw [leftM_del hd out ha] at hdl
 have hle:(out.length+1)*8≤140737488355328:=by omega
 have hvp:=fun m=>vld_pl 4 m (leftM c out)
 simp [Cal.cfg];refine .goB 13 ?_;simp (disch:=omega) [hle];refine .trans (.clrs [19,20,21,22,23] _) ?_;simp [clrT];refine .resetUT (i:=4) rfl (by simp) (hup _) (by simp [hT,hvp]) ?_;refine .goB 60 ?_;simp [q2,ha,hdl,isKey,allDatum,isDatum]
theorem wf_Sort (c:Ct) (out:List Nat):WfO (hS c out):=fun m hm=>by
 have h1:=bel_pl m (leftM c out);simp at hm
 simp [h1]; omega
theorem wv_Sort (c:Ct) (out:List Nat):WfV (hS c out):=fun i m hi=>by
 have h1:=vld_pl i m (leftM c out);simp at hi
 simp [h1]; omega
def neverF (out:List Nat):List Gt→Nat→List Bs
 | [],_=>[]
 | g::r,i=>if i∈out then neverF out r (i+1) else g.name::neverF out r (i+1)
set_option maxRecDepth 8000 in
theorem f_Sort1 (c:Ct) (hc:CtFew c) (hd:(c.gates.map (·.name)).Nodup) (out:List Nat):∀ n i:Nat,i+n=c.gates.length→∀ l:List Bs,l.length≤i →
  Fins Tryd.prog Γ (yea (.ptr 3 0) (.ptr 7 0) (.sl 11 0 l.length) (.list false c.kG (c.gates.map eGt)) (.int .i64 c.gates.length) (.int .i64 i)
   [.cells (AV.cells (eCt c)),.row 1 t_int [] none true false,.row 1 t_string [] none true false,.cells [.sl 4 0 out.length],.row 1 t_int (out.map iN) none true false,.cells (AV.cells (eCt c)),.map ((leftM c out).map ePl) true,.cells [.mp 6],.cells (AV.cells (eCt c)),.dfr true,lpE,.row 1 t_string (l.map .str) none true false] ⟨[.mark 9],.norm,0,[]⟩)
   (.ret (.tup [.own 1 t_int (out.map iN),.own 1 t_string ((l++neverF out (c.gates.drop i) i).map .str)])):=by
 have hN:=hc.2.2.2.1
 have hbp:=fun m=>bel_pl m (leftM c out)
 have hvp:=fun i m=>vld_pl i m (leftM c out)
 intro n
 induction n with
 | zero =>
  intro i hi l hl
  have q1:¬ i<c.gates.length:=by omega
  rw [List.drop_eq_nil_of_le (by omega),neverF,List.append_nil];refine .go 60 ?_;simp [q1];exact .back (by simp)
 | succ n ih =>
  intro i hi l hl
  have q1:i<c.gates.length:=by omega
  have q2:=eq_true (c.hG.of q1);have hfi:=findIn_gen (E:=.sc .str) (e:=AV.str) eq_str (fun n:Nat=>AV.int .i64 n) c.gates[i].name (leftM c out);rw [leftM_get hd out q1] at hfi;rw [List.drop_eq_getElem_cons q1,neverF]
  by_cases h0:i∈out
  ·have hh:=ih (i+1) (by omega) l (by omega);rw [if_pos h0] at hfi ⊢;refine .go 90 ?_;simp (disch:=omega) [q1,q2,hfi,isKey,allDatum,isDatum];refine .reLoop ?_;simp;refine .drop 12 rfl (by simp) (by simp) (by simp [hbp]) ?_;simp at hh ⊢;exact hh
  ·have hh:=ih (i+1) (by omega) (l++[c.gates[i].name]) (by simp; omega)
   have hle:((l.length:Int)+1)*16≤140737488355328:=by omega
   rw [if_neg h0] at hfi ⊢;refine .go 90 ?_;simp (disch:=omega) [q1,q2,hfi,isKey,allDatum,isDatum,hle];refine .reLoop ?_;simp;refine .drop 12 rfl (by simp) (by simp) (by simp [hbp]) ?_;refine .reset (i:=11) rfl (by simp) (by simp) (by simp [hvp]) ?_;simp at hh ⊢;exact hh
set_option maxRecDepth 8000 in
theorem p_Sort (hΓ:InsG Γ) (c:Ct) (hb:CtB c) (hr:rightC c=true) (f:Nat) (hf:f≤2^14) (hE:endC c f) (hl:(comeC c f).length<2^20):PureCon Tryd.prog Γ n_order_Sort [eCt c] (.tup [.own 1 t_int ((comeC c f).map iN),.own 1 t_string ((neverF (comeC c f) c.gates 0).map .str)]):=by
 have hc:=right_few hb hr;have hd:=right_names hr;have hR:=p_right hΓ c hb;rw [hr] at hR
 have hpl:=fun h hw up=>r_places (Γ:=Γ) c hc (right_names hr) (h:=h) hw up
 have hfold:∀ (l out:List Nat),l.foldl (fun x a=>x++[a]) out=out++l:=by
  intro l
  induction l with
  | nil=>intro out; simp
  | cons a l ih=>intro out; rw [List.foldl_cons,ih]; simp
 have hcm:=fun up hup=>r_coming1 (Γ:=Γ) c hc hd (hS c) (fun x a=>x++[a]) 11 10 4 8 (fun _=>rfl) (wf_Sort c) (wv_Sort c) (by omega) (by omega) (fun _=>rfl) (fun x k=>x.length=k) (fun x k a h _=>by simp [h]) (fun x k a T up h hk ha hup hT=>b_Sort c hd x a T up (by omega) ha hup hT) up hup [] rfl f hf hE
 rw [hfold,List.nil_append] at hcm;have h1:=f_Sort1 (Γ:=Γ) c hc hd (comeC c f) c.gates.length 0 (by omega) [] (by simp);refine .run 60 c_order_Sort (by simp) ?_;simp;refine .call 60 (by simp) hR ?_;simp;refine .rcall 60 (hpl _ ?_) ?_
 ·intro m hm;simp at hm
  simp; omega
 simp;refine .go 60 ?_;simp;refine .enter 60 c_order_coming ?_;simp;rw [← leftM_nil c];refine .reach (hcm _ ?_) (.go 60 ?_)
 ·simp
 simp;refine .inLoop ?_;simp at h1 ⊢;exact h1
theorem p_Sort0 (hΓ:InsG Γ) (c:Ct) (hb:CtB c) (hr:rightC c=false):PureCon Tryd.prog Γ n_order_Sort [eCt c] (.tup [.own 1 t_int [],.own 1 t_string []]):=by
 have hR:=p_right hΓ c hb;rw [hr] at hR;refine .run 60 c_order_Sort (by simp) ?_;simp;refine .call 60 (by simp) hR ?_;simp;exact .back (by simp)
end Go.Proofs.YtpkngebjapfibaaDoor
namespace Go.Proofs.YtpkngebjapfibaaDoor
open Go.AM Go.Proofs
def inK (c:Ct) (i j:Nat):Bool:=match c.gates[i]?,c.gates[j]? with
 | some g,some h=>g.ins.contains h.name
 | _,_=>false
theorem inK_lt {c:Ct} {i j:Nat} (h:inK c i j=true):i<c.gates.length∧j<c.gates.length:=by
 unfold inK at h
 split at h
 ·rename_i g h' h1 h2;exact ⟨(List.getElem?_eq_some_iff.1 h1).1,(List.getElem?_eq_some_iff.1 h2).1⟩
 ·cases h
theorem inK_eq {c:Ct} {i j:Nat} (hi:i<c.gates.length) (hj:j<c.gates.length):inK c i j=true↔c.gates[j].name∈c.gates[i].ins:=by
 simp [inK,hi,hj]
theorem getM_mem {K V:Type} [DecidableEq K] {k:K} {v:V}:∀ {l:List (K×V)},getM k l=some v→(k,v)∈l
 | [],h=>by cases h
 | (a,u)::l,h=>by
  rw [getM] at h
  split at h
  ·rename_i h1; cases h; subst h1; simp
  ·exact List.mem_cons_of_mem _ (getM_mem h)
theorem plM_is {c:Ct} (hd:(c.gates.map (·.name)).Nodup) {s:Bs} {k:Nat}:getM s (plM c)=some k↔∃ h:k<c.gates.length,c.gates[k].name=s:=by
 constructor
 ·intro h;obtain ⟨h1,h2⟩:=pl_get (getM_mem h);exact ⟨h1,h2.symm⟩
 ·rintro ⟨h,rfl⟩
  have:=leftM_get hd [] h;rw [leftM_nil] at this;simpa using this
theorem needL_mem (pl:List (Bs×Nat)) (x:Nat):∀ (l:List Bs) (a:List Nat),x∈needL pl l a↔x∈a∨∃ s∈l,getM s pl=some x
 | [],a=>by simp [needL]
 | s::r,a=>by
  rw [needL]
  split
  ·rename_i h0;rw [needL_mem pl x r a];simp [h0]
  ·rename_i k h0;rw [needL_mem pl x r]
   have hk:(x∈if k∈a then a else a++[k])↔x∈a∨x=k:=by
    split
    ·rename_i hm;exact ⟨.inl,fun h=>h.elim id fun h=>h▸hm⟩
    ·simp
   rw [hk];simp only [List.mem_cons,exists_eq_or_imp,h0,Option.some.injEq];constructor
   ·rintro ((h | h) | h)
    ·exact .inl h
    ·exact .inr (.inl h.symm)
    ·exact .inr (.inr h)
   ·rintro (h | h | h)
    ·exact .inl (.inl h)
    ·exact .inl (.inr h.symm)
    ·exact .inr h
theorem waitF_fst (pl:List (Bs×Nat)):∀ (l:List Gt) (i:Nat) (nd b:List (List Nat)),(waitF pl l i nd b).1=nd++l.map fun g=>needL pl g.ins []
 | [],_,_,_=>by simp [waitF]
 | g::r,i,nd,b=>by rw [waitF,waitF_fst pl r]; simp
theorem needsC_mem {c:Ct} (hd:(c.gates.map (·.name)).Nodup) {i:Nat} (hi:i<c.gates.length) (x:Nat):x∈(needsC c).getD i []↔inK c i x=true:=by
 have e:(needsC c).getD i []=needL (plM c) c.gates[i].ins []:=by
  rw [needsC,waitF_fst];simp [hi]
 rw [e,needL_mem];constructor
 ·rintro (h | ⟨s,hs,h⟩)
  ·cases h
  ·obtain ⟨h1,h2⟩:=(plM_is hd).1 h;exact (inK_eq hi h1).2 (h2▸hs)
 ·intro h;obtain ⟨_,h1⟩:=inK_lt h;exact .inr ⟨_,(inK_eq hi h1).1 h,(plM_is hd).2 ⟨h1,rfl⟩⟩
theorem byL_get (pl:List (Bs×Nat)) (i k:Nat):∀ (l:List Bs) (a:List Nat) (b:List (List Nat)),k<b.length→(byL pl i l a b).getD k []=if k∈needL pl l a∧k∉a then b.getD k []++[i] else b.getD k []
 | [],a,b,hk=>by
  rw [byL,needL,if_neg (fun h=>h.2 h.1)]
 | s::r,a,b,hk=>by
  rw [byL,needL]
  split
  ·exact byL_get pl i k r a b hk
  ·rename_i k0 h0
   by_cases hm:k0∈a
   ·simp only [if_pos hm];exact byL_get pl i k r a b hk
   ·simp only [if_neg hm];rw [byL_get pl i k r _ _ (by simpa using hk)]
    have hset:(b.set k0 (b.getD k0 []++[i])).getD k []=if k0=k then b.getD k []++[i] else b.getD k []:=by
     simp only [List.getD_eq_getElem?_getD,List.getElem?_set]
     by_cases h1:k0=k
     ·subst h1; simp [hk]
     ·simp [h1]
    rw [hset]
    by_cases h1:k0=k
    ·subst h1;have hin:k0∈needL pl r (a++[k0]):=(needL_mem pl k0 r _).2 (.inl (by simp));rw [if_neg (by simp),if_pos rfl,if_pos ⟨hin,hm⟩]
    ·have hiff:(k∈needL pl r (a++[k0])∧k∉a++[k0])↔(k∈needL pl r (a++[k0])∧k∉a):=by
      simp only [List.mem_append,List.mem_singleton,not_or];exact ⟨fun h=>⟨h.1,h.2.1⟩,fun h=>⟨h.1,h.2,fun h2=>h1 h2.symm⟩⟩
     rw [if_neg h1];simp only [hiff]
def byF (pl:List (Bs×Nat)) (k:Nat):List Gt→Nat→List Nat
 | [],_=>[]
 | g::r,i=>if k∈needL pl g.ins [] then i::byF pl k r (i+1) else byF pl k r (i+1)
theorem waitF_snd (pl:List (Bs×Nat)) (k:Nat):∀ (l:List Gt) (i:Nat) (nd b:List (List Nat)),k<b.length→(waitF pl l i nd b).2.getD k []=b.getD k []++byF pl k l i
 | [],_,_,_,_=>by simp [waitF,byF]
 | g::r,i,nd,b,hk=>by
  rw [waitF,waitF_snd pl k r _ _ _ (by rw [byL_len]; exact hk),byL_get pl i k g.ins [] b hk,byF]
  split
  ·rename_i h
   rw [if_pos h.1]; simp
  ·rename_i h;rw [if_neg fun h1=>h ⟨h1,by simp⟩]
theorem byF_mem (pl:List (Bs×Nat)) (k j:Nat):∀ (l:List Gt) (i:Nat),j∈byF pl k l i↔∃ t,∃ h:t<l.length,j=i+t∧k∈needL pl l[t].ins []
 | [],i=>by simp [byF]
 | g::r,i=>by
  have ih:=byF_mem pl k j r (i+1)
  have hs:(∃ t,∃ h:t<(g::r).length,j=i+t∧k∈needL pl (g::r)[t].ins [])↔(j=i∧k∈needL pl g.ins [])∨∃ t,∃ h:t<r.length,j=i+1+t∧k∈needL pl r[t].ins []:=by
   constructor
   ·rintro ⟨t,h,e,hm⟩
    cases t with
    | zero=>exact .inl ⟨e,hm⟩
    | succ t=>exact .inr ⟨t,by simpa using h,by omega,hm⟩
   ·rintro (⟨e,hm⟩ | ⟨t,h,e,hm⟩)
    ·exact ⟨0,by simp,e,hm⟩
    ·exact ⟨t+1,by simpa using h,by omega,hm⟩
  rw [hs,byF]
  split
  ·rename_i h0;simp only [List.mem_cons,ih,h0,and_true]
  ·rename_i h0;simp only [ih,h0,and_false,false_or]
theorem byF_nodup (pl:List (Bs×Nat)) (k:Nat):∀ (l:List Gt) (i:Nat),(byF pl k l i).Nodup
 | [],i=>by simp [byF]
 | g::r,i=>by
  rw [byF]
  split
  ·rw [List.nodup_cons];refine ⟨fun h => ?_,byF_nodup pl k r (i+1)⟩;obtain ⟨t,_,e,_⟩:=(byF_mem pl k i r (i+1)).1 h;omega
  ·exact byF_nodup pl k r (i+1)
theorem bysC_eq (c:Ct) {k:Nat} (hk:k<c.gates.length):(bysC c).getD k []=byF (plM c) k c.gates 0:=by
 rw [bysC,waitF_snd _ _ _ _ _ _ (by simpa using hk)];simp [hk]
theorem bysC_mem {c:Ct} (hd:(c.gates.map (·.name)).Nodup) {k:Nat} (hk:k<c.gates.length) (i:Nat):i∈(bysC c).getD k []↔inK c i k=true:=by
 rw [bysC_eq c hk,byF_mem];constructor
 ·rintro ⟨t,ht,e,hm⟩
  have:i=t:=by omega
  subst this;rw [← needsC_mem hd ht,needsC,waitF_fst];simpa [ht] using hm
 ·intro h;obtain ⟨hi,_⟩:=inK_lt h;refine ⟨i,hi,by omega,?_⟩;rw [← needsC_mem hd hi,needsC,waitF_fst] at h;simpa [hi] using h
theorem bysC_nodup (c:Ct) {k:Nat} (hk:k<c.gates.length):((bysC c).getD k []).Nodup:=by rw [bysC_eq c hk]; exact byF_nodup _ _ _ _
def mayB (c:Ct) (done:List Nat) (k:Nat):Bool := !done.contains k&&(List.range c.gates.length).all fun x => !inK c k x||done.contains x
theorem mayB_is {c:Ct} {done:List Nat} {k:Nat}:mayB c done k=true↔k∉done∧∀ x,inK c k x=true→x∈done:=by
 simp only [mayB,Bool.and_eq_true,Bool.not_eq_true',List.contains_eq_mem,decide_eq_false_iff_not,List.all_eq_true,List.mem_range,Bool.or_eq_true,decide_eq_true_eq];constructor
 ·rintro ⟨h1,h2⟩
  refine ⟨h1,fun x hx => ?_⟩
  rcases h2 x (inK_lt hx).2 with h | h
  ·rw [h] at hx; cases hx
  ·exact h
 ·rintro ⟨h1,h2⟩
  refine ⟨h1,fun x _ => ?_⟩
  cases hx:inK c k x with
  | false=>exact .inl rfl
  | true=>exact .inr (h2 x hx)
def nextK (c:Ct) (done:List Nat):Option Nat:=(List.range c.gates.length).find? (mayB c done)
def sortF (c:Ct):Nat→List Nat→List Nat
 | 0,_=>[]
 | f+1,done=>match nextK c done with
  | none=>[]
  | some k=>k::sortF c f (done++[k])
def sortC (c:Ct):List Nat:=sortF c c.gates.length []
theorem nextK_some {c:Ct} {done:List Nat} {a:Nat} (ha:a<c.gates.length) (h1:mayB c done a=true) (h2:∀ j<a,mayB c done j=false):nextK c done=some a:=by
 rw [nextK,List.find?_range_eq_some];exact ⟨h1,by simpa using ha,fun j hj=>by simp [h2 j hj]⟩
theorem nextK_none {c:Ct} {done:List Nat} (h:∀ a<c.gates.length,mayB c done a=false):nextK c done=none:=by
 rw [nextK,List.find?_eq_none];intro x hx
 rw [h x (by simpa using hx)]; simp
theorem nextK_is {c:Ct} {done:List Nat} {a:Nat} (h:nextK c done=some a):a<c.gates.length∧mayB c done a=true∧∀ j<a,mayB c done j=false:=by
 rw [nextK,List.find?_range_eq_some] at h;exact ⟨by simpa using h.2.1,h.1,fun j hj=>by simpa using h.2.2 j hj⟩
theorem nextK_no {c:Ct} {done:List Nat} (h:nextK c done=none) {a:Nat} (ha:a<c.gates.length):mayB c done a=false:=by
 rw [nextK,List.find?_eq_none] at h;simpa using h a (by simpa using ha)
structure Inv (c:Ct) (done:List Nat) (nd:List (List Nat)) (l:List Nat):Prop where
 len:nd.length=c.gates.length
 nds:∀ i<c.gates.length,∀ x,x∈nd.getD i []↔inK c i x=true∧x∉done
 ls:∀ i,i∈l↔i<c.gates.length∧mayB c done i=true
 nod:l.Nodup
 heap:HeapN l.length l
 don:done.Nodup
 lt:∀ x∈done,x<c.gates.length
 all:∀ i∈done,∀ x,inK c i x=true→x∈done
structure RInv (c:Ct) (done:List Nat) (a:Nat) (r:List Nat) (nd:List (List Nat)) (l:List Nat):Prop where
 len:nd.length=c.gates.length
 old:∀ i<c.gates.length,i∈r→∀ x,x∈nd.getD i []↔inK c i x=true∧x∉done
 new:∀ i<c.gates.length,i∉r→∀ x,x∈nd.getD i []↔inK c i x=true∧x∉done++[a]
 ls:∀ i,i∈l↔i<c.gates.length∧i∉r∧mayB c (done++[a]) i=true
 nod:l.Nodup
 heap:HeapN l.length l
theorem delN_mem (a:Nat) (l:List Nat) (x:Nat):x∈delN a l↔x∈l∧x≠a:=by simp [delN]
theorem RInv.run {c:Ct} {done:List Nat} {a:Nat} (ha:a∉done) (haa:∀ x,inK c a x=true→x∈done) (hall:∀ i∈done,∀ x,inK c i x=true→x∈done):∀ (r:List Nat) (nd:List (List Nat)) (l s:List Nat),r.Nodup→(∀ i∈r,inK c i a=true)→RInv c done a r nd l →
  RInv c done a [] (relS a r nd l s).1 (relS a r nd l s).2.1
 | [],nd,l,s,_,_,h=>h
 | i::r,nd,l,s,hr,hW,h=>by
  have hi:=(inK_lt (hW i (by simp))).1;rw [List.nodup_cons] at hr
  have hil:i∉l:=fun hm=>((h.ls i).1 hm).2.1 (by simp)
  have hid:i∉done:=fun hm=>ha (hall i hm a (hW i (by simp)))
  have hia:i≠a:=fun he=>ha (haa a (he▸hW i (by simp)))
  have hg:∀ j,(nd.set i (delN a (nd.getD i []))).getD j []=if i=j then delN a (nd.getD i []) else nd.getD j []:=fun j=>by
   simp only [List.getD_eq_getElem?_getD,List.getElem?_set]
   by_cases h1:i=j
   ·subst h1; simp [h.len,hi]
   ·simp [h1]
  have hmem:∀ x,x∈delN a (nd.getD i [])↔inK c i x=true∧x∉done++[a]:=fun x=>by
   rw [delN_mem,h.old i hi (by simp) x];simp only [List.mem_append,List.mem_singleton,not_or];exact ⟨fun h=>⟨h.1.1,h.1.2,h.2⟩,fun h=>⟨⟨h.1,h.2.1⟩,h.2.2⟩⟩
  have hold:∀ j<c.gates.length,j∈r→∀ x,x∈(nd.set i (delN a (nd.getD i []))).getD j []↔inK c j x=true∧x∉done:=fun j hj hjr x=>by
   have hne:¬ i=j:=fun he=>hr.1 (he▸hjr)
   rw [hg,if_neg hne];exact h.old j hj (by simp [hjr]) x
  have hnew:∀ j<c.gates.length,j∉r→∀ x,x∈(nd.set i (delN a (nd.getD i []))).getD j []↔inK c j x=true∧x∉done++[a]:=fun j hj hjr x=>by
   rw [hg]
   by_cases he:i=j
   ·subst he; rw [if_pos rfl]; exact hmem x
   ·rw [if_neg he];exact h.new j hj (by simp only [List.mem_cons,not_or]; exact ⟨fun h=>he h.symm,hjr⟩) x
  rw [relS]
  split
  ·rename_i h0;refine RInv.run ha haa hall r _ _ _ hr.2 (fun j hj=>hW j (by simp [hj])) ⟨by simpa using h.len,hold,hnew,fun j => ?_,?_,pushF_heap h.heap i⟩
   ·rw [(pushF_perm l i).mem_iff,List.mem_cons];constructor
    ·rintro (rfl | hj)
     ·refine ⟨hi,hr.1,mayB_is.2 ⟨by simp [hid,hia],fun x hx => ?_⟩⟩
      refine Classical.byContradiction fun hn => ?_
      have:=(hmem x).2 ⟨hx,hn⟩
      rw [h0] at this; cases this
     ·have:=(h.ls j).1 hj;exact ⟨this.1,fun h2=>this.2.1 (by simp [h2]),this.2.2⟩
    ·rintro ⟨h1,h2,h3⟩
     by_cases he:j=i
     ·exact .inl he
     ·exact .inr ((h.ls j).2 ⟨h1,by simp only [List.mem_cons,not_or]; exact ⟨he,h2⟩,h3⟩)
   ·rw [(pushF_perm l i).nodup_iff,List.nodup_cons];exact ⟨hil,h.nod⟩
  ·rename_i h0;refine RInv.run ha haa hall r _ _ _ hr.2 (fun j hj=>hW j (by simp [hj])) ⟨by simpa using h.len,hold,hnew,fun j => ?_,h.nod,h.heap⟩;rw [h.ls j];refine ⟨fun ⟨h1,h2,h3⟩=>⟨h1,fun h4=>h2 (by simp [h4]),h3⟩,fun ⟨h1,h2,h3⟩=>⟨h1,?_,h3⟩⟩;simp only [List.mem_cons,not_or];refine ⟨fun he => ?_,h2⟩;subst he;apply h0;rw [List.eq_nil_iff_forall_not_mem];intro x hx;obtain ⟨h5,h6⟩:=(hmem x).1 hx;exact h6 ((mayB_is.1 h3).2 x h5)
theorem Inv.step {c:Ct} (hd:(c.gates.map (·.name)).Nodup) {done:List Nat} {nd:List (List Nat)} {l:List Nat} (h:Inv c done nd l) (h0:l≠[]) (s:List Nat) :
  nextK c done=some (headP l)∧Inv c (done++[headP l]) (relS (headP l) ((bysC c).getD (headP l) []) nd (restP l) s).1 (relS (headP l) ((bysC c).getD (headP l) []) nd (restP l) s).2.1:=by
 have hpos:0<l.length:=List.length_pos_iff.2 h0;have hhr:=head_rest hpos;have hal:headP l∈l:=hhr.mem_iff.1 (by simp);obtain ⟨ha,hmay⟩:=(h.ls _).1 hal;obtain ⟨had,haa⟩:=mayB_is.1 hmay;have hnod:=hhr.nodup_iff.2 h.nod;rw [List.nodup_cons] at hnod
 have hn:nextK c done=some (headP l):=nextK_some ha hmay fun j hj=>by
  rw [Bool.eq_false_iff];intro hm;have:=headP_le h.heap hpos ((h.ls j).2 ⟨by omega,hm⟩);omega
 refine ⟨hn,?_⟩
 have hR:RInv c done (headP l) ((bysC c).getD (headP l) []) nd (restP l):=by
  refine ⟨h.len,fun i hi _ x=>h.nds i hi x,fun i hi hir x => ?_,fun i => ?_,hnod.2,restP_heap h.heap hpos⟩
  ·rw [h.nds i hi x];refine ⟨fun ⟨h1,h2⟩=>⟨h1,?_⟩,fun ⟨h1,h2⟩=>⟨h1,fun h3=>h2 (by simp [h3])⟩⟩;simp only [List.mem_append,List.mem_singleton,not_or];exact ⟨h2,fun he=>hir ((bysC_mem hd ha i).2 (he▸h1))⟩
  ·have hil:i∈l↔i=headP l∨i∈restP l:=by rw [← hhr.mem_iff,List.mem_cons]
   constructor
   ·intro hi;obtain ⟨h1,h2⟩:=(h.ls i).1 (hil.2 (.inr hi));obtain ⟨h3,h4⟩:=mayB_is.1 h2;refine ⟨h1,fun hb => ?_,mayB_is.2 ⟨?_,fun x hx=>by simp [h4 x hx]⟩⟩
    ·exact had (h4 _ ((bysC_mem hd ha i).1 hb))
    ·simp only [List.mem_append,List.mem_singleton,not_or];exact ⟨h3,fun he=>hnod.1 (he▸hi)⟩
   ·rintro ⟨h1,h2,h3⟩
    obtain ⟨h4,h5⟩:=mayB_is.1 h3;simp only [List.mem_append,List.mem_singleton,not_or] at h4
    have hi:i∈l:=(h.ls i).2 ⟨h1,mayB_is.2 ⟨h4.1,fun x hx=>by
     have:=h5 x hx;simp only [List.mem_append,List.mem_singleton] at this
     rcases this with h6 | h6
     ·exact h6
     ·exact absurd ((bysC_mem hd ha i).2 (h6▸hx)) h2⟩⟩
    exact (hil.1 hi).resolve_left h4.2
 have hE:=RInv.run had haa h.all _ _ _ s (bysC_nodup c ha) (fun i hi=>(bysC_mem hd ha i).1 hi) hR;refine ⟨hE.len,fun i hi x=>hE.new i hi (by simp) x,fun i=>by rw [hE.ls i]; simp,hE.nod,hE.heap,?_,fun x hx => ?_,fun i hi x hx => ?_⟩
 ·rw [List.nodup_append];refine ⟨h.don,by simp,fun x hx y hy => ?_⟩;rw [List.mem_singleton] at hy;subst hy
  exact fun he=>had (he▸hx)
 ·rcases List.mem_append.1 hx with h1 | h1
  ·exact h.lt x h1
  ·rw [List.mem_singleton] at h1; subst h1; exact ha
 ·rcases List.mem_append.1 hi with h1 | h1
  ·simp [h.all i h1 x hx]
  ·rw [List.mem_singleton] at h1; subst h1; simp [haa x hx]
theorem nodup_le:∀ (N:Nat) (l:List Nat),l.Nodup→(∀ x∈l,x<N)→l.length≤N
 | 0,[],_,_=>Nat.le_refl _
 | 0,x::l,_,h=>absurd (h x (by simp)) (by omega)
 | N+1,l,hn,h=>by
  have h1:=nodup_le N (l.erase N) (hn.erase N) fun x hx=>by
   obtain ⟨h2,h3⟩:=hn.mem_erase_iff.1 hx
   have:=h x h3; omega
  by_cases hm:N∈l
  ·rw [List.length_erase_of_mem hm] at h1; omega
  ·rw [List.erase_of_not_mem hm] at h1; omega
theorem Inv.come {c:Ct} (hd:(c.gates.map (·.name)).Nodup):∀ (f:Nat) (done:List Nat) (nd:List (List Nat)) (l s:List Nat),Inv c done nd l→comeL (bysC c) f nd l s=sortF c f done
 | 0,_,_,_,_,_=>rfl
 | f+1,done,nd,l,s,h=>by
  rw [comeL,sortF]
  by_cases h0:l=[]
  ·have hn:nextK c done=none:=nextK_none fun a ha=>by
    rw [Bool.eq_false_iff];intro hm;have:=(h.ls a).2 ⟨ha,hm⟩
    rw [h0] at this; cases this
   rw [if_pos h0,hn]
  ·obtain ⟨h1,h2⟩:=h.step hd h0 (headP l::s);rw [if_neg h0,h1];simp only;rw [Inv.come hd f _ _ _ _ h2]
theorem Inv.ends {c:Ct} (hd:(c.gates.map (·.name)).Nodup):∀ (f:Nat) (done:List Nat) (nd:List (List Nat)) (l s:List Nat),Inv c done nd l→c.gates.length≤done.length+f→comeE (bysC c) f nd l s
 | 0,done,nd,l,s,h,hf=>by
  show l=[]
  rw [List.eq_nil_iff_forall_not_mem];intro x hx;obtain ⟨h1,h2⟩:=(h.ls x).1 hx;have h3:=(mayB_is.1 h2).1
  have:=nodup_le c.gates.length (x::done) (List.nodup_cons.2 ⟨h3,h.don⟩) (fun y hy=>by
   rcases List.mem_cons.1 hy with rfl | hy
   ·exact h1
   ·exact h.lt y hy)
  simp only [List.length_cons] at this;omega
 | f+1,done,nd,l,s,h,hf=>by
  rw [comeE]
  by_cases h0:l=[]
  ·exact .inl h0
  ·obtain ⟨h1,h2⟩:=h.step hd h0 (headP l::s);exact .inr (Inv.ends hd f _ _ _ _ h2 (by simp; omega))
theorem initN_inv (nd:List (List Nat)) (N:Nat):∀ (m i:Nat) (l:List Nat),i+m=N→l.Nodup→(∀ x∈l,x<i)→HeapN l.length l →
  (∀ x,x∈initN nd m i l↔x∈l∨(i≤x∧x<N∧nd.getD x []=[]))∧(initN nd m i l).Nodup∧HeapN (initN nd m i l).length (initN nd m i l)
 | 0,i,l,h,h1,h2,h3=>⟨fun x=>by simp [initN]; omega,h1,h3⟩
 | m+1,i,l,h,h1,h2,h3=>by
  rw [initN]
  have hil:i∉l:=fun hm=>by have:=h2 i hm; omega
  split
  ·rename_i h0;have hp:=pushF_perm l i
   obtain ⟨a1,a2,a3⟩:=initN_inv nd N m (i+1) (pushF l i) (by omega) (by rw [hp.nodup_iff,List.nodup_cons]; exact ⟨hil,h1⟩) (fun x hx=>by
    rcases List.mem_cons.1 (hp.mem_iff.1 hx) with rfl | hx
    ·omega
    ·have:=h2 x hx; omega) (pushF_heap h3 i)
   refine ⟨fun x => ?_,a2,a3⟩;rw [a1 x,hp.mem_iff,List.mem_cons];constructor
   ·rintro ((rfl | hx) | ⟨b1,b2,b3⟩)
    ·exact .inr ⟨Nat.le_refl _,by omega,h0⟩
    ·exact .inl hx
    ·exact .inr ⟨by omega,b2,b3⟩
   ·rintro (hx | ⟨b1,b2,b3⟩)
    ·exact .inl (.inr hx)
    ·by_cases he:x=i
     ·exact .inl (.inl he)
     ·exact .inr ⟨by omega,b2,b3⟩
  ·rename_i h0;obtain ⟨a1,a2,a3⟩:=initN_inv nd N m (i+1) l (by omega) h1 (fun x hx=>by have:=h2 x hx; omega) h3;refine ⟨fun x => ?_,a2,a3⟩;rw [a1 x];constructor
   ·rintro (hx | ⟨b1,b2,b3⟩)
    ·exact .inl hx
    ·exact .inr ⟨by omega,b2,b3⟩
   ·rintro (hx | ⟨b1,b2,b3⟩)
    ·exact .inl hx
    ·refine .inr ⟨?_,b2,b3⟩
     have:x≠i:=fun he=>h0 (he▸b3)
     omega
theorem inv0 {c:Ct} (hd:(c.gates.map (·.name)).Nodup):Inv c [] (needsC c) (initN (needsC c) c.gates.length 0 []):=by
 obtain ⟨h1,h2,h3⟩:=initN_inv (needsC c) c.gates.length c.gates.length 0 [] (by omega) (by simp) (by simp) (fun k hk hkl=>by simp at hkl);refine ⟨needsC_len c,fun i hi x=>by rw [needsC_mem hd hi]; simp,fun i => ?_,h2,h3,by simp,by simp,by simp⟩;rw [h1 i];constructor
 ·rintro (h | ⟨_,a,b⟩)
  ·cases h
  ·refine ⟨a,mayB_is.2 ⟨by simp,fun x hx => ?_⟩⟩;have:=(needsC_mem hd a x).2 hx
   rw [b] at this; exact this
 ·rintro ⟨a,b⟩
  refine .inr ⟨by omega,a,?_⟩;rw [List.eq_nil_iff_forall_not_mem];intro x hx;have:=(mayB_is.1 b).2 x ((needsC_mem hd a x).1 hx)
  cases this
theorem come_is {c:Ct} (hd:(c.gates.map (·.name)).Nodup):comeC c c.gates.length=sortC c:=Inv.come hd _ _ _ _ _ (inv0 hd)
theorem come_ends {c:Ct} (hd:(c.gates.map (·.name)).Nodup):endC c c.gates.length:=Inv.ends hd _ _ _ _ _ (inv0 hd) (by simp)
theorem sortF_len (c:Ct):∀ (f:Nat) (done:List Nat),(sortF c f done).length≤f
 | 0,_=>by simp [sortF]
 | f+1,done=>by
  rw [sortF]
  split
  ·simp
  ·rename_i k _;have:=sortF_len c f (done++[k])
   simp only [List.length_cons]; omega
theorem sortF_lt (c:Ct):∀ (f:Nat) (done:List Nat),∀ x∈sortF c f done,x<c.gates.length
 | 0,_=>by simp [sortF]
 | f+1,done=>by
  rw [sortF]
  split
  ·simp
  ·rename_i k hk;intro x hx
   rcases List.mem_cons.1 hx with rfl | hx
   ·exact (nextK_is hk).1
   ·exact sortF_lt c f _ x hx
end Go.Proofs.YtpkngebjapfibaaDoor
namespace Go.Proofs.YtpkngebjapfibaaDoor
open Go.AM Go.Proofs
variable {Γ : Nat → Option AV}
def sortO (c:Ct):List Nat:=if rightC c=true then sortC c else []
def neverO (c:Ct):List Bs:=if rightC c=true then neverF (sortC c) c.gates 0 else []
theorem sortC_lt20 {c:Ct} (hc:CtFew c):(sortC c).length<2^20:=by
 have h1:=sortF_len c c.gates.length [];have:=hc.2.2.2.1
 unfold sortC; omega
theorem p_SortO (hΓ:InsG Γ) (c:Ct) (hb:CtB c):PureCon Tryd.prog Γ n_order_Sort [eCt c] (.tup [.own 1 t_int ((sortO c).map iN),.own 1 t_string ((neverO c).map .str)]):=by
 unfold sortO neverO
 cases hr:rightC c with
 | false=>simpa using p_Sort0 hΓ c hb hr
 | true =>
  have hc:=right_few hb hr;have hd:=right_names hr;have hN:=hc.2.2.2.1;have h:=p_Sort hΓ c hb hr c.gates.length (by omega) (come_ends hd) (by rw [come_is hd]; exact sortC_lt20 hc);rw [come_is hd] at h;simpa using h
def checkO (c:Ct):Int×Bs:=if (checkC c).1=0 then (match neverO c with
 | []=>(0,[])
 | s::_=>(7,s)) else checkC c
set_option maxRecDepth 8000 in
theorem p_CheckO (hΓ:InsG Γ) (c:Ct) (hb:CtB c):PureCon Tryd.prog Γ n_order_Check [eCt c] (eChk (checkO c)):=by
 have hC:=p_CheckB hΓ c hb;have hS:=p_SortO hΓ c hb;unfold checkO;generalize checkC c=r at *;obtain ⟨e,s⟩:=r;refine .run 60 c_order_Check (by simp) ?_;simp;refine .call 60 (by simp) hC ?_
 by_cases h0:e=0
 ·simp [h0];refine .call 60 (by simp) hS ?_
  cases neverO c with
  | nil =>
   simp;exact .back (by simp)
  | cons a l =>
   have hl:(0:Int)<(l.length:Int)+1:=by omega
   simp [hl];exact .back (by simp)
 ·simp [h0];exact .back (by simp)
abbrev hL0 (c:Ct):List Ob:=[.cells (AV.cells (eCt c)),.row 1 t_int [] none true false]
theorem hL0_wf (c:Ct):WfO (hL0 c):=fun m hm=>by simp
theorem hL0_wv (c:Ct):WfV (hL0 c):=fun i m hm=>by simp
def relv (a:Nat):List Nat→List Nat→List Nat
 | [],lv=>lv
 | i::r,lv=>relv a r (lv.set i (max (lv.getD i 0) (lv.getD a 0+1)))
theorem relv_len (a:Nat):∀ (r lv:List Nat),(relv a r lv).length=lv.length
 | [],_=>rfl
 | i::r,lv=>by rw [relv,relv_len a r]; simp
theorem relv_le (a B:Nat):∀ (r lv:List Nat),(∀ x∈lv,x≤B)→∀ x∈relv a r lv,x≤B+r.length
 | [],_,h=>by simpa [relv] using h
 | i::r,lv,h=>fun x hx=>by
  rw [relv] at hx
  have hg:∀ k,lv.getD k 0≤B:=fun k=>by
   rw [List.getD_eq_getElem?_getD]
   by_cases hk:k<lv.length
   ·rw [List.getElem?_eq_getElem hk]; exact h _ (List.getElem_mem hk)
   ·rw [List.getElem?_eq_none (by omega)]; simp
  have h1:=relv_le a (B+1) r _ (fun y hy=>by
   rcases List.mem_or_eq_of_mem_set hy with h2 | h2
   ·have:=h y h2; omega
   ·have h3:=hg i;have h4:=hg a
    rw [h2]; omega) x hx
  simp only [List.length_cons]; omega
theorem maxI (a b:Nat):(if ((a:Nat):Int)<((b:Nat):Int) then ((b:Nat):Int) else a)=((max a b:Nat):Int):=by
 split <;> omega
set_option maxRecDepth 8000 in
theorem r_Lv10 (Y:List Nat→List Ob) (N y z:Nat) (hY:∀ lv,(Y lv)[y]? = some (.row 1 t_int (lv.map iN) none true false)) (hY2:∀ lv,(Y lv)[y+1]? = some (.cells [.sl y 0 N])) (hYs:∀ lv lv',(Y lv).set y (.row 1 t_int (lv'.map iN) none true false)=Y lv') (bs:List Nat) (hz:∀ lv,(Y lv)[z]? = some (rowI bs)) (hb:∀ i∈bs,i<N) (hbl:bs.length<2^38) (a:Nat) (ha:a<N) (x2:AV) (L base:Nat) (up:List Fr):∀ m j:Nat,j+m=bs.length→∀ (B:Nat) (lv:List Nat),lv.length=N→(∀ x∈lv,x≤B)→B+m<2^50 →
  AM.Reach Tryd.prog Γ (ygm x2 (.ptr (y+1) 0) (.int .i64 a) (.sl z 0 bs.length) (.int .i64 bs.length) (.int .i64 j) (Y lv) ⟨[],.round L,base,up⟩)
   (ygn x2 (Y (relv a (bs.drop j) lv)) ⟨[],.round L,base,up⟩):=by
 intro m
 induction m with
 | zero =>
  intro j hj B lv hl hB hm
  have q1:¬ j<bs.length:=by omega
  rw [List.drop_eq_nil_of_le (by omega),relv];generalize Y lv=X at *;refine .goS 60 ?_;simp [q1];exact .exit rfl rfl
 | succ m ih =>
  intro j hj B lv hl hB hm
  have q1:j<bs.length:=by omega
  have hi:=hb _ (List.getElem_mem q1)
  have xi:(bs.map iN)[j]? = some (.int .i64 (bs[j]:Nat)):=by simp [q1]
  rw [List.drop_eq_getElem_cons q1,relv];generalize bs[j]=i at *
  have hg:∀ k,lv.getD k 0≤B:=fun k=>by
   rw [List.getD_eq_getElem?_getD]
   by_cases hk:k<lv.length
   ·rw [List.getElem?_eq_getElem hk]; exact hB _ (List.getElem_mem hk)
   ·rw [List.getElem?_eq_none (by omega)]; simp
  have hh:=ih (j+1) (by omega) (B+1) (lv.set i (max (lv.getD i 0) (lv.getD a 0+1))) (by simpa using hl) (fun x hx=>by
   rcases List.mem_or_eq_of_mem_set hx with h2 | h2
   ·have:=hB x h2; omega
   ·have h3:=hg i;have h4:=hg a
    rw [h2]; omega) (by omega)
  have y1:=hY lv;have y2:=hY2 lv;have z1:=hz lv;rw [rowI] at z1;have gi:=get_iN (L:=lv) (i:=i) (by omega);have ga:=get_iN (L:=lv) (i:=a) (by omega);have ge:=hg i;have gf:=hg a;have hset:=hYs lv (lv.set i (max (lv.getD i 0) (lv.getD a 0+1)));rw [List.map_set] at hset
  have hlen:(lv.map iN).length=N:=by simpa using hl
  have htk:(lv.map iN).take N=lv.map iN:=List.take_of_length_le (by omega);obtain ⟨_,gi'⟩:=List.getElem?_eq_some_iff.1 gi;obtain ⟨_,ga'⟩:=List.getElem?_eq_some_iff.1 ga;obtain ⟨_,xi'⟩:=List.getElem?_eq_some_iff.1 xi;generalize lv.getD i 0=vi at *;generalize lv.getD a 0=va at *
  have hmx:maxA (.int .i64 vi) [.int .i64 ((va:Int)+1)]=some (.int .i64 (max vi (va+1):Nat)):=by
   simp only [maxA,if_pos]
   rw [← maxI]; rfl
  generalize max vi (va+1)=mx at *;generalize Y lv=X at *;generalize lv.map iN=E at *
  have hbe:(bs.map iN).length=bs.length:=by simp
  have htk2:(bs.map iN).take bs.length=bs.map iN:=List.take_of_length_le (by omega);generalize bs.map iN=bE at *;refine .goS 60 ?_;simp (disch:=omega) [q1,z1,xi,xi',y1,y2,gi,ga,gi',ga',hlen,htk,hbe,htk2,hi,ha,ofCells,hmx];rw [hset];refine .reLoop ?_;simp at hh ⊢;exact hh
def putM (k:Nat) (l:List Nat):List Nat:=if k∈l then l else l++[k]
theorem put_any (k:Nat):∀ l:List Nat,putIn (.sc .int) (.int .i64 k) (.bool true) (l.map eK)=some ((putM k l).map eK)
 | []=>rfl
 | a::l=>by
  have ih:=put_any k l;simp only [List.map_cons,putIn,eq_nat]
  by_cases h:k=a
  ·subst h; simp [putM]
  ·simp only [h,decide_false,ih,Option.map_some];unfold putM
   by_cases h2:k∈l
   ·simp [h2]
   ·simp [h,h2]
abbrev lpL (q:Nat) (st:LoopState):Ob:=.loop st .none n_order_Levels [U,U,.sl 1 0 0,.ptr q 0,.ptr (q+4) 0,.ptr (q+7) 0,U,U,U,U,U,U,U,U,U,U,U,U,U,U,U,U,U,U,U,U,U,U,U,U,U,U,U,U,U,U,U,U,U,U,U,U,U,U,U,U,U,U,U,U,U,U,U,U,U,U,U,U,U,U,U,U,U] [22] (.reg yfN) yfZ
def hLvl (c:Ct) (X:List Ob) (st:LoopState) (lv cm:List Nat):List Ob:=X++[.cells [.sl 9 0 c.gates.length,.sl 10 0 c.gates.length],.row 1 t_map_int_bool_2 [] none true false,.row 1 t_int_2 [] none true false,.row 1 t_int (lv.map iN) none true false,.cells [.sl (X.length+3) 0 c.gates.length],.row 1 t_int [] none true false,.map (cm.map eK) true,.cells [.mp (X.length+6)],.cells (AV.cells (eCt c)),.dfr true,lpL X.length st]
theorem ap_get (X:List Ob) (k:Nat) (os:List Ob):(X++os)[X.length+k]? = os[k]? := by rw [List.getElem?_append_right (by omega)]; congr 1; omega
set_option maxRecDepth 8000 in
theorem b_Levels (c:Ct) (X:List Ob) (h10:∀ os:List Ob,(X++os)[10]? = some (.row 1 t_int_2 (byE 8 (bysC c)) none (decide (c.gates.length=0)) false)) (lv cm:List Nat) (a:Nat) (ha:a<c.gates.length) (h11:∀ os:List Ob,(X++os)[11+a]? = some (rowI ((bysC c).getD a []))) (hb:∀ i∈(bysC c).getD a [],i<c.gates.length) (hbl:((bysC c).getD a []).length<2^38) (B:Nat) (hl:lv.length=c.gates.length) (hB:∀ x∈lv,x≤B) (hB2:B<2^49) (T:List Ob) (up:List Fr) :
  AM.Reach Tryd.prog Γ ((Cal.yl (X.length+10)).cfg [.int .i64 a] up (hLvl c X .ready lv cm++T)) (.back up (.bool true) (hLvl c X .ready (relv a ((bysC c).getD a []) lv) (putM a cm)++T)):=by
 have hput:=put_any a cm;have hlen:=byE_len 8 (bysC c);rw [bysC_len] at hlen;have htk:(byE 8 (bysC c)).take c.gates.length=byE 8 (bysC c):=List.take_of_length_le (by omega);have yb:=byE_get (n:=8) (b:=bysC c) (k:=a) (by rw [bysC_len]; exact ha)
 have egd:(bysC c)[a]'(by rw [bysC_len]; exact ha)=(bysC c).getD a []:=by rw [List.getD_eq_getElem?_getD,List.getElem?_eq_getElem (by rw [bysC_len]; exact ha)]; rfl
 rw [egd,show 8+(3+a)=11+a by omega] at yb;obtain ⟨_,yb'⟩:=List.getElem?_eq_some_iff.1 yb
 have hlp:=r_Lv10 (Γ:=Γ) (fun lv=>hLvl c X .busy lv (putM a cm)++T) c.gates.length (X.length+3) (11+a) (fun lv=>by simp [hLvl,ap_get]) (fun lv=>by
   show _[X.length+4]? = _
   simp [hLvl,ap_get]) (fun lv lv'=>by
   simp only [hLvl,List.append_assoc]
   rw [ap_set]; rfl) ((bysC c).getD a []) (fun lv=>by rw [hLvl,List.append_assoc]; exact h11 _) hb hbl a ha (.sl 1 0 0) (X.length+10) (hLvl c X .ready lv cm++T).length up ((bysC c).getD a []).length 0 (by omega) B lv hl hB (by omega)
 rw [List.drop_zero] at hlp;generalize byE 8 (bysC c)=E at *;generalize (bysC c).getD a []=bs at *;generalize relv a bs lv=lv2 at *
 have aps:∀ (c:List Ob) (j:Nat) (o:Ob),(X++c).set (X.length+j) o=X++c.set j o:=fun c j o=>ap_set X c j o
 simp [Cal.cfg,hLvl,ap_get];refine .goB 60 ?_;simp [ap_get,aps,h10,hput,isKey,allDatum,isDatum,ha,hlen,htk,yb,yb'];refine .inLoop ?_;simp [hLvl] at hlp ⊢;refine .trans hlp ?_;refine .goB 60 ?_;simp [ap_get,aps]
def levI (lv cm:List Nat) (i j:Nat):Int:=if j<i∧j∉cm then -1 else (lv.getD j 0:Nat)
def levE (lv cm:List Nat) (N i:Nat):List AV:=(List.range N).map fun j=>.int .i64 (levI lv cm i j)
def hLz (c:Ct) (X:List Ob) (E:List AV) (cm:List Nat):List Ob:=X++[.cells [.sl 9 0 c.gates.length,.sl 10 0 c.gates.length],.row 1 t_map_int_bool_2 [] none true false,.row 1 t_int_2 [] none true false,.row 1 t_int E none true false,.cells [.sl (X.length+3) 0 c.gates.length],.row 1 t_int [] none true false,.map (cm.map eK) true,.cells [.mp (X.length+6)],.cells (AV.cells (eCt c)),.dfr true,lpL X.length .exhausted]
theorem levE_len (lv cm:List Nat) (N i:Nat):(levE lv cm N i).length=N:=by simp [levE]
theorem levE_in {lv cm:List Nat} {N i:Nat} (h:i∈cm):levE lv cm N i=levE lv cm N (i+1):=by
 apply List.map_congr_left;intro j hj;unfold levI
 have:(j<i∧j∉cm)↔(j<i+1∧j∉cm):=⟨fun h1=>⟨by omega,h1.2⟩,fun h1=>⟨by
  have:j≠i:=fun he=>h1.2 (he▸h)
  omega,h1.2⟩⟩
 simp only [this]
theorem levE_out {lv cm:List Nat} {N i:Nat} (h:i∉cm):(levE lv cm N i).set i (.int .i64 (-1))=levE lv cm N (i+1):=by
 apply List.ext_getElem?;intro j;rw [List.getElem?_set]
 by_cases hj:i=j
 ·subst hj;rw [if_pos rfl]
  by_cases hN:i<N
  ·simp [levE,levI,hN,h]
  ·simp [levE,hN]
 ·rw [if_neg hj]
  by_cases hN:j<N
  ·have:(j<i∧j∉cm)↔(j<i+1∧j∉cm):=⟨fun h1=>⟨by omega,h1.2⟩,fun h1=>⟨by omega,h1.2⟩⟩;simp [levE,levI,hN,this]
  ·simp [levE,hN]
set_option maxRecDepth 8000 in
theorem f_Lv1 (c:Ct) (hN:c.gates.length<2^10) (X:List Ob) (lv cm:List Nat):∀ n i:Nat,i+n=c.gates.length →
  Fins Tryd.prog Γ (ygk (.ptr (X.length+4) 0) (.ptr (X.length+7) 0) (.int .i64 c.gates.length) (.int .i64 i) (hLz c X (levE lv cm c.gates.length i) cm) ⟨[.mark (X.length+9)],.norm,0,[]⟩)
   (.ret (.own 1 t_int (levE lv cm c.gates.length c.gates.length))):=by
 have aps:∀ (c:List Ob) (j:Nat) (o:Ob),(X++c).set (X.length+j) o=X++c.set j o:=fun c j o=>ap_set X c j o
 intro n
 induction n with
 | zero =>
  intro i hi
  have q1:¬ i<c.gates.length:=by omega
  obtain rfl:i=c.gates.length:=by omega
  have hlen:=levE_len lv cm c.gates.length c.gates.length;have htk:(levE lv cm c.gates.length c.gates.length).take c.gates.length=levE lv cm c.gates.length c.gates.length:=List.take_of_length_le (by omega);refine .go 60 ?_;simp [q1,hLz,ap_get,aps,hlen];exact .back (by simp [ap_get,hlen,htk])
 | succ n ih =>
  intro i hi
  have q1:i<c.gates.length:=by omega
  have hh:=ih (i+1) (by omega);have hlen:=levE_len lv cm c.gates.length i;have hfi:=find_cur i cm
  have gi:(levE lv cm c.gates.length i)[i]? = some (.int .i64 (levI lv cm i i)):=by simp [levE,q1]
  obtain ⟨_,gi'⟩:=List.getElem?_eq_some_iff.1 gi
  by_cases h:i∈cm
  ·rw [← levE_in h] at hh;rw [if_pos h] at hfi;generalize levE lv cm c.gates.length i=E at *;refine .go 60 ?_;simp (disch:=omega) [q1,hLz,ap_get,aps,hlen,hfi,isKey,allDatum,isDatum];refine .reLoop ?_;simp [hLz] at hh ⊢;exact hh
  ·rw [← levE_out h] at hh;rw [if_neg h] at hfi;generalize levE lv cm c.gates.length i=E at *;refine .go 60 ?_;simp (disch:=omega) [q1,hLz,ap_get,aps,hlen,hfi,isKey,allDatum,isDatum,gi,gi',ofCells];refine .reLoop ?_;simp [hLz] at hh ⊢;exact hh
theorem hL_len (c:Ct) (X:List Ob) (st:LoopState) (lv cm:List Nat):(hLvl c X st lv cm).length=X.length+11:=by simp [hLvl]
theorem hL_wf (c:Ct) {X:List Ob} (hX:∀ m,X.length+1≤m→belH m X=true) (h11:11≤X.length) (st:LoopState) (lv cm:List Nat):WfO (hLvl c X st lv cm):=fun m hm=>by
 rw [hL_len] at hm;have h1:=bel_eK m cm;rw [hLvl,belH_append,hX m (by omega)];simp [h1];omega
theorem hL_wv (c:Ct) {X:List Ob} (hX:∀ i m,X.length≤i→vldH i m X=true) (h11:11≤X.length) (st:LoopState) (lv cm:List Nat):WfV (hLvl c X st lv cm):=fun i m hi=>by
 rw [hL_len] at hi;have h1:=vld_eK i m cm;rw [hLvl,vldH_append,hX i m (by omega)];simp [h1];omega
def levS (c:Ct) (s:List Nat×List Nat) (a:Nat):List Nat×List Nat:=(relv a ((bysC c).getD a []) s.1,putM a s.2)
def levelsN (c:Ct):List Nat×List Nat:=(sortC c).foldl (levS c) (List.replicate c.gates.length 0,[])
theorem levS_len (c:Ct):∀ (l:List Nat) (s:List Nat×List Nat),(l.foldl (levS c) s).1.length=s.1.length
 | [],_=>rfl
 | a::l,s=>by rw [List.foldl_cons,levS_len c l,levS,relv_len]
def levelsC (c:Ct):List Int:=(List.range c.gates.length).map fun j=>levI (levelsN c).1 (levelsN c).2 c.gates.length j
set_option maxRecDepth 8000 in
theorem p_Levels1 (hΓ:InsG Γ) (c:Ct) (hb:CtB c) (hr:rightC c=true):PureCon Tryd.prog Γ n_order_Levels [eCt c] (.own 1 t_int ((levelsC c).map fun z=>.int .i64 z)):=by
 have hc:=right_few hb hr;have hd:=right_names hr;have hR:=p_right hΓ c hb;rw [hr] at hR;have hwt:=r_wait (Γ:=Γ) c hc hd (hL0_wf c) (hL0_wv c);rw [hWait_len] at hwt
 have e1:hQ (hWait c (hL0 c)) (needsC c) (bysC c)++([.cells [.sl 9 0 c.gates.length,.sl 10 0 c.gates.length]])=aC c (hL0 c) (needsC c):=by rw [aC]; rfl
 have e4:(hQ (hWait c (hL0 c)) (needsC c) (bysC c)).length=11+(c.gates.length+c.gates.length):=by rw [hQ_len,hWait_len,bysC_len,needsC_len]; simp; omega
 have hN:=hc.2.2.2.1
 have x0:(hQ (hWait c (hL0 c)) (needsC c) (bysC c))[0]? = some (.cells (AV.cells (eCt c))):=by rw [hQ_lo (by rw [hWait_len]; simp),hWait_lo _ _ (by simp)]; rfl
 have x10:(hQ (hWait c (hL0 c)) (needsC c) (bysC c))[10]? = some (.row 1 t_int_2 (byE 8 (bysC c)) none (decide (c.gates.length=0)) false):=by
  have:=aC_b (c:=c) (M:=hL0 c) (nd:=needsC c);rw [← e1,List.getElem?_append_left (by simp; omega)] at this;exact this
 have x11:∀ a,a<c.gates.length→(hQ (hWait c (hL0 c)) (needsC c) (bysC c))[11+a]? = some (rowI ((bysC c).getD a [])):=fun a ha=>by
  have:=aC_r (c:=c) (M:=hL0 c) (nd:=needsC c) ha;rw [← e1,List.getElem?_append_left (by simp; omega)] at this
  rw [← this]; congr 1; simp; omega
 have xw:∀ m,(hQ (hWait c (hL0 c)) (needsC c) (bysC c)).length+1≤m→belH m (hQ (hWait c (hL0 c)) (needsC c) (bysC c))=true:=fun m hm=>by
  have:=aC_wf c (hL0_wf c) (needsC_len c) (m:=m) (by simp; omega);rw [← e1,belH_append,Bool.and_eq_true] at this;exact this.1
 have xv:∀ i m,(hQ (hWait c (hL0 c)) (needsC c) (bysC c)).length≤i→vldH i m (hQ (hWait c (hL0 c)) (needsC c) (bysC c))=true:=fun i m hi=>by
  have:=aC_vld (c:=c) (nd:=needsC c) (hL0_wv c) (i:=i) (m:=m) (by simp; omega);rw [← e1,vldH_append,Bool.and_eq_true] at this;exact this.1
 have x1:=fun os=>get_app x0 os
 have x2:=fun os=>get_app x10 os
 have x3:=fun a ha os=>get_app (x11 a ha) os
 have x11l:11≤(hQ (hWait c (hL0 c)) (needsC c) (bysC c)).length:=by omega
 have hf1:=fun lv cm=>f_Lv1 (Γ:=Γ) c hN (hQ (hWait c (hL0 c)) (needsC c) (bysC c)) lv cm c.gates.length 0 (by omega)
 have hbb:=fun a (ha:a<c.gates.length)=>bysC_bnd hc ((bysC c).getD a []) (by
  rw [List.getD_eq_getElem?_getD,List.getElem?_eq_getElem (by rw [bysC_len]; exact ha)]
  exact List.getElem_mem _)
 clear e4 x0 x10 x11;generalize hQ (hWait c (hL0 c)) (needsC c) (bysC c)=X at *
 have hcm:=fun up hup=>r_coming1 (Γ:=Γ) c hc hd (fun s:List Nat×List Nat=>hLvl c X .ready s.1 s.2) (levS c) (X.length+11) (X.length+10) (X.length+5) (X.length+8) (fun _=>hL_len ..) (fun s=>hL_wf c xw x11l .ready s.1 s.2) (fun s=>hL_wv c xv x11l .ready s.1 s.2) (by omega) (by omega) (fun s=>by simp [hLvl,ap_get])
  (fun s k=>s.1.length=c.gates.length∧∀ x∈s.1,x≤k*2^22) (fun s k a h ha=>⟨by rw [levS,relv_len]; exact h.1,fun x hx=>by
   have h1:=relv_le a (k*2^22) ((bysC c).getD a []) s.1 h.2 x hx;have h2:=(hbb a ha).1
   rw [Nat.succ_mul]; omega⟩) (fun s k a T up h hk ha hup hT=>b_Levels c X x2 s.1 s.2 a ha (x3 a ha) (hbb a ha).2 (by have:=(hbb a ha).1; omega) (k*2^22) h.1 h.2 (by omega) T up) up hup (List.replicate c.gates.length 0,[]) ⟨by simp,fun x hx=>by
   rw [List.mem_replicate] at hx
   omega⟩ c.gates.length (by omega) (come_ends hd)
 rw [come_is hd] at hcm;refine .run 60 c_order_Levels (by simp) ?_;simp;refine .call 60 (by simp) hR ?_;simp;refine .rcall 60 hwt ?_;simp (disch:=omega) [x1];refine .go 60 ?_;simp (disch:=omega) [x1];refine .enter 60 c_order_coming ?_;simp (disch:=omega) [x1]
 have hrep:List.replicate c.gates.length (AV.int .i64 0)=(List.replicate c.gates.length 0).map iN:=by simp
 rw [hrep];refine .reach (hcm _ ?_) (.go 60 ?_)
 ·intro m; simp; omega
 have aps:∀ (c:List Ob) (j:Nat) (o:Ob),(X++c).set (X.length+j) o=X++c.set j o:=fun c j o=>ap_set X c j o
 have e91:X.length+9+1=X.length+10:=rfl;clear x11l;unfold levelsC levelsN;have hRl:=levS_len c (sortC c) (List.replicate c.gates.length 0,[]);simp only [List.length_replicate] at hRl;generalize (sortC c).foldl (levS c) (List.replicate c.gates.length 0,[])=R at *
 have hE0:levE R.1 R.2 c.gates.length 0=R.1.map iN:=by
  apply List.ext_getElem?;intro j
  by_cases hj:j<c.gates.length
  ·have:j<R.1.length:=by omega
   simp [levE,levI,hj,this]
  ·have:R.1.length≤j:=by omega
   simp [levE,hj,this]
 clear hRl;simp [hLvl,ap_get,aps,e91,x1];refine .inLoop ?_;have hh:=hf1 R.1 R.2
 have hE1:levE R.1 R.2 c.gates.length c.gates.length=((List.range c.gates.length).map fun j=>levI R.1 R.2 c.gates.length j).map fun z=>.int .i64 z:=by simp [levE]
 rw [hE0,hE1] at hh;simp [hLz] at hh ⊢;exact hh
def levelsO (c:Ct):List Int:=if rightC c=true then levelsC c else []
theorem p_LevelsO (hΓ:InsG Γ) (c:Ct) (hb:CtB c):PureCon Tryd.prog Γ n_order_Levels [eCt c] (.own 1 t_int ((levelsO c).map fun z=>.int .i64 z)):=by
 unfold levelsO
 cases hr:rightC c with
 | true=>simpa using p_Levels1 hΓ c hb hr
 | false =>
  have hR:=p_right hΓ c hb;rw [hr] at hR;refine .run 60 c_order_Levels (by simp) ?_;simp;refine .call 60 (by simp) hR ?_;simp;exact .back (by simp)
def nextM (c:Ct):List (Bs×(Bool×Nat×List Bs)):=c.latches.map (fun q=>(q.name,(true,1,[q.next])))++c.gates.map fun g=>(g.name,(false,g.ki,g.ins))
abbrev eNx (x:Bool×Nat×List Bs):AV:=.list x.1 x.2.1 (x.2.2.map .str)
abbrev eNm (x:Bs×(Bool×Nat×List Bs)):AV×AV:=(.str x.1,eNx x.2)
@[simp] theorem belM_nm (n:Nat):∀ l:List (Bs×(Bool×Nat×List Bs)),belM n (l.map eNm)=true
 | []=>rfl
 | x::r=>by simp [belM_nm n r]
@[simp] theorem vldM_nm (n m:Nat):∀ l:List (Bs×(Bool×Nat×List Bs)),vldM n m (l.map eNm)=true
 | []=>rfl
 | x::r=>by simp [vldM_nm n m r]
theorem nextM_keys (c:Ct):(nextM c).map (·.1)=c.latches.map (·.name)++c.gates.map (·.name):=by simp [nextM,Function.comp_def]
theorem getM_nodup {V:Type}:∀ {l:List (Bs×V)} {i:Nat} (h:i<l.length),(l.map (·.1)).Nodup→getM l[i].1 (l.take i)=none:=fun {l i} h hd=>by
 rw [getM_none];intro x hx hn;obtain ⟨j,hj,rfl⟩:=List.getElem_of_mem hx
 have hj':j<i:=by simp at hj; omega
 rw [List.getElem_take] at hn
 have h1:(l.map (·.1))[j]'(by simp; omega)=(l.map (·.1))[i]'(by simpa using h):=by simpa using hn
 have:=(List.getElem_inj hd).1 h1;omega
def nextL (c:Ct) (s:Bs):List Bs:=match getM s (nextM c) with
 | some v=>v.2.2
 | none=>[]
def coneF (c:Ct):Nat→List Bs→Nat→List Bs→List Bs
 | 0,_,_,inn=>inn
 | f + 1, hist, p, inn => if h : p < hist.length then
     (if hist[p]∈inn then coneF c f hist (p+1) inn else coneF c f (hist++nextL c hist[p]) (p+1) (inn++[hist[p]])) else inn
def coneE (c:Ct):Nat→List Bs→Nat→List Bs→Prop
 | 0,hist,p,inn=>hist.length≤p
 | f + 1, hist, p, inn => if h : p < hist.length then
     (if hist[p]∈inn then coneE c f hist (p+1) inn else coneE c f (hist++nextL c hist[p]) (p+1) (inn++[hist[p]])) else True
abbrev hCn (c:Ct) (inn hist:List Bs) (g:Option Nat):List Ob:=[.cells (AV.cells (eCt c)),.row 1 t_string [] none true false,.map ((nextM c).map eNm) true,.map (inn.map eSeen) true,.row 1 t_string (hist.map .str) g true false]
set_option maxRecDepth 8000 in
theorem f_Cn1 (c:Ct) (inn hist:List Bs) (g:Option Nat) (N:List Bs) (hN:N.length<2^30):∀ n i:Nat,i+n=N.length→∀ out:List Bs,out.length≤i →
  Fins Tryd.prog Γ (yiE (.mp 3) (.sl 5 0 out.length) (.sl 6 0 N.length) (.int .i64 N.length) (.int .i64 i) (hCn c inn hist g++[.row 1 t_string (out.map .str) none true false,.row 1 t_string (N.map .str) none true false]) ⟨[],.norm,0,[]⟩)
  (.ret (.own 1 t_string ((out++(N.drop i).filter fun s=>decide (s∈inn)).map .str))):=by
 intro n
 induction n with
 | zero =>
  intro i hi out ho
  have q1:¬ i<N.length:=by omega
  rw [List.drop_eq_nil_of_le (by omega)];refine .go 60 ?_;simp [q1];exact .back (by simp)
 | succ n ih =>
  intro i hi out ho
  have q1:i<N.length:=by omega
  have hfi:=findIn_seen N[i] inn;rw [List.drop_eq_getElem_cons q1]
  by_cases h:N[i]∈inn
  ·have hh:=ih (i+1) (by omega) (out++[N[i]]) (by simp; omega);rw [if_pos h] at hfi;rw [List.filter_cons,if_pos (by simpa using h)]
   have hle:((out.length:Int)+1)*16≤140737488355328:=by omega
   refine .go 60 ?_;simp (disch:=omega) [q1,hfi,isKey,allDatum,isDatum,hle];refine .reLoop ?_;simp;refine .reset (i:=5) rfl (by simp) (by simp) (by simp) ?_;simp at hh ⊢;exact hh
  ·have hh:=ih (i+1) (by omega) out (by omega);rw [if_neg h] at hfi;rw [List.filter_cons,if_neg (by simpa using h)];refine .go 60 ?_;simp (disch:=omega) [q1,hfi,isKey,allDatum,isDatum];refine .reLoop ?_;simp at hh ⊢;exact hh
theorem nextM_kd {c:Ct} (hc:CtFew c) {s:Bs} {v:Bool×Nat×List Bs} (h:getM s (nextM c)=some v):Kd 1 v.2.1 v.2.2∧v.2.2.length<2^10:=by
 have:=getM_mem h;rw [nextM,List.mem_append,List.mem_map,List.mem_map] at this
 rcases this with ⟨q,hq,he⟩ | ⟨g,hg,he⟩
 ·cases he; exact ⟨.self,by simp⟩
 ·cases he; exact ⟨g.hi,(hc.2.2.2.2.1 g hg).2.1⟩
theorem putIn_seen2 {s:Bs} {l:List Bs} (h:s∉l):putIn (.sc .str) (.str s) (.bool true) (l.map eSeen)=some ((l++[s]).map eSeen):=by rw [putIn_seen h]; simp
set_option maxRecDepth 8000 in
theorem f_Cn10 (c:Ct) (hc:CtFew c):∀ (f:Nat) (hist inn:List Bs) (p:Nat) (g:Option Nat),p≤hist.length→(g=none∨∃ lo,g=some lo∧lo≤p)→hist.length+f*2^10<2^40→coneE c f hist p inn →
  Fins Tryd.prog Γ (yiG (.ptr 0 0) (.mp 2) (.mp 3) (.sl 4 p (hist.length - p)) (hCn c inn hist g) ⟨[],.norm,0,[]⟩) (.ret (.own 1 t_string (((netsC c).filter fun s=>decide (s∈coneF c f hist p inn)).map .str))):=by
 intro f
 induction f with
 | zero =>
  intro hist inn p g hp hg hl hE;rw [coneE] at hE;rw [coneF]
  obtain rfl:p=hist.length:=by omega
  have hh:=f_Cn1 (Γ:=Γ) c inn hist g (netsC c) (by have:=nets_le hc; omega) (netsC c).length 0 (by omega) [] (by simp);rw [Nat.sub_self];refine .go 60 ?_;simp;refine .call 60 (by simp) (p_Nets c hc) ?_;simp;refine .inLoop ?_;simp at hh ⊢;exact hh
 | succ f ih =>
  intro hist inn p g hp hg hl hE;rw [coneE] at hE;rw [coneF]
  by_cases h:p<hist.length
  ·obtain ⟨m,hm⟩:∃ m,hist.length=p+(m+1):=⟨hist.length - p - 1,by omega⟩
   have hm1:hist.length - p=m+1:=by omega
   have hm2:hist.length - (p+1)=m:=by omega
   rw [dif_pos h] at hE ⊢
   have gp:(hist.map AV.str)[p]? = some (.str hist[p]):=by simp [h]
   have hfi:=findIn_seen hist[p] inn
   have hEl:(hist.map AV.str).length=p+(m+1):=by simpa using hm
   obtain ⟨_,gp'⟩:=List.getElem?_eq_some_iff.1 gp
   have ok1:okSl (hist.map AV.str) g p (m+1)=true:=by
    rcases hg with rfl | ⟨lo,rfl,hlo⟩
    ·simp [okSl,hm]
    ·simp [okSl,hm,hlo]
   have ok2:okSl (hist.map AV.str) g (p+1) m=true:=by
    rcases hg with rfl | ⟨lo,rfl,hlo⟩
    ·simp [okSl,hm]; omega
    ·simp [okSl,hm]; omega
   rw [hm1]
   by_cases hin:hist[p]∈inn
   ·have hh:=ih hist inn (p+1) g (by omega) (hg.imp id fun ⟨lo,h1,h2⟩=>⟨lo,h1,by omega⟩) (by omega) (by rwa [if_pos hin] at hE);rw [hm2] at hh;rw [if_pos hin] at hfi ⊢
    rcases hg with rfl | ⟨lo,rfl,hlo⟩
    all_goals
     refine .go 60 ?_;simp (disch:=omega) [hEl,hfi,gp,gp',isKey,allDatum,isDatum];refine .reLoop ?_;simp at hh ⊢;exact hh
   ·have hnx:=findIn_gen (E:=.sc .str) (e:=AV.str) eq_str eNx hist[p] (nextM c);have hpu:=putIn_seen2 hin;rw [if_neg hin] at hfi hE ⊢
    cases hx:getM hist[p] (nextM c) with
    | none =>
     have hn0:nextL c hist[p]=[]:=by simp [nextL,hx]
     rw [hn0,List.append_nil] at hE ⊢;have hh:=ih hist (inn++[hist[p]]) (p+1) g (by omega) (hg.imp id fun ⟨lo,h1,h2⟩=>⟨lo,h1,by omega⟩) (by omega) hE;rw [hm2] at hh;rw [hx] at hnx
     have b8:(m:Int)*16≤140737488355328:=by omega
     rcases hg with rfl | ⟨lo,rfl,hlo⟩
     all_goals
      refine .go 60 ?_;simp (disch:=omega) [hEl,hfi,gp,gp',isKey,allDatum,isDatum,hpu,hnx];refine .reLoop ?_;simp [hCn] at hh ⊢;exact hh
    | some v =>
     obtain ⟨hk,hvl⟩:=nextM_kd hc hx
     have hn0:nextL c hist[p]=v.2.2:=by simp [nextL,hx]
     rw [hn0] at hE ⊢;rw [hx] at hnx;obtain ⟨fl,k,l⟩:=v;simp only at hk hvl hn0 hE ⊢
     cases l with
     | nil =>
      rw [List.append_nil] at hE ⊢;have hh:=ih hist (inn++[hist[p]]) (p+1) g (by omega) (hg.imp id fun ⟨lo,h1,h2⟩=>⟨lo,h1,by omega⟩) (by omega) hE;rw [hm2] at hh
      have b8:(m:Int)*16≤140737488355328:=by omega
      rcases hg with rfl | ⟨lo,rfl,hlo⟩
      all_goals
       refine .go 60 ?_;simp (disch:=omega) [hEl,hfi,gp,gp',isKey,allDatum,isDatum,hpu,hnx];refine .reLoop ?_;simp [hCn] at hh ⊢;exact hh
     | cons a l =>
      have hk1:k=1:=hk.of (i:=0) (by simp);subst hk1;have hh:=ih (hist++a::l) (inn++[hist[p]]) (p+1) (some (p+1)) (by simp; omega) (.inr ⟨p+1,rfl,Nat.le_refl _⟩) (by simp only [List.length_append,List.length_cons] at hvl ⊢; omega) hE;rw [show (hist++a::l).length - (p+1)=m+(l.length+1) by simp; omega] at hh;simp only [List.length_cons] at hvl;have e3:(p+1+m=p+(m+1))=True:=eq_true (by omega)
      have b8:(m+(l.length+1))*16≤140737488355328:=by omega
      rcases hg with rfl | ⟨lo,rfl,hlo⟩
      all_goals
       refine .go 60 ?_;simp (disch:=omega) [hEl,hfi,gp,gp',isKey,allDatum,isDatum,hpu,hnx,b8,e3];refine .reLoop ?_;simp [hCn] at hh ⊢;exact hh
  ·obtain rfl:p=hist.length:=by omega
   have hh:=f_Cn1 (Γ:=Γ) c inn hist g (netsC c) (by have:=nets_le hc; omega) (netsC c).length 0 (by omega) [] (by simp);rw [dif_neg h,Nat.sub_self];refine .go 60 ?_;simp;refine .call 60 (by simp) (p_Nets c hc) ?_;simp;refine .inLoop ?_;simp [hCn] at hh ⊢;exact hh
set_option maxRecDepth 8000 in
theorem f_Cn21 (c:Ct) (hc:CtFew c) (hd:((nextM c).map (·.1)).Nodup) (nets:List Bs) {k:Nat} (hk:Kd 1 k nets) (hn:nets.length<2^30) (f:Nat) (hf:f<2^26) (hE:coneE c f nets 0 []):∀ n i:Nat,i+n=c.gates.length →
  Fins Tryd.prog Γ (yiI (.list false k (nets.map .str)) (.ptr 0 0) (.mp 2) (.list false c.kG (c.gates.map eGt)) (.int .i64 c.gates.length) (.int .i64 i) [.cells (AV.cells (eCt c)),.row 1 t_string [] none true false,.map (((nextM c).take (c.latches.length+i)).map eNm) true] ⟨[],.norm,0,[]⟩)
   (.ret (.own 1 t_string (((netsC c).filter fun s=>decide (s∈coneF c f nets 0 [])).map .str))):=by
 have hG:=hc.2.2.2.1;intro n
 induction n with
 | zero =>
  intro i hi
  have q1:¬ i<c.gates.length:=by omega
  have hh:=f_Cn10 (Γ:=Γ) c hc f nets [] 0 none (Nat.zero_le _) (.inl rfl) (by omega) hE;rw [List.take_of_length_le (by simp [nextM]; omega)];refine .go 60 ?_;simp [q1];refine .call 60 (by simp) (p_slices_Clone_string_string nets hk (by omega)) ?_;simp;refine .inLoop ?_;simp at hh ⊢;exact hh
 | succ n ih =>
  intro i hi
  have q1:i<c.gates.length:=by omega
  have q2:=eq_true (c.hG.of q1);have hh:=ih (i+1) (by omega)
  have hlt:c.latches.length+i<(nextM c).length:=by simp [nextM]; omega
  have hg:(nextM c)[c.latches.length+i]=(c.gates[i].name,(false,c.gates[i].ki,c.gates[i].ins)):=by
   simp only [nextM];rw [List.getElem_append_right (by simp)];simp
  have hnone:=getM_nodup hlt hd;have hput:=putIn_gen (E:=.sc .str) (e:=AV.str) eq_str eNx (nextM c)[c.latches.length+i].2 hnone;have e1:(nextM c).take (c.latches.length+(i+1))=(nextM c).take (c.latches.length+i)++[(nextM c)[c.latches.length+i]]:=List.take_succ_eq_append_getElem hlt;rw [e1] at hh;rw [hg] at hh hput;generalize (nextM c).take (c.latches.length+i)=P at *
  have hput2:putIn (.sc .str) (.str c.gates[i].name) (.list false c.gates[i].ki (c.gates[i].ins.map .str)) (P.map eNm)=some (P.map eNm++[(.str c.gates[i].name,.list false c.gates[i].ki (c.gates[i].ins.map .str))]):=by
   have:=hput;rw [List.map_append] at this;exact this
  have ha:(c.gates[i].ins.all fun _=>true)=true:=List.all_eq_true.2 fun _ _=>rfl
  refine .go 60 ?_;simp (disch:=omega) [q1,q2,hput2,isKey,allDatum,isDatum,ha];refine .reLoop ?_;simp;refine .drop 3 rfl (by simp) (by simp) (by simp [belM_app]) ?_;simp [ha] at hh ⊢;exact hh
set_option maxRecDepth 8000 in
theorem f_Cn28 (c:Ct) (hc:CtFew c) (hd:((nextM c).map (·.1)).Nodup) (nets:List Bs) {k:Nat} (hk:Kd 1 k nets) (hn:nets.length<2^30) (f:Nat) (hf:f<2^26) (hE:coneE c f nets 0 []):∀ n i:Nat,i+n=c.latches.length →
  Fins Tryd.prog Γ (yiK (.list false k (nets.map .str)) (.ptr 0 0) (.mp 2) (.list false c.kL (c.latches.map eLt)) (.int .i64 c.latches.length) (.int .i64 i) [.cells (AV.cells (eCt c)),.row 1 t_string [] none true false,.map (((nextM c).take i).map eNm) true] ⟨[],.norm,0,[]⟩)
   (.ret (.own 1 t_string (((netsC c).filter fun s=>decide (s∈coneF c f nets 0 [])).map .str))):=by
 have hG:=hc.2.2.1;intro n
 induction n with
 | zero =>
  intro i hi
  have q1:¬ i<c.latches.length:=by omega
  have hh:=f_Cn21 (Γ:=Γ) c hc hd nets hk hn f hf hE c.gates.length 0 (by omega)
  obtain rfl:i=c.latches.length:=by omega
  refine .go 60 ?_;simp [q1];refine .inLoop ?_;simp at hh ⊢;exact hh
 | succ n ih =>
  intro i hi
  have q1:i<c.latches.length:=by omega
  have q2:=eq_true (c.hL.of q1);have hh:=ih (i+1) (by omega)
  have hlt:i<(nextM c).length:=by simp [nextM]; omega
  have hg:(nextM c)[i]=(c.latches[i].name,(true,1,[c.latches[i].next])):=by
   simp only [nextM];rw [List.getElem_append_left (by simpa using q1)];simp
  have hnone:=getM_nodup hlt hd;have hput:=putIn_gen (E:=.sc .str) (e:=AV.str) eq_str eNx (nextM c)[i].2 hnone;have e1:(nextM c).take (i+1)=(nextM c).take i++[(nextM c)[i]]:=List.take_succ_eq_append_getElem hlt;rw [e1] at hh;rw [hg] at hh hput;generalize (nextM c).take i=P at *
  have hput2:putIn (.sc .str) (.str c.latches[i].name) (.list true 1 [.str c.latches[i].next]) (P.map eNm)=some (P.map eNm++[(.str c.latches[i].name,.list true 1 [.str c.latches[i].next])]):=by
   have:=hput;rw [List.map_append] at this;exact this
  refine .go 60 ?_;simp (disch:=omega) [q1,q2,hput2,isKey,allDatum,isDatum];refine .reLoop ?_;simp;refine .drop 3 rfl (by simp) (by simp) (by simp [belM_app]) ?_;simp at hh ⊢;exact hh
theorem next_nodup {c:Ct} (hr:rightC c=true):((nextM c).map (·.1)).Nodup:=by
 have:=(right_ok hr).1.nodup;rw [netsC,List.append_assoc,List.nodup_append] at this;rw [nextM_keys];exact this.2.1
set_option maxRecDepth 8000 in
theorem p_Cone1 (hΓ:InsG Γ) (c:Ct) (hb:CtB c) (hr:rightC c=true) (nets:List Bs) {k:Nat} (hk:Kd 1 k nets) (hn:nets.length<2^30) (f:Nat) (hf:f<2^26) (hE:coneE c f nets 0 []):PureCon Tryd.prog Γ n_order_Cone [eCt c,.list false k (nets.map .str)] (.own 1 t_string (((netsC c).filter fun s=>decide (s∈coneF c f nets 0 [])).map .str)):=by
 have hc:=right_few hb hr;have hR:=p_right hΓ c hb;rw [hr] at hR;have hh:=f_Cn28 (Γ:=Γ) c hc (next_nodup hr) nets hk hn f hf hE c.latches.length 0 (by omega);refine .run 60 c_order_Cone (by simp) ?_;simp;refine .call 60 (by simp) hR ?_;simp;refine .inLoop ?_;simp at hh ⊢;exact hh
theorem p_Cone0 (hΓ:InsG Γ) (c:Ct) (hb:CtB c) (hr:rightC c=false) (nets:List Bs) {k:Nat}:PureCon Tryd.prog Γ n_order_Cone [eCt c,.list false k (nets.map .str)] (.own 1 t_string []):=by
 have hR:=p_right hΓ c hb;rw [hr] at hR;refine .run 60 c_order_Cone (by simp) ?_;simp;refine .call 60 (by simp) hR ?_;simp;exact .back (by simp)
def sumW (inn:List Bs):List (Bs×(Bool×Nat×List Bs))→Nat
 | []=>0
 | x::r=>(if x.1∈inn then 0 else x.2.2.2.length)+sumW inn r
theorem sumW_le (inn:List Bs) (s:Bs):∀ M:List (Bs×(Bool×Nat×List Bs)),sumW (inn++[s]) M≤sumW inn M
 | []=>Nat.le_refl _
 | x::r=>by
  have:=sumW_le inn s r;simp only [sumW]
  by_cases h:x.1∈inn
  ·have h2:x.1∈inn++[s]:=by simp [h]
   rw [if_pos h,if_pos h2]; omega
  ·rw [if_neg h]
   split <;> omega
theorem sumW_lt {inn:List Bs} {s:Bs} (hs:s∉inn):∀ {M:List (Bs×(Bool×Nat×List Bs))} {v},getM s M=some v→sumW (inn++[s]) M+v.2.2.length≤sumW inn M
 | [],v,h=>by cases h
 | (a,u)::r,v,h=>by
  rw [getM] at h;simp only [sumW]
  split at h
  ·rename_i h1;subst h1
   cases h
   have:=sumW_le inn s r
   rw [if_pos (by simp),if_neg hs]; omega
  ·have:=sumW_lt hs h
   by_cases h2:a∈inn
   ·rw [if_pos (by simp [h2]),if_pos h2]; omega
   ·rw [if_neg h2]
    split <;> omega
theorem coneE_of (c:Ct):∀ (f:Nat) (hist:List Bs) (p:Nat) (inn:List Bs),p≤hist.length→(hist.length - p)+sumW inn (nextM c)≤f→coneE c f hist p inn
 | 0,hist,p,inn,hp,h=>by
  rw [coneE]; omega
 | f+1,hist,p,inn,hp,h=>by
  rw [coneE]
  by_cases h1:p<hist.length
  ·rw [dif_pos h1]
   by_cases h2:hist[p]∈inn
   ·rw [if_pos h2];exact coneE_of c f _ _ _ (by omega) (by omega)
   ·rw [if_neg h2];refine coneE_of c f _ _ _ (by simp; omega) ?_;rw [List.length_append]
    cases hx:getM hist[p] (nextM c) with
    | none =>
     have hn:nextL c hist[p]=[]:=by simp [nextL,hx]
     have:=sumW_le inn hist[p] (nextM c);rw [hn]
     simp only [List.length_nil]; omega
    | some v =>
     have hn:nextL c hist[p]=v.2.2:=by simp [nextL,hx]
     have:=sumW_lt h2 hx
     rw [hn]; omega
  ·rw [dif_neg h1]; trivial
theorem sumW_bnd {c:Ct} (hc:CtFew c):sumW [] (nextM c)≤2^22:=by
 have h:∀ M:List (Bs×(Bool×Nat×List Bs)),(∀ x∈M,x.2.2.2.length<2^10)→sumW [] M≤M.length*2^10:=by
  intro M
  induction M with
  | nil=>intro _; simp [sumW]
  | cons x r ih =>
   intro hM
   have:=ih fun y hy=>hM y (by simp [hy])
   have:=hM x (by simp);simp only [sumW,List.not_mem_nil,if_false,List.length_cons,Nat.succ_mul];omega
 have h1:=h (nextM c) (fun x hx=>by
  rw [nextM,List.mem_append,List.mem_map,List.mem_map] at hx
  rcases hx with ⟨q,hq,he⟩ | ⟨g,hg,he⟩
  ·rw [← he]; simp
  ·rw [← he]; exact (hc.2.2.2.2.1 g hg).2.1)
 have h2:(nextM c).length≤2^11:=by
  have:=hc.2.2.1;have:=hc.2.2.2.1
  simp [nextM]; omega
 omega
def coneC (c:Ct) (nets:List Bs):List Bs:=coneF c (nets.length+sumW [] (nextM c)) nets 0 []
def coneO (c:Ct) (nets:List Bs):List Bs:=if rightC c=true then (netsC c).filter fun s=>decide (s∈coneC c nets) else []
theorem p_ConeO (hΓ:InsG Γ) (c:Ct) (hb:CtB c) (nets:List Bs) {k:Nat} (hk:Kd 1 k nets) (hn:nets.length<2^25):PureCon Tryd.prog Γ n_order_Cone [eCt c,.list false k (nets.map .str)] (.own 1 t_string ((coneO c nets).map .str)):=by
 unfold coneO
 cases hr:rightC c with
 | false=>simpa using p_Cone0 hΓ c hb hr nets
 | true =>
  have:=sumW_bnd (right_few hb hr);have h:=p_Cone1 hΓ c hb hr nets hk (by omega) (nets.length+sumW [] (nextM c)) (by omega) (coneE_of c _ _ _ _ (Nat.zero_le _) (by omega));rw [if_pos rfl];exact h
inductive Leads (c:Ct) (nets:List Bs):Bs→Prop
 | base {s:Bs}:s∈nets→Leads c nets s
 | step {s t:Bs}:Leads c nets s→t∈nextL c s→Leads c nets t
theorem coneF_is (c:Ct) (nets:List Bs):∀ (f:Nat) (hist:List Bs) (p:Nat) (inn:List Bs),p≤hist.length→coneE c f hist p inn→(∀ s∈nets,s∈hist)→(∀ s∈hist,Leads c nets s)→(∀ s∈hist.take p,s∈inn)→(∀ s∈inn,s∈hist)→(∀ s∈inn,∀ t∈nextL c s,t∈hist) →
  ∀ s,s∈coneF c f hist p inn↔Leads c nets s:=by
 have stop:∀ (hist:List Bs) (p:Nat) (inn:List Bs),hist.length≤p→(∀ s∈nets,s∈hist)→(∀ s∈hist,Leads c nets s)→(∀ s∈hist.take p,s∈inn)→(∀ s∈inn,s∈hist)→(∀ s∈inn,∀ t∈nextL c s,t∈hist)→∀ s,s∈inn↔Leads c nets s:=by
  intro hist p inn hp h1 h2 h3 h4 h5 s;rw [List.take_of_length_le hp] at h3;refine ⟨fun h=>h2 s (h4 s h),fun h => ?_⟩
  induction h with
  | base h=>exact h3 _ (h1 _ h)
  | step _ h ih=>exact h3 _ (h5 _ ih _ h)
 intro f
 induction f with
 | zero =>
  intro hist p inn hp hE h1 h2 h3 h4 h5;rw [coneE] at hE;rw [coneF];exact stop hist p inn hE h1 h2 h3 h4 h5
 | succ f ih =>
  intro hist p inn hp hE h1 h2 h3 h4 h5;rw [coneE] at hE;rw [coneF]
  by_cases h:p<hist.length
  ·rw [dif_pos h] at hE ⊢
   have htk:∀ s∈hist.take (p+1),s∈inn∨s=hist[p]:=fun s hs=>by
    rw [List.take_succ_eq_append_getElem h,List.mem_append,List.mem_singleton] at hs;exact hs.imp (h3 s) id
   by_cases hm:hist[p]∈inn
   ·rw [if_pos hm] at hE ⊢;exact ih hist (p+1) inn h hE h1 h2 (fun s hs=>(htk s hs).elim id fun he=>he▸hm) h4 h5
   ·rw [if_neg hm] at hE ⊢;refine ih _ (p+1) _ (by simp; omega) hE (fun s hs=>by simp [h1 s hs]) (fun s hs => ?_) (fun s hs => ?_) (fun s hs => ?_) (fun s hs t ht => ?_)
    ·rcases List.mem_append.1 hs with hs | hs
     ·exact h2 s hs
     ·exact .step (h2 _ (List.getElem_mem h)) hs
    ·rw [List.take_append_of_le_length (by omega)] at hs
     rcases htk s hs with h6 | h6
     ·simp [h6]
     ·simp [h6]
    ·rcases List.mem_append.1 hs with hs | hs
     ·simp [h4 s hs]
     ·rw [List.mem_singleton] at hs
      rw [hs]; simp
    ·rcases List.mem_append.1 hs with hs | hs
     ·simp [h5 s hs t ht]
     ·rw [List.mem_singleton] at hs;rw [hs] at ht;simp [ht]
  ·rw [dif_neg h];exact stop hist p inn (by omega) h1 h2 h3 h4 h5
theorem coneC_is (c:Ct) (nets:List Bs) (s:Bs):s∈coneC c nets↔Leads c nets s :=
 coneF_is c nets _ nets 0 [] (Nat.zero_le _) (coneE_of c _ _ _ _ (Nat.zero_le _) (by omega)) (fun s h=>h) (fun s h=>.base h) (by simp) (by simp) (by simp) s
theorem p_ContainsS (l:List (List UInt8)) (s:List UInt8) {k:Nat} (hk:Kd 1 k l) (hl:l.length<2^40):PureCon Tryd.prog Γ n_slices_Contains_string_string [.list false k (l.map .str),.str s] (.bool (l.contains s)):=by
 refine .run 60 c_slices_Contains_string_string (by simp) ?_;simp;refine .call 60 (by simp) (p_IndexS l s hk hl) ?_;have e:=idxS_has s l 0;simp [e];exact .back (by simp)
theorem p_CloneT (l:List (List UInt8)) {k:Nat} (hk:Kd 1 k l) (hl:l.length<2^40):PureCon Tryd.prog Γ n_slices_Clone_string_string [.list false k (l.map AV.str)] (.list false 1 (l.map AV.str)):=by
 cases l with
 | nil =>
  refine .run 60 c_slices_Clone_string_string (by simp) ?_;simp;refine .either 0 (by simp) (fun b => ?_)
  cases b
  ·refine .go 9 ?_;simp;refine .nilslot 2 1 t_string rfl (by omega) ?_;refine .trees [2] ?_;refine .go 60 ?_;simp;exact .back (by simp)
  ·refine .go 7 ?_;simp;refine .trees [2] ?_;refine .go 60 ?_;simp;exact .back (by simp)
 | cons x xs =>
  have hk0:k=1:=by
   rcases hk with h | h
   ·exact h
   ·cases h
  subst hk0;simp at hl;refine .run 18 c_slices_Clone_string_string (by simp) ?_;simp (disch:=(first | omega | (simp; omega)));refine .trees [2] ?_;refine .go 60 ?_;simp;exact .back (by simp)
abbrev hTr (c:Ct) (cone:List Bs) (L:List Lt) (G:List Gt):List Ob:=[.cells (AV.cells (eCt c)),.cells [.sl 2 0 0,.sl 3 0 0,.sl 4 0 0,.sl 5 0 0],.row 1 t_string [] none true false,.row 1 t_string [] none true false,.row 3 t_api_Latch_2 [] none true false,.row 5 t_api_Gate_2 [] none true false,
 .row 1 t_string (cone.map .str) none true true,.cells [.list false 1 (c.inputs.map .str),.list false 1 (c.outputs.map .str),.sl 12 0 L.length,.sl 13 0 G.length],.row 1 t_string [] none true false,.row 1 t_string [] none true false,.row 3 t_api_Latch_2 [] none true false,.row 5 t_api_Gate_2 [] none true false,
 .row 3 t_api_Latch_2 (L.map eLt) none true false,.row 5 t_api_Gate_2 (G.map eGt) none true false]
abbrev eTr (c:Ct) (L:List Lt) (G:List Gt):AV:=.agg [.list false 1 (c.inputs.map .str),.list false 1 (c.outputs.map .str),.list false 3 (L.map eLt),.list false 5 (G.map eGt)]
set_option maxRecDepth 8000 in
theorem f_Tr1 (c:Ct) (hc:CtFew c) (cone:List Bs) (hcl:cone.length<2^40) (L:List Lt):∀ n i:Nat,i+n=c.gates.length→∀ G:List Gt,G.length≤i →
  Fins Tryd.prog Γ (yjn (.ptr 1 0) (.list false 1 (cone.map .str)) (.ptr 7 0) (.list false c.kG (c.gates.map eGt)) (.int .i64 c.gates.length) (.int .i64 i) (hTr c cone L G) ⟨[],.norm,0,[]⟩)
   (.ret (eTr c L (G++(c.gates.drop i).filter fun g=>cone.contains g.name))):=by
 have hN:=hc.2.2.2.1;intro n
 induction n with
 | zero =>
  intro i hi G hG
  have q1:¬ i<c.gates.length:=by omega
  rw [List.drop_eq_nil_of_le (by omega)];refine .go 60 ?_;simp [q1];exact .back (by simp)
 | succ n ih =>
  intro i hi G hG
  have q1:i<c.gates.length:=by omega
  have q2:=eq_true (c.hG.of q1);have hK:=p_ContainsS (Γ:=Γ) cone c.gates[i].name (k:=1) .self hcl;rw [List.drop_eq_getElem_cons q1,List.filter_cons]
  cases hb:cone.contains c.gates[i].name with
  | true =>
   rw [hb] at hK;have hh:=ih (i+1) (by omega) (G++[c.gates[i]]) (by simp; omega)
   have hle:((G.length:Int)+1)*80≤140737488355328:=by omega
   rw [if_pos rfl];refine .go 60 ?_;simp [q1,q2];refine .call 60 (by simp) hK ?_;simp (disch:=omega) [hle];refine .reLoop ?_;simp;refine .drop 14 rfl (by simp) (by simp) (by simp) ?_;refine .reset (i:=13) rfl (by simp) (by simp) (by simp) ?_;simp [hTr] at hh ⊢;exact hh
  | false =>
   rw [hb] at hK;have hh:=ih (i+1) (by omega) G (by omega);rw [if_neg (by simp)];refine .go 60 ?_;simp [q1,q2];refine .call 60 (by simp) hK ?_;simp (disch:=omega);refine .reLoop ?_;simp;refine .drop 14 rfl (by simp) (by simp) (by simp) ?_;simp [hTr] at hh ⊢;exact hh
set_option maxRecDepth 8000 in
theorem f_Tr9 (c:Ct) (hc:CtFew c) (cone:List Bs) (hcl:cone.length<2^40):∀ n i:Nat,i+n=c.latches.length→∀ L:List Lt,L.length≤i →
  Fins Tryd.prog Γ (yjp (.ptr 0 0) (.ptr 1 0) (.list false 1 (cone.map .str)) (.ptr 7 0) (.list false c.kL (c.latches.map eLt)) (.int .i64 c.latches.length) (.int .i64 i) (hTr c cone L []) ⟨[],.norm,0,[]⟩)
   (.ret (eTr c (L++(c.latches.drop i).filter fun g=>cone.contains g.name) (c.gates.filter fun g=>cone.contains g.name))):=by
 have hN:=hc.2.2.1;intro n
 induction n with
 | zero =>
  intro i hi L hG
  have q1:¬ i<c.latches.length:=by omega
  have hh:=f_Tr1 (Γ:=Γ) c hc cone hcl L c.gates.length 0 (by omega) [] (by simp);rw [List.drop_eq_nil_of_le (by omega)];refine .go 60 ?_;simp [q1];refine .inLoop ?_;simp at hh ⊢;exact hh
 | succ n ih =>
  intro i hi L hG
  have q1:i<c.latches.length:=by omega
  have q2:=eq_true (c.hL.of q1);have hK:=p_ContainsS (Γ:=Γ) cone c.latches[i].name (k:=1) .self hcl;rw [List.drop_eq_getElem_cons q1,List.filter_cons]
  cases hb:cone.contains c.latches[i].name with
  | true =>
   rw [hb] at hK;have hh:=ih (i+1) (by omega) (L++[c.latches[i]]) (by simp; omega)
   have hle:((L.length:Int)+1)*40≤140737488355328:=by omega
   rw [if_pos rfl];refine .go 60 ?_;simp [q1,q2];refine .call 60 (by simp) hK ?_;simp (disch:=omega) [hle];refine .reLoop ?_;simp;refine .drop 14 rfl (by simp) (by simp) (by simp) ?_;refine .reset (i:=12) rfl (by simp) (by simp) (by simp) ?_;simp [hTr] at hh ⊢;exact hh
  | false =>
   rw [hb] at hK;have hh:=ih (i+1) (by omega) L (by omega);rw [if_neg (by simp)];refine .go 60 ?_;simp [q1,q2];refine .call 60 (by simp) hK ?_;simp (disch:=omega);refine .reLoop ?_;simp;refine .drop 14 rfl (by simp) (by simp) (by simp) ?_;simp [hTr] at hh ⊢;exact hh
def trimC (c:Ct):Ct where
 inputs:=c.inputs
 outputs:=c.outputs
 latches:=c.latches.filter fun q=>(coneO c c.outputs).contains q.name
 gates:=c.gates.filter fun g=>(coneO c c.outputs).contains g.name
 kI:=1
 kO:=1
 kL:=3
 kG:=5
 hI:=.self
 hO:=.self
 hL:=.self
 hG:=.self
set_option maxRecDepth 8000 in
theorem p_Trim1 (hΓ:InsG Γ) (c:Ct) (hb:CtB c) (hr:rightC c=true):PureCon Tryd.prog Γ n_order_Trim [eCt c] (eCt (trimC c)):=by
 have hc:=right_few hb hr;have hR:=p_right hΓ c hb;rw [hr] at hR;have hC:=p_ConeO hΓ c hb c.outputs c.hO (by have:=hc.2.1; omega)
 have hcl:(coneO c c.outputs).length<2^40:=by
  have h1:=nets_le hc;have h2:=List.length_filter_le (fun s=>decide (s∈coneC c c.outputs)) (netsC c);unfold coneO;rw [if_pos hr];exact Nat.lt_of_le_of_lt h2 (by omega)
 have hh:=f_Tr9 (Γ:=Γ) c hc (coneO c c.outputs) hcl c.latches.length 0 (by omega) [] (by simp);refine .run 60 c_order_Trim (by simp) ?_;simp;refine .call 60 (by simp) hR ?_;simp;refine .call 60 (by simp) hC ?_;simp;refine .dr 60 ?_;simp;refine .quiet (p_CloneT c.inputs c.hI (by have:=hc.1; omega)) (by simp) (by simp) ?_;simp;refine .quiet (p_CloneT c.outputs c.hO (by have:=hc.2.1; omega)) (by simp) (by simp) ?_;simp;refine .trees [3] ?_;simp;refine .nilcell 7 2 3 t_api_Latch_2 rfl rfl (by omega) ?_;simp;refine .nilcell 7 3 5 t_api_Gate_2 rfl rfl (by omega) ?_;simp;refine .inLoop ?_;simp [trimC] at hh ⊢;exact hh
def nilC:Ct:=⟨[],[],[],[],0,0,0,0,.nil,.nil,.nil,.nil⟩
theorem p_Trim0 (hΓ:InsG Γ) (c:Ct) (hb:CtB c) (hr:rightC c=false):PureCon Tryd.prog Γ n_order_Trim [eCt c] (eCt nilC):=by
 have hR:=p_right hΓ c hb;rw [hr] at hR;refine .run 60 c_order_Trim (by simp) ?_;simp;refine .call 60 (by simp) hR ?_;simp;exact .back (by simp [nilC])
def trimO (c:Ct):Ct:=if rightC c=true then trimC c else nilC
theorem p_TrimO (hΓ:InsG Γ) (c:Ct) (hb:CtB c):PureCon Tryd.prog Γ n_order_Trim [eCt c] (eCt (trimO c)):=by
 unfold trimO
 cases hr:rightC c with
 | true=>exact p_Trim1 hΓ c hb hr
 | false=>exact p_Trim0 hΓ c hb hr
abbrev iZ (z:Int):AV:=.int .i64 z
theorem p_r01_IntsZ (a b:List Int) {ka kb:Nat} (ha:Kd 1 ka a) (hb:Kd 1 kb b) (hs:a.length<2^60):PureCon Tryd.prog Γ n_r01_Ints [.list false ka (a.map iZ),.list false kb (b.map iZ)] (.bool (decide (a=b))):=by
 refine .run 60 c_r01_Ints (by simp) ?_
 by_cases hl:a.length=b.length
 ·have key:∀ n i:Nat,i+n=a.length→Fins Tryd.prog Γ (yfB (.list false ka (a.map iZ)) (.list false kb (b.map iZ)) (.int .i64 i) []) (.ret (.bool (decide (a.drop i=b.drop i)))):=by
   intro n
   induction n with
   | zero =>
    intro i hi;refine .go 60 ?_
    have h1:¬ i<a.length:=by omega
    have h2:a.drop i=b.drop i:=by rw [List.drop_eq_nil_of_le (by omega),List.drop_eq_nil_of_le (by omega)]
    simp [h1,h2];exact .back (by simp)
   | succ n ih =>
    intro i hi
    have h1:i<a.length:=by omega
    have h2:i<b.length:=by omega
    obtain rfl:=ha.of h1;obtain rfl:=hb.of h2;have h4:=drop_eq h1 h2;refine .go 60 ?_
    by_cases h3:a[i]=b[i]
    ·simp (disch:=omega) [h1,h2,h3,h4];refine .reLoop ?_;simpa using ih (i+1) (by omega)
    ·simp (disch:=omega) [h1,h2,h3,h4];exact .back (by simp)
  simp [hl];refine .inLoop ?_;simpa [hl] using key a.length 0 (by omega)
 ·have h2:¬ a=b:=fun e=>hl (by rw [e])
  simp [hl,h2];exact .back (by simp)
def gz (s:Bs):Gt:=⟨[122],3,[s],[],false,1,0,.self,.nil⟩
def gy (s:Bs):Gt:=⟨[121],2,[s],[],false,1,0,.self,.nil⟩
def oc:Ct:=⟨[[97]],[[121]],[],[gz [121],gy [97]],1,1,0,5,.self,.self,.nil,.self⟩
def od:Ct:=⟨[[97]],[[121]],[],[gz [121],gy [122]],1,1,0,5,.self,.self,.nil,.self⟩
theorem oc_few:CtFew oc:=few_net (by kernel_rfl)
theorem od_few:CtFew od:=few_net (by kernel_rfl)
theorem oc_sort:sortO oc=[1,0]:=by kernel_rfl
theorem oc_never:neverO oc=[]:=by kernel_rfl
theorem od_check:checkO od=(7,[122]):=by kernel_rfl
theorem oc_check:checkO oc=(0,[]):=by kernel_rfl
theorem oc_levels:levelsO oc=[1,0]:=by kernel_rfl
theorem oc_cone:coneO oc [[121]]=[[97],[121]]:=by kernel_rfl
theorem oc_trim:trimO oc=⟨[[97]],[[121]],[],[gy [97]],1,1,3,5,.self,.self,.self,.self⟩:=by kernel_rfl
set_option maxRecDepth 8000 in
theorem p_worksO (hΓ:InsG Γ):PureCon Tryd.prog Γ n_w07_works [] (.bool true):=by
 have k1:=p_SortO hΓ oc oc_few.toB;have k2:=p_CheckO hΓ od od_few.toB;have k3:=p_CheckO hΓ oc oc_few.toB;have k4:=p_LevelsO hΓ oc oc_few.toB;have k5:=p_ConeO hΓ oc oc_few.toB [[121]] (k:=1) .self (by simp);have k6:=p_TrimO hΓ oc oc_few.toB;have k7:=p_r01_IntsZ (Γ:=Γ) [1,0] [1,0] (ka:=1) (kb:=1) .self .self (by simp);have k8:=p_r01_Texts (Γ:=Γ) [[97],[121]] [[97],[121]] (ka:=1) (kb:=1) .self .self (by simp);rw [oc_sort,oc_never] at k1;rw [od_check] at k2;rw [oc_check] at k3;rw [oc_levels] at k4;rw [oc_cone] at k5;rw [oc_trim] at k6;refine .run 90 c_w07_works (by simp) ?_;simp;refine .call 90 (by simp [oc,gz,gy]) k1 ?_;simp;refine .call 90 (by simp [od,gz,gy]) k2 ?_;simp;refine .call 90 (by simp [oc,gz,gy]) k3 ?_;simp;refine .call 90 (by simp [oc,gz,gy]) k5 ?_;simp;refine .call 90 (by simp [oc,gz,gy]) k6 ?_;simp;refine .call 90 (by simp) k7 ?_;simp
 refine .call 90 (by simp [oc,gz,gy]) k4 ?_;simp;refine .call 90 (by simp) k7 ?_;simp;refine .call 90 (by simp) k8 ?_;simp [gy];exact .back (by simp)
end Go.Proofs.YtpkngebjapfibaaDoor
