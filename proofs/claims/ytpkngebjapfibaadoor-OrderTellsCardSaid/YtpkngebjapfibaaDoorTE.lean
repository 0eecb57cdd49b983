/- Order: what is true of what comes (plain law). -/
import Derived.Test.YtpkngebjapfibaaDoorH
import Derived.Test.YtpkngebjapfibaaDoorF
import Derived.Test.YtpkngebjapfibaaDoorT
set_option linter.unusedSimpArgs false
set_option linter.unusedVariables false
namespace Go.Proofs.YtpkngebjapfibaaDoor
open Go.AM Go.Proofs
theorem sortF_law (c:Ct):∀ (f:Nat) (done:List Nat),done.Nodup→(∀ x∈done,x<c.gates.length) →
  (done++sortF c f done).Nodup∧(∀ p a q,sortF c f done=p++a::q→mayB c (done++p) a=true∧∀ j<a,mayB c (done++p) j=false)∧(c.gates.length≤done.length+f→∀ a<c.gates.length,mayB c (done++sortF c f done) a=false)
 | 0,done,hd,hl=>by
  refine ⟨by simpa [sortF] using hd,fun p a q h=>by simp [sortF] at h,fun hf a ha => ?_⟩;rw [Bool.eq_false_iff];intro hm;have h3:=(mayB_is.1 hm).1;simp only [sortF,List.append_nil] at h3
  have:=nodup_le c.gates.length (a::done) (List.nodup_cons.2 ⟨h3,hd⟩) (fun y hy=>by
   rcases List.mem_cons.1 hy with rfl | hy
   ·exact ha
   ·exact hl y hy)
  simp only [List.length_cons] at this;omega
 | f+1,done,hd,hl=>by
  rw [sortF]
  cases hn:nextK c done with
  | none =>
   refine ⟨by simpa using hd,fun p a q h=>by simp at h,fun hf a ha => ?_⟩;simpa using nextK_no hn ha
  | some k =>
   obtain ⟨hk,hm,hj⟩:=nextK_is hn;have h3:=(mayB_is.1 hm).1
   obtain ⟨i1,i2,i3⟩:=sortF_law c f (done++[k]) (by
    rw [List.nodup_append];refine ⟨hd,by simp,fun x hx y hy => ?_⟩;rw [List.mem_singleton] at hy;subst hy
    exact fun he=>h3 (he▸hx)) (fun x hx=>by
    rcases List.mem_append.1 hx with hx | hx
    ·exact hl x hx
    ·rw [List.mem_singleton] at hx; subst hx; exact hk)
   simp only [List.append_assoc,List.singleton_append] at i1 i2 i3;refine ⟨i1,fun p a q h => ?_,fun hf a ha=>i3 (by simp; omega) a ha⟩
   cases p with
   | nil =>
    simp only [List.nil_append,List.cons.injEq] at h;rw [List.append_nil,← h.1];exact ⟨hm,hj⟩
   | cons x p =>
    simp only [List.cons_append,List.cons.injEq] at h;obtain ⟨rfl,h⟩:=h;exact i2 p a q h
theorem sortC_nodup (c:Ct):(sortC c).Nodup:=by simpa [sortC] using (sortF_law c c.gates.length [] (by simp) (by simp)).1
theorem sortC_lt (c:Ct):∀ x∈sortC c,x<c.gates.length:=sortF_lt c _ _
theorem sortC_pos (c:Ct) {p q:List Nat} {a:Nat} (h:sortC c=p++a::q):mayB c p a=true∧∀ j<a,mayB c p j=false:=by
 simpa using (sortF_law c c.gates.length [] (by simp) (by simp)).2.1 p a q h
theorem sortC_end (c:Ct) {a:Nat} (ha:a<c.gates.length):mayB c (sortC c) a=false:=by
 simpa [sortC] using (sortF_law c c.gates.length [] (by simp) (by simp)).2.2 (by simp) a ha
theorem sortC_at (c:Ct) {i:Nat} (hi:i<(sortC c).length) {x:Nat} (hx:inK c (sortC c)[i] x=true):x∈(sortC c).take i:=by
 have h:sortC c=(sortC c).take i++(sortC c)[i]::(sortC c).drop (i+1):=by
  rw [← List.drop_eq_getElem_cons hi,List.take_append_drop]
 exact (mayB_is.1 (sortC_pos c h).1).2 x hx
theorem sortC_never (c:Ct) {a:Nat} (ha:a<c.gates.length) (hn:a∉sortC c):∃ x,inK c a x=true∧x∉sortC c:=by
 refine Classical.byContradiction fun h => ?_
 have:=sortC_end c ha;rw [Bool.eq_false_iff] at this;refine this (mayB_is.2 ⟨hn,fun x hx => ?_⟩)
 exact Classical.byContradiction fun h2=>h ⟨x,hx,h2⟩
theorem neverF_mem (out:List Nat) (s:Bs):∀ (l:List Gt) (i:Nat),s∈neverF out l i↔∃ t,∃ h:t<l.length,l[t].name=s∧i+t∉out
 | [],i=>by simp [neverF]
 | g::r,i=>by
  have hs:(∃ t,∃ h:t<(g::r).length,(g::r)[t].name=s∧i+t∉out)↔(g.name=s∧i∉out)∨∃ t,∃ h:t<r.length,r[t].name=s∧i+1+t∉out:=by
   constructor
   ·rintro ⟨t,h,e,hm⟩
    cases t with
    | zero=>exact .inl ⟨e,hm⟩
    | succ t=>exact .inr ⟨t,by simpa using h,e,by rwa [show i+1+t=i+(t+1) by omega]⟩
   ·rintro (⟨e,hm⟩ | ⟨t,h,e,hm⟩)
    ·exact ⟨0,by simp,e,hm⟩
    ·exact ⟨t+1,by simpa using h,e,by rwa [show i+(t+1)=i+1+t by omega]⟩
  rw [hs,neverF]
  split
  ·rename_i h0;rw [neverF_mem out s r (i+1)];exact ⟨.inr,fun h=>h.elim (fun h=>absurd h0 h.2) id⟩
  ·rename_i h0;rw [List.mem_cons,neverF_mem out s r (i+1)];exact ⟨fun h=>h.imp (fun h=>⟨h.symm,h0⟩) id,fun h=>h.imp (fun h=>h.1.symm) id⟩
theorem never_at {c:Ct} (hd:(c.gates.map (·.name)).Nodup) (out:List Nat) {i:Nat} (hi:i<c.gates.length):c.gates[i].name∈neverF out c.gates 0↔i∉out:=by
 rw [neverF_mem];constructor
 ·rintro ⟨t,ht,e,hm⟩
  rw [Nat.zero_add] at hm;rwa [← name_inj hd ht hi e]
 ·intro h;exact ⟨i,hi,rfl,by rwa [Nat.zero_add]⟩
theorem neverF_len (out:List Nat):∀ (l:List Gt) (i:Nat),(neverF out l i).length=((List.range l.length).filter fun t => !out.contains (i+t)).length
 | [],i=>rfl
 | g::r,i=>by
  have ih:=neverF_len out r (i+1);rw [neverF,List.length_cons,List.range_succ_eq_map,List.filter_cons]
  have e:((List.range r.length).map Nat.succ).filter (fun t => !out.contains (i+t))=((List.range r.length).filter fun t => !out.contains (i+1+t)).map Nat.succ:=by
   rw [List.filter_map];congr 1;apply List.filter_congr;intro x _;simp only [Function.comp];rw [show i+Nat.succ x=i+1+x by omega]
  rw [e]
  by_cases h0:i∈out
  ·rw [if_pos h0,if_neg (by simpa using h0),ih,List.length_map]
  ·rw [if_neg h0,if_pos (by simpa using h0),List.length_cons,List.length_cons,ih,List.length_map]
theorem len_compl (N:Nat) (out:List Nat) (hd:out.Nodup) (hl:∀ x∈out,x<N):out.length+((List.range N).filter fun t => !out.contains t).length=N:=by
 have h1:((List.range N).filter fun t=>out.contains t).Perm out:=by
  rw [List.perm_ext_iff_of_nodup (List.nodup_range.filter _) hd];intro a;simp only [List.mem_filter,List.mem_range,List.contains_eq_mem,decide_eq_true_eq];exact ⟨fun h=>h.2,fun h=>⟨hl a h,h⟩⟩
 have h2:∀ l:List Nat,(l.filter fun t=>out.contains t).length+(l.filter fun t => !out.contains t).length=l.length:=by
  intro l
  induction l with
  | nil=>rfl
  | cons a l ih =>
   rw [List.filter_cons,List.filter_cons]
   cases h:out.contains a <;> simp at ih ⊢ <;> omega
 have:=h2 (List.range N);rw [h1.length_eq,List.length_range] at this;exact this
theorem never_len (c:Ct):(sortC c).length+(neverF (sortC c) c.gates 0).length=c.gates.length:=by
 rw [neverF_len];simp only [Nat.zero_add];exact len_compl _ _ (sortC_nodup c) (sortC_lt c)
end Go.Proofs.YtpkngebjapfibaaDoor
namespace Go.Proofs.YtpkngebjapfibaaDoor
open Go.AM Go.Proofs
variable {Γ : Nat → Option AV}
abbrev hOW (c:Ct) (l:List Nat) (nv seen:List Bs) (g:Gt):List Ob:=[.cells (AV.cells (eCt c)),.row 1 t_int (l.map iN) none true true,.row 1 t_string (nv.map .str) none true true,.row 1 t_string (seen.map .str) none true false,
 .cells (AV.cells (eGt g)),.row 1 t_string [] none true false,.row 1 t_string [] none true false]
set_option maxRecDepth 8000 in
theorem r_OW22 (c:Ct) (hc:CtFew c) (l:List Nat) (nv seen:List Bs) (g:Gt) (hgl:g.ins.length<2^10) (hsl:seen.length<2^40) (hin:∀ s∈g.ins,(c.inputs.length+c.latches.length:Int)≤placeC c s→seen.contains s=true) (i:Nat):∀ n k:Nat,k+n=g.ins.length →
  AM.Reach Tryd.prog Γ (ycs (.ptr 0 0) (.bool true) (.list false 1 (l.map iN)) (.list false 1 (nv.map .str)) (.sl 3 0 seen.length) (.int .i64 i) (.ptr 4 0) (.int .i64 k) (hOW c l nv seen g) ⟨[],.norm,0,[]⟩)
   (yct (.ptr 0 0) (.bool true) (.list false 1 (l.map iN)) (.list false 1 (nv.map .str)) (.sl 3 0 seen.length) (.int .i64 i) (.ptr 4 0) (hOW c l nv seen g) ⟨[],.norm,0,[]⟩):=by
 have b0:=hc.1;have b2:=hc.2.2.1;intro n
 induction n with
 | zero =>
  intro k hk
  have q1:¬ k<g.ins.length:=by omega
  refine .goS 60 ?_;simp [q1];exact .exit rfl rfl
 | succ n ih =>
  intro k hk
  have q1:k<g.ins.length:=by omega
  have q2:=eq_true (g.hi.of q1);have hP:=p_Place (Γ:=Γ) c hc g.ins[k];have hH:=p_r01_Has (Γ:=Γ) seen g.ins[k] (k:=1) .self hsl;have hi1:=hin _ (List.getElem_mem q1)
  by_cases h0:(c.inputs.length+c.latches.length:Int)≤placeC c g.ins[k]
  ·rw [hi1 h0] at hH;have hh:=ih (k+1) (by omega);refine .goS 60 ?_;simp [q1,q2];refine .drS 60 ?_;simp (disch:=omega) [q1,q2];refine DRC.call (by simp) hP ?_;simp (disch:=omega) [q1,q2,h0];refine DRC.call (by simp) hH ?_;simp (disch:=omega) [q1,q2,h0];refine .reLoop ?_;simp at hh ⊢;exact hh
  ·have hh:=ih (k+1) (by omega);refine .goS 60 ?_;simp [q1,q2];refine .drS 60 ?_;simp (disch:=omega) [q1,q2];refine DRC.call (by simp) hP ?_;simp (disch:=omega) [q1,q2,h0];refine .reLoop ?_;simp at hh ⊢;exact hh
abbrev hOV (c:Ct) (l:List Nat) (nv seen:List Bs):List Ob:=[.cells (AV.cells (eCt c)),.row 1 t_int (l.map iN) none true true,.row 1 t_string (nv.map .str) none true true,.row 1 t_string (seen.map .str) none true false]
def anyI (nv:List Bs):List Bs→Bool→Bool
 | [],b=>b
 | s::r,b=>anyI nv r (b||nv.contains s)
theorem anyI_true (nv:List Bs):∀ l:List Bs,anyI nv l true=true
 | []=>rfl
 | s::r=>by rw [anyI,Bool.true_or,anyI_true nv r]
theorem anyI_is (nv:List Bs):∀ l:List Bs,anyI nv l false=true↔∃ s∈l,s∈nv
 | []=>by simp [anyI]
 | s::r=>by
  rw [anyI,Bool.false_or]
  cases h:nv.contains s with
  | true =>
   rw [anyI_true];simp only [List.contains_eq_mem,decide_eq_true_eq] at h;simp [h]
  | false =>
   rw [anyI_is nv r];simp only [List.contains_eq_mem,decide_eq_false_iff_not] at h;simp [h]
set_option maxRecDepth 8000 in
theorem r_OW6 (c:Ct) (l:List Nat) (nv seen:List Bs) (g:Gt) (hgl:g.ins.length<2^10) (hsl:nv.length<2^40) (i:Nat):∀ n k:Nat,k+n=g.ins.length→∀ w:Bool,
  AM.Reach Tryd.prog Γ (ycn (.ptr 0 0) (.bool true) (.list false 1 (l.map iN)) (.list false 1 (nv.map .str)) (.sl 3 0 seen.length) (.int .i64 i) (.ptr 4 0) (.bool w) (.int .i64 k) (hOW c l nv seen g) ⟨[],.norm,0,[]⟩)
   (yco (.ptr 0 0) (.bool true) (.list false 1 (l.map iN)) (.list false 1 (nv.map .str)) (.sl 3 0 seen.length) (.int .i64 i) (.ptr 4 0) (.bool (anyI nv (g.ins.drop k) w)) (hOW c l nv seen g) ⟨[],.norm,0,[]⟩):=by
 intro n
 induction n with
 | zero =>
  intro k hk w
  have q1:¬ k<g.ins.length:=by omega
  rw [List.drop_eq_nil_of_le (by omega),anyI];refine .goS 60 ?_;simp [q1];exact .exit rfl rfl
 | succ n ih =>
  intro k hk w
  have q1:k<g.ins.length:=by omega
  have q2:=eq_true (g.hi.of q1);have hH:=p_r01_Has (Γ:=Γ) nv g.ins[k] (k:=1) .self hsl;have hh:=ih (k+1) (by omega) (w||nv.contains g.ins[k]);rw [List.drop_eq_getElem_cons q1,anyI]
  cases w with
  | true =>
   refine .goS 60 ?_;simp (disch:=omega) [q1,q2];refine .reLoop ?_;simp at hh ⊢;exact hh
  | false =>
   refine .goS 60 ?_;simp (disch:=omega) [q1,q2];refine .callS 60 (by simp) hH ?_;simp (disch:=omega) [q1,q2];refine .reLoop ?_;simp at hh ⊢;exact hh
set_option maxRecDepth 8000 in
theorem f_OW1 (c:Ct) (hc:CtFew c) (l:List Nat) (nv seen:List Bs) (hsl:nv.length<2^40) (hse:seen.length<2^40) (hx:∀ i (h:i<c.gates.length),nv.contains c.gates[i].name = !seen.contains c.gates[i].name) (hw:∀ i (h:i<c.gates.length),nv.contains c.gates[i].name=true→anyI nv c.gates[i].ins false=true) (hlen:l.length+nv.length=c.gates.length):∀ n i:Nat,i+n=c.gates.length →
  Fins Tryd.prog Γ (ycq (.ptr 0 0) (.bool true) (.list false 1 (l.map iN)) (.list false 1 (nv.map .str)) (.sl 3 0 seen.length) (.int .i64 i) (hOV c l nv seen) ⟨[],.norm,0,[]⟩) (.ret (.bool true)):=by
 have hN:=hc.2.2.2.1;intro n
 induction n with
 | zero =>
  intro i hi
  have q1:¬ i<c.gates.length:=by omega
  have e:(l.length:Int)+nv.length=c.gates.length:=by omega
  refine .go 60 ?_;simp (disch:=omega) [q1,e];exact .back (by simp)
 | succ n ih =>
  intro i hi
  have q1:i<c.gates.length:=by omega
  have q2:=eq_true (c.hG.of q1);have hgl:=(hc.2.2.2.2.1 _ (List.getElem_mem q1)).2.1;have h6:=r_OW6 (Γ:=Γ) c l nv seen c.gates[i] hgl hsl i c.gates[i].ins.length 0 (by omega) false;have hA:=p_r01_Has (Γ:=Γ) nv c.gates[i].name (k:=1) .self hsl;have hB:=p_r01_Has (Γ:=Γ) seen c.gates[i].name (k:=1) .self hse;have hh:=ih (i+1) (by omega);have x1:=hx i q1;have w1:=hw i q1;rw [List.drop_zero] at h6;refine .go 60 ?_;simp [q1,q2];refine .inLoop ?_;simp at h6 ⊢;refine .reach h6 ?_
  cases ha:nv.contains c.gates[i].name with
  | true =>
   rw [ha] at x1 hA
   have x2:seen.contains c.gates[i].name=false:=by simpa using x1.symm
   rw [x2] at hB;have w2:=w1 ha;rw [w2];refine .go 60 ?_;simp;refine .dr 60 ?_;simp;refine DRC.call (by simp) hA ?_;simp;refine DRC.call (by simp) hB ?_;simp;refine DRC.call (by simp) hA ?_;simp (disch:=omega);refine .reLoop ?_;simp;refine .drop 4 rfl (by simp) (by simp) (by simp) ?_;simp at hh ⊢;exact hh
  | false =>
   rw [ha] at x1 hA
   have x2:seen.contains c.gates[i].name=true:=by simpa using x1.symm
   rw [x2] at hB;refine .go 60 ?_;simp;refine .dr 60 ?_;simp;refine DRC.call (by simp) hA ?_;simp;refine DRC.call (by simp) hB ?_;simp;refine DRC.call (by simp) hA ?_;simp (disch:=omega);refine .reLoop ?_;simp;refine .drop 4 rfl (by simp) (by simp) (by simp) ?_;simp at hh ⊢;exact hh
theorem right_names' {c:Ct} (ok:CtOk c):(c.gates.map (·.name)).Nodup:=by
 have:=ok.nodup;rw [netsC,List.nodup_append] at this;exact this.2.1
def nmG (c:Ct) (a:Nat):Bs:=match c.gates[a]? with
 | some g=>g.name
 | none=>[]
theorem nmG_at {c:Ct} {a:Nat} (h:a<c.gates.length):nmG c a=c.gates[a].name:=by simp [nmG,h]
theorem nets_gate (c:Ct) {x:Nat} (hx:x<c.gates.length):(netsC c)[c.inputs.length+c.latches.length+x]'(by simp [netsC]; omega)=c.gates[x].name:=by
 simp only [netsC];rw [List.getElem_append_right (by simp)];simp
theorem place_gate {c:Ct} (ok:CtOk c) {x:Nat} (hx:x<c.gates.length):placeC c c.gates[x].name=((c.inputs.length+c.latches.length+x:Nat):Int):=by
 have:=place_at ok (k:=c.inputs.length+c.latches.length+x) (by simp [netsC]; omega);rwa [nets_gate c hx] at this
theorem place_is {c:Ct} (ok:CtOk c) {s:Bs} (h:(c.inputs.length+c.latches.length:Int)≤placeC c s):∃ x,∃ hx:x<c.gates.length,c.gates[x].name=s:=by
 by_cases hs:s∈netsC c
 ·obtain ⟨k,hk,rfl⟩:=List.getElem_of_mem hs;rw [place_at ok hk] at h
  have hk2:k<c.inputs.length+c.latches.length+c.gates.length:=by
   have:k<c.inputs.length+(c.latches.length+c.gates.length):=by simpa [netsC] using hk
   omega
  have hk3:c.inputs.length+c.latches.length≤k:=by omega
  obtain ⟨x,rfl⟩:∃ x,k=c.inputs.length+c.latches.length+x:=⟨k - (c.inputs.length+c.latches.length),by omega⟩;exact ⟨x,by omega,(nets_gate c (by omega)).symm⟩
 ·rw [place_no hs] at h; omega
set_option maxRecDepth 8000 in
theorem f_OW16 (c:Ct) (hc:CtFew c) (ok:CtOk c) (nv:List Bs) (hsl:nv.length<2^40) (hx:∀ i (h:i<c.gates.length),nv.contains c.gates[i].name = !((sortC c).map (nmG c)).contains c.gates[i].name) (hw:∀ i (h:i<c.gates.length),nv.contains c.gates[i].name=true→anyI nv c.gates[i].ins false=true) (hlen:(sortC c).length+nv.length=c.gates.length):∀ n i:Nat,i+n=(sortC c).length →
  Fins Tryd.prog Γ (ycv (.ptr 0 0) (.bool true) (.list false 1 ((sortC c).map iN)) (.list false 1 (nv.map .str)) (.sl 3 0 ((sortC c).take i).length) (.int .i64 i) (hOV c (sortC c) nv (((sortC c).take i).map (nmG c))) ⟨[],.norm,0,[]⟩) (.ret (.bool true)):=by
 have hN:=hc.2.2.2.1;have hsc:=sortC_lt20 hc;have hlt:=sortC_lt c;have hnd:=sortC_nodup c
 have hat:=fun i hi x hx=>sortC_at c (i:=i) hi (x:=x) hx
 generalize sortC c=l at *
 have hll:l.length≤c.gates.length:=by omega
 intro n
 induction n with
 | zero =>
  intro i hi
  have q1:¬ i<l.length:=by omega
  have hh:=f_OW1 (Γ:=Γ) c hc l nv (l.map (nmG c)) hsl (by simp; omega) hx hw hlen c.gates.length 0 (by omega);rw [List.take_of_length_le (by omega)];refine .go 60 ?_;simp [q1];refine .inLoop ?_;simp at hh ⊢;exact hh
 | succ n ih =>
  intro i hi
  have q1:i<l.length:=by omega
  have hh:=ih (i+1) (by omega);have ha:=hlt _ (List.getElem_mem q1);have q2:=eq_true (c.hG.of ha)
  have hin:∀ s∈c.gates[l[i]].ins,(c.inputs.length+c.latches.length:Int)≤placeC c s→((l.take i).map (nmG c)).contains s=true:=fun s hs hp=>by
   obtain ⟨x,hx,rfl⟩:=place_is ok hp;have:=hat i q1 x ((inK_eq ha hx).2 hs);simp only [List.contains_eq_mem,decide_eq_true_eq,List.mem_map];exact ⟨x,this,nmG_at hx⟩
  have hno:((l.take i).map (nmG c)).contains c.gates[l[i]].name=false:=by
   simp only [List.contains_eq_mem,decide_eq_false_iff_not,List.mem_map]
   rintro ⟨x,hx,he⟩
   have hxl:=hlt x (List.mem_of_mem_take hx);rw [nmG_at hxl] at he;have:=name_inj (right_names' ok) hxl ha he;subst this;obtain ⟨j,hj,hje⟩:=List.getElem_of_mem hx;rw [List.getElem_take] at hje;have:=(List.getElem_inj hnd).1 hje
   simp at hj; omega
  have e1:(l.take (i+1)).map (nmG c)=(l.take i).map (nmG c)++[c.gates[l[i]].name]:=by
   rw [List.take_succ_eq_append_getElem q1,List.map_append];simp [nmG_at ha]
  have e2:(l.take (i+1)).length=(l.take i).length+1:=by simp; omega
  have hgl:=(hc.2.2.2.2.1 _ (List.getElem_mem ha)).2.1;have h22:=r_OW22 (Γ:=Γ) c hc l nv ((l.take i).map (nmG c)) c.gates[l[i]] hgl (by simp; omega) hin i c.gates[l[i]].ins.length 0 (by omega);have hH:=p_r01_Has (Γ:=Γ) ((l.take i).map (nmG c)) c.gates[l[i]].name (k:=1) .self (by simp; omega);rw [hno] at hH;rw [e1,e2] at hh
  have gl:(l.map iN)[i]? = some (.int .i64 (l[i]:Nat)):=by simp [q1]
  have htl:(l.take i).length≤i:=by simp; omega
  have hsm:((l.take i).map (nmG c)).length=(l.take i).length:=by simp
  rw [hsm] at h22;generalize (l.take i).map (nmG c)=seen at *;generalize (l.take i).length=m at *;have n1:((l[i]:Int)<0)=False:=eq_false (by omega);have n2:(c.gates.length≤l[i])=False:=eq_false (by omega);refine .go 60 ?_;simp [q1,q2,ha,n1,n2];refine .dr 60 ?_;simp [q1,q2,ha];refine .inLoop ?_;simp at h22 ⊢;refine .reach h22 ?_;refine .go 60 ?_;simp;have htk:(seen.map AV.str).take m=seen.map AV.str:=List.take_of_length_le (by simp; omega);refine .call 60 (by simp [hsm,htk]) hH ?_
  have hle:((m:Int)+1)*16≤140737488355328:=by omega
  simp (disch:=omega) [hle,hsm];refine .reLoop ?_;simp;refine .drop 4 rfl (by simp) (by simp) (by simp) ?_;refine .reset (i:=3) rfl (by simp) (by simp [hsm]) (by simp) ?_;simp [hOV] at hh ⊢;exact hh
set_option maxRecDepth 8000 in
theorem l_OrderWaits (hΓ:InsG Γ) (c:Ct) (hb:CtB c):PureCon Tryd.prog Γ n_w07_OrderWaits [eCt c] (.bool true):=by
 have hC:=p_CheckB hΓ c hb;have hS:=p_SortO hΓ c hb;have hF:=p_Few (Γ:=Γ) c;refine .run 90 c_w07_OrderWaits (by simp) ?_;simp;refine .call 90 (by simp) (p_worksO hΓ) ?_;simp;refine .call 90 (by simp) hF ?_
 cases hf:fewC c with
 | false =>
  generalize checkC c=r at *;obtain ⟨e,s⟩:=r;simp;refine .call 90 (by simp) hC ?_;simp;exact .back (by simp)
 | true =>
  by_cases h0:(checkC c).1=0
  ·have hr:rightC c=true:=decide_eq_true h0;obtain ⟨ok,h1⟩:=right_ok hr;have hc:=few_net hf;have hd:=right_names hr;rw [h1] at hC
   have hSo:sortO c=sortC c:=by simp [sortO,hr]
   have hNo:neverO c=neverF (sortC c) c.gates 0:=by simp [neverO,hr]
   rw [hSo,hNo] at hS;have hlen:=never_len c;have hN:=hc.2.2.2.1
   have hsn:∀ i (h:i<c.gates.length),((sortC c).map (nmG c)).contains c.gates[i].name=true↔i∈sortC c:=fun i h=>by
    simp only [List.contains_eq_mem,decide_eq_true_eq,List.mem_map];constructor
    ·rintro ⟨x,hx,he⟩
     have hxl:=sortC_lt c x hx;rw [nmG_at hxl] at he;rwa [← name_inj hd hxl h he]
    ·intro hi;exact ⟨i,hi,nmG_at h⟩
   have hnn:∀ i (h:i<c.gates.length),(neverF (sortC c) c.gates 0).contains c.gates[i].name=true↔i∉sortC c:=fun i h=>by
    simp only [List.contains_eq_mem,decide_eq_true_eq];exact never_at hd _ h
   have hx:∀ i (h:i<c.gates.length),(neverF (sortC c) c.gates 0).contains c.gates[i].name = !((sortC c).map (nmG c)).contains c.gates[i].name:=fun i h=>by
    rw [Bool.eq_iff_iff,hnn i h,Bool.not_eq_true',← Bool.not_eq_true,hsn i h]
   have hw:∀ i (h:i<c.gates.length),(neverF (sortC c) c.gates 0).contains c.gates[i].name=true→anyI (neverF (sortC c) c.gates 0) c.gates[i].ins false=true:=fun i h hi=>by
    obtain ⟨x,hx1,hx2⟩:=sortC_never c h ((hnn i h).1 hi);obtain ⟨_,hxl⟩:=inK_lt hx1;exact (anyI_is _ _).2 ⟨_,(inK_eq h hxl).1 hx1,(never_at hd _ hxl).2 hx2⟩
   have hh:=f_OW16 (Γ:=Γ) c hc ok (neverF (sortC c) c.gates 0) (by omega) hx hw hlen (sortC c).length 0 (by omega);generalize neverF (sortC c) c.gates 0=nv at *;generalize sortC c=l at *;simp;refine .call 90 (by simp) hC ?_;simp;refine .call 90 (by simp) hS ?_;simp;refine .trees [7,8] ?_;simp;refine .inLoop ?_;simp at hh ⊢;exact hh
  ·generalize checkC c=r at *;obtain ⟨e,s⟩:=r;simp only at h0;simp;refine .call 90 (by simp) hC ?_;simp [h0];exact .back (by simp)
theorem relv_get (a:Nat):∀ (r lv:List Nat) (i:Nat),r.Nodup→a∉r→i<lv.length→(relv a r lv).getD i 0=if i∈r then max (lv.getD i 0) (lv.getD a 0+1) else lv.getD i 0
 | [],lv,i,_,_,_=>by simp [relv]
 | j::r,lv,i,hr,ha,hi=>by
  rw [List.nodup_cons] at hr;simp only [List.mem_cons,not_or] at ha
  have hg:∀ k,(lv.set j (max (lv.getD j 0) (lv.getD a 0+1))).getD k 0=if j=k∧k<lv.length then max (lv.getD j 0) (lv.getD a 0+1) else lv.getD k 0:=fun k=>by
   simp only [List.getD_eq_getElem?_getD,List.getElem?_set]
   by_cases h1:j=k
   ·subst h1
    by_cases h2:j<lv.length
    ·simp [h2]
    ·simp [h2]
   ·simp [h1]
  have e1:=hg a;have e2:=hg i;rw [if_neg (fun h=>ha.1 h.1.symm)] at e1;rw [relv,relv_get a r _ i hr.2 ha.2 (by simpa using hi),e1,e2]
  by_cases hij:j=i
  ·subst hij;rw [if_neg hr.1,if_pos ⟨rfl,hi⟩,if_pos (by simp)]
  ·have hne:¬ i=j:=fun h=>hij h.symm
   have e3:¬ (j=i∧i<lv.length):=fun h=>hij h.1
   simp only [if_neg e3]
   by_cases h3:i∈r
   ·rw [if_pos h3,if_pos (by simp [h3])]
   ·rw [if_neg h3,if_neg (by simp [h3,hne])]
structure LevI (c:Ct) (p:List Nat) (s:List Nat×List Nat):Prop where
 len:s.1.length=c.gates.length
 cm:∀ x,x∈s.2↔x∈p
 ge:∀ i<c.gates.length,∀ a∈p,inK c i a=true→s.1.getD a 0+1≤s.1.getD i 0
 eq:∀ i<c.gates.length,s.1.getD i 0=0∨∃ a∈p,inK c i a=true∧s.1.getD i 0=s.1.getD a 0+1
theorem putM_mem (k x:Nat) (l:List Nat):x∈putM k l↔x∈l∨x=k:=by
 unfold putM
 split
 ·rename_i h;exact ⟨.inl,fun h1=>h1.elim id fun h1=>h1▸h⟩
 ·simp
theorem LevI.step {c:Ct} (hd:(c.gates.map (·.name)).Nodup) {p:List Nat} {s:List Nat×List Nat} (h:LevI c p s) (hall:∀ i∈p,∀ x,inK c i x=true→x∈p) {a:Nat} (ha:a<c.gates.length) (hm:mayB c p a=true):LevI c (p++[a]) (levS c s a):=by
 obtain ⟨hap,haa⟩:=mayB_is.1 hm
 have hab:a∉(bysC c).getD a []:=fun hb=>hap (haa a ((bysC_mem hd ha a).1 hb))
 have hg:∀ i<c.gates.length,(levS c s a).1.getD i 0=if inK c i a=true then max (s.1.getD i 0) (s.1.getD a 0+1) else s.1.getD i 0:=fun i hi=>by
  rw [levS,relv_get a _ _ i (bysC_nodup c ha) hab (by rw [h.len]; exact hi)];simp only [bysC_mem hd ha i]
 have hsame:∀ x∈p,x<c.gates.length→(levS c s a).1.getD x 0=s.1.getD x 0:=fun x hx hxl=>by
  rw [hg x hxl,if_neg fun hk=>hap (hall x hx a hk)]
 have hsa:(levS c s a).1.getD a 0=s.1.getD a 0:=by rw [hg a ha,if_neg fun hk=>hap (haa a hk)]
 refine ⟨by rw [levS,relv_len]; exact h.len,fun x => ?_,fun i hi x hx hk => ?_,fun i hi => ?_⟩
 ·rw [levS];simp only [putM_mem,h.cm,List.mem_append,List.mem_singleton]
 ·rcases List.mem_append.1 hx with hx | hx
  ·have:=h.ge i hi x hx hk;rw [hsame x hx (inK_lt hk).2,hg i hi]
   split <;> omega
  ·rw [List.mem_singleton] at hx;subst hx
   rw [hsa,hg i hi,if_pos hk]; omega
 ·rw [hg i hi]
  by_cases hk:inK c i a=true
  ·rw [if_pos hk]
   rcases Nat.le_total (s.1.getD i 0) (s.1.getD a 0+1) with hle | hle
   ·exact .inr ⟨a,by simp,hk,by rw [hsa]; omega⟩
   ·rcases h.eq i hi with h0 | ⟨x,hx,hkx,he⟩
    ·omega
    ·exact .inr ⟨x,by simp [hx],hkx,by rw [hsame x hx (inK_lt hkx).2]; omega⟩
  ·rw [if_neg hk]
   rcases h.eq i hi with h0 | ⟨x,hx,hkx,he⟩
   ·exact .inl h0
   ·exact .inr ⟨x,by simp [hx],hkx,by rw [hsame x hx (inK_lt hkx).2]; exact he⟩
theorem levels_inv {c:Ct} (hd:(c.gates.map (·.name)).Nodup):LevI c (sortC c) (levelsN c):=by
 have key:∀ (q p:List Nat) (s:List Nat×List Nat),sortC c=p++q→LevI c p s→LevI c (p++q) (q.foldl (levS c) s):=by
  intro q
  induction q with
  | nil=>intro p s _ h; simpa using h
  | cons a q ih =>
   intro p s he h;have hm:=(sortC_pos c he).1;have ha:=sortC_lt c a (by rw [he]; simp)
   have hall:∀ i∈p,∀ x,inK c i x=true→x∈p:=fun i hi x hx=>by
    obtain ⟨p1,p2,rfl⟩:=List.append_of_mem hi;have:=(mayB_is.1 (sortC_pos c (p:=p1) (q:=p2++a::q) (a:=i) (by rw [he]; simp)).1).2 x hx;simp [this]
   have:=ih (p++[a]) (levS c s a) (by rw [he]; simp) (h.step hd hall ha hm);simpa using this
 have:=key (sortC c) [] (List.replicate c.gates.length 0,[]) rfl ⟨by simp,by simp,by simp,fun i hi=>.inl (by simp [hi])⟩;simpa [levelsN] using this
def insM (c:Ct) (lv:List Nat):List Bs→Nat→Nat
 | [],n=>n
 | s::r,n=>match getM s (plM c) with
  | none=>insM c lv r n
  | some x=>insM c lv r (max n (lv.getD x 0+1))
theorem insM_ge (c:Ct) (lv:List Nat):∀ (l:List Bs) (n:Nat),n≤insM c lv l n∧∀ s∈l,∀ x,getM s (plM c)=some x→lv.getD x 0+1≤insM c lv l n
 | [],n=>⟨Nat.le_refl _,by simp⟩
 | s::r,n=>by
  rw [insM]
  split
  ·rename_i h0;obtain ⟨h1,h2⟩:=insM_ge c lv r n;refine ⟨h1,fun t ht x hx => ?_⟩
   rcases List.mem_cons.1 ht with rfl | ht
   ·rw [h0] at hx; cases hx
   ·exact h2 t ht x hx
  ·rename_i y h0;obtain ⟨h1,h2⟩:=insM_ge c lv r (max n (lv.getD y 0+1));refine ⟨by omega,fun t ht x hx => ?_⟩
   rcases List.mem_cons.1 ht with rfl | ht
   ·rw [h0] at hx; cases hx; omega
   ·exact h2 t ht x hx
theorem insM_le (c:Ct) (lv:List Nat) (B:Nat):∀ (l:List Bs) (n:Nat),n≤B→(∀ s∈l,∀ x,getM s (plM c)=some x→lv.getD x 0+1≤B)→insM c lv l n≤B
 | [],n,h,_=>h
 | s::r,n,h,h2=>by
  rw [insM]
  split
  ·exact insM_le c lv B r n h fun t ht=>h2 t (by simp [ht])
  ·rename_i y h0;have:=h2 s (by simp) y h0
   exact insM_le c lv B r _ (by omega) fun t ht=>h2 t (by simp [ht])
theorem levels_is {c:Ct} (hd:(c.gates.map (·.name)).Nodup) (hall:∀ i<c.gates.length,i∈sortC c) {i:Nat} (hi:i<c.gates.length):insM c (levelsN c).1 c.gates[i].ins 0=(levelsN c).1.getD i 0:=by
 have h:=levels_inv hd
 have hk:∀ s∈c.gates[i].ins,∀ x,getM s (plM c)=some x→inK c i x=true:=fun s hs x hx=>by
  obtain ⟨h1,rfl⟩:=(plM_is hd).1 hx;exact (inK_eq hi h1).2 hs
 apply Nat.le_antisymm
 ·refine insM_le c _ _ _ _ (Nat.zero_le _) fun s hs x hx => ?_
  exact h.ge i hi x (hall x (inK_lt (hk s hs x hx)).2) (hk s hs x hx)
 ·rcases h.eq i hi with h0 | ⟨a,ha,hka,he⟩
  ·omega
  ·obtain ⟨_,hal⟩:=inK_lt hka;rw [he];exact (insM_ge c _ _ 0).2 _ ((inK_eq hi hal).1 hka) a ((plM_is hd).2 ⟨hal,rfl⟩)
theorem levelsC_is {c:Ct} (hd:(c.gates.map (·.name)).Nodup) (hall:∀ i<c.gates.length,i∈sortC c):levelsC c=(levelsN c).1.map (fun n:Nat=>(n:Int)):=by
 have h:=levels_inv hd;apply List.ext_getElem?;intro j;unfold levelsC
 by_cases hj:j<c.gates.length
 ·have hj2:j<(levelsN c).1.length:=by rw [h.len]; exact hj
  have hcm:j∈(levelsN c).2:=(h.cm j).2 (hall j hj);simp [hj,levI,hcm,hj2]
 ·have hj2:(levelsN c).1.length≤j:=by rw [h.len]; omega
  simp [hj,hj2]
theorem levels_bnd (c:Ct) (hc:CtFew c):∀ x∈(levelsN c).1,x<2^50:=by
 have hl:=sortC_lt20 hc;have hlt:=sortC_lt c
 have key:∀ (q:List Nat) (B:Nat) (s:List Nat×List Nat),(∀ a∈q,a<c.gates.length)→(∀ x∈s.1,x≤B)→∀ x∈(q.foldl (levS c) s).1,x≤B+q.length*2^22:=by
  intro q
  induction q with
  | nil=>intro B s _ h; simpa using h
  | cons a q ih =>
   intro B s hq h x hx;rw [List.foldl_cons] at hx;have ha:=hq a (by simp)
   have hb:=(bysC_bnd hc ((bysC c).getD a []) (by
    rw [List.getD_eq_getElem?_getD,List.getElem?_eq_getElem (by rw [bysC_len]; exact ha)]
    exact List.getElem_mem _)).1
   have:=ih (B+2^22) (levS c s a) (fun y hy=>hq y (by simp [hy])) (fun y hy=>by
    have:=relv_le a B _ _ h y hy
    omega) x hx
   rw [List.length_cons,Nat.succ_mul]; omega
 intro x hx;have:=key (sortC c) 0 (List.replicate c.gates.length 0,[]) hlt (by simp) x hx;omega
set_option maxRecDepth 8000 in
theorem r_OL6 (c:Ct) (hc:CtFew c) (ok:CtOk c) (lv:List Nat) (hl:lv.length=c.gates.length) (hB:∀ x∈lv,x<2^50) (i:Nat) (hi:i<c.gates.length) (H:List Ob) (hH:H[0]? = some (.cells (AV.cells (eCt c)))):∀ n k:Nat,k+n=c.gates[i].ins.length→∀ m:Nat,
  AM.Reach Tryd.prog Γ (ydi (.ptr 0 0) (.bool true) (.list false 1 (lv.map iN)) (.int .i64 (c.inputs.length+c.latches.length:Nat)) (.int .i64 i) (.int .i64 m) (.int .i64 k) H ⟨[],.norm,0,[]⟩)
   (ydj (.ptr 0 0) (.bool true) (.list false 1 (lv.map iN)) (.int .i64 (c.inputs.length+c.latches.length:Nat)) (.int .i64 i) (.int .i64 (insM c lv (c.gates[i].ins.drop k) m)) H ⟨[],.norm,0,[]⟩):=by
 have b0:=hc.1;have b2:=hc.2.2.1;have b4:=hc.2.2.2.1;have hd:=right_names' ok;have hgl:=(hc.2.2.2.2.1 _ (List.getElem_mem hi)).2.1;have p1:=eq_true (c.hG.of hi);intro n
 induction n with
 | zero =>
  intro k hk m
  have q1:¬ k<c.gates[i].ins.length:=by omega
  rw [List.drop_eq_nil_of_le (by omega),insM];refine .goS 60 ?_;simp [q1,hH,hi,p1];exact .exit rfl rfl
 | succ n ih =>
  intro k hk m
  have q1:k<c.gates[i].ins.length:=by omega
  have q2:=eq_true (c.gates[i].hi.of q1);have hP:=p_Place (Γ:=Γ) c hc c.gates[i].ins[k];rw [List.drop_eq_getElem_cons q1,insM]
  cases hx:getM c.gates[i].ins[k] (plM c) with
  | none =>
   have hh:=ih (k+1) (by omega) m
   have hneg:placeC c c.gates[i].ins[k]<(c.inputs.length+c.latches.length:Int):=by
    refine Int.not_le.1 fun hle => ?_
    obtain ⟨x,hxl,he⟩:=place_is ok hle;have:=(plM_is hd).2 ⟨hxl,he⟩
    rw [hx] at this; cases this
   have hlow : -1≤placeC c c.gates[i].ins[k]:=by
    by_cases hs:c.gates[i].ins[k]∈netsC c
    ·have:=place_ge hs; omega
    ·rw [place_no hs]; omega
   have hz0:((c.inputs.length:Int)+c.latches.length≤placeC c c.gates[i].ins[k])=False:=eq_false (by omega);refine .goS 60 ?_;simp [q1,q2,hH,hi,p1];refine .drS 60 ?_;simp (disch:=omega) [q1,q2,hH,hi,p1];refine DRC.call (by simp) hP ?_;simp (disch:=omega) [hz0];refine .reLoop ?_;simp at hh ⊢;exact hh
  | some x =>
   obtain ⟨hxl,he⟩:=(plM_is hd).1 hx;have hh:=ih (k+1) (by omega) (max m (lv.getD x 0+1));have hpl:=place_gate ok hxl;rw [he] at hpl;rw [hpl] at hP
   have hxB:lv.getD x 0<2^50:=by
    rw [List.getD_eq_getElem?_getD,List.getElem?_eq_getElem (by omega)];exact hB _ (List.getElem_mem _)
   have gx:(lv.map iN)[x]? = some (.int .i64 (lv.getD x 0:Nat)):=get_iN (by omega);obtain ⟨_,gx'⟩:=List.getElem?_eq_some_iff.1 gx
   have hEl:(lv.map iN).length=c.gates.length:=by simpa using hl
   have z1:((c.inputs.length+c.latches.length+x:Nat):Int) - (c.inputs.length+c.latches.length)=(x:Int):=by omega
   have hmx:maxA (.int .i64 m) [.int .i64 ((lv.getD x 0:Int)+1)]=some (.int .i64 (max m (lv.getD x 0+1):Nat)):=by
    simp only [maxA,if_pos]
    rw [← maxI]; rfl
   simp only [Int.natCast_add] at z1;dsimp only;generalize hE:lv.map iN=E at *;generalize lv.getD x 0=v at *;generalize max m (v+1)=mx at *;refine .goS 60 ?_;simp [q1,q2,hH,hi,p1];refine .drS 60 ?_;simp (disch:=omega) [q1,q2,hH,hi,p1];refine DRC.call (by simp) hP ?_;simp (disch:=omega) [z1,hxl,gx,gx',hEl,hl,ofCells,hmx];refine .reLoop ?_;simp at hh ⊢;exact hh
set_option maxRecDepth 8000 in
theorem f_OL1 (c:Ct) (hc:CtFew c) (ok:CtOk c) (lv:List Nat) (hl:lv.length=c.gates.length) (hB:∀ x∈lv,x<2^50) (his:∀ i (h:i<c.gates.length),insM c lv c.gates[i].ins 0=lv.getD i 0) (H:List Ob) (hH:H[0]? = some (.cells (AV.cells (eCt c)))):∀ n i:Nat,i+n=c.gates.length →
  Fins Tryd.prog Γ (ydl (.ptr 0 0) (.bool true) (.list false 1 (lv.map iN)) (.int .i64 (c.inputs.length+c.latches.length:Nat)) (.int .i64 i) H ⟨[],.norm,0,[]⟩) (.ret (.bool true)):=by
 have hN:=hc.2.2.2.1;intro n
 induction n with
 | zero =>
  intro i hi
  have q1:¬ i<c.gates.length:=by omega
  refine .go 60 ?_;simp [q1,hl];exact .back (by simp)
 | succ n ih =>
  intro i hi
  have q1:i<c.gates.length:=by omega
  have hh:=ih (i+1) (by omega);have h6:=r_OL6 (Γ:=Γ) c hc ok lv hl hB i q1 H hH c.gates[i].ins.length 0 (by omega) 0;rw [List.drop_zero,his i q1] at h6;have gx:(lv.map iN)[i]? = some (.int .i64 (lv.getD i 0:Nat)):=get_iN (by omega);obtain ⟨_,gx'⟩:=List.getElem?_eq_some_iff.1 gx
  have hEl:(lv.map iN).length=c.gates.length:=by simpa using hl
  generalize lv.map iN=E at *;generalize lv.getD i 0=v at *;refine .go 60 ?_;simp [q1,hEl];refine .inLoop ?_;simp at h6 ⊢;refine .reach h6 ?_;refine .go 60 ?_;simp (disch:=omega) [q1,gx,gx',hEl,ofCells];refine .reLoop ?_;simp at hh ⊢;exact hh
theorem checkO_no {c:Ct} (h:(checkO c).1=0):rightC c=true∧neverO c=[]∧checkO c=(0,[]):=by
 unfold checkO at h ⊢
 by_cases h0:(checkC c).1=0
 ·rw [if_pos h0] at h ⊢
  cases hn:neverO c with
  | nil=>exact ⟨decide_eq_true h0,rfl,rfl⟩
  | cons s l=>rw [hn] at h; cases h
 ·rw [if_neg h0] at h;exact absurd h h0
theorem all_come {c:Ct} (hr:rightC c=true) (hn:neverO c=[]):∀ i<c.gates.length,i∈sortC c:=fun i hi=>by
 refine Classical.byContradiction fun h => ?_
 have:=(never_at (right_names hr) (sortC c) hi).2 h;rw [neverO,if_pos hr] at hn
 rw [hn] at this; cases this
set_option maxRecDepth 8000 in
theorem l_OrderLevels (hΓ:InsG Γ) (c:Ct) (hb:CtB c):PureCon Tryd.prog Γ n_w07_OrderLevels [eCt c] (.bool true):=by
 have hC:=p_CheckO hΓ c hb;have hS:=p_LevelsO hΓ c hb;have hF:=p_Few (Γ:=Γ) c;refine .run 90 c_w07_OrderLevels (by simp) ?_;simp;refine .call 90 (by simp) (p_worksO hΓ) ?_;simp;refine .call 90 (by simp) hF ?_
 cases hf:fewC c with
 | false =>
  generalize checkO c=r at *;obtain ⟨e,s⟩:=r;simp;refine .call 90 (by simp) hC ?_;simp;exact .back (by simp)
 | true =>
  by_cases h0:(checkO c).1=0
  ·obtain ⟨hr,hn,h1⟩:=checkO_no h0;obtain ⟨ok,_⟩:=right_ok hr;have hc:=few_net hf;have hd:=right_names hr;have hall:=all_come hr hn;have b0:=hc.1;have b2:=hc.2.2.1;rw [h1] at hC
   have hSo:(levelsO c).map (fun z=>AV.int .i64 z)=(levelsN c).1.map iN:=by
    rw [levelsO,if_pos hr,levelsC_is hd hall,List.map_map]; rfl
   rw [hSo] at hS;have hl:=(levels_inv hd).len
   have hH1:∀ H,Fins Tryd.prog Γ (ydl (.ptr 0 0) (.bool true) (.list false 1 ((levelsN c).1.map iN)) (.int .i64 (c.inputs.length+c.latches.length:Nat)) (.int .i64 0) (.cells (AV.cells (eCt c))::H) ⟨[],.norm,0,[]⟩) (.ret (.bool true)):=fun H =>
    f_OL1 (Γ:=Γ) c hc ok (levelsN c).1 hl (levels_bnd c hc) (fun i h=>levels_is hd hall h) _ rfl c.gates.length 0 (by omega)
   generalize (levelsN c).1=lv at *;have htk:(lv.map iN).take c.gates.length=lv.map iN:=List.take_of_length_le (by simp; omega);simp;refine .call 90 (by simp) hC ?_;simp;refine .call 90 (by simp) hS ?_;simp (disch:=omega) [hl];refine .trees [7] ?_;simp [hl,htk];refine .inLoop ?_;have hh:=hH1 [.row 1 t_int (lv.map iN) none true true];simp at hh ⊢;exact hh
  ·generalize checkO c=r at *;obtain ⟨e,s⟩:=r;simp only at h0;simp;refine .call 90 (by simp) hC ?_;simp [h0];exact .back (by simp)
theorem findU_ok (N:List Bs):∀ l:List Bs,(∀ s∈l,s∈N)→findU N l=(0,[])
 | [],_=>rfl
 | a::l,h=>by rw [findU,if_pos (h a (by simp)),findU_ok N l fun s hs=>h s (by simp [hs])]
theorem findG_ok (r:Int×Bs):∀ l:List Gt,(∀ g∈l,gateB g=true)→findG r l=r
 | [],_=>rfl
 | a::l,h=>by rw [findG,if_pos (h a (by simp)),findG_ok r l fun s hs=>h s (by simp [hs])]
theorem findL_ok (r:Int×Bs):∀ l:List Lt,(∀ g∈l,initOk g=true)→findL r l=r
 | [],_=>rfl
 | a::l,h=>by rw [findL,if_pos (h a (by simp)),findL_ok r l fun s hs=>h s (by simp [hs])]
theorem findN_ok (r:Int×Bs):∀ l:List Bs,(∀ g∈l,nameB g=true)→findN r l=r
 | [],_=>rfl
 | a::l,h=>by rw [findN,if_pos (h a (by simp)),findN_ok r l fun s hs=>h s (by simp [hs])]
theorem check_ok {c:Ct} (h:CtOk c):checkC c=(0,[]):=by
 unfold checkC;rw [h.lim,if_neg (by simp),findN_ok _ _ h.names,h.nets,h.outs,findL_ok _ _ h.init,findG_ok _ _ h.gates,findU_ok _ _ h.used];rfl
theorem right_of {c:Ct} (h:CtOk c):rightC c=true:=by rw [rightC,check_ok h]; rfl
theorem twiceS_of:∀ (l seen:List Bs),l.Nodup→(∀ s∈l,s∉seen)→twiceS seen l=none
 | [],_,_,_=>rfl
 | a::l,seen,hn,h=>by
  rw [List.nodup_cons] at hn;rw [twiceS,if_neg (h a (by simp))]
  refine twiceS_of l _ hn.2 fun s hs => ?_
  simp only [List.mem_append,List.mem_singleton,not_or];exact ⟨h s (by simp [hs]),fun he=>hn.1 (he▸hs)⟩
theorem twice_of {l:List Bs} (h:l.Nodup):twiceL l=none:=twiceS_of l [] h (by simp)
theorem anyB_of {α:Type} {p:α→Bool}:∀ {l:List α},(∀ x∈l,p x=false)→anyB p l=false
 | [],_=>by simp
 | a::l,h=>by rw [anyB_cons,h a (by simp),anyB_of fun x hx=>h x (by simp [hx])]; rfl
def withG (c:Ct) (G:List Gt):Ct:=⟨c.inputs,c.outputs,c.latches,G,c.kI,c.kO,c.kL,5,c.hI,c.hO,c.hL,.self⟩
theorem gates_eq {c:Ct} {l:List Nat} (G:List Gt) (hG:∀ i (h:i<l.length) (h2:l[i]<c.gates.length),G[i]? = some c.gates[l[i]]) (hl:G.length=l.length) (hlt:∀ x∈l,x<c.gates.length) (hd:l.Nodup) (hall:∀ i<c.gates.length,i∈l):G.Perm c.gates:=by
 have h1:l.Perm (List.range c.gates.length):=by
  rw [List.perm_ext_iff_of_nodup hd List.nodup_range];intro a;rw [List.mem_range];exact ⟨hlt a,hall a⟩
 have e1:G.map some=l.map fun x=>c.gates[x]? := by
  apply List.ext_getElem?;intro i
  by_cases hi:i<l.length
  ·have h2:=hlt _ (List.getElem_mem hi);rw [List.getElem?_map,hG i hi h2];simp [hi,h2]
  ·rw [List.getElem?_eq_none (by simp; omega),List.getElem?_eq_none (by simp; omega)]
 have e2:c.gates.map some=(List.range c.gates.length).map fun x=>c.gates[x]? := by
  apply List.ext_getElem?;intro i
  by_cases hi:i<c.gates.length
  ·simp [hi]
  ·rw [List.getElem?_eq_none (by simp; omega),List.getElem?_eq_none (by simp; omega)]
 have h2:=h1.map fun x=>c.gates[x]?
 rw [← e1,← e2] at h2;have h3:=h2.filterMap id;simpa [List.filterMap_map] using h3
theorem withG_ok {c:Ct} (ok:CtOk c) {G:List Gt} (hp:G.Perm c.gates):CtOk (withG c G):=by
 have hm:∀ g,g∈G↔g∈c.gates:=fun g=>hp.mem_iff
 have hn:(netsC (withG c G)).Perm (netsC c):=by
  simp only [netsC,withG];exact (List.Perm.refl _).append (hp.map _)
 have hl:=ok.lim;refine ⟨?_,fun s hs=>ok.names s ?_,twice_of (hn.nodup_iff.2 ok.nodup),ok.outs,ok.init,fun g hg=>ok.gates g ((hm g).1 hg),fun s hs=>hn.mem_iff.2 (ok.used s ?_)⟩
 ·simp only [limC,Bool.or_eq_false_iff,decide_eq_false_iff_not] at hl ⊢;refine ⟨anyB_of fun g hg=>anyB_no hl.1 g ((hm g).1 hg),?_,hl.2.2⟩;have:=hp.length_eq
  simp only [withG]; omega
 ·simp only [toldC,toldG,List.mem_append,List.mem_flatMap,withG] at hs ⊢
  refine hs.imp id fun ⟨g,hg,h⟩=>⟨g,(hm g).1 hg,h⟩
 ·simp only [usedC,usedG,List.mem_append,List.mem_flatMap,withG] at hs ⊢
  refine hs.imp id fun ⟨g,hg,h⟩=>⟨g,(hm g).1 hg,h⟩
theorem withG_few {c:Ct} (hc:CtFew c) {G:List Gt} (hp:G.Perm c.gates):CtFew (withG c G):=by
 obtain ⟨h1,h2,h3,h4,h5,h6⟩:=hc;exact ⟨h1,h2,h3,by have:=hp.length_eq; simp only [withG]; omega,fun g hg=>h5 g (hp.mem_iff.1 hg),h6⟩
theorem sort_range {d:Ct} (h:∀ i<d.gates.length,∀ x,inK d i x=true→x<i):sortC d=List.range d.gates.length:=by
 have key:∀ f i,i+f=d.gates.length→sortF d f (List.range i)=(List.range f).map (i + ·):=by
  intro f
  induction f with
  | zero=>intro i _; simp [sortF]
  | succ f ih =>
   intro i hi
   have hn:nextK d (List.range i)=some i:=nextK_some (by omega) (mayB_is.2 ⟨by simp,fun x hx=>by
    rw [List.mem_range]; exact h i (by omega) x hx⟩) fun j hj=>by
     rw [Bool.eq_false_iff];intro hm;exact (mayB_is.1 hm).1 (by rw [List.mem_range]; exact hj)
   rw [sortF,hn];simp only;rw [← List.range_succ,ih (i+1) (by omega),List.range_succ_eq_map,List.map_cons,List.map_map];congr 1;apply List.map_congr_left;intro x _
   simp only [Function.comp]; omega
 have:=key d.gates.length 0 (by omega);simp only [List.range_zero,Nat.zero_add,List.map_id'] at this
 rw [sortC]; exact this
def upG (c:Ct) (l:List Nat):List Gt:=l.filterMap fun x=>c.gates[x]?
theorem upG_map (c:Ct):∀ l:List Nat,(∀ x∈l,x<c.gates.length)→(upG c l).map some=l.map fun x=>c.gates[x]?
 | [],_=>rfl
 | a::l,h=>by
  have ha:=h a (by simp)
  have:=upG_map c l fun x hx=>h x (by simp [hx])
  simp only [upG] at this ⊢;rw [List.filterMap_cons,List.getElem?_eq_getElem ha];simp only [List.map_cons,this,List.getElem?_eq_getElem ha]
theorem upG_len (c:Ct) {l:List Nat} (h:∀ x∈l,x<c.gates.length):(upG c l).length=l.length:=by
 have:=congrArg List.length (upG_map c l h);simpa using this
theorem upG_get (c:Ct) {l:List Nat} (h:∀ x∈l,x<c.gates.length) {i:Nat} (hi:i<l.length):(upG c l)[i]? = some (c.gates[l[i]]'(h _ (List.getElem_mem hi))):=by
 have h1:=congrArg (fun x=>x[i]?) (upG_map c l h);have h2:=h _ (List.getElem_mem hi)
 have h3:i<(upG c l).length:=by rw [upG_len c h]; exact hi
 simp only [List.getElem?_map,List.getElem?_eq_getElem h3,List.getElem?_eq_getElem hi,Option.map_some,List.getElem?_eq_getElem h2,Option.some.injEq] at h1;rw [List.getElem?_eq_getElem h3,h1]
theorem upG_succ (c:Ct) {l:List Nat} {i:Nat} (hi:i<l.length) (h:l[i]<c.gates.length):upG c (l.take (i+1))=upG c (l.take i)++[c.gates[l[i]]]:=by
 rw [List.take_succ_eq_append_getElem hi,upG,List.filterMap_append];simp [upG,h]
theorem upG_in (c:Ct) {l:List Nat} (h:∀ x∈l,x<c.gates.length) {i x:Nat} (hi:i<l.length) (hx:x<l.length):inK (withG c (upG c l)) i x=inK c l[i] l[x]:=by
 have h1:=h _ (List.getElem_mem hi);have h2:=h _ (List.getElem_mem hx);simp only [inK,withG,upG_get c h hi,upG_get c h hx,List.getElem?_eq_getElem h1,List.getElem?_eq_getElem h2]
abbrev hOR (c:Ct) (l:List Nat) (nv:List Bs) (b:Bool) (G:List Gt):List Ob:=[.cells (AV.cells (eCt c)),.row 1 t_int (l.map iN) none true true,.row 1 t_string (nv.map .str) none true false,.cells [.list false c.kI (c.inputs.map .str),.list false c.kO (c.outputs.map .str),.list false c.kL (c.latches.map eLt),.sl 8 0 G.length],
 .row 1 t_string [] none true false,.row 1 t_string [] none true false,.row 3 t_api_Latch_2 [] none true false,.row 5 t_api_Gate_2 [] none true false,.row 5 t_api_Gate_2 (G.map eGt) none true b]
set_option maxRecDepth 8000 in
theorem r_OR11 (c:Ct) (hc:CtFew c) (l:List Nat) (hl:l.length<2^20) (hlt:∀ x∈l,x<c.gates.length) (nv:List Bs):∀ n i:Nat,i+n=l.length →
  AM.Reach Tryd.prog Γ (ybf (.ptr 0 0) (.bool true) (.list false 1 (l.map iN)) (.ptr 3 0) (.int .i64 i) (hOR c l nv false (upG c (l.take i))) ⟨[],.norm,0,[]⟩)
   (ybg (.ptr 0 0) (.bool true) (.ptr 3 0) (hOR c l nv false (upG c l)) ⟨[],.norm,0,[]⟩):=by
 intro n
 induction n with
 | zero =>
  intro i hi
  have q1:¬ i<l.length:=by omega
  rw [List.take_of_length_le (by omega)];refine .goS 60 ?_;simp [q1];exact .exit rfl rfl
 | succ n ih =>
  intro i hi
  have q1:i<l.length:=by omega
  have ha:=hlt _ (List.getElem_mem q1);have q2:=eq_true (c.hG.of ha);have hh:=ih (i+1) (by omega)
  have hGl:=upG_len c (l:=l.take i) fun x hx=>hlt x (List.mem_of_mem_take hx)
  have hle:((upG c (l.take i)).length+1)*80≤140737488355328:=by
   rw [hGl]; simp; omega
  rw [upG_succ c q1 ha] at hh;generalize upG c (l.take i)=G at *;clear hGl;refine .goS 60 ?_;simp [q1];refine .drS 60 ?_;simp (disch:=omega) [q1,q2,ha,hle];refine .reLoop ?_;simp;refine .resetTo (i:=8) rfl (by simp) (by simp) (by simp) ?_;simp [hOR] at hh ⊢;exact hh
set_option maxRecDepth 8000 in
theorem f_OR2 (c d:Ct) (hN:c.gates.length<2^20) (hdc:d.gates.length=c.gates.length) (hC:PureCon Tryd.prog Γ n_order_Check [eCt d] (eChk (0,[]))) (H:List Ob) (hH:H[0]? = some (.cells (AV.cells (eCt c)))) (d3:List AV) (hd3:H[3]? = some (.cells d3)) (hv:viewL H [.agg d3]=some [eCt d]) (hd4:d3.length=4):∀ n i:Nat,i+n=c.gates.length →
  Fins Tryd.prog Γ (ybd (.ptr 0 0) (.bool true) (.ptr 3 0) (.list false 1 ((List.range c.gates.length).map iN)) (.int .i64 i) H ⟨[],.norm,0,[]⟩) (.ret (.bool true)):=by
 have htk:d3.take 4=d3:=List.take_of_length_le (by omega)
 have hEl:((List.range c.gates.length).map iN).length=c.gates.length:=by simp
 intro n
 induction n with
 | zero =>
  intro i hi
  have q1:¬ i<c.gates.length:=by omega
  generalize (List.range c.gates.length).map iN=E at *;refine .go 60 ?_;simp [q1,hd3,hd4,hEl,htk];refine .call 60 hv hC ?_;simp [hH,hEl];exact .back (by simp)
 | succ n ih =>
  intro i hi
  have q1:i<c.gates.length:=by omega
  have hh:=ih (i+1) (by omega)
  have gl:((List.range c.gates.length).map iN)[i]? = some (.int .i64 i):=by simp [q1]
  generalize (List.range c.gates.length).map iN=E at *;obtain ⟨_,gl'⟩:=List.getElem?_eq_some_iff.1 gl;refine .go 60 ?_;simp (disch:=omega) [q1,gl,gl',hEl,ofCells];refine .reLoop ?_;simp at hh ⊢;exact hh
set_option maxRecDepth 8000 in
theorem l_OrderRises (hΓ:InsG Γ) (c:Ct) (hb:CtB c):PureCon Tryd.prog Γ n_w07_OrderRises [eCt c] (.bool true):=by
 have hC:=p_CheckO hΓ c hb;have hS:=p_SortO hΓ c hb;have hF:=p_Few (Γ:=Γ) c;refine .run 90 c_w07_OrderRises (by simp) ?_;simp;refine .call 90 (by simp) (p_worksO hΓ) ?_;simp;refine .call 90 (by simp) hF ?_
 cases hf:fewC c with
 | false =>
  generalize checkO c=r at *;obtain ⟨e,s⟩:=r;simp;refine .call 90 (by simp) hC ?_;simp;exact .back (by simp)
 | true =>
  by_cases h0:(checkO c).1=0
  ·obtain ⟨hr,hn,h1⟩:=checkO_no h0;obtain ⟨ok,_⟩:=right_ok hr;have hc:=few_net hf;have hd:=right_names hr;have hall:=all_come hr hn;have hN:=hc.2.2.2.1;have hlt:=sortC_lt c
   have hSo:sortO c=sortC c:=by simp [sortO,hr]
   have hl20:=sortC_lt20 hc;have hnd:=sortC_nodup c
   have hpos:=fun (p q:List Nat) (a:Nat) (h:sortC c=p++a::q)=>sortC_pos c h
   rw [hSo,hn] at hS;rw [h1] at hC;generalize sortC c=l at *
   have hlen:l.length=c.gates.length:=by
    have h1:l.Perm (List.range c.gates.length):=by
     rw [List.perm_ext_iff_of_nodup hnd List.nodup_range];intro a;rw [List.mem_range];exact ⟨hlt a,hall a⟩
    simpa using h1.length_eq
   have hp:(upG c l).Perm c.gates:=gates_eq (l:=l) (upG c l) (fun i h _=>upG_get c hlt h) (upG_len c hlt) hlt hnd hall;have hcd:=withG_few hc hp;have okd:=withG_ok ok hp
   have hdl:(withG c (upG c l)).gates.length=c.gates.length:=by simp only [withG]; rw [upG_len c hlt,hlen]
   have hsd:sortC (withG c (upG c l))=List.range c.gates.length:=by
    rw [← hdl]
    refine sort_range fun i hi x hx => ?_
    have hxl:x<l.length:=by rw [hlen,← hdl]; exact (inK_lt hx).2
    have hil:i<l.length:=by omega
    rw [upG_in c hlt hil hxl] at hx
    have hpq:l=l.take i++l[i]::l.drop (i+1):=by rw [← List.drop_eq_getElem_cons hil,List.take_append_drop]
    have h2:=(mayB_is.1 (hpos _ _ _ hpq).1).2 _ hx;obtain ⟨y,hy,he⟩:=List.getElem_of_mem h2;rw [List.getElem_take] at he;have:=(List.getElem_inj hnd).1 he
    simp at hy; omega
   have hrd:rightC (withG c (upG c l))=true:=right_of okd
   have hnv:neverO (withG c (upG c l))=[]:=by
    have h2:=never_len (withG c (upG c l));rw [neverO,if_pos hrd];refine List.length_eq_zero_iff.1 ?_;rw [hdl,hsd,List.length_range] at h2
    rw [hsd]; omega
   have hck:checkO (withG c (upG c l))=(0,[]):=by
    unfold checkO
    rw [check_ok okd,hnv]; rfl
   have hSd:=p_SortO hΓ _ hcd.toB;have hCd:=p_CheckO hΓ _ hcd.toB
   have hSo2:sortO (withG c (upG c l))=List.range c.gates.length:=by rw [sortO,if_pos hrd,hsd]
   rw [hSo2,hnv] at hSd;rw [hck] at hCd;have h11:=r_OR11 (Γ:=Γ) c hc l hl20 hlt [] l.length 0 (by omega);rw [List.take_zero] at h11;simp;refine .call 90 (by simp) hC ?_;simp;refine .call 90 (by simp) hS ?_;simp;refine .nilcell 3 3 5 t_api_Gate_2 (by simp; rfl) (by simp; rfl) (by decide) ?_;simp;refine .trees [7] ?_;simp;refine .inLoop ?_;have hGl:=upG_len c hlt;have hu0:upG c []=[]:=rfl;rw [hu0] at h11;have f2:=f_OR2 (Γ:=Γ) c (withG c (upG c l)) (by omega) hdl hCd;generalize upG c l=G at *;simp [hOR] at h11 ⊢;refine .reach h11 ?_;refine .go 60 ?_;simp;refine .call 90 (by simp [withG]) hSd ?_;simp;refine .trees [11] ?_;simp;refine .inLoop ?_;have hh:=f2 (hOR c l [] false G++[.row 1 t_int ((List.range c.gates.length).map iN) none true true,.row 1 t_string [] none true false]) rfl _ rfl (by simp [withG,hOR]) rfl c.gates.length 0 (by omega)
   have htk:((List.range c.gates.length).map iN).take c.gates.length=(List.range c.gates.length).map iN:=List.take_of_length_le (by simp);simp [hOR,htk] at hh ⊢;exact hh
  ·generalize checkO c=r at *;obtain ⟨e,s⟩:=r;simp only at h0;simp;refine .call 90 (by simp) hC ?_;simp [h0];exact .back (by simp)
theorem coneO_is {c:Ct} (hr:rightC c=true) (nets:List Bs) (s:Bs):s∈coneO c nets↔s∈netsC c∧Leads c nets s:=by
 rw [coneO,if_pos hr,List.mem_filter,decide_eq_true_eq,coneC_is]
theorem Leads.mono {c:Ct} {a b:List Bs} (h:∀ s∈a,s∈b) {s:Bs} (h1:Leads c a s):Leads c b s:=by
 induction h1 with
 | base h2=>exact .base (h _ h2)
 | step _ h3 ih=>exact .step ih h3
theorem cone_more {c:Ct} (hr:rightC c=true) (a b:List Bs):∀ s∈coneO c a,s∈coneO c (a++b):=fun s hs=>by
 rw [coneO_is hr] at hs ⊢;exact ⟨hs.1,hs.2.mono fun t ht=>by simp [ht]⟩
theorem cone_again {c:Ct} (hr:rightC c=true) (a:List Bs):coneO c (coneO c a)=coneO c a:=by
 have h1:∀ s,s∈netsC c→(s∈coneC c (coneO c a)↔s∈coneC c a):=fun s hs=>by
  rw [coneC_is,coneC_is];constructor
  ·intro h;clear hs
   induction h with
   | base h=>exact ((coneO_is hr _ _).1 h).2
   | step _ h3 ih=>exact .step ih h3
  ·intro h;exact .base ((coneO_is hr _ _).2 ⟨hs,h⟩)
 conv=>lhs; rw [coneO,if_pos hr]
 conv=>rhs; rw [coneO,if_pos hr]
 apply List.filter_congr;intro s hs
 rw [decide_eq_decide]; exact h1 s hs
theorem getM_of {K V:Type} [DecidableEq K]:∀ {M:List (K×V)} {x:K×V},(M.map (·.1)).Nodup→x∈M→getM x.1 M=some x.2
 | (a,v)::l,x,hn,hx=>by
  rw [List.map_cons,List.nodup_cons] at hn;rw [getM]
  rcases List.mem_cons.1 hx with rfl | hx
  ·rw [if_pos rfl]
  ·rw [if_neg fun he=>hn.1 (by rw [← he]; exact List.mem_map_of_mem (f:=(·.1)) hx)];exact getM_of hn.2 hx
theorem nextL_latch {c:Ct} (hn:((nextM c).map (·.1)).Nodup) {q:Lt} (hq:q∈c.latches):nextL c q.name=[q.next]:=by
 rw [nextL,getM_of (x:=(q.name,(true,1,[q.next]))) hn (by simp only [nextM,List.mem_append,List.mem_map]; exact .inl ⟨q,hq,rfl⟩)]
theorem nextL_gate {c:Ct} (hn:((nextM c).map (·.1)).Nodup) {g:Gt} (hg:g∈c.gates):nextL c g.name=g.ins:=by
 rw [nextL,getM_of (x:=(g.name,(false,g.ki,g.ins))) hn (by simp only [nextM,List.mem_append,List.mem_map]; exact .inr ⟨g,hg,rfl⟩)]
theorem nextL_some {c:Ct} {s t:Bs} (h:t∈nextL c s):(∃ q∈c.latches,q.name=s)∨∃ g∈c.gates,g.name=s:=by
 rw [nextL] at h
 cases hm:getM s (nextM c) with
 | none=>rw [hm] at h; cases h
 | some v =>
  have:=getM_mem hm;simp only [nextM,List.mem_append,List.mem_map,Prod.mk.injEq] at this
  rcases this with ⟨q,hq,h1,_⟩ | ⟨g,hg,h1,_⟩
  ·exact .inl ⟨q,hq,h1⟩
  ·exact .inr ⟨g,hg,h1⟩
theorem mem_nets {c:Ct} {s:Bs}:s∈netsC c↔s∈c.inputs∨(∃ q∈c.latches,q.name=s)∨∃ g∈c.gates,g.name=s:=by
 simp [netsC]
theorem mem_netsT {c:Ct} {s:Bs}:s∈netsC (trimC c)↔s∈c.inputs∨(∃ q∈c.latches,s∈coneO c c.outputs∧q.name=s)∨∃ g∈c.gates,s∈coneO c c.outputs∧g.name=s:=by
 simp only [mem_nets,trimC,List.mem_filter,List.contains_eq_mem,decide_eq_true_eq];refine or_congr Iff.rfl (or_congr ?_ ?_)
 ·constructor
  ·rintro ⟨q,⟨h1,h2⟩,rfl⟩; exact ⟨q,h1,h2,rfl⟩
  ·rintro ⟨q,h1,h2,rfl⟩; exact ⟨q,⟨h1,h2⟩,rfl⟩
 ·constructor
  ·rintro ⟨q,⟨h1,h2⟩,rfl⟩; exact ⟨q,h1,h2,rfl⟩
  ·rintro ⟨q,h1,h2,rfl⟩; exact ⟨q,⟨h1,h2⟩,rfl⟩
theorem keep_nets {c:Ct} {s:Bs} (h1:s∈netsC c) (h2:s∈coneO c c.outputs):s∈netsC (trimC c):=by
 rw [mem_netsT]
 rcases mem_nets.1 h1 with h | ⟨q,hq,h⟩ | ⟨g,hg,h⟩
 ·exact .inl h
 ·exact .inr (.inl ⟨q,hq,h2,h⟩)
 ·exact .inr (.inr ⟨g,hg,h2,h⟩)
theorem trim_latch {c:Ct} {q:Lt}:q∈(trimC c).latches↔q∈c.latches∧q.name∈coneO c c.outputs:=by simp [trimC]
theorem trim_gate {c:Ct} {g:Gt}:g∈(trimC c).gates↔g∈c.gates∧g.name∈coneO c c.outputs:=by simp [trimC]
theorem nets_sub (c:Ct):(netsC (trimC c)).Sublist (netsC c):=by
 simp only [netsC,trimC];exact ((List.Sublist.refl _).append (List.filter_sublist.map _)).append (List.filter_sublist.map _)
theorem CtOk.nodup' {c:Ct} (ok:CtOk c):((nextM c).map (·.1)).Nodup:=by
 have:=ok.nodup;rw [netsC,List.append_assoc,List.nodup_append] at this
 rw [nextM_keys]; exact this.2.1
theorem trim_ok {c:Ct} (ok:CtOk c):CtOk (trimC c):=by
 have hr:=right_of ok;have hn:=ok.nodup';have hl:=ok.lim;refine ⟨?_,fun s hs=>ok.names s ?_,twice_of ((nets_sub c).nodup ok.nodup),ok.outs,fun q hq=>ok.init q (trim_latch.1 hq).1,fun g hg=>ok.gates g (trim_gate.1 hg).1,fun s hs => ?_⟩
 ·simp only [limC,Bool.or_eq_false_iff,decide_eq_false_iff_not] at hl ⊢;have h1:(trimC c).latches.length≤c.latches.length:=List.length_filter_le _ _;have h2:(trimC c).gates.length≤c.gates.length:=List.length_filter_le _ _;have h3:(trimC c).inputs=c.inputs:=rfl;have h4:(trimC c).outputs=c.outputs:=rfl;refine ⟨anyB_of fun g hg=>anyB_no hl.1 g (trim_gate.1 hg).1,?_,?_⟩
  ·rw [h3]; omega
  ·rw [h4]; exact hl.2.2
 ·simp only [toldC,toldL,toldG,List.mem_append,List.mem_flatMap] at hs ⊢
  refine hs.imp (fun h=>h.imp id fun ⟨q,hq,h⟩=>⟨q,(trim_latch.1 hq).1,h⟩) fun ⟨g,hg,h⟩=>⟨g,(trim_gate.1 hg).1,h⟩
 ·have key:Leads c c.outputs s∧s∈netsC c:=by
   simp only [usedC,usedG,List.mem_append,List.mem_flatMap,List.mem_map] at hs
   rcases hs with (hs | ⟨q,hq,rfl⟩) | ⟨g,hg,hs⟩
   ·have hs':s∈c.outputs:=hs;exact ⟨.base hs',ok.used s (by simp [usedC,hs'])⟩
   ·obtain ⟨h1,h2⟩:=trim_latch.1 hq;refine ⟨.step ((coneO_is hr _ _).1 h2).2 (by rw [nextL_latch hn h1]; simp),ok.used _ ?_⟩;simp only [usedC,List.mem_append,List.mem_map];exact .inl (.inr ⟨q,h1,rfl⟩)
   ·obtain ⟨h1,h2⟩:=trim_gate.1 hg;refine ⟨.step ((coneO_is hr _ _).1 h2).2 (by rw [nextL_gate hn h1]; exact hs),ok.used _ ?_⟩;simp only [usedC,usedG,List.mem_append,List.mem_flatMap];exact .inr ⟨g,h1,hs⟩
  exact keep_nets key.2 ((coneO_is hr _ _).2 ⟨key.2,key.1⟩)
theorem trim_few {c:Ct} (hc:CtFew c):CtFew (trimC c):=by
 obtain ⟨h1,h2,h3,h4,h5,h6,h7,h8⟩:=hc;have e1:(trimC c).latches.length≤c.latches.length:=List.length_filter_le _ _;have e2:(trimC c).gates.length≤c.gates.length:=List.length_filter_le _ _;exact ⟨h1,h2,by omega,by omega,fun g hg=>h5 g (trim_gate.1 hg).1,h6,h7,fun q hq=>h8 q (trim_latch.1 hq).1⟩
theorem gate_of {c:Ct} (hd:(c.gates.map (·.name)).Nodup) {g h:Gt} (hg:g∈c.gates) (hh:h∈c.gates) (he:g.name=h.name):g=h:=by
 obtain ⟨i,hi,rfl⟩:=List.getElem_of_mem hg;obtain ⟨j,hj,rfl⟩:=List.getElem_of_mem hh
 have h1:(c.gates.map (·.name))[i]'(by simpa using hi)=(c.gates.map (·.name))[j]'(by simpa using hj):=by simpa using he
 have:=(List.getElem_inj hd).1 h1
 subst this; rfl
theorem trim_come {c:Ct} (ok:CtOk c) (hall:∀ i<c.gates.length,i∈sortC c):neverO (trimC c)=[]:=by
 have okT:=trim_ok ok;have hd:(c.gates.map (·.name)).Nodup:=right_names (right_of ok);have hdT:((trimC c).gates.map (·.name)).Nodup:=right_names (right_of okT)
 have key:∀ (q p:List Nat),sortC c=p++q→(∀ a,∀ h:a<(trimC c).gates.length,(∃ b∈p,∃ hb:b<c.gates.length,c.gates[b]=(trimC c).gates[a])→a∈sortC (trimC c))→∀ a,∀ h:a<(trimC c).gates.length,(∃ b∈p++q,∃ hb:b<c.gates.length,c.gates[b]=(trimC c).gates[a])→a∈sortC (trimC c):=by
  intro q
  induction q with
  | nil=>intro p _ h; simpa using h
  | cons x q ih =>
   intro p he h
   have:=ih (p++[x]) (by simpa using he) fun a ha ⟨b,hb,hbl,hbe⟩=>by
    rcases List.mem_append.1 hb with hb | hb
    ·exact h a ha ⟨b,hb,hbl,hbe⟩
    ·rw [List.mem_singleton] at hb;subst hb
     refine Classical.byContradiction fun hna => ?_
     obtain ⟨y,hy1,hy2⟩:=sortC_never (trimC c) ha hna;obtain ⟨_,hyl⟩:=inK_lt hy1;have h1:=(inK_eq ha hyl).1 hy1;have hyg:=(trim_gate.1 (List.getElem_mem hyl)).1;obtain ⟨z,hz,hze⟩:=List.getElem_of_mem hyg;have h2:inK c b z=true:=(inK_eq hbl hz).2 (by rw [hze,hbe]; exact h1);have h3:=(mayB_is.1 (sortC_pos c he).1).2 z h2;exact hy2 (h y hyl ⟨z,h3,hz,hze⟩)
   simpa using this
 rw [neverO,if_pos (right_of okT),List.eq_nil_iff_forall_not_mem];intro s hs;rw [neverF_mem] at hs;obtain ⟨t,ht,_,h2⟩:=hs;rw [Nat.zero_add] at h2;obtain ⟨z,hz,hze⟩:=List.getElem_of_mem (trim_gate.1 (List.getElem_mem ht)).1;exact h2 (key (sortC c) [] rfl (fun a h ⟨b,hb,_⟩=>by cases hb) t ht ⟨z,by simpa using hall z hz,hz,hze⟩)
theorem trim_check {c:Ct} (ok:CtOk c) (hall:∀ i<c.gates.length,i∈sortC c):checkO (trimC c)=(0,[]):=by
 unfold checkO
 rw [check_ok (trim_ok ok),trim_come ok hall]; rfl
theorem trim_leads {c:Ct} (ok:CtOk c) {s:Bs} (h:Leads c c.outputs s):Leads (trimC c) c.outputs s:=by
 have hr:=right_of ok;have hn:=ok.nodup';have hnT:=(trim_ok ok).nodup'
 induction h with
 | base h=>exact .base h
 | @step s t h1 h2 ih =>
  refine .step ih ?_
  rcases nextL_some h2 with ⟨q,hq,rfl⟩ | ⟨g,hg,rfl⟩
  ·have hk:q.name∈coneO c c.outputs:=(coneO_is hr _ _).2 ⟨mem_nets.2 (.inr (.inl ⟨q,hq,rfl⟩)),h1⟩;rw [nextL_latch hn hq] at h2;rwa [nextL_latch hnT (trim_latch.2 ⟨hq,hk⟩)]
  ·have hk:g.name∈coneO c c.outputs:=(coneO_is hr _ _).2 ⟨mem_nets.2 (.inr (.inr ⟨g,hg,rfl⟩)),h1⟩;rw [nextL_gate hn hg] at h2;rwa [nextL_gate hnT (trim_gate.2 ⟨hg,hk⟩)]
theorem trim_keep {c:Ct} (ok:CtOk c) {s:Bs} (h:s∈coneO c c.outputs):s∈coneO (trimC c) (trimC c).outputs:=by
 have hk:=(coneO_is (right_of ok) _ _).1 h;exact (coneO_is (right_of (trim_ok ok)) _ _).2 ⟨keep_nets hk.1 h,trim_leads ok hk.2⟩
theorem sameL_refl:∀ l:List Gt,sameL l l=true
 | []=>rfl
 | a::l=>by rw [sameL,sameL_refl l,sameG]; simp
theorem trim_again {c:Ct} (ok:CtOk c):sameC (trimC (trimC c)) (trimC c)=true:=by
 have h1:(trimC (trimC c)).latches=(trimC c).latches:=by
  show (trimC c).latches.filter _=_
  rw [List.filter_eq_self];intro q hq;simpa using trim_keep ok (trim_latch.1 hq).2
 have h2:(trimC (trimC c)).gates=(trimC c).gates:=by
  show (trimC c).gates.filter _=_
  rw [List.filter_eq_self];intro q hq;simpa using trim_keep ok (trim_gate.1 hq).2
 have h3:(trimC (trimC c)).inputs=(trimC c).inputs:=rfl;have h4:(trimC (trimC c)).outputs=(trimC c).outputs:=rfl;simp [sameC,h1,h2,h3,h4,sameL_refl]
def littleB (c:Ct):Bool:=fewC c&&(decide (c.gates.length≤24)&&(decide (c.inputs.length≤24)&&decide (c.latches.length≤24)))
theorem p_Little (c:Ct):PureCon Tryd.prog Γ n_w07_Little [eCt c] (.bool (littleB c)):=by
 have hF:=p_Few (Γ:=Γ) c;refine .run 60 c_w07_Little (by simp) ?_;unfold littleB;simp;refine .call 60 (by simp) hF ?_
 cases fewC c with
 | false =>
  simp;exact .back (by simp)
 | true =>
  have e0:((c.gates.length:Int)≤24)=(c.gates.length≤24):=propext (by omega);have e1:((c.inputs.length:Int)≤24)=(c.inputs.length≤24):=propext (by omega);have e2:((c.latches.length:Int)≤24)=(c.latches.length≤24):=propext (by omega)
  by_cases h1:c.gates.length≤24
  ·by_cases h2:c.inputs.length≤24
   ·simp [e0,e1,e2,h1,h2];exact .back (by simp)
   ·simp [e0,e1,e2,h1,h2];exact .back (by simp)
  ·simp [e0,e1,e2,h1];exact .back (by simp)
theorem p_r07_right (c:Ct) (hc:CtFew c):PureCon Tryd.prog Γ n_r07_right [eCt c] (.bool (rightC c)):=by
 have hC:=p_r06_Check (Γ:=Γ) c hc;unfold rightC;generalize checkC c=r at *;obtain ⟨e,s⟩:=r;refine .run 60 c_r07_right (by simp) ?_;simp;refine .call 60 (by simp) hC ?_;simp;exact .back (by simp)
def wKn (s:Bs):List Gt→List Bool→Bool
 | g::gs,t::ts=>(decide (g.name=s) && !t)||wKn s gs ts
 | _,_=>false
def wIn (gs:List Gt) (th:List Bool) (ins:List Bs):Bool:=anyB (fun s=>wKn s gs th) ins
abbrev eB (b:Bool):AV:=.bool b
theorem wKn_drop (s:Bs) (gs:List Gt) (th:List Bool) (hl:th.length=gs.length) {k:Nat} (h:k<gs.length):wKn s (gs.drop k) (th.drop k)=((decide (gs[k].name=s) && !th[k])||wKn s (gs.drop (k+1)) (th.drop (k+1))):=by
 rw [List.drop_eq_getElem_cons h,List.drop_eq_getElem_cons (by omega:k<th.length),wKn]
abbrev hWs (c:Ct) (g:Gt):List Ob:=[.cells (AV.cells (eCt c)),.cells (AV.cells (eGt g))]
set_option maxRecDepth 8000 in
theorem f_wt3T (c:Ct) (hc:CtFew c) (g:Gt) (th:List Bool) (hl:th.length=c.gates.length) (i:Nat) (hi:i<g.ins.length):∀ n k:Nat,k+n=c.gates.length→wKn g.ins[i] (c.gates.drop k) (th.drop k)=true →
  Fins Tryd.prog Γ (yma (.list false 1 (th.map eB)) (.ptr 0 0) (.ptr 1 0) (.int .i64 i) (.int .i64 k) (hWs c g) ⟨[],.norm,0,[]⟩) (.ret (.bool true)):=by
 have hN:=hc.2.2.2.1;have q3:=eq_true (g.hi.of hi);intro n
 induction n with
 | zero =>
  intro k hk h;rw [List.drop_eq_nil_of_le (by omega)] at h
  cases h
 | succ n ih =>
  intro k hk h
  have q1:k<c.gates.length:=by omega
  have q2:=eq_true (c.hG.of q1)
  have q5:k<th.length:=by omega
  rw [wKn_drop _ _ _ hl q1] at h;have hh:=ih (k+1) (by omega);refine .go 60 ?_
  by_cases hn:c.gates[k].name=g.ins[i]
  ·cases ht:th[k] with
   | false =>
    simp [q1,q2,q3,hi,hn,q5,ht];exact .back (by simp)
   | true =>
    have hh:=hh (by simpa [hn,ht] using h);simp (disch:=omega) [q1,q2,q3,hi,hn,q5,ht];refine .reLoop ?_;simp at hh ⊢;exact hh
  ·have hh:=hh (by simpa [hn] using h)
   have hn':¬ g.ins[i]=c.gates[k].name:=fun h=>hn h.symm
   simp (disch:=omega) [q1,q2,q3,hi,hn,hn',q5];refine .reLoop ?_;simp at hh ⊢;exact hh
set_option maxRecDepth 8000 in
theorem r_wt3F (c:Ct) (hc:CtFew c) (g:Gt) (th:List Bool) (hl:th.length=c.gates.length) (i:Nat) (hi:i<g.ins.length):∀ n k:Nat,k+n=c.gates.length→wKn g.ins[i] (c.gates.drop k) (th.drop k)=false →
  AM.Reach Tryd.prog Γ (yma (.list false 1 (th.map eB)) (.ptr 0 0) (.ptr 1 0) (.int .i64 i) (.int .i64 k) (hWs c g) ⟨[],.norm,0,[]⟩)
   (ymb (.list false 1 (th.map eB)) (.ptr 0 0) (.ptr 1 0) (.int .i64 i) (hWs c g) ⟨[],.norm,0,[]⟩):=by
 have hN:=hc.2.2.2.1;have q3:=eq_true (g.hi.of hi);intro n
 induction n with
 | zero =>
  intro k hk h
  have q1:¬ k<c.gates.length:=by omega
  refine .goS 60 ?_;simp [q1];exact .exit rfl rfl
 | succ n ih =>
  intro k hk h
  have q1:k<c.gates.length:=by omega
  have q2:=eq_true (c.hG.of q1)
  have q5:k<th.length:=by omega
  rw [wKn_drop _ _ _ hl q1,Bool.or_eq_false_iff] at h;have hh:=ih (k+1) (by omega) h.2;have h1:=h.1;refine .goS 60 ?_
  by_cases hn:c.gates[k].name=g.ins[i]
  ·cases ht:th[k] with
   | false=>simp [hn,ht] at h1
   | true =>
    simp (disch:=omega) [q1,q2,q3,hi,hn,q5,ht];refine .reLoop ?_;simp at hh ⊢;exact hh
  ·have hn':¬ g.ins[i]=c.gates[k].name:=fun h=>hn h.symm
   simp (disch:=omega) [q1,q2,q3,hi,hn,hn',q5];refine .reLoop ?_;simp at hh ⊢;exact hh
set_option maxRecDepth 8000 in
theorem p_r07_waits (c:Ct) (hc:CtFew c) (g:Gt) (hg:g.ins.length<2^40) (th:List Bool) (hl:th.length=c.gates.length):PureCon Tryd.prog Γ n_r07_waits [eCt c,eGt g,.list false 1 (th.map eB)] (.bool (wIn c.gates th g.ins)):=by
 have key:∀ n i:Nat,i+n=g.ins.length→Fins Tryd.prog Γ (ymd (.list false 1 (th.map eB)) (.ptr 0 0) (.ptr 1 0) (.int .i64 i) (hWs c g) ⟨[],.norm,0,[]⟩) (.ret (.bool (wIn c.gates th (g.ins.drop i)))):=by
  intro n
  induction n with
  | zero =>
   intro i hi
   have q1:¬ i<g.ins.length:=by omega
   rw [List.drop_eq_nil_of_le (by omega)];refine .go 60 ?_;simp [q1,wIn];exact .back (by simp [anyB])
  | succ n ih =>
   intro i hi
   have q1:i<g.ins.length:=by omega
   rw [wIn,anyB_drop q1,← wIn];have hh:=ih (i+1) (by omega)
   cases h:wKn g.ins[i] c.gates th with
   | true =>
    have h3:=f_wt3T (Γ:=Γ) c hc g th hl i q1 c.gates.length 0 (by omega) (by simpa using h);refine .go 60 ?_;simp [q1];refine .inLoop ?_;simp at h3 ⊢;exact h3
   | false =>
    have h3:=r_wt3F (Γ:=Γ) c hc g th hl i q1 c.gates.length 0 (by omega) (by simpa using h);refine .go 60 ?_;simp [q1];refine .inLoop ?_;simp at h3 ⊢;refine .reach h3 ?_;refine .go 60 ?_;simp (disch:=omega);refine .reLoop ?_;simp at hh ⊢;exact hh
 refine .run 60 c_r07_waits (by simp) ?_;simp;refine .inLoop ?_;have hh:=key g.ins.length 0 (by omega);simp at hh ⊢;exact hh
def thL (N:Nat) (done:List Nat):List Bool:=(List.range N).map fun i=>decide (i∈done)
theorem thL_len (N:Nat) (done:List Nat):(thL N done).length=N:=by simp [thL]
theorem thL_get {N:Nat} {done:List Nat} {i:Nat} (h:i<N):(thL N done)[i]'(by rw [thL_len]; exact h)=decide (i∈done):=by simp [thL]
theorem thL_set {N:Nat} {done:List Nat} {k:Nat} (h:k<N):(thL N done).set k true=thL N (done++[k]):=by
 apply List.ext_getElem
 ·simp [thL]
 ·intro i h1 h2;simp only [thL,List.getElem_set,List.getElem_map,List.getElem_range,List.mem_append,List.mem_singleton]
  by_cases hk:k=i
  ·simp [hk]
  ·have:¬ i=k:=fun h=>hk h.symm
   simp [hk,this]
theorem thL_nil (N:Nat):thL N []=List.replicate N false:=by
 apply List.ext_getElem
 ·simp [thL]
 ·intro i h1 h2; simp [thL]
theorem wKn_is (s:Bs):∀ (gs:List Gt) (th:List Bool),wKn s gs th=true↔∃ j,∃ h1:j<gs.length,∃ h2:j<th.length,gs[j].name=s∧th[j]=false
 | [],th=>by simp [wKn]
 | g::gs,[]=>by simp [wKn]
 | g::gs,t::ts=>by
  simp only [wKn,Bool.or_eq_true,Bool.and_eq_true,decide_eq_true_eq,Bool.not_eq_true'];rw [wKn_is s gs ts];constructor
  ·rintro (⟨h1,h2⟩ | ⟨j,h1,h2,h3,h4⟩)
   ·exact ⟨0,by simp,by simp,by simpa using h1,by simpa using h2⟩
   ·exact ⟨j+1,by simp; omega,by simp; omega,by simpa using h3,by simpa using h4⟩
  ·rintro ⟨j,h1,h2,h3,h4⟩
   cases j with
   | zero=>exact .inl ⟨by simpa using h3,by simpa using h4⟩
   | succ j=>exact .inr ⟨j,by simp at h1; omega,by simp at h2; omega,by simpa using h3,by simpa using h4⟩
theorem mayB_th (c:Ct) (done:List Nat) {k:Nat} (hk:k<c.gates.length):mayB c done k=(!decide (k∈done) && !wIn c.gates (thL c.gates.length done) c.gates[k].ins):=by
 rw [Bool.eq_iff_iff,mayB_is];simp only [Bool.and_eq_true,Bool.not_eq_true',decide_eq_false_iff_not];refine and_congr Iff.rfl ?_;rw [wIn,AM.anyB_no];constructor
 ·intro h s hs;rw [Bool.eq_false_iff];intro h1;obtain ⟨j,h1,h2,h3,h4⟩:=(wKn_is _ _ _).1 h1;rw [thL_get h1,decide_eq_false_iff_not] at h4;exact h4 (h j ((inK_eq hk h1).2 (by rw [h3]; exact hs)))
 ·intro h x hx;obtain ⟨_,hxl⟩:=inK_lt hx;have:=h _ ((inK_eq hk hxl).1 hx)
  refine Classical.byContradiction fun hn => ?_
  rw [Bool.eq_false_iff] at this;exact this ((wKn_is _ _ _).2 ⟨x,hxl,by rw [thL_len]; exact hxl,rfl,by rw [thL_get hxl,decide_eq_false_iff_not]; exact hn⟩)
def nextD (c:Ct) (done:List Nat):List Nat:=match nextK c done with
 | none=>done
 | some a=>done++[a]
def iterD (c:Ct):Nat→List Nat→List Nat
 | 0,done=>done
 | f+1,done=>iterD c f (nextD c done)
theorem iterD_stay {c:Ct} {done:List Nat} (h:nextK c done=none):∀ f,iterD c f done=done
 | 0=>rfl
 | f+1=>by rw [iterD,nextD,h]; exact iterD_stay h f
theorem iterD_is (c:Ct):∀ (f:Nat) (done:List Nat),iterD c f done=done++sortF c f done
 | 0,done=>by simp [iterD,sortF]
 | f+1,done=>by
  rw [sortF]
  cases hn:nextK c done with
  | none=>rw [iterD_stay hn]; simp
  | some a=>rw [iterD,nextD,hn,iterD_is c f]; simp
def firstD (c:Ct) (done:List Nat) (k:Nat):List Nat:=match ((List.range c.gates.length).drop k).find? (mayB c done) with
 | none=>done
 | some a=>done++[a]
theorem firstD_0 (c:Ct) (done:List Nat):firstD c done 0=nextD c done:=rfl
theorem firstD_yes {c:Ct} {done:List Nat} {k:Nat} (h:k<c.gates.length) (hm:mayB c done k=true):firstD c done k=done++[k]:=by
 rw [firstD,List.drop_eq_getElem_cons (by simpa using h),List.getElem_range,List.find?_cons_of_pos hm]
theorem firstD_no {c:Ct} {done:List Nat} {k:Nat} (h:k<c.gates.length) (hm:mayB c done k=false):firstD c done k=firstD c done (k+1):=by
 rw [firstD,List.drop_eq_getElem_cons (by simpa using h),List.getElem_range,List.find?_cons_of_neg (by rw [hm]; simp)];rfl
theorem firstD_end {c:Ct} {done:List Nat} {k:Nat} (h:¬ k<c.gates.length):firstD c done k=done:=by
 rw [firstD,List.drop_eq_nil_of_le (by simp; omega)]; rfl
theorem nextD_lt {c:Ct} {done:List Nat} (h:∀ x∈done,x<c.gates.length):∀ x∈nextD c done,x<c.gates.length:=by
 rw [nextD]
 cases hn:nextK c done with
 | none=>exact h
 | some a =>
  intro x hx
  rcases List.mem_append.1 hx with hx | hx
  ·exact h x hx
  ·rw [List.mem_singleton] at hx; subst hx; exact (nextK_is hn).1
theorem nextD_len (c:Ct) (done:List Nat):(nextD c done).length≤done.length+1:=by
 rw [nextD]; split <;> simp
abbrev hSr (c:Ct) (done:List Nat) (g:Option Nat) (nv:List Bs):List Ob:=[.cells (AV.cells (eCt c)),.row 1 t_int [] none true false,.row 1 t_string [] none true false,.row 1 t_int (done.map iN) g true false,.row 1 t_string (nv.map .str) none true false,.row 1 t_bool ((thL c.gates.length done).map eB) none true false]
set_option maxRecDepth 8000 in
theorem r_so10 (c:Ct) (hc:CtFew c) (done:List Nat) (hd:done.length<2^20) (x7:AV):∀ n k:Nat,k+n=c.gates.length→∃ g,(g=none∨g=some 0) ∧
  AM.Reach Tryd.prog Γ (yeN (.ptr 0 0) (.sl 3 0 done.length) (.sl 4 0 0) (.sl 5 0 c.gates.length) x7 (.int .i64 k) (hSr c done none []) ⟨[],.norm,0,[]⟩)
   (yeO (.ptr 0 0) (.sl 3 0 (firstD c done k).length) (.sl 4 0 0) (.sl 5 0 c.gates.length) x7 (hSr c (firstD c done k) g []) ⟨[],.norm,0,[]⟩):=by
 have hN:=hc.2.2.2.1;have hTl:=thL_len c.gates.length done;intro n
 induction n with
 | zero =>
  intro k hk
  have q1:¬ k<c.gates.length:=by omega
  refine ⟨none,.inl rfl,?_⟩;rw [firstD_end q1];refine .goS 60 ?_;simp [q1];exact .exit rfl rfl
 | succ n ih =>
  intro k hk
  have q1:k<c.gates.length:=by omega
  have q2:=eq_true (c.hG.of q1);have hw:=p_r07_waits (Γ:=Γ) c hc c.gates[k] (by have:=(hc.2.2.2.2.1 _ (List.getElem_mem q1)).2.1; omega) (thL c.gates.length done) (thL_len _ _);have hm:=mayB_th c done q1;have q3:=thL_get (done:=done) q1
  have q4:k<(thL c.gates.length done).length:=by omega
  have htk:((thL c.gates.length done).map eB).take c.gates.length=(thL c.gates.length done).map eB:=List.take_of_length_le (by simp [hTl])
  cases hm0:mayB c done k with
  | true =>
   rw [hm0] at hm;have hm:=hm.symm;simp only [Bool.and_eq_true,Bool.not_eq_true',decide_eq_false_iff_not] at hm;obtain ⟨hm1,hm2⟩:=hm;rw [hm2] at hw;rw [firstD_yes q1 hm0]
   have hset:((thL c.gates.length done).map eB).set k (.bool true)=(thL c.gates.length (done++[k])).map eB:=by
    rw [← thL_set (done:=done) q1,List.map_set]
   have gk:((thL c.gates.length done).map eB)[k]? = some (.bool false):=by
    rw [List.getElem?_map,List.getElem?_eq_getElem q4,q3];simp [hm1]
   obtain ⟨gk1,gk2⟩:=List.getElem?_eq_some_iff.1 gk
   have hEl:((thL c.gates.length done).map eB).length=c.gates.length:=by simp [hTl]
   have hd1:=eq_true (show (done.length+1:Int)*8≤140737488355328 by omega);refine ⟨some 0,.inr rfl,?_⟩;simp only [hSr];rw [← hset];clear q3 hm hset;generalize (thL c.gates.length done).map eB=E at *;refine .goS 60 ?_;simp [q1,q2,hEl,htk,gk,gk2];refine .drS 60 ?_;simp [q1,q2,hEl,htk,gk,gk2];refine DRC.call (by simp [hEl,htk]) hw ?_;simp (disch:=omega) [q1,q2,hEl,htk,gk,gk2,hd1,ofCells];exact .exit rfl rfl
  | false =>
   obtain ⟨g,hg,hh⟩:=ih (k+1) (by omega);rw [firstD_no q1 hm0];refine ⟨g,hg,?_⟩;rw [hm0] at hm
   have hEl:((thL c.gates.length done).map eB).length=c.gates.length:=by simp [hTl]
   by_cases hk0:k∈done
   ·have gk:((thL c.gates.length done).map eB)[k]? = some (.bool true):=by
     rw [List.getElem?_map,List.getElem?_eq_getElem q4,q3];simp [hk0]
    obtain ⟨gk1,gk2⟩:=List.getElem?_eq_some_iff.1 gk;clear q3 hm;simp only [hSr] at hh ⊢;generalize (thL c.gates.length (firstD c done (k+1))).map eB=E2 at *;generalize (thL c.gates.length done).map eB=E at *;refine .goS 60 ?_;simp (disch:=omega) [q1,q2,hEl,htk,gk,gk2];refine .reLoop ?_;simp at hh ⊢;exact hh
   ·have hw1:wIn c.gates (thL c.gates.length done) c.gates[k].ins=true:=by simpa [hk0] using hm
    rw [hw1] at hw
    have gk:((thL c.gates.length done).map eB)[k]? = some (.bool false):=by
     rw [List.getElem?_map,List.getElem?_eq_getElem q4,q3];simp [hk0]
    obtain ⟨gk1,gk2⟩:=List.getElem?_eq_some_iff.1 gk;clear q3 hm;simp only [hSr] at hh ⊢;generalize (thL c.gates.length (firstD c done (k+1))).map eB=E2 at *;generalize (thL c.gates.length done).map eB=E at *;refine .goS 60 ?_;simp [q1,q2,hEl,htk,gk,gk2];refine .drS 60 ?_;simp (disch:=omega) [q1,q2,hEl,htk,gk,gk2];refine DRC.call (by simp [hEl,htk]) hw ?_;simp (disch:=omega) [q1,q2,hEl,htk,gk,gk2];refine .reLoop ?_;simp at hh ⊢;exact hh
set_option maxRecDepth 8000 in
theorem f_so1 (c:Ct) (hc:CtFew c) (done:List Nat):∀ n i:Nat,i+n=c.gates.length→∀ l:List Bs,l.length≤i →
  Fins Tryd.prog Γ (yeL (.ptr 0 0) (.sl 3 0 done.length) (.sl 4 0 l.length) (.sl 5 0 c.gates.length) (.int .i64 i) (hSr c done none l) ⟨[],.norm,0,[]⟩)
   (.ret (.tup [.own 1 t_int (done.map iN),.own 1 t_string ((l++neverF done (c.gates.drop i) i).map .str)])):=by
 have hN:=hc.2.2.2.1;have hTl:=thL_len c.gates.length done;have htk:((thL c.gates.length done).map eB).take c.gates.length=(thL c.gates.length done).map eB:=List.take_of_length_le (by simp [hTl])
 have hEl:((thL c.gates.length done).map eB).length=c.gates.length:=by simp [hTl]
 intro n
 induction n with
 | zero =>
  intro i hi l hl
  have q1:¬ i<c.gates.length:=by omega
  rw [List.drop_eq_nil_of_le (by omega),neverF,List.append_nil];refine .go 60 ?_;simp [q1];exact .back (by simp)
 | succ n ih =>
  intro i hi l hl
  have q1:i<c.gates.length:=by omega
  have q2:=eq_true (c.hG.of q1);have q3:=thL_get (done:=done) q1
  have q4:i<(thL c.gates.length done).length:=by omega
  rw [List.drop_eq_getElem_cons q1,neverF]
  by_cases h0:i∈done
  ·have hh:=ih (i+1) (by omega) l (by omega);rw [if_pos h0]
   have gk:((thL c.gates.length done).map eB)[i]? = some (.bool true):=by
    rw [List.getElem?_map,List.getElem?_eq_getElem q4,q3];simp [h0]
   obtain ⟨gk1,gk2⟩:=List.getElem?_eq_some_iff.1 gk;clear q3;simp only [hSr] at hh ⊢;generalize (thL c.gates.length done).map eB=E at *;refine .go 60 ?_;simp (disch:=omega) [q1,q2,hEl,htk,gk,gk2];refine .reLoop ?_;simp at hh ⊢;exact hh
  ·have hh:=ih (i+1) (by omega) (l++[c.gates[i].name]) (by simp; omega);rw [if_neg h0]
   have gk:((thL c.gates.length done).map eB)[i]? = some (.bool false):=by
    rw [List.getElem?_map,List.getElem?_eq_getElem q4,q3];simp [h0]
   obtain ⟨gk1,gk2⟩:=List.getElem?_eq_some_iff.1 gk
   have hle:((l.length:Int)+1)*16≤140737488355328:=by omega
   clear q3;simp only [hSr] at hh ⊢;generalize (thL c.gates.length done).map eB=E at *;refine .go 60 ?_;simp (disch:=omega) [q1,q2,hEl,htk,gk,gk2,hle];refine .reLoop ?_;simp;refine .reset (i:=4) rfl (by simp) (by simp) (by simp) ?_;simp at hh ⊢;exact hh
set_option maxRecDepth 8000 in
theorem f_so8 (c:Ct) (hc:CtFew c):∀ n i:Nat,i+n=c.gates.length→∀ done:List Nat,done.length≤i →
  Fins Tryd.prog Γ (yeQ (.ptr 0 0) (.sl 3 0 done.length) (.sl 4 0 0) (.sl 5 0 c.gates.length) (.int .i64 i) (hSr c done none []) ⟨[],.norm,0,[]⟩)
   (.ret (.tup [.own 1 t_int ((iterD c n done).map iN),.own 1 t_string ((neverF (iterD c n done) c.gates 0).map .str)])):=by
 have hN:=hc.2.2.2.1;intro n
 induction n with
 | zero =>
  intro i hi done hd
  have q1:¬ i<c.gates.length:=by omega
  have hh:=f_so1 (Γ:=Γ) c hc done c.gates.length 0 (by omega) [] (by simp);rw [iterD];refine .go 60 ?_;simp [q1];refine .inLoop ?_;simp at hh ⊢;exact hh
 | succ n ih =>
  intro i hi done hd
  have q1:i<c.gates.length:=by omega
  have hl:=nextD_len c done;have hh:=ih (i+1) (by omega) (nextD c done) (by omega);obtain ⟨g,hg,h10⟩:=r_so10 (Γ:=Γ) c hc done (by omega) (.int .i64 i) c.gates.length 0 (by omega);rw [firstD_0] at h10;rw [iterD];generalize nextD c done=done' at *;refine .go 60 ?_;simp [q1];refine .inLoop ?_;simp at h10 ⊢;refine .reach h10 ?_;refine .go 60 ?_;simp (disch:=omega) [q1];refine .reLoop ?_;simp;refine .resetI (i:=3) rfl hg (by simp) (by simp) (by simp) ?_;simp at hh ⊢;exact hh
set_option maxRecDepth 8000 in
theorem p_r07_Sort (c:Ct) (hc:CtFew c) (hr:rightC c=true):PureCon Tryd.prog Γ n_r07_Sort [eCt c] (.tup [.own 1 t_int ((sortC c).map iN),.own 1 t_string ((neverF (sortC c) c.gates 0).map .str)]):=by
 have hN:=hc.2.2.2.1;have hR:=p_r07_right (Γ:=Γ) c hc;rw [hr] at hR;have hh:=f_so8 (Γ:=Γ) c hc c.gates.length 0 (by omega) [] (by simp);rw [iterD_is,List.nil_append,← sortC] at hh;have e1:=eq_true (show (c.gates.length:Int)≤140737488355328 by omega);refine .run 60 c_r07_Sort (by simp) ?_;simp;refine .call 60 (by simp) hR ?_;simp [e1];refine .inLoop ?_;simp [hSr,thL_nil] at hh ⊢;exact hh
theorem p_r07_SortO (c:Ct) (hc:CtFew c):PureCon Tryd.prog Γ n_r07_Sort [eCt c] (.tup [.own 1 t_int ((sortO c).map iN),.own 1 t_string ((neverO c).map .str)]):=by
 unfold sortO neverO
 cases hr:rightC c with
 | true=>simpa using p_r07_Sort c hc hr
 | false =>
  have hR:=p_r07_right (Γ:=Γ) c hc;rw [hr] at hR;refine .run 60 c_r07_Sort (by simp) ?_;simp;refine .call 60 (by simp) hR ?_;simp;exact .back (by simp)
set_option maxRecDepth 8000 in
theorem p_r07_Check (c:Ct) (hc:CtFew c):PureCon Tryd.prog Γ n_r07_Check [eCt c] (eChk (checkO c)):=by
 have hC:=p_r06_Check (Γ:=Γ) c hc;have hS:=p_r07_SortO (Γ:=Γ) c hc;unfold checkO;generalize checkC c=r at *;obtain ⟨e,s⟩:=r;refine .run 60 c_r07_Check (by simp) ?_;simp;refine .call 60 (by simp) hC ?_
 by_cases h0:e=0
 ·simp [h0];refine .call 60 (by simp) hS ?_
  cases neverO c with
  | nil =>
   simp;exact .back (by simp)
  | cons a l =>
   have hl:(0:Int)<(l.length:Int)+1:=by omega
   simp [hl];exact .back (by simp)
 ·simp [h0];exact .back (by simp)
def mxF (c:Ct) (a:Nat) (out:List Int):List Nat→Int→Int
 | [],n=>n
 | k::ks,n=>if inK c a k=true then mxF c a out ks (if n<out.getD k 0+1 then out.getD k 0+1 else n) else mxF c a out ks n
theorem mxF_ge (c:Ct) (a:Nat) (out:List Int):∀ (ks:List Nat) (n:Int),n≤mxF c a out ks n∧∀ k∈ks,inK c a k=true→out.getD k 0+1≤mxF c a out ks n
 | [],n=>⟨Int.le_refl _,by simp⟩
 | k::ks,n=>by
  rw [mxF]
  by_cases h:inK c a k=true
  ·rw [if_pos h]
   have hv:n≤(if n<out.getD k 0+1 then out.getD k 0+1 else n)∧out.getD k 0+1≤(if n<out.getD k 0+1 then out.getD k 0+1 else n):=by split <;> omega
   generalize (if n<out.getD k 0+1 then out.getD k 0+1 else n)=v at *;obtain ⟨h1,h2⟩:=mxF_ge c a out ks v;refine ⟨by omega,fun j hj hk => ?_⟩
   rcases List.mem_cons.1 hj with rfl | hj
   ·omega
   ·exact h2 j hj hk
  ·rw [if_neg h];obtain ⟨h1,h2⟩:=mxF_ge c a out ks n;refine ⟨h1,fun j hj hk => ?_⟩
   rcases List.mem_cons.1 hj with rfl | hj
   ·exact absurd hk h
   ·exact h2 j hj hk
theorem mxF_le (c:Ct) (a:Nat) (out:List Int) (B:Int):∀ (ks:List Nat) (n:Int),n≤B→(∀ k∈ks,inK c a k=true→out.getD k 0+1≤B)→mxF c a out ks n≤B
 | [],n,h,_=>h
 | k::ks,n,h,h2=>by
  rw [mxF]
  by_cases hk:inK c a k=true
  ·rw [if_pos hk];have:=h2 k (by simp) hk
   exact mxF_le c a out B ks _ (by split <;> omega) fun j hj=>h2 j (by simp [hj])
  ·rw [if_neg hk]
   exact mxF_le c a out B ks n h fun j hj=>h2 j (by simp [hj])
def outL (c:Ct) (lv p:List Nat):List Int:=(List.range c.gates.length).map fun j=>if j∈p then (lv.getD j 0:Int) else -1
theorem outL_len (c:Ct) (lv p:List Nat):(outL c lv p).length=c.gates.length:=by simp [outL]
theorem outL_get {c:Ct} {lv p:List Nat} {j:Nat} (h:j<c.gates.length):(outL c lv p).getD j 0=if j∈p then (lv.getD j 0:Int) else -1:=by
 simp [outL,List.getD_eq_getElem?_getD,h]
theorem outL_set {c:Ct} {lv p:List Nat} {a:Nat} (h:a<c.gates.length):(outL c lv p).set a (lv.getD a 0:Int)=outL c lv (p++[a]):=by
 apply List.ext_getElem
 ·simp [outL]
 ·intro i h1 h2;simp only [outL,List.getElem_set,List.getElem_map,List.getElem_range,List.mem_append,List.mem_singleton]
  by_cases hk:a=i
  ·subst hk; simp
  ·have:¬ i=a:=fun h=>hk h.symm
   simp [hk,this]
theorem outL_nil (c:Ct) (lv:List Nat):outL c lv []=List.replicate c.gates.length (-1):=by
 apply List.ext_getElem
 ·simp [outL]
 ·intro i h1 h2; simp [outL]
theorem mxF_lev {c:Ct} (hd:(c.gates.map (·.name)).Nodup) {p q:List Nat} {a:Nat} (he:sortC c=p++a::q):mxF c a (outL c (levelsN c).1 p) (List.range c.gates.length) 0=((levelsN c).1.getD a 0:Int):=by
 have h:=levels_inv hd;have hm:=(mayB_is.1 (sortC_pos c he).1).2;have ha:=sortC_lt c a (by rw [he]; simp)
 have hin:∀ k,k∈p→k∈sortC c:=fun k hk=>by rw [he]; simp [hk]
 apply Int.le_antisymm
 ·refine mxF_le c a _ _ _ 0 (by omega) fun k hk hi => ?_
  have hkp:=hm k hi;rw [outL_get (inK_lt hi).2,if_pos hkp];have:=h.ge a ha k (hin k hkp) hi;omega
 ·rcases h.eq a ha with h0 | ⟨k,hk,hi,he2⟩
  ·have:=(mxF_ge c a (outL c (levelsN c).1 p) (List.range c.gates.length) 0).1;omega
  ·have hkl:=(inK_lt hi).2;have:=(mxF_ge c a (outL c (levelsN c).1 p) (List.range c.gates.length) 0).2 k (by simpa using hkl) hi;rw [outL_get hkl,if_pos (hm k hi)] at this;omega
theorem outL_is {c:Ct} (hd:(c.gates.map (·.name)).Nodup):outL c (levelsN c).1 (sortC c)=levelsC c:=by
 have h:=levels_inv hd;unfold outL levelsC;apply List.map_congr_left;intro j hj;rw [List.mem_range] at hj;unfold levI
 by_cases hc:j∈sortC c
 ·have:=(h.cm j).2 hc;simp [hc,this]
 ·have:j∉(levelsN c).2:=fun h1=>hc ((h.cm j).1 h1)
  simp [hc,this,hj]
abbrev hLr (c:Ct) (out:List Int) (R:List Ob):List Ob:=.cells (AV.cells (eCt c))::.row 1 t_int [] none true false::.row 1 t_int (out.map iZ) none true false::R
set_option maxRecDepth 8000 in
theorem r_lv16 (c:Ct) (hc:CtFew c):∀ n i:Nat,i+n=c.gates.length →
  AM.Reach Tryd.prog Γ (yha (.ptr 0 0) (.sl 2 0 i) (.int .i64 i) (hLr c (List.replicate i (-1)) []) ⟨[],.norm,0,[]⟩)
   (yhb (.ptr 0 0) (.sl 2 0 c.gates.length) (hLr c (List.replicate c.gates.length (-1)) []) ⟨[],.norm,0,[]⟩):=by
 have hN:=hc.2.2.2.1;intro n
 induction n with
 | zero =>
  intro i hi
  have q1:¬ i<c.gates.length:=by omega
  have he:i=c.gates.length:=by omega
  subst he;refine .goS 60 ?_;simp [q1];exact .exit rfl rfl
 | succ n ih =>
  intro i hi
  have q1:i<c.gates.length:=by omega
  have hh:=ih (i+1) (by omega)
  have hle:((i:Int)+1)*8≤140737488355328:=by omega
  have hrep:(List.replicate (i+1) (-1:Int))=List.replicate i (-1)++[-1]:=List.replicate_succ'
  have hlen:(List.replicate i (-1:Int)).length=i:=by simp
  rw [hrep] at hh;generalize List.replicate i (-1:Int)=L at *;refine .goS 60 ?_;simp (disch:=omega) [q1,hle,hlen];refine .reLoop ?_;simp;refine .resetTo (i:=2) rfl (by simp) (by simp [hlen]) (by simp) ?_;simp [hLr] at hh ⊢;exact hh
set_option maxRecDepth 8000 in
theorem r_lv4 (c:Ct) (hc:CtFew c) (l:List Nat) (hll:l.length<2^20) (i:Nat) (hi:i<l.length) (ha:l[i]<c.gates.length) (out:List Int) (hol:out.length=c.gates.length) (hob:∀ x∈out,-1≤x∧x<2^50) (R:List Ob):∀ n k:Nat,k+n=c.gates.length→∀ m:Int,0≤m→m≤2^50 →
  AM.Reach Tryd.prog Γ (ygV (.ptr 0 0) (.sl 2 0 c.gates.length) (.list false 1 (l.map iN)) (.int .i64 i) (.int .i64 m) (.int .i64 k) (hLr c out R) ⟨[],.norm,0,[]⟩)
   (ygW (.ptr 0 0) (.sl 2 0 c.gates.length) (.list false 1 (l.map iN)) (.int .i64 i) (.int .i64 (mxF c l[i] out ((List.range c.gates.length).drop k) m)) (hLr c out R) ⟨[],.norm,0,[]⟩):=by
 have hN:=hc.2.2.2.1;intro n
 induction n with
 | zero =>
  intro k hk m hm0 hm1
  have q1:¬ k<c.gates.length:=by omega
  rw [List.drop_eq_nil_of_le (by simp; omega),mxF];refine .goS 60 ?_;simp [q1];exact .exit rfl rfl
 | succ n ih =>
  intro k hk m hm0 hm1
  have q1:k<c.gates.length:=by omega
  have q2:=eq_true (c.hG.of q1)
  have gl:(l.map iN)[i]? = some (.int .i64 l[i]):=by simp [hi]
  obtain ⟨gl1,gl2⟩:=List.getElem?_eq_some_iff.1 gl
  have hEl:(l.map iN).length=l.length:=by simp
  have hHas:=p_r01_Has (Γ:=Γ) c.gates[l[i]].ins c.gates[k].name c.gates[l[i]].hi (by have:=(hc.2.2.2.2.1 _ (List.getElem_mem ha)).2.1; omega)
  have hcon:c.gates[l[i]].ins.contains c.gates[k].name=inK c l[i] k:=by
   rw [Bool.eq_iff_iff,inK_eq ha q1]; simp
  rw [hcon] at hHas;rw [List.drop_eq_getElem_cons (by simpa using q1),List.getElem_range,mxF]
  have hok:k<out.length:=by omega
  have go1:(out.map iZ)[k]? = some (.int .i64 (out.getD k 0)):=by
   rw [List.getElem?_map,List.getElem?_eq_getElem hok,List.getD_eq_getElem?_getD,List.getElem?_eq_getElem hok]; rfl
  obtain ⟨go2,go3⟩:=List.getElem?_eq_some_iff.1 go1
  have hOl:(out.map iZ).length=c.gates.length:=by simpa using hol
  have hv:=hob (out.getD k 0) (by rw [List.getD_eq_getElem?_getD,List.getElem?_eq_getElem hok]; exact List.getElem_mem _);have htk:(out.map iZ).take c.gates.length=out.map iZ:=List.take_of_length_le (by omega)
  by_cases hin:inK c l[i] k=true
  ·rw [hin] at hHas;rw [if_pos hin];have hh:=ih (k+1) (by omega) (if m<out.getD k 0+1 then out.getD k 0+1 else m) (by split <;> omega) (by split <;> omega)
   have hmx:maxA (.int .i64 m) [.int .i64 (out.getD k 0+1)]=some (.int .i64 (if m<out.getD k 0+1 then out.getD k 0+1 else m)):=by
    simp only [maxA,if_pos]
   generalize mxF c l[i] out ((List.range c.gates.length).drop (k+1)) (if m<out.getD k 0+1 then out.getD k 0+1 else m)=fin at *;generalize (if m<out.getD k 0+1 then out.getD k 0+1 else m)=m' at *;generalize out.getD k 0=v at *;have hal:=eq_true (c.hG.of ha);generalize l[i]=a at *;generalize l.map iN=E at *;simp only [hLr] at hh ⊢;generalize out.map iZ=O1 at *;clear hob hol;refine .goS 60 ?_;simp [q1,q2,gl,gl2,hEl,hi,ha,hal];refine .drS 60 ?_;simp [q1,q2,gl,gl2,hEl,hi,ha,hal];refine DRC.call (by simp) hHas ?_;simp (disch:=omega) [q1,hOl,htk,go1,go3,ofCells,hmx];refine .reLoop ?_;simp at hh ⊢;exact hh
  ·have hin':inK c l[i] k=false:=by simpa using hin
   rw [hin'] at hHas;rw [if_neg hin];have hh:=ih (k+1) (by omega) m hm0 hm1;have hal:=eq_true (c.hG.of ha);generalize mxF c l[i] out ((List.range c.gates.length).drop (k+1)) m=fin at *;generalize out.getD k 0=v at *;generalize l[i]=a at *;generalize l.map iN=E at *;simp only [hLr] at hh ⊢;generalize out.map iZ=O1 at *;clear hob hol;refine .goS 60 ?_;simp [q1,q2,gl,gl2,hEl,hi,ha,hal];refine .drS 60 ?_;simp [q1,q2,gl,gl2,hEl,hi,ha,hal];refine DRC.call (by simp) hHas ?_;simp (disch:=omega) [q1,hOl,htk,go1,go3,ofCells];refine .reLoop ?_;simp at hh ⊢;exact hh
theorem outL_bnd {c:Ct} (hc:CtFew c) (p:List Nat):∀ x∈outL c (levelsN c).1 p,-1≤x∧x<2^50:=by
 intro x hx;simp only [outL,List.mem_map,List.mem_range] at hx;obtain ⟨j,hj,rfl⟩:=hx
 have:(levelsN c).1.getD j 0<2^50:=by
  rw [List.getD_eq_getElem?_getD]
  by_cases h:j<(levelsN c).1.length
  ·rw [List.getElem?_eq_getElem h]; exact levels_bnd c hc _ (List.getElem_mem _)
  ·rw [List.getElem?_eq_none (by omega)]; decide
 split <;> omega
set_option maxRecDepth 8000 in
theorem f_lv1 (c:Ct) (hc:CtFew c) (hd:(c.gates.map (·.name)).Nodup) (R:List Ob):∀ n i:Nat,i+n=(sortC c).length →
  Fins Tryd.prog Γ (ygY (.ptr 0 0) (.sl 2 0 c.gates.length) (.list false 1 ((sortC c).map iN)) (.int .i64 i) (hLr c (outL c (levelsN c).1 ((sortC c).take i)) R) ⟨[],.norm,0,[]⟩) (.ret (.own 1 t_int ((levelsC c).map iZ))):=by
 have hN:=hc.2.2.2.1;have hll:=sortC_lt20 hc;intro n
 induction n with
 | zero =>
  intro i hi
  have q1:¬ i<(sortC c).length:=by omega
  have hol:=outL_len c (levelsN c).1 (sortC c);rw [List.take_of_length_le (by omega)];have hE:=outL_is hd;rw [hE] at hol ⊢;refine .go 60 ?_;simp [q1];exact .back (by simp [hol])
 | succ n ih =>
  intro i hi
  have q1:i<(sortC c).length:=by omega
  have ha:=sortC_lt c _ (List.getElem_mem q1);have hol:=outL_len c (levelsN c).1 ((sortC c).take i);have h4:=r_lv4 (Γ:=Γ) c hc (sortC c) hll i q1 ha _ hol (outL_bnd hc _) R c.gates.length 0 (by omega) 0 (by omega) (by decide)
  have hpq:sortC c=(sortC c).take i++(sortC c)[i]::(sortC c).drop (i+1):=by rw [← List.drop_eq_getElem_cons q1,List.take_append_drop]
  rw [List.drop_zero,mxF_lev hd hpq] at h4;have hset:=outL_set (c:=c) (lv:=(levelsN c).1) (p:=(sortC c).take i) ha;have hh:=ih (i+1) (by omega);rw [List.take_succ_eq_append_getElem q1,← hset] at hh
  have gl:((sortC c).map iN)[i]? = some (.int .i64 (sortC c)[i]):=by simp [q1]
  obtain ⟨gl1,gl2⟩:=List.getElem?_eq_some_iff.1 gl
  have hEl:((sortC c).map iN).length=(sortC c).length:=by simp
  have hOl:((outL c (levelsN c).1 ((sortC c).take i)).map iZ).length=c.gates.length:=by simpa using hol
  have hms:((outL c (levelsN c).1 ((sortC c).take i)).set (sortC c)[i] ((levelsN c).1.getD (sortC c)[i] 0:Int)).map iZ=((outL c (levelsN c).1 ((sortC c).take i)).map iZ).set (sortC c)[i] (.int .i64 ((levelsN c).1.getD (sortC c)[i] 0:Int)):=List.map_set;have gO:∃ w:Int,((outL c (levelsN c).1 ((sortC c).take i)).map iZ)[(sortC c)[i]]? = some (.int .i64 w):=⟨_,by rw [List.getElem?_map,List.getElem?_eq_getElem (by omega)]; rfl⟩;obtain ⟨w,gO⟩:=gO;obtain ⟨gO1,gO2⟩:=List.getElem?_eq_some_iff.1 gO;simp only [hLr] at hh h4 ⊢;rw [hms] at hh;clear hms hset hpq;generalize (outL c (levelsN c).1 ((sortC c).take i)).map iZ=O1 at *;generalize (levelsN c).1.getD (sortC c)[i] 0=v at *;generalize (sortC c)[i]=a at *;generalize (sortC c).map iN=E at *;generalize (sortC c).length=N at *;refine .go 60 ?_;simp [q1,hEl];refine .inLoop ?_;simp at h4 ⊢;refine .reach h4 ?_;refine .go 60 ?_
  simp (disch:=omega) [q1,gl,gl2,hEl,ofCells,hOl,ha,gO,gO2];refine .reLoop ?_;simp at hh ⊢;exact hh
set_option maxRecDepth 8000 in
theorem p_r07_Levels (c:Ct) (hc:CtFew c) (hr:rightC c=true):PureCon Tryd.prog Γ n_r07_Levels [eCt c] (.own 1 t_int ((levelsC c).map iZ)):=by
 have hR:=p_r07_right (Γ:=Γ) c hc;rw [hr] at hR;have hS:=p_r07_Sort (Γ:=Γ) c hc hr;have h16:=r_lv16 (Γ:=Γ) c hc c.gates.length 0 (by omega);have hd:=right_names hr
 have hh:=fun R=>f_lv1 (Γ:=Γ) c hc hd R (sortC c).length 0 (by omega)
 simp only [List.take_zero,outL_nil] at hh;refine .run 60 c_r07_Levels (by simp) ?_;simp;refine .call 60 (by simp) hR ?_;simp;refine .inLoop ?_;simp [hLr] at h16 ⊢;refine .reach h16 ?_;refine .go 60 ?_;simp;refine .call 60 (by simp) hS ?_;simp;refine .trees [5] ?_;simp;refine .inLoop ?_;simp [hLr] at hh ⊢;exact hh _
theorem p_r07_LevelsO (c:Ct) (hc:CtFew c):PureCon Tryd.prog Γ n_r07_Levels [eCt c] (.own 1 t_int ((levelsO c).map iZ)):=by
 unfold levelsO
 cases hr:rightC c with
 | true=>simpa using p_r07_Levels c hc hr
 | false =>
  have hR:=p_r07_right (Γ:=Γ) c hc;rw [hr] at hR;refine .run 60 c_r07_Levels (by simp) ?_;simp;refine .call 60 (by simp) hR ?_;simp;exact .back (by simp)
theorem sortO_len {c:Ct} (hc:CtFew c):(sortO c).length<2^20:=by
 unfold sortO
 split
 ·exact sortC_lt20 hc
 ·decide
theorem neverO_len {c:Ct} (hc:CtFew c):(neverO c).length<2^20:=by
 unfold neverO;have:=never_len c;have:=hc.2.2.2.1
 split
 ·omega
 ·decide
theorem levelsO_len {c:Ct} (hc:CtFew c):(levelsO c).length<2^20:=by
 unfold levelsO levelsC;have:=hc.2.2.2.1
 split
 ·simp; omega
 ·decide
set_option maxRecDepth 8000 in
theorem l_OrderTells (hΓ:InsG Γ) (c:Ct):PureCon Tryd.prog Γ n_w07_OrderTells [eCt c] (.bool true):=by
 have hL:=p_Little (Γ:=Γ) c;refine .run 90 c_w07_OrderTells (by simp) ?_;simp;refine .call 90 (by simp) (p_worksO hΓ) ?_;simp;refine .call 90 (by simp) hL ?_
 cases hl:littleB c with
 | false =>
  simp;exact .back (by simp)
 | true =>
  have hc:=few_net (c:=c) (by simp only [littleB,Bool.and_eq_true] at hl; exact hl.1);have hb:=hc.toB;have hS:=p_SortO hΓ c hb;have hS2:=p_r07_SortO (Γ:=Γ) c hc;have hC:=p_CheckO hΓ c hb;have hC2:=p_r07_Check (Γ:=Γ) c hc;have hV:=p_LevelsO hΓ c hb;have hV2:=p_r07_LevelsO (Γ:=Γ) c hc;have l1:=sortO_len hc;have l2:=neverO_len hc;have l3:=levelsO_len hc;have hI1:=p_r01_IntsZ (Γ:=Γ) ((sortO c).map fun n:Nat=>(n:Int)) ((sortO c).map fun n:Nat=>(n:Int)) (ka:=1) (kb:=1) .self .self (by simp; omega);have hI2:=p_r01_IntsZ (Γ:=Γ) (levelsO c) (levelsO c) (ka:=1) (kb:=1) .self .self (by omega);have hT:=p_r01_Texts (Γ:=Γ) (neverO c) (neverO c) (ka:=1) (kb:=1) .self .self (by omega)
  have hmm:((sortO c).map fun n:Nat=>(n:Int)).map iZ=(sortO c).map iN:=by rw [List.map_map]; rfl
  rw [hmm] at hI1;generalize sortO c=l at *;generalize neverO c=nv at *;generalize levelsO c=lv at *;generalize checkO c=r at *;obtain ⟨e,s⟩:=r;simp;refine .call 90 (by simp) hS ?_;simp;refine .call 90 (by simp) hS2 ?_;simp;refine .call 90 (by simp) hC ?_;simp;refine .call 90 (by simp) hC2 ?_;simp;refine .trees [5,6,7,8] ?_;simp;refine .dr 60 ?_;simp;refine .call (by simp) hV ?_;simp;refine .call (by simp) hV2 ?_;simp;refine .call (by simp) hI2 ?_;simp;refine .call 60 (by simp) hI1 ?_;simp;refine .call 60 (by simp) hT ?_;simp;exact .back (by simp)
end Go.Proofs.YtpkngebjapfibaaDoor
namespace Go.Proofs.YtpkngebjapfibaaDoor
open Go.AM Go.Proofs Go.ChangeShapes Go.WideShapes Go.ChangeAt Go.RowKit
theorem orderTells_reads (os:Os) {H:Type} (enc:TypeId×Value→H):∃ ds places,DataW.whole enc Tryd.prog ((startW os).forCall (fun _ _=>0) ⟨#[],#[.agg #[.slice none 0 0,.slice none 0 0,.slice none 0 0,.slice none 0 0]],[]⟩).memory Tryd.f3.params.toList Rows.orderTellsSpec.vars false (#[.agg #[.slice none 0 0,.slice none 0 0,.slice none 0 0,.slice none 0 0]]:Array Value).toList 8=some (ds,[],places) :=
 ⟨[.agg [.nil,.nil,.nil,.nil]],[],by kernel_rfl⟩
set_option maxRecDepth 100000 in
theorem orderTells_lifted (os:Os) (started:os.Started) (H:Type) (enc:TypeId×Value→H) (F:Stop.Interp) :
  ReturnsInHanded {} Tryd.checked os 3 .any ((OpenSpec.ofChange Rows.orderTellsSpec).preRow enc Tryd.prog Tryd.f3 Rows.orderTellsRow.domain false Rows.orderTellsRow.laid) (((OpenSpec.ofChange Rows.orderTellsSpec).at F).post enc Tryd.prog Tryd.f3 false true false false):=by
 obtain ⟨ds,places,hx⟩:=orderTells_reads os enc
 refine returnsInHanded_of_row (C:=Tryd.checked) (s:=OpenSpec.ofChange Rows.orderTellsSpec) own started (by kernel_rfl) Tryd.func3
  (witness_row_at (enc:=enc) (C:=Tryd.checked) false (startW os) #[.agg #[.slice none 0 0,.slice none 0 0,.slice none 0 0,.slice none 0 0]] rfl (by kernel_rfl) (by kernel_rfl) (by kernel_rfl)
   (OpenSpec.preRow_of_cond 8 hx (by kernel_rfl) (fun k hk=>by cases hk) (by kernel_rfl) (door_met os _))) ?_
 intro W base args ds gs before hval hW _ _ _ hL hsh _;obtain ⟨Γ,hΓ,hok⟩:=ins_laid hL;refine law_callsQ Down.any (Γ:=Γ) (shs:=[(true,shCt)]) laid mapsR (tb:=4) (by kernel_rfl) u4 (of_decide_eq_true (by kernel_rfl)) (by kernel_rfl) rfl ?_ hok ?_ hval hW (fun _ _=>trivial)
 ·intro ds hds
  match ds,hds with
  | [d1],_=>exact ⟨rfl,rfl,rfl⟩
 ·intro xs has;simp only [IsArgs] at has;obtain ⟨_,_,rfl,h1,_,rfl⟩:=has;obtain ⟨a1,l1,_⟩:=dec_ct h1;simp only [mkA,l1];exact l_OrderTells hΓ a1
theorem orderTells_said:Rows.OrderTellsSaid :=
 OpenClaim.holds_of_cond 3 Tryd.f3 rfl rfl rfl rfl rfl rfl rfl ⟨rfl,rfl,rfl,rfl,rfl⟩ rfl rfl rfl rfl rfl (by kernel_rfl) Tryd.func3 (by kernel_rfl)
  (of_decide_eq_true (by kernel_rfl)) (by unfold Func.isWrapper; first | (rw [if_pos (by decide +kernel)]; kernel_rfl) | (rw [if_neg (by decide +kernel)]; exact ⟨rfl,rfl⟩))
  (fun os started H enc _ F=>by rw [OpenClaim.pre_eq_preRow]; exact orderTells_lifted os started H enc F)
theorem orderTells_plain (f:FuncId) (fn:Func) (hf:Tryd.pinned.checked.prog.funcNamed "patchbay/patchbaylaw07.OrderTells" = some f) (hfn:Tryd.pinned.checked.prog.funcs[f]? = some fn) :
  true=Tryd.pinned.checked.prog.looks []∧∀ (j:Nat) t,fn.params[j]? = some t→Tryd.pinned.checked.prog.wantsStandIn t=false:=by
 obtain rfl:f=3:=Option.some.inj ((show Tryd.prog.funcNamed "patchbay/patchbaylaw07.OrderTells" = some 3 by kernel_rfl).symm.trans hf) |>.symm
 obtain rfl:fn=Tryd.f3:=(Option.some.inj (Tryd.func3.symm.trans hfn)).symm;refine ⟨by kernel_rfl,fun j t ht => ?_⟩
 have h1:(Tryd.f3.params.toList.all fun t => !Tryd.prog.wantsStandIn t)=true:=by kernel_rfl
 have h2:=List.all_eq_true.1 h1 t (by simpa using Array.mem_of_getElem? ht)
 revert h2
 show (!Tryd.prog.wantsStandIn t)=true→Tryd.prog.wantsStandIn t=false
 cases Tryd.prog.wantsStandIn t <;> intro h <;> first | rfl | cases h
theorem orderTells_holds:Rows.OrderTellsCardSaid :=
 Claim7.holds_tied_plain_at .later [] _ _ _ _ orderTells_said (fun _ h=>by cases h) (by kernel_rfl) (fun _ h=>by cases h) orderTells_row_tie rfl ⟨rfl,rfl⟩ (by kernel_rfl) rfl orderTells_plain (by kernel_rfl)
#print axioms orderTells_holds
end Go.Proofs.YtpkngebjapfibaaDoor
