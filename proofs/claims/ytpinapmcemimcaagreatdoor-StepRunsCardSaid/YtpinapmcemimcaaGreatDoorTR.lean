/- Order, by definition: what comes first. -/
import Derived.Test.YtpinapmcemimcaaGreatDoorH
import Derived.Test.YtpinapmcemimcaaGreatDoorF
set_option linter.unusedSimpArgs false
set_option linter.unusedVariables false
namespace Go.Proofs.YtpinapmcemimcaaGreatDoor
open Go.AM Go.Proofs
variable {Γ : Nat → Option AV}
def thL (N:Nat) (done:List Nat):List Bool:=(List.range N).map fun i=>decide (i∈done)
theorem thL_len (N:Nat) (done:List Nat):(thL N done).length=N:=by simp [thL]
theorem thL_get {N:Nat} {done:List Nat} {i:Nat} (h:i<N):(thL N done)[i]'(by rw [thL_len]; exact h)=decide (i∈done):=by simp [thL]
theorem thL_set {N:Nat} {done:List Nat} {k:Nat} (h:k<N):(thL N done).set k true=thL N (done++[k]):=by
 apply List.ext_getElem
 ·simp [thL]
 ·intro i h1 h2;simp only [thL,List.getElem_set,List.getElem_map,List.getElem_range,List.mem_append,List.mem_singleton]
  by_cases hk:k=i
  ·simp [hk]
  ·have:¬ i=k:=fun h=>hk h.symm
   simp [hk,this]
theorem thL_nil (N:Nat):thL N []=List.replicate N false:=by
 apply List.ext_getElem
 ·simp [thL]
 ·intro i h1 h2; simp [thL]
theorem wKn_is (s:Bs):∀ (gs:List Gt) (th:List Bool),wKn s gs th=true↔∃ j,∃ h1:j<gs.length,∃ h2:j<th.length,gs[j].name=s∧th[j]=false
 | [],th=>by simp [wKn]
 | g::gs,[]=>by simp [wKn]
 | g::gs,t::ts=>by
  simp only [wKn,Bool.or_eq_true,Bool.and_eq_true,decide_eq_true_eq,Bool.not_eq_true'];rw [wKn_is s gs ts];constructor
  ·rintro (⟨h1,h2⟩ | ⟨j,h1,h2,h3,h4⟩)
   ·exact ⟨0,by simp,by simp,by simpa using h1,by simpa using h2⟩
   ·exact ⟨j+1,by simp; omega,by simp; omega,by simpa using h3,by simpa using h4⟩
  ·rintro ⟨j,h1,h2,h3,h4⟩
   cases j with
   | zero=>exact .inl ⟨by simpa using h3,by simpa using h4⟩
   | succ j=>exact .inr ⟨j,by simp at h1; omega,by simp at h2; omega,by simpa using h3,by simpa using h4⟩
theorem mayB_th (c:Ct) (done:List Nat) {k:Nat} (hk:k<c.gates.length):mayB c done k=(!decide (k∈done) && !wIn c.gates (thL c.gates.length done) c.gates[k].ins):=by
 rw [Bool.eq_iff_iff,mayB_is];simp only [Bool.and_eq_true,Bool.not_eq_true',decide_eq_false_iff_not];refine and_congr Iff.rfl ?_;rw [wIn,AM.anyB_no];constructor
 ·intro h s hs;rw [Bool.eq_false_iff];intro h1;obtain ⟨j,h1,h2,h3,h4⟩:=(wKn_is _ _ _).1 h1;rw [thL_get h1,decide_eq_false_iff_not] at h4;exact h4 (h j ((inK_eq hk h1).2 (by rw [h3]; exact hs)))
 ·intro h x hx;obtain ⟨_,hxl⟩:=inK_lt hx;have:=h _ ((inK_eq hk hxl).1 hx)
  refine Classical.byContradiction fun hn => ?_
  rw [Bool.eq_false_iff] at this;exact this ((wKn_is _ _ _).2 ⟨x,hxl,by rw [thL_len]; exact hxl,rfl,by rw [thL_get hxl,decide_eq_false_iff_not]; exact hn⟩)
def nextD (c:Ct) (done:List Nat):List Nat:=match nextK c done with
 | none=>done
 | some a=>done++[a]
def iterD (c:Ct):Nat→List Nat→List Nat
 | 0,done=>done
 | f+1,done=>iterD c f (nextD c done)
theorem iterD_stay {c:Ct} {done:List Nat} (h:nextK c done=none):∀ f,iterD c f done=done
 | 0=>rfl
 | f+1=>by rw [iterD,nextD,h]; exact iterD_stay h f
theorem iterD_is (c:Ct):∀ (f:Nat) (done:List Nat),iterD c f done=done++sortF c f done
 | 0,done=>by simp [iterD,sortF]
 | f+1,done=>by
  rw [sortF]
  cases hn:nextK c done with
  | none=>rw [iterD_stay hn]; simp
  | some a=>rw [iterD,nextD,hn,iterD_is c f]; simp
def firstD (c:Ct) (done:List Nat) (k:Nat):List Nat:=match ((List.range c.gates.length).drop k).find? (mayB c done) with
 | none=>done
 | some a=>done++[a]
theorem firstD_0 (c:Ct) (done:List Nat):firstD c done 0=nextD c done:=rfl
theorem firstD_yes {c:Ct} {done:List Nat} {k:Nat} (h:k<c.gates.length) (hm:mayB c done k=true):firstD c done k=done++[k]:=by
 rw [firstD,List.drop_eq_getElem_cons (by simpa using h),List.getElem_range,List.find?_cons_of_pos hm]
theorem firstD_no {c:Ct} {done:List Nat} {k:Nat} (h:k<c.gates.length) (hm:mayB c done k=false):firstD c done k=firstD c done (k+1):=by
 rw [firstD,List.drop_eq_getElem_cons (by simpa using h),List.getElem_range,List.find?_cons_of_neg (by rw [hm]; simp)];rfl
theorem firstD_end {c:Ct} {done:List Nat} {k:Nat} (h:¬ k<c.gates.length):firstD c done k=done:=by
 rw [firstD,List.drop_eq_nil_of_le (by simp; omega)]; rfl
theorem nextD_len (c:Ct) (done:List Nat):(nextD c done).length≤done.length+1:=by
 rw [nextD]; split <;> simp
abbrev hSr (c:Ct) (done:List Nat) (g:Option Nat) (nv:List Bs):List Ob:=[.cells (AV.cells (eCt c)),.row 1 t_int [] none true false,.row 1 t_string [] none true false,.row 1 t_int (done.map iN) g true false,.row 1 t_string (nv.map .str) none true false,.row 1 t_bool ((thL c.gates.length done).map eB) none true false]
set_option maxRecDepth 8000 in
theorem r_so10 (c:Ct) (hc:CtFew c) (done:List Nat) (hd:done.length<2^20) (x7:AV):∀ n k:Nat,k+n=c.gates.length→∃ g,(g=none∨g=some 0) ∧
  AM.Reach Tryz.prog Γ (ymx (.ptr 0 0) (.sl 3 0 done.length) (.sl 4 0 0) (.sl 5 0 c.gates.length) x7 (.int .i64 k) (hSr c done none []) ⟨[],.norm,0,[]⟩)
   (ymy (.ptr 0 0) (.sl 3 0 (firstD c done k).length) (.sl 4 0 0) (.sl 5 0 c.gates.length) x7 (hSr c (firstD c done k) g []) ⟨[],.norm,0,[]⟩):=by
 have hN:=hc.2.2.2.1;have hTl:=thL_len c.gates.length done;intro n
 induction n with
 | zero =>
  intro k hk
  have q1:¬ k<c.gates.length:=by omega
  refine ⟨none,.inl rfl,?_⟩;rw [firstD_end q1];refine .goS 60 ?_;simp [q1];exact .exit rfl rfl
 | succ n ih =>
  intro k hk
  have q1:k<c.gates.length:=by omega
  have q2:=eq_true (c.hG.of q1);have hw:=p_r07_waits (Γ:=Γ) c hc c.gates[k] (by have:=(hc.2.2.2.2.1 _ (List.getElem_mem q1)).2.1; omega) (thL c.gates.length done) (thL_len _ _);have hm:=mayB_th c done q1;have q3:=thL_get (done:=done) q1
  have q4:k<(thL c.gates.length done).length:=by omega
  have htk:((thL c.gates.length done).map eB).take c.gates.length=(thL c.gates.length done).map eB:=List.take_of_length_le (by simp [hTl])
  cases hm0:mayB c done k with
  | true =>
   rw [hm0] at hm;have hm:=hm.symm;simp only [Bool.and_eq_true,Bool.not_eq_true',decide_eq_false_iff_not] at hm;obtain ⟨hm1,hm2⟩:=hm;rw [hm2] at hw;rw [firstD_yes q1 hm0]
   have hset:((thL c.gates.length done).map eB).set k (.bool true)=(thL c.gates.length (done++[k])).map eB:=by
    rw [← thL_set (done:=done) q1,List.map_set]
   have gk:((thL c.gates.length done).map eB)[k]? = some (.bool false):=by
    rw [List.getElem?_map,List.getElem?_eq_getElem q4,q3];simp [hm1]
   obtain ⟨gk1,gk2⟩:=List.getElem?_eq_some_iff.1 gk
   have hEl:((thL c.gates.length done).map eB).length=c.gates.length:=by simp [hTl]
   have hd1:=eq_true (show (done.length+1:Int)*8≤140737488355328 by omega);refine ⟨some 0,.inr rfl,?_⟩;simp only [hSr];rw [← hset];clear q3 hm hset;generalize (thL c.gates.length done).map eB=E at *;refine .goS 60 ?_;simp [q1,q2,hEl,htk,gk,gk2];refine .drS 60 ?_;simp [q1,q2,hEl,htk,gk,gk2];refine DRC.call (by simp [hEl,htk]) hw ?_;simp (disch:=omega) [q1,q2,hEl,htk,gk,gk2,hd1,ofCells];exact .exit rfl rfl
  | false =>
   obtain ⟨g,hg,hh⟩:=ih (k+1) (by omega);rw [firstD_no q1 hm0];refine ⟨g,hg,?_⟩;rw [hm0] at hm
   have hEl:((thL c.gates.length done).map eB).length=c.gates.length:=by simp [hTl]
   by_cases hk0:k∈done
   ·have gk:((thL c.gates.length done).map eB)[k]? = some (.bool true):=by
     rw [List.getElem?_map,List.getElem?_eq_getElem q4,q3];simp [hk0]
    obtain ⟨gk1,gk2⟩:=List.getElem?_eq_some_iff.1 gk;clear q3 hm;simp only [hSr] at hh ⊢;generalize (thL c.gates.length (firstD c done (k+1))).map eB=E2 at *;generalize (thL c.gates.length done).map eB=E at *;refine .goS 60 ?_;simp (disch:=omega) [q1,q2,hEl,htk,gk,gk2];refine .reLoop ?_;simp at hh ⊢;exact hh
   ·have hw1:wIn c.gates (thL c.gates.length done) c.gates[k].ins=true:=by simpa [hk0] using hm
    rw [hw1] at hw
    have gk:((thL c.gates.length done).map eB)[k]? = some (.bool false):=by
     rw [List.getElem?_map,List.getElem?_eq_getElem q4,q3];simp [hk0]
    obtain ⟨gk1,gk2⟩:=List.getElem?_eq_some_iff.1 gk;clear q3 hm;simp only [hSr] at hh ⊢;generalize (thL c.gates.length (firstD c done (k+1))).map eB=E2 at *;generalize (thL c.gates.length done).map eB=E at *;refine .goS 60 ?_;simp [q1,q2,hEl,htk,gk,gk2];refine .drS 60 ?_;simp (disch:=omega) [q1,q2,hEl,htk,gk,gk2];refine DRC.call (by simp [hEl,htk]) hw ?_;simp (disch:=omega) [q1,q2,hEl,htk,gk,gk2];refine .reLoop ?_;simp at hh ⊢;exact hh
set_option maxRecDepth 8000 in
theorem f_so1 (c:Ct) (hc:CtFew c) (done:List Nat):∀ n i:Nat,i+n=c.gates.length→∀ l:List Bs,l.length≤i →
  Fins Tryz.prog Γ (ymv (.ptr 0 0) (.sl 3 0 done.length) (.sl 4 0 l.length) (.sl 5 0 c.gates.length) (.int .i64 i) (hSr c done none l) ⟨[],.norm,0,[]⟩)
   (.ret (.tup [.own 1 t_int (done.map iN),.own 1 t_string ((l++neverF done (c.gates.drop i) i).map .str)])):=by
 have hN:=hc.2.2.2.1;have hTl:=thL_len c.gates.length done;have htk:((thL c.gates.length done).map eB).take c.gates.length=(thL c.gates.length done).map eB:=List.take_of_length_le (by simp [hTl])
 have hEl:((thL c.gates.length done).map eB).length=c.gates.length:=by simp [hTl]
 intro n
 induction n with
 | zero =>
  intro i hi l hl
  have q1:¬ i<c.gates.length:=by omega
  rw [List.drop_eq_nil_of_le (by omega),neverF,List.append_nil];refine .go 60 ?_;simp [q1];exact .back (by simp)
 | succ n ih =>
  intro i hi l hl
  have q1:i<c.gates.length:=by omega
  have q2:=eq_true (c.hG.of q1);have q3:=thL_get (done:=done) q1
  have q4:i<(thL c.gates.length done).length:=by omega
  rw [List.drop_eq_getElem_cons q1,neverF]
  by_cases h0:i∈done
  ·have hh:=ih (i+1) (by omega) l (by omega);rw [if_pos h0]
   have gk:((thL c.gates.length done).map eB)[i]? = some (.bool true):=by
    rw [List.getElem?_map,List.getElem?_eq_getElem q4,q3];simp [h0]
   obtain ⟨gk1,gk2⟩:=List.getElem?_eq_some_iff.1 gk;clear q3;simp only [hSr] at hh ⊢;generalize (thL c.gates.length done).map eB=E at *;refine .go 60 ?_;simp (disch:=omega) [q1,q2,hEl,htk,gk,gk2];refine .reLoop ?_;simp at hh ⊢;exact hh
  ·have hh:=ih (i+1) (by omega) (l++[c.gates[i].name]) (by simp; omega);rw [if_neg h0]
   have gk:((thL c.gates.length done).map eB)[i]? = some (.bool false):=by
    rw [List.getElem?_map,List.getElem?_eq_getElem q4,q3];simp [h0]
   obtain ⟨gk1,gk2⟩:=List.getElem?_eq_some_iff.1 gk
   have hle:((l.length:Int)+1)*16≤140737488355328:=by omega
   clear q3;simp only [hSr] at hh ⊢;generalize (thL c.gates.length done).map eB=E at *;refine .go 60 ?_;simp (disch:=omega) [q1,q2,hEl,htk,gk,gk2,hle];refine .reLoop ?_;simp;refine .reset (i:=4) rfl (by simp) (by simp) (by simp) ?_;simp at hh ⊢;exact hh
set_option maxRecDepth 8000 in
theorem f_so8 (c:Ct) (hc:CtFew c):∀ n i:Nat,i+n=c.gates.length→∀ done:List Nat,done.length≤i →
  Fins Tryz.prog Γ (ymA (.ptr 0 0) (.sl 3 0 done.length) (.sl 4 0 0) (.sl 5 0 c.gates.length) (.int .i64 i) (hSr c done none []) ⟨[],.norm,0,[]⟩)
   (.ret (.tup [.own 1 t_int ((iterD c n done).map iN),.own 1 t_string ((neverF (iterD c n done) c.gates 0).map .str)])):=by
 have hN:=hc.2.2.2.1;intro n
 induction n with
 | zero =>
  intro i hi done hd
  have q1:¬ i<c.gates.length:=by omega
  have hh:=f_so1 (Γ:=Γ) c hc done c.gates.length 0 (by omega) [] (by simp);rw [iterD];refine .go 60 ?_;simp [q1];refine .inLoop ?_;simp at hh ⊢;exact hh
 | succ n ih =>
  intro i hi done hd
  have q1:i<c.gates.length:=by omega
  have hl:=nextD_len c done;have hh:=ih (i+1) (by omega) (nextD c done) (by omega);obtain ⟨g,hg,h10⟩:=r_so10 (Γ:=Γ) c hc done (by omega) (.int .i64 i) c.gates.length 0 (by omega);rw [firstD_0] at h10;rw [iterD];generalize nextD c done=done' at *;refine .go 60 ?_;simp [q1];refine .inLoop ?_;simp at h10 ⊢;refine .reach h10 ?_;refine .go 60 ?_;simp (disch:=omega) [q1];refine .reLoop ?_;simp;refine .resetI (i:=3) rfl hg (by simp) (by simp) (by simp) ?_;simp at hh ⊢;exact hh
set_option maxRecDepth 8000 in
theorem p_r07_Sort (c:Ct) (hc:CtFew c) (hr:rightC c=true):PureCon Tryz.prog Γ n_r07_Sort [eCt c] (.tup [.own 1 t_int ((sortC c).map iN),.own 1 t_string ((neverF (sortC c) c.gates 0).map .str)]):=by
 have hN:=hc.2.2.2.1;have hR:=p_r07_right (Γ:=Γ) c hc;rw [hr] at hR;have hh:=f_so8 (Γ:=Γ) c hc c.gates.length 0 (by omega) [] (by simp);rw [iterD_is,List.nil_append,← sortC] at hh;have e1:=eq_true (show (c.gates.length:Int)≤140737488355328 by omega);refine .run 60 c_r07_Sort (by simp) ?_;simp;refine .call 60 (by simp) hR ?_;simp [e1];refine .inLoop ?_;simp [hSr,thL_nil] at hh ⊢;exact hh
theorem p_r07_SortO (c:Ct) (hc:CtFew c):PureCon Tryz.prog Γ n_r07_Sort [eCt c] (.tup [.own 1 t_int ((sortO c).map iN),.own 1 t_string ((neverO c).map .str)]):=by
 unfold sortO neverO
 cases hr:rightC c with
 | true=>simpa using p_r07_Sort c hc hr
 | false =>
  have hR:=p_r07_right (Γ:=Γ) c hc;rw [hr] at hR;refine .run 60 c_r07_Sort (by simp) ?_;simp;refine .call 60 (by simp) hR ?_;simp;exact .back (by simp)
set_option maxRecDepth 8000 in
theorem p_r07_Check (c:Ct) (hc:CtFew c):PureCon Tryz.prog Γ n_r07_Check [eCt c] (eChk (checkO c)):=by
 have hC:=p_r06_Check (Γ:=Γ) c hc;have hS:=p_r07_SortO (Γ:=Γ) c hc;unfold checkO;generalize checkC c=r at *;obtain ⟨e,s⟩:=r;refine .run 60 c_r07_Check (by simp) ?_;simp;refine .call 60 (by simp) hC ?_
 by_cases h0:e=0
 ·simp [h0];refine .call 60 (by simp) hS ?_
  cases neverO c with
  | nil =>
   simp;exact .back (by simp)
  | cons a l =>
   have hl:(0:Int)<(l.length:Int)+1:=by omega
   simp [hl];exact .back (by simp)
 ·simp [h0];exact .back (by simp)
theorem p_r08_right (c:Ct) (hc:CtFew c):PureCon Tryz.prog Γ n_r08_right [eCt c] (.bool (okC c)):=by
 have hC:=p_r07_Check (Γ:=Γ) c hc;unfold okC;generalize checkO c=r at *;obtain ⟨e,s⟩:=r;refine .run 60 c_r08_right (by simp) ?_;simp;refine .call 60 (by simp) hC ?_;simp;exact .back (by simp)
theorem p_r06_Place (c:Ct) (hc:CtFew c) (s:Bs):PureCon Tryz.prog Γ n_r06_Place [eCt c,.str s] (.int .i64 (placeC c s)):=by
 have hN:=nets_le hc
 have key:∀ n i:Nat,i+n=(netsC c).length→Fins Tryz.prog Γ (yhA (.str s) (.list false 1 ((netsC c).map .str)) (.int .i64 i) []) (.ret (.int .i64 (idxS s ((netsC c).drop i) i))):=by
  generalize netsC c=l at hN;intro n
  induction n with
  | zero =>
   intro i hi
   have q1:¬ i<l.length:=by omega
   rw [List.drop_eq_nil_of_le (by omega),idxS];refine .go 60 ?_;simp [q1];exact .back (by simp)
  | succ n ih =>
   intro i hi
   have q1:i<l.length:=by omega
   have hh:=ih (i+1) (by omega);rw [List.drop_eq_getElem_cons q1,idxS];refine .go 60 ?_
   by_cases h:l[i]=s
   ·have h':s=l[i]:=h.symm;simp [q1,h];exact .back (by simp [h])
   ·have h':¬ s=l[i]:=fun e=>h e.symm
    simp (disch:=omega) [q1,h,h'];refine .reLoop ?_;simp at hh ⊢;exact hh
 refine .run 60 c_r06_Place (by simp) ?_;simp;refine .call 1 (by simp) (p_r06_Nets c hc) ?_;simp;refine .trees [8] ?_;simp;refine .go 60 ?_;simp;refine .inLoop ?_;simp;refine .drop 0 rfl (by simp) (by simp) (by simp) ?_;have hh:=key (netsC c).length 0 (by omega);simp [placeC] at hh ⊢;exact hh
theorem pick_zip:∀ (K:List Bs) (v:List Bool),K.Nodup→v.length=K.length→pickL (K.zip v) K=v
 | [],[],_,_=>rfl
 | [],_::_,_,h=>by simp at h
 | _::_,[],_,h=>by simp at h
 | k::K,x::v,hd,hl=>by
  have hd':=List.nodup_cons.1 hd;have ih:=pick_zip K v hd'.2 (by simpa using hl);rw [List.zip_cons_cons];simp only [pickL,List.map_cons] at ih ⊢;congr 1
  ·simp [lkE,getM]
  ·rw [← ih];apply List.map_congr_left;intro s hs;rw [ih]
   have hne:¬ s=k:=fun e=>hd'.1 (e▸hs)
   simp only [lkE,getM,if_neg hne]
theorem pick_false {m:List (Bs×Bool)}:∀ l:List Bs,(∀ s∈l,s∉m.map (·.1))→pickL m l=List.replicate l.length false
 | [],_=>rfl
 | s::l,h=>by
  have:=pick_false l fun x hx=>h x (by simp [hx])
  simp only [pickL,List.map_cons,List.length_cons,List.replicate_succ] at this ⊢;rw [this,lkE_none (h s (by simp))]
def valP (c:Ct) (ins state:List Bool) (p:List Nat):List Bool:=pickL (envP c ins state p) (netsC c)
theorem nets_is (c:Ct):netsC c=baseN c++c.gates.map (·.name):=by simp [netsC,baseN]
theorem valP_len (c:Ct) (ins state:List Bool) (p:List Nat):(valP c ins state p).length=c.inputs.length+c.latches.length+c.gates.length:=by
 simp [valP,pickL,nets_is,baseN_len]
theorem valP_nil {c:Ct} (ok:CtOk c) {ins state:List Bool} (hi:ins.length=c.inputs.length) (hs:state.length=c.latches.length):valP c ins state []=ins++state++List.replicate c.gates.length false:=by
 have hd:=nets_nodup ok;rw [List.nodup_append] at hd
 have h1:pickL (envP c ins state []) (baseN c)=ins++state:=by
  rw [envP,List.foldl_nil,env0];exact pick_zip _ _ hd.1 (by rw [baseN_len]; simp; omega)
 have h2:pickL (envP c ins state []) (c.gates.map (·.name))=List.replicate c.gates.length false:=by
  rw [pick_false _ fun s hs'=>by
   rw [envP,List.foldl_nil,env0_keys hi hs]
   exact fun hb=>hd.2.2 _ hb _ hs' rfl]
  simp
 rw [valP,nets_is,pickL,List.map_append];exact congr (congrArg _ h1) h2
theorem valP_snoc {c:Ct} (ok:CtOk c) {ins state:List Bool} (hi:ins.length=c.inputs.length) (hs:state.length=c.latches.length) {p:List Nat} (hp:∀ a∈p,a<c.gates.length) {a:Nat} (ha:a<c.gates.length) (hn:a∉p) :
  valP c ins state (p++[a])=(valP c ins state p).set (c.inputs.length+c.latches.length+a) (gateV c.gates[a] (pickL (envP c ins state p) c.gates[a].ins)):=by
 have hnew:=envP_new ok hi hs hp ha hn;have hd:=nets_nodup ok
 have hk:∀ i (h:i<(netsC c).length),(netsC c)[i]=c.gates[a].name↔i=c.inputs.length+c.latches.length+a:=by
  intro i h
  have hlen:(netsC c).length=c.inputs.length+c.latches.length+c.gates.length:=by simp [nets_is,baseN_len]
  have hat:(netsC c)[c.inputs.length+c.latches.length+a]'(by omega)=c.gates[a].name:=by
   simp only [nets_is];rw [List.getElem_append_right (by rw [baseN_len]; omega)];simp [baseN_len]
  rw [← nets_is] at hd;constructor
  ·intro he;exact (List.getElem_inj hd).1 (he.trans hat.symm)
  ·rintro rfl; exact hat
 unfold valP;rw [envP_snoc c ins state p ha];apply List.ext_getElem
 ·simp [pickL]
 intro i h1 h2
 have hin:i<(netsC c).length:=by simpa [pickL] using h1
 simp only [pickL,List.getElem_map,List.getElem_set]
 split
 ·rename_i he;rw [(hk i hin).2 he.symm];exact lkE_new _ hnew
 ·rename_i he
  exact lkE_other _ fun e=>he ((hk i hin).1 e).symm
theorem place_net {c:Ct} (ok:CtOk c) {s:Bs} (h:s∈netsC c):∃ k,∃ hk:k<(netsC c).length,placeC c s=(k:Int)∧(netsC c)[k]=s:=by
 obtain ⟨k,hk,he⟩:=List.getElem_of_mem h;have hd:=nets_nodup ok;rw [← nets_is] at hd;refine ⟨k,hk,?_,he⟩;rw [placeC,← he,idxS_at _ k 0 hd hk,Nat.zero_add]
abbrev hRv (c:Ct) (v:List Bool):List Ob:=[.cells (AV.cells (eCt c)),.row 1 t_bool [] none true false,.row 1 t_bool (v.map .bool) none true false]
set_option maxRecDepth 8000 in
theorem r_rv5 (c:Ct) (hc:CtFew c) (ok:CtOk c) (ins state:List Bool) (p:List Nat) (g:Gt) (hg:g∈c.gates) (n9 n13:Nat) (L:List Nat):∀ n k:Nat,k+n=g.ins.length →
  AM.Reach Tryz.prog Γ (ydp (.ptr 0 0) (.sl 2 0 (valP c ins state p).length) (.int .i64 n9) (.list false 1 (L.map iN)) (.int .i64 n13) (.ptr 3 0) (.sl 6 0 k) (.int .i64 k) (hRv c (valP c ins state p)++[.cells (AV.cells (eGt g)),.row 1 t_string [] none true false,.row 1 t_string [] none true false,.row 1 t_bool ((pickL (envP c ins state p) (g.ins.take k)).map .bool) none true false]) ⟨[],.norm,0,[]⟩)
   (ydq (.ptr 0 0) (.sl 2 0 (valP c ins state p).length) (.int .i64 n9) (.list false 1 (L.map iN)) (.int .i64 n13) (.ptr 3 0) (.sl 6 0 g.ins.length) (hRv c (valP c ins state p)++[.cells (AV.cells (eGt g)),.row 1 t_string [] none true false,.row 1 t_string [] none true false,.row 1 t_bool ((pickL (envP c ins state p) g.ins).map .bool) none true false]) ⟨[],.norm,0,[]⟩):=by
 have hgf:=hc.2.2.2.2.1 g hg;intro n
 induction n with
 | zero =>
  intro k hk
  have q1:¬ k<g.ins.length:=by omega
  have he:k=g.ins.length:=by omega
  subst he;rw [List.take_of_length_le (by omega)];refine .goS 60 ?_;simp [q1];exact .exit rfl rfl
 | succ n ih =>
  intro k hk
  have q1:k<g.ins.length:=by omega
  have q2:=eq_true (g.hi.of q1);have hh:=ih (k+1) (by omega)
  have hlen:(pickL (envP c ins state p) (g.ins.take k)).length=k:=by simp [pickL]; omega
  have e1:pickL (envP c ins state p) (g.ins.take (k+1))=pickL (envP c ins state p) (g.ins.take k)++[lkE (envP c ins state p) g.ins[k]]:=by
   rw [List.take_succ_eq_append_getElem q1,pickL,List.map_append]; rfl
  rw [e1] at hh;have hu:g.ins[k]∈netsC c:=ok.used _ (by simp only [usedC,usedG,List.mem_append,List.mem_flatMap]; exact .inr ⟨g,hg,List.getElem_mem q1⟩);obtain ⟨j,hj,he,hjn⟩:=place_net ok hu;have hP:=p_r06_Place (Γ:=Γ) c hc g.ins[k];rw [he] at hP
  have hjl:j<(valP c ins state p).length:=by simpa [valP,pickL] using hj
  have hjv:(valP c ins state p)[j]=lkE (envP c ins state p) g.ins[k]:=by
   simp only [valP,pickL,List.getElem_map,hjn]
  have hle:((k:Int)+1)≤140737488355328:=by have:=hgf.2.1; omega
  generalize valP c ins state p=V at *;generalize pickL (envP c ins state p) (g.ins.take k)=P at *;generalize pickL (envP c ins state p) g.ins=P2 at *;generalize lkE (envP c ins state p) g.ins[k]=w at *;refine .goS 60 ?_;simp [q1,q2];refine .drS 60 ?_;simp [q1,q2];refine .call (by simp) hP ?_
  have hle2:(k:Int)≤140737488355327:=by omega
  have hle3:k≤140737488355327:=by omega
  simp [hjl,hjv,hle,hlen,hle2,hle3];refine .reLoop ?_;simp (disch:=omega);refine .resetTo (i:=6) rfl (by simp) (by simp [hlen]) (by simp) ?_;simp [hlen] at hh ⊢;exact hh
theorem pick_nil (m:List (Bs×Bool)):pickL m []=[]:=rfl
set_option maxRecDepth 8000 in
theorem f_rv1 (c:Ct) (hc:CtFew c) (ok:CtOk c) (ins state:List Bool) (hi0:ins.length=c.inputs.length) (hs0:state.length=c.latches.length):∀ n i:Nat,i+n=(sortC c).length →
  Fins Tryz.prog Γ (yds (.ptr 0 0) (.sl 2 0 (valP c ins state ((sortC c).take i)).length) (.int .i64 (c.inputs.length+c.latches.length:Nat)) (.list false 1 ((sortC c).map iN)) (.int .i64 i) (hRv c (valP c ins state ((sortC c).take i))) ⟨[],.norm,0,[]⟩)
   (.ret (.tup [.own 1 t_bool ((valsC c ins state).map .bool),.int .i64 0])):=by
 have b0:=hc.1;have b2:=hc.2.2.1;have b3:=hc.2.2.2.1;have hsl:=sortC_lt20 hc;have hlt:=sortC_lt c;have hnd:=sortC_nodup c;intro n
 induction n with
 | zero =>
  intro i hi
  have q1:¬ i<(sortC c).length:=by omega
  rw [List.take_of_length_le (by omega),show valP c ins state (sortC c)=valsC c ins state from rfl];generalize valsC c ins state=V;refine .go 60 ?_;simp [q1];exact .back (by simp)
 | succ n ih =>
  intro i hi
  have q1:i<(sortC c).length:=by omega
  have hx:=hlt _ (List.getElem_mem q1);have q2:=eq_true (c.hG.of hx);have hh:=ih (i+1) (by omega)
  have hp:∀ a∈(sortC c).take i,a<c.gates.length:=fun a ha=>hlt a (List.mem_of_mem_take ha)
  have hni:(sortC c)[i]∉(sortC c).take i:=by
   intro hm;obtain ⟨j,hj,he⟩:=List.getElem_of_mem hm;rw [List.getElem_take] at he
   have hjl:j<i:=by simp at hj; omega
   have:=(List.getElem_inj hnd).1 he;omega
  have hsn:=valP_snoc ok hi0 hs0 hp hx hni;rw [List.take_succ_eq_append_getElem q1,hsn] at hh;have h5:=r_rv5 (Γ:=Γ) c hc ok ins state ((sortC c).take i) c.gates[(sortC c)[i]] (List.getElem_mem hx) (c.inputs.length+c.latches.length) i (sortC c) c.gates[(sortC c)[i]].ins.length 0 (by omega);have hgf:=hc.2.2.2.2.1 _ (List.getElem_mem hx);have hG:=p_r08_Gate (Γ:=Γ) c.gates[(sortC c)[i]] hgf (pickL (envP c ins state ((sortC c).take i)) c.gates[(sortC c)[i]].ins) (k:=1) .self (by have:=hgf.2.1; simp [pickL]; omega);have hvl:=valP_len c ins state ((sortC c).take i)
  have hpl:(pickL (envP c ins state ((sortC c).take i)) c.gates[(sortC c)[i]].ins).length=c.gates[(sortC c)[i]].ins.length:=by simp [pickL]
  clear hsn;generalize valP c ins state ((sortC c).take i)=V at *;generalize pickL (envP c ins state ((sortC c).take i)) c.gates[(sortC c)[i]].ins=P at *;generalize hxe:(sortC c)[i]=x at *;generalize hge:c.gates[x]=g at *;generalize gateV g P=w at *;generalize gateE g P=e at *;generalize hle:sortC c=l at *;refine .go 60 ?_;simp [q1,q2];refine .dr 60 ?_;simp [q1,q2,hxe,hx,hge];refine .inLoop ?_;simp [hRv,pick_nil] at h5 hG hh ⊢;refine .reach h5 ?_;refine .go 60 ?_;simp;have htk:(P.map AV.bool).take g.ins.length=P.map AV.bool:=List.take_of_length_le (by simp [hpl]);refine .call 60 (by simp [htk,hpl]) hG ?_
  have w2:(0:Int)≤c.inputs.length+c.latches.length+x:=by omega
  have w3:(c.inputs.length:Int)+c.latches.length+x<V.length:=by omega
  have w4:((c.inputs.length:Int)+c.latches.length+x).toNat=c.inputs.length+c.latches.length+x:=by omega
  have w5:c.inputs.length+c.latches.length+x<V.length:=by omega
  simp (disch:=omega) [q1,q2,hxe,hx,hge,w2,w3,w4,w5];refine .reLoop ?_;simp (disch:=omega);refine .drop 3 rfl (by simp) (by simp) (by simp) ?_;simp [hRv,hxe] at hh ⊢;exact hh
set_option maxRecDepth 8000 in
theorem r_rv16 (c:Ct) (hc:CtFew c) (W:List Bool) (hW:W.length<2^20) (n9:Nat):∀ n i:Nat,i+n=c.gates.length →
  AM.Reach Tryz.prog Γ (ydu (.ptr 0 0) (.sl 2 0 (W++List.replicate i false).length) (.int .i64 n9) (.int .i64 i) (hRv c (W++List.replicate i false)) ⟨[],.norm,0,[]⟩)
   (ydv (.ptr 0 0) (.sl 2 0 (W++List.replicate c.gates.length false).length) (.int .i64 n9) (hRv c (W++List.replicate c.gates.length false)) ⟨[],.norm,0,[]⟩):=by
 have b3:=hc.2.2.2.1;intro n
 induction n with
 | zero =>
  intro i hi
  have q1:¬ i<c.gates.length:=by omega
  have he:i=c.gates.length:=by omega
  subst he;generalize W++List.replicate c.gates.length false=V;refine .goS 60 ?_;simp [q1];exact .exit rfl rfl
 | succ n ih =>
  intro i hi
  have q1:i<c.gates.length:=by omega
  have hh:=ih (i+1) (by omega)
  have e1:W++List.replicate (i+1) false=(W++List.replicate i false)++[false]:=by
   rw [List.replicate_succ',List.append_assoc]
  rw [e1] at hh
  have hl:(W++List.replicate i false).length<2^30:=by simp; omega
  generalize W++List.replicate i false=V at *;generalize W++List.replicate c.gates.length false=V2 at *
  have hle:V.length≤140737488355327:=by omega
  refine .goS 60 ?_;simp [q1,hle];refine .reLoop ?_;simp (disch:=omega);refine .dropTo 3 (by simp; rfl) (by simp) (by simp) (by simp) ?_;refine .resetTo (i:=2) rfl (by simp) (by simp) (by simp) ?_;simp [hRv] at hh ⊢;exact hh
set_option maxRecDepth 8000 in
theorem p_r08_Values (c:Ct) (hc:CtFew c) (ins state:List Bool) (hi2:ins.length<2^40) (hs2:state.length<2^40) {ki ks:Nat} (hki:Kd 1 ki ins) (hks:Kd 1 ks state) :
  PureCon Tryz.prog Γ n_r08_Values [eCt c,.list false ks (state.map .bool),.list false ki (ins.map .bool)] (.tup [.own 1 t_bool ((valsE c ins state).1.map .bool),.int .i64 (valsE c ins state).2]):=by
 have hR:=p_r08_right (Γ:=Γ) c hc;have b0:=hc.1;have b2:=hc.2.2.1;have b3:=hc.2.2.2.1;have e1:((state.length:Int)=c.latches.length)=(state.length=c.latches.length):=propext (by omega);have e2:((ins.length:Int)=c.inputs.length)=(ins.length=c.inputs.length):=propext (by omega);unfold valsE lensB;refine .run 60 c_r08_Values (by simp) ?_;simp;refine .call 36 (by simp) hR ?_
 cases ho:okC c with
 | false =>
  refine .go 60 ?_;simp;exact .back (by simp)
 | true =>
  by_cases h1:state.length=c.latches.length
  ·by_cases h2:ins.length=c.inputs.length
   ·obtain ⟨hr,hn,_⟩:=okC_yes ho;obtain ⟨ok,_⟩:=right_ok hr;have hS:=p_r07_SortO (Γ:=Γ) c hc;rw [hn] at hS
    have hSo:sortO c=sortC c:=by simp [sortO,hr]
    rw [hSo] at hS;have h16:=r_rv16 (Γ:=Γ) c hc (ins++state) (by simp; omega) (c.inputs.length+c.latches.length) c.gates.length 0 (by omega);have h3:=f_rv1 (Γ:=Γ) c hc ok ins state h2 h1 (sortC c).length 0 (by omega);rw [List.take_zero,valP_nil ok h2 h1] at h3
    have hl2:c.inputs.length≤140737488355328:=by omega
    have hki':ki=1∨ins=[]:=hki;have hks':ks=1∨state=[]:=hks;simp [e1,e2,h1,h2,hl2,hki'];refine .reach (.clrs [36,38] _) ?_;simp [clrT];refine .resetI (i:=2) rfl (by split <;> simp) (by simp) (by simp [h2]) (by simp) ?_
    have hl3:c.inputs.length+c.latches.length≤140737488355328:=by omega
    refine .go 6 ?_;simp [hl3,hks',h1,h2];refine .reach (.clrs [36,38,39,41] _) ?_;simp [clrT];refine .resetI (i:=2) rfl (by split <;> simp) (by simp) (by simp [h1,h2]) (by simp) ?_;refine .go 60 ?_;simp;refine .inLoop ?_;simp [hRv,h1,h2] at h16 h3 ⊢;refine .reach h16 ?_;refine .go 60 ?_;simp;refine .call 12 (by simp) hS ?_;simp;refine .trees [11,12] ?_;simp;refine .go 60 ?_;simp;refine .inLoop ?_;simp;refine .drop 3 rfl (by simp) (by simp) (by simp) ?_;simp at h3 ⊢;exact h3
   ·simp [e1,e2,h1,h2];exact .back (by simp)
  ·simp [e1,e2,h1];exact .back (by simp)
theorem place_val {c:Ct} (ok:CtOk c) (ins state:List Bool) {s:Bs} (h:s∈netsC c):∃ j,∃ hj:j<(valsC c ins state).length,placeC c s=(j:Int)∧(valsC c ins state)[j]=lkE (envC c ins state) s:=by
 obtain ⟨j,hj,he,hjn⟩:=place_net ok h;refine ⟨j,by simpa [valsC,pickL] using hj,he,?_⟩;simp only [valsC,pickL,List.getElem_map,hjn]
abbrev hSp (c:Ct) (V A B:List Bool):List Ob:=[.cells (AV.cells (eCt c)),.row 1 t_bool [] none true false,.row 1 t_bool [] none true false,.row 1 t_bool (V.map .bool) none true false,.row 1 t_bool (A.map .bool) none true false,.row 1 t_bool (B.map .bool) none true false]
set_option maxRecDepth 8000 in
theorem r_rs6 (c:Ct) (hc:CtFew c) (ok:CtOk c) (ins state:List Bool):∀ n k:Nat,k+n=c.outputs.length →
  AM.Reach Tryz.prog Γ (yeb (.ptr 0 0) (.sl 3 0 (valsC c ins state).length) (.sl 4 0 k) (.sl 5 0 0) (.int .i64 k) (hSp c (valsC c ins state) (pickL (envC c ins state) (c.outputs.take k)) []) ⟨[],.norm,0,[]⟩)
   (yec (.ptr 0 0) (.sl 3 0 (valsC c ins state).length) (.sl 4 0 c.outputs.length) (.sl 5 0 0) (hSp c (valsC c ins state) (outsC c ins state) []) ⟨[],.norm,0,[]⟩):=by
 have b1:=hc.2.1;intro n
 induction n with
 | zero =>
  intro k hk
  have q1:¬ k<c.outputs.length:=by omega
  have he:k=c.outputs.length:=by omega
  subst he;rw [List.take_of_length_le (by omega)];refine .goS 60 ?_;simp [q1,outsC];exact .exit rfl rfl
 | succ n ih =>
  intro k hk
  have q1:k<c.outputs.length:=by omega
  have q2:=eq_true (c.hO.of q1);have hh:=ih (k+1) (by omega)
  have hlen:(pickL (envC c ins state) (c.outputs.take k)).length=k:=by simp [pickL]; omega
  have e1:pickL (envC c ins state) (c.outputs.take (k+1))=pickL (envC c ins state) (c.outputs.take k)++[lkE (envC c ins state) c.outputs[k]]:=by
   rw [List.take_succ_eq_append_getElem q1,pickL,List.map_append]; rfl
  rw [e1] at hh;obtain ⟨j,hj,he,hjv⟩:=place_val ok ins state (out_net ok (List.getElem_mem q1));have hP:=p_r06_Place (Γ:=Γ) c hc c.outputs[k];rw [he] at hP
  have hle3:k≤140737488355327:=by omega
  generalize valsC c ins state=V at *;generalize outsC c ins state=P2 at *;generalize pickL (envC c ins state) (c.outputs.take k)=P at *;generalize lkE (envC c ins state) c.outputs[k]=w at *;refine .goS 60 ?_;simp [q1,q2];refine .drS 60 ?_;simp [q1,q2];refine .call (by simp) hP ?_;simp [hj,hjv,hlen,hle3];refine .reLoop ?_;simp (disch:=omega);refine .resetTo (i:=4) rfl (by simp) (by simp [hlen]) (by simp) ?_;simp [hSp,hlen] at hh ⊢;exact hh
def nextLat (c:Ct) (ins state:List Bool) (l:List Lt):List Bool:=l.map fun q=>lkE (envC c ins state) q.next
set_option maxRecDepth 8000 in
theorem f_rs1 (c:Ct) (hc:CtFew c) (ok:CtOk c) (ins state A:List Bool) (hA:A.length<2^40):∀ n k:Nat,k+n=c.latches.length →
  Fins Tryz.prog Γ (ydZ (.ptr 0 0) (.sl 3 0 (valsC c ins state).length) (.sl 4 0 A.length) (.sl 5 0 k) (.int .i64 k) (hSp c (valsC c ins state) A (nextLat c ins state (c.latches.take k))) ⟨[],.norm,0,[]⟩)
   (.ret (.tup [.own 1 t_bool (A.map .bool),.own 1 t_bool ((nextC c ins state).map .bool),.int .i64 0])):=by
 have b1:=hc.2.2.1;intro n
 induction n with
 | zero =>
  intro k hk
  have q1:¬ k<c.latches.length:=by omega
  have he:k=c.latches.length:=by omega
  subst he;rw [List.take_of_length_le (by omega),show nextLat c ins state c.latches=nextC c ins state from rfl];have hnl:=nextC_len c ins state;generalize nextC c ins state=N at *;refine .go 60 ?_;simp [q1];exact .back (by simp [hnl])
 | succ n ih =>
  intro k hk
  have q1:k<c.latches.length:=by omega
  have q2:=eq_true (c.hL.of q1);have hh:=ih (k+1) (by omega)
  have hlen:(nextLat c ins state (c.latches.take k)).length=k:=by simp [nextLat]; omega
  have e1:nextLat c ins state (c.latches.take (k+1))=nextLat c ins state (c.latches.take k)++[lkE (envC c ins state) c.latches[k].next]:=by
   rw [List.take_succ_eq_append_getElem q1,nextLat,List.map_append]; rfl
  rw [e1] at hh;obtain ⟨j,hj,he,hjv⟩:=place_val ok ins state (next_net ok (List.getElem_mem q1));have hP:=p_r06_Place (Γ:=Γ) c hc c.latches[k].next;rw [he] at hP
  have hle3:k≤140737488355327:=by omega
  generalize valsC c ins state=V at *;generalize nextC c ins state=P2 at *;generalize nextLat c ins state (c.latches.take k)=P at *;generalize lkE (envC c ins state) c.latches[k].next=w at *;refine .go 60 ?_;simp [q1,q2];refine .dr 60 ?_;simp [q1,q2];refine .call (by simp) hP ?_;simp [hj,hjv,hlen,hle3];refine .reLoop ?_;simp (disch:=omega);refine .reset (i:=5) rfl (by simp) (by simp [hlen]) (by simp) ?_;simp [hSp,hlen] at hh ⊢;exact hh
set_option maxRecDepth 8000 in
theorem p_r08_Step (c:Ct) (hc:CtFew c) (ins state:List Bool) (hi2:ins.length<2^40) (hs2:state.length<2^40) {ki ks:Nat} (hki:Kd 1 ki ins) (hks:Kd 1 ks state) :
  PureCon Tryz.prog Γ n_r08_Step [eCt c,.list false ks (state.map .bool),.list false ki (ins.map .bool)] (.tup [.own 1 t_bool ((stepE c ins state).1.map .bool),.own 1 t_bool ((stepE c ins state).2.1.map .bool),.int .i64 (stepE c ins state).2.2]):=by
 have hV:=p_r08_Values (Γ:=Γ) c hc ins state hi2 hs2 hki hks;unfold valsE at hV;unfold stepE stepO;refine .run 60 c_r08_Step (by simp) ?_;simp
 cases ho:okC c with
 | false =>
  simp [ho] at hV;refine .call 60 (by simp) hV ?_;simp;exact .back (by simp)
 | true =>
  cases hl:lensB c ins state with
  | false =>
   simp [ho,hl] at hV;refine .call 60 (by simp) hV ?_;simp;exact .back (by simp)
  | true =>
   obtain ⟨hr,hn,_⟩:=okC_yes ho;obtain ⟨ok,_⟩:=right_ok hr;have h6:=r_rs6 (Γ:=Γ) c hc ok ins state c.outputs.length 0 (by omega)
   have hol:(outsC c ins state).length=c.outputs.length:=by simp [outsC,pickL]
   have h1:=f_rs1 (Γ:=Γ) c hc ok ins state (outsC c ins state) (by have:=hc.2.1; omega) c.latches.length 0 (by omega);simp [ho,hl] at hV;refine .call 60 (by simp) hV ?_;simp;refine .inLoop ?_;simp [hSp,pick_nil,nextLat,hol] at h6 h1 ⊢;refine .reach h6 ?_;refine .go 60 ?_;simp;refine .inLoop ?_;simp at h1 ⊢;exact h1
abbrev hRr (c:Ct) (acc:List (List Bool)):List Ob:=[.cells (AV.cells (eCt c)),.row 1 t_bool_2 [] none true false,.row 1 t_bool [] none true false,.row 1 t_bool_2 (acc.map eRB) none true false]
set_option maxRecDepth 8000 in
theorem f_rr1 (c:Ct) (hc:CtFew c) (ho:okC c=true) {kq:Nat} (seq:List (Nat×List Bool)) (hkq:Kd 1 kq seq) (hqk:∀ x∈seq,Kd 1 x.1 x.2∧x.2.length<2^40) (hql:seq.length≤40):∀ n i:Nat,i+n=seq.length→∀ (acc:List (List Bool)) (k:Nat) (s:List Bool),acc.length≤i→Kd 1 k s→s.length=c.latches.length →
  ((runG c (seq.drop i) s).2.2=0→∃ k',Kd 1 k' (runG c (seq.drop i) s).2.1∧Fins Tryz.prog Γ (ygq (.list false k (s.map .bool)) (.list false kq (seq.map eCatB)) (.ptr 0 0) (.sl 3 0 acc.length) (.int .i64 i) (hRr c acc) ⟨[],.norm,0,[]⟩)
   (.ret (.tup [.own 1 t_bool_2 ((acc++(runG c (seq.drop i) s).1).map eRB),.list false k' ((runG c (seq.drop i) s).2.1.map .bool),.int .i64 0]))) ∧
  ((runG c (seq.drop i) s).2.2≠0→Fins Tryz.prog Γ (ygq (.list false k (s.map .bool)) (.list false kq (seq.map eCatB)) (.ptr 0 0) (.sl 3 0 acc.length) (.int .i64 i) (hRr c acc) ⟨[],.norm,0,[]⟩)
   (.ret (.tup [.own 1 t_bool_2 [],.own 1 t_bool [],.int .i64 (runG c (seq.drop i) s).2.2]))):=by
 have b2:=hc.2.2.1;intro n
 induction n with
 | zero =>
  intro i hi acc k s ha hk hs
  have q1:¬ i<seq.length:=by omega
  rw [List.drop_eq_nil_of_le (by omega),runG];refine ⟨fun _=>⟨k,hk,?_⟩,fun h=>absurd rfl h⟩;refine .go 60 ?_;simp [q1];exact .back (by simp)
 | succ n ih =>
  intro i hi acc k s ha hk hs
  have q1:i<seq.length:=by omega
  have q2:=eq_true (hkq.of q1);obtain ⟨hki,hkl⟩:=hqk _ (List.getElem_mem q1);have hS:=p_r08_Step (Γ:=Γ) c hc seq[i].2 s hkl (by omega) hki hk;rw [List.drop_eq_getElem_cons q1,runG];unfold stepE stepO at hS;rw [ho] at hS
  cases hlens:lensB c seq[i].2 s with
  | false =>
   rw [hlens] at hS;refine ⟨fun h=>by simp at h,fun _ => ?_⟩;simp at hS;refine .go 60 ?_;simp [q1,q2];refine .dr 60 ?_;simp [q1,q2];refine .call (by simp) hS ?_;simp;exact .back (by simp)
  | true =>
   rw [hlens] at hS;have hh:=ih (i+1) (by omega) (acc++[outsC c seq[i].2 s]) 1 (nextC c seq[i].2 s) (by simp; omega) .self (nextC_len _ _ _)
   have hol:(outsC c seq[i].2 s).length=c.outputs.length:=by simp [outsC,pickL]
   have hnl:=nextC_len c seq[i].2 s;generalize runG c (seq.drop (i+1)) (nextC c seq[i].2 s)=R at *;generalize outsC c seq[i].2 s=PO at *;generalize nextC c seq[i].2 s=PN at *;simp at hS hh ⊢;have htkO:(PO.map AV.bool).take c.outputs.length=PO.map AV.bool:=List.take_of_length_le (by simp [hol]);have htkN:(PN.map AV.bool).take c.latches.length=PN.map AV.bool:=List.take_of_length_le (by simp [hnl])
   have hle:(acc.length+1)*24≤140737488355328:=by omega
   have step:∀ o,Fins Tryz.prog Γ (ygq (.list false 1 (PN.map .bool)) (.list false kq (seq.map eCatB)) (.ptr 0 0) (.sl 3 0 (acc.length+1)) (.int .i64 (i+1)) (hRr c (acc++[PO])) ⟨[],.norm,0,[]⟩) o →
     Fins Tryz.prog Γ (ygq (.list false k (s.map .bool)) (.list false kq (seq.map eCatB)) (.ptr 0 0) (.sl 3 0 acc.length) (.int .i64 i) (hRr c acc) ⟨[],.norm,0,[]⟩) o:=by
    intro o hh;refine .go 60 ?_;simp [q1,q2];refine .dr 6 ?_;simp [q1,q2];refine .call (by simp) hS ?_;simp;refine .trees [11,12] ?_;simp;refine .go 60 ?_;simp [hle];refine .reLoop ?_;simp (disch:=omega);refine .drop 4 rfl (by simp) (by simp) (by simp) ?_;refine .reset (i:=3) rfl (by simp) (by simp) (by simp) ?_;simp [hRr] at hh ⊢;exact hh
   refine ⟨fun h0 => ?_,fun h0 => ?_⟩
   ·obtain ⟨k',hk',h2⟩:=hh.1 h0;exact ⟨k',hk',step _ h2⟩
   ·exact step _ (hh.2 h0)
def lastV (c:Ct) (state:List Bool) (seq:List (Nat×List Bool)) (v:AV):Prop:=v=.own 1 t_bool ((runE c state seq).2.1.map .bool)∨∃ k,Kd 1 k (runE c state seq).2.1∧v=.list false k ((runE c state seq).2.1.map .bool)
set_option maxRecDepth 8000 in
theorem p_r08_Run (c:Ct) (hc:CtFew c) (state:List Bool) (seq:List (Nat×List Bool)) (hs2:state.length<2^40) (hq2:seq.length<2^40) {ks kq:Nat} (hks:Kd 1 ks state) (hkq:Kd 1 kq seq) (hqk:∀ x∈seq,Kd 1 x.1 x.2∧x.2.length<2^40) :
  ∃ v,lastV c state seq v∧PureCon Tryz.prog Γ n_r08_Run [eCt c,.list false ks (state.map .bool),.list false kq (seq.map eCatB)] (.tup [.own 1 t_bool_2 ((runE c state seq).1.map eRB),v,.int .i64 (runE c state seq).2.2]):=by
 have hR:=p_r08_right (Γ:=Γ) c hc;have b2:=hc.2.2.1;have e1:((state.length:Int)=c.latches.length)=(state.length=c.latches.length):=propext (by omega);have e2:((40:Int)<seq.length)=(40<seq.length):=propext (by omega);unfold lastV runE
 cases ho:okC c with
 | false =>
  refine ⟨_,.inl rfl,?_⟩;refine .run 60 c_r08_Run (by simp) ?_;simp;rw [ho] at hR;refine .call 60 (by simp) hR ?_;simp;exact .back (by simp)
 | true =>
  rw [ho] at hR
  by_cases h40:seq.length≤40
  ·have h40':¬ 40<seq.length:=by omega
   by_cases hl:state.length=c.latches.length
   ·have h1:=f_rr1 (Γ:=Γ) c hc ho seq hkq hqk h40 seq.length 0 (by omega) [] ks state (by simp) hks hl;rw [List.drop_zero] at h1
    by_cases h0:(runG c seq state).2.2=0
    ·obtain ⟨k',hk',h2⟩:=h1.1 h0;refine ⟨_,.inr ⟨k',by simpa [h40,hl,h0] using hk',rfl⟩,?_⟩;refine .run 60 c_r08_Run (by simp) ?_;simp;refine .call 60 (by simp) hR ?_;simp [e1,e2,h40,h40',hl,h0];refine .inLoop ?_;simp [hRr] at h2 ⊢;exact h2
    ·have h2:=h1.2 h0;refine ⟨_,.inl rfl,?_⟩;refine .run 60 c_r08_Run (by simp) ?_;simp;refine .call 60 (by simp) hR ?_;simp [e1,e2,h40,h40',hl,h0];refine .inLoop ?_;simp [hRr] at h2 ⊢;exact h2
   ·refine ⟨_,.inl rfl,?_⟩;refine .run 60 c_r08_Run (by simp) ?_;simp;refine .call 60 (by simp) hR ?_;simp [e1,e2,h40,h40',hl];exact .back (by simp)
  ·have h40':40<seq.length:=by omega
   refine ⟨_,.inl rfl,?_⟩;refine .run 60 c_r08_Run (by simp) ?_;simp;refine .call 60 (by simp) hR ?_;simp [e1,e2,h40,h40'];exact .back (by simp)
def rowsB (seq:List (Nat×List Bool)) (m:Nat):Bool:=(seq.take (m+1)).all (fun x=>decide (x.2.length≤60))&&decide (seq.length≤m)
theorem rowsB_yes {seq:List (Nat×List Bool)} {m:Nat} (h:rowsB seq m=true):seq.length≤m∧∀ x∈seq,x.2.length≤60:=by
 simp only [rowsB,Bool.and_eq_true,decide_eq_true_eq] at h;rw [List.take_of_length_le (by omega),List.all_eq_true] at h;exact ⟨h.2,fun x hx=>by simpa using h.1 x hx⟩
set_option maxRecDepth 8000 in
theorem p_w08_Rows (seq:List (Nat×List Bool)) {kq:Nat} (hkq:Kd 1 kq seq) (m:Nat) (hm:m<2^40):PureCon Tryz.prog Γ n_w08_Rows [.list false kq (seq.map eCatB),.int .i64 m] (.bool (rowsB seq m)):=by
 have e1:((seq.length:Int)≤m)=(seq.length≤m):=propext (by omega);have hlen:(seq.take (m+1)).length=min (m+1) seq.length:=List.length_take
 have key:∀ n i:Nat,i+n=(seq.take (m+1)).length→Fins Tryz.prog Γ (yfp (.list false kq (seq.map eCatB)) (.int .i64 m) (.int .i64 i) []) (.ret (.bool (((seq.take (m+1)).drop i).all (fun x=>decide (x.2.length≤60))&&decide (seq.length≤m)))):=by
  intro n
  induction n with
  | zero =>
   intro i hi;rw [List.drop_eq_nil_of_le (by omega)];refine .go 60 ?_
   by_cases q1:i<seq.length
   ·have q2:¬ i≤m:=by omega
    have q3:¬ (i:Int)≤m:=by omega
    simp [q1,q2,q3,e1];exact .back (by simp)
   ·simp [q1,e1];exact .back (by simp)
  | succ n ih =>
   intro i hi
   have q1:i<seq.length:=by omega
   have q2:i≤m:=by omega
   have q3:(i:Int)≤m:=by omega
   have q4:=eq_true (hkq.of q1);have hh:=ih (i+1) (by omega);rw [List.drop_eq_getElem_cons (by omega:i<(seq.take (m+1)).length),List.all_cons,List.getElem_take];refine .go 60 ?_
   by_cases h6:seq[i].2.length≤60
   ·have h6':¬ 60<seq[i].2.length:=by omega
    have h6'':¬ (60:Int)<seq[i].2.length:=by omega
    simp (disch:=omega) [q1,q2,q3,q4,h6,h6',h6''];refine .reLoop ?_;simp at hh ⊢;exact hh
   ·have h6':60<seq[i].2.length:=by omega
    have h6'':(60:Int)<seq[i].2.length:=by omega
    simp (disch:=omega) [q1,q2,q3,q4,h6,h6',h6''];exact .back (by simp [h6'])
 refine .run 60 c_w08_Rows (by simp) ?_;simp;refine .inLoop ?_;have hh:=key (seq.take (m+1)).length 0 (by omega);unfold rowsB;rw [List.drop_zero] at hh;generalize (seq.take (m+1)).all (fun x=>decide (x.2.length≤60))=b at *;simp at hh ⊢;exact hh
theorem runG_rows (c:Ct):∀ (seq:List (Nat×List Bool)) (s:List Bool),∀ x∈(runG c seq s).1,x.length=c.outputs.length
 | [],s,x,h=>by simp [runG] at h
 | i::r,s,x,h=>by
  rw [runG] at h
  split at h
  ·simp only [List.mem_cons] at h
   rcases h with rfl | h
   ·simp [outsC,pickL]
   ·exact runG_rows c r _ x h
  ·simp at h
theorem runE_rows (c:Ct) (seq:List (Nat×List Bool)) (s:List Bool):(runE c s seq).1.length≤seq.length∧(∀ x∈(runE c s seq).1,x.length=c.outputs.length)∧(runE c s seq).2.1.length≤c.latches.length:=by
 unfold runE
 split
 ·split
  ·split
   ·rename_i hl
    split
    ·exact ⟨runG_le c seq s,runG_rows c seq s,Nat.le_of_eq (runG_len c seq s hl)⟩
    ·exact ⟨by simp,by simp,by simp⟩
   ·exact ⟨by simp,by simp,by simp⟩
  ·exact ⟨by simp,by simp,by simp⟩
 ·exact ⟨by simp,by simp,by simp⟩
theorem rows_two (a b:List (List Bool)) (h:a.length<2^40) (ha:∀ x∈a,x.length<2^40) (hb:∀ x∈b,x.length<2^40):PureCon Tryz.prog Γ n_r08_Rows [.list false 1 (a.map eRB),.list false 1 (b.map eRB)] (.bool (decide (a=b))):=by
 have:=p_r08_Rows (Γ:=Γ) (a.map fun x=>(1,x)) (b.map fun x=>(1,x)) (ka:=1) (kb:=1) .self .self (by simp; omega) (by
  intro x hx;obtain ⟨y,hy,rfl⟩:=List.mem_map.1 hx
  exact ⟨.self,ha y hy⟩) (by
  intro x hx;obtain ⟨y,hy,rfl⟩:=List.mem_map.1 hx
  exact ⟨.self,hb y hy⟩)
 simp only [sndL,List.map_map] at this
 have e:∀ l:List (List Bool),l.map ((fun x=>x.2) ∘ fun x=>((1:Nat),x))=l:=fun l=>by
  rw [show ((fun x:Nat×List Bool=>x.2) ∘ fun x:List Bool=>((1:Nat),x))=id from rfl,List.map_id]
 rw [e,e] at this;exact this
set_option maxRecDepth 8000 in
theorem l_StepRuns (hΓ:InsG Γ) (c:Ct) (state:List Bool) (seq:List (Nat×List Bool)) {k1 kq:Nat} (hk1:Kd 1 k1 state) (hkq:Kd 1 kq seq) (hqk:∀ x∈seq,Kd 1 x.1 x.2) :
  PureCon Tryz.prog Γ n_w08_StepRuns [eCt c,.list false k1 (state.map .bool),.list false kq (seq.map eCatB)] (.bool true):=by
 have hL:=p_Little (Γ:=Γ) c;have hW:=p_w08_Rows (Γ:=Γ) seq hkq 45 (by omega);refine .run 90 c_w08_StepRuns (by simp) ?_;simp;refine .call 90 (by simp) (p_worksS hΓ) ?_;simp;refine .call 90 (by simp) hL ?_
 cases hl:littleB c with
 | false =>
  simp;exact .back (by simp)
 | true =>
  have hc:=few_net (c:=c) (by simp only [littleB,Bool.and_eq_true] at hl; exact hl.1);simp at hW;simp;refine .call 90 (by simp) hW ?_
  cases hw:rowsB seq 45 with
  | false =>
   simp;exact .back (by simp)
  | true =>
   obtain ⟨w1,w2⟩:=rowsB_yes hw
   by_cases g1:60<state.length
   ·have g1':(60:Int)<state.length:=by omega
    simp [g1,g1'];exact .back (by simp)
   have g1':¬ (60:Int)<state.length:=by omega
   by_cases g2:6<seq.length∧12<c.gates.length
   ·have g2':(6:Int)<seq.length:=by omega
    have g3':(12:Int)<c.gates.length:=by omega
    simp [g1,g1',g2,g2',g3'];exact .back (by simp)
   have hb:=hc.toB
   have hqk2:∀ x∈seq,Kd 1 x.1 x.2∧x.2.length<2^40:=fun x hx=>⟨hqk x hx,by have:=w2 x hx; omega⟩
   have a1:=p_step_Run hΓ c hb state seq (by omega) (by omega) hk1 hkq hqk2;obtain ⟨v,hv,a2⟩:=p_r08_Run (Γ:=Γ) c hc state seq (by omega) (by omega) hk1 hkq hqk2;obtain ⟨z1,z2,z3⟩:=runE_rows c seq state;have b1:=hc.2.1;have b2:=hc.2.2.1;have hRo:=rows_two (Γ:=Γ) (runE c state seq).1 (runE c state seq).1 (by omega) (fun x hx=>by have:=z2 x hx; omega) (fun x hx=>by have:=z2 x hx; omega)
   have hBo:∀ {k},Kd 1 k (runE c state seq).2.1→PureCon Tryz.prog Γ n_r08_Bools [.list false 1 ((runE c state seq).2.1.map .bool),.list false k ((runE c state seq).2.1.map .bool)] (.bool true):=by
    intro k hk;have:=p_r08_Bools (Γ:=Γ) (runE c state seq).2.1 (runE c state seq).2.1 (ka:=1) (kb:=k) .self hk (by omega);simpa using this
   unfold lastV at hv;generalize runE c state seq=R at *;obtain ⟨o,nx,e⟩:=R;simp at a1 a2 hRo hBo hv
   have hg:(6<seq.length→¬ 12<c.gates.length):=fun h h2=>g2 ⟨h,h2⟩
   rcases hv with rfl | ⟨k,hk,rfl⟩
   ·have hB:=hBo .self
    by_cases g6:6<seq.length
    ·have g6':(6:Int)<seq.length:=by omega
     have g7:=hg g6
     have g7':¬ (12:Int)<c.gates.length:=by omega
     simp [g1,g1',g6,g6',g7,g7'];refine .call 90 (by simp) a1 ?_;simp;refine .call 90 (by simp) a2 ?_;simp;refine .call 90 (by simp) hRo ?_;simp;refine .call 90 (by simp) hB ?_;simp;exact .back (by simp)
    ·have g6':¬ (6:Int)<seq.length:=by omega
     simp [g1,g1',g6,g6'];refine .call 90 (by simp) a1 ?_;simp;refine .call 90 (by simp) a2 ?_;simp;refine .call 90 (by simp) hRo ?_;simp;refine .call 90 (by simp) hB ?_;simp;exact .back (by simp)
   ·have hB:=hBo hk
    by_cases g6:6<seq.length
    ·have g6':(6:Int)<seq.length:=by omega
     have g7:=hg g6
     have g7':¬ (12:Int)<c.gates.length:=by omega
     simp [g1,g1',g6,g6',g7,g7'];refine .call 90 (by simp) a1 ?_;simp;refine .call 90 (by simp) a2 ?_;simp;refine .call 90 (by simp) hRo ?_;simp;refine .call 90 (by simp) hB ?_;simp;exact .back (by simp)
    ·have g6':¬ (6:Int)<seq.length:=by omega
     simp [g1,g1',g6,g6'];refine .call 90 (by simp) a1 ?_;simp;refine .call 90 (by simp) a2 ?_;simp;refine .call 90 (by simp) hRo ?_;simp;refine .call 90 (by simp) hB ?_;simp;exact .back (by simp)
end Go.Proofs.YtpinapmcemimcaaGreatDoor
namespace Go.Proofs.YtpinapmcemimcaaGreatDoor
open Go.AM Go.Proofs Go.ChangeShapes Go.WideShapes Go.ChangeAt Go.RowKit
theorem stepRuns_reads (os:Os) {H:Type} (enc:TypeId×Value→H):∃ ds places,DataW.whole enc Tryz.prog ((startW os).forCall (fun _ _=>0) ⟨#[],#[.agg #[.slice none 0 0,.slice none 0 0,.slice none 0 0,.slice none 0 0],.slice none 0 0,.slice none 0 0],[]⟩).memory Tryz.f5.params.toList Rows.stepRunsSpec.vars false (#[.agg #[.slice none 0 0,.slice none 0 0,.slice none 0 0,.slice none 0 0],.slice none 0 0,.slice none 0 0]:Array Value).toList 8=some (ds,[],places) :=
 ⟨[.agg [.nil,.nil,.nil,.nil],.nil,.nil],[],by kernel_rfl⟩
set_option maxRecDepth 100000 in
theorem stepRuns_lifted (os:Os) (started:os.Started) (H:Type) (enc:TypeId×Value→H) (F:Stop.Interp) :
  ReturnsInHanded {} Tryz.checked os 5 .any ((OpenSpec.ofChange Rows.stepRunsSpec).preRow enc Tryz.prog Tryz.f5 Rows.stepRunsRow.domain false Rows.stepRunsRow.laid) (((OpenSpec.ofChange Rows.stepRunsSpec).at F).post enc Tryz.prog Tryz.f5 false true false false):=by
 obtain ⟨ds,places,hx⟩:=stepRuns_reads os enc
 refine returnsInHanded_of_row (C:=Tryz.checked) (s:=OpenSpec.ofChange Rows.stepRunsSpec) own started (by kernel_rfl) Tryz.func5
  (witness_row_at (enc:=enc) (C:=Tryz.checked) false (startW os) #[.agg #[.slice none 0 0,.slice none 0 0,.slice none 0 0,.slice none 0 0],.slice none 0 0,.slice none 0 0] rfl (by kernel_rfl) (by kernel_rfl) (by kernel_rfl)
   (OpenSpec.preRow_of_cond 8 hx (by kernel_rfl) (fun k hk=>by cases hk) (by kernel_rfl) (door_met os _))) ?_
 intro W base args ds gs before hval hW _ _ _ hL hsh _;obtain ⟨Γ,hΓ,hok⟩:=ins_laid hL;refine law_callsQ Down.any (Γ:=Γ) (shs:=[(true,shCt),(false,shBs),(false,shBr)]) laid mapsR (tb:=4) (by kernel_rfl) u4 (of_decide_eq_true (by kernel_rfl)) (by kernel_rfl) rfl ?_ hok ?_ hval hW (fun _ _=>trivial)
 ·intro ds hds
  match ds,hds with
  | [d1,d2,d3],_=>exact ⟨rfl,rfl,rfl⟩
 ·intro xs has;simp only [IsArgs] at has;obtain ⟨_,_,rfl,h1,_,_,_,rfl,h2,_,_,_,rfl,h3,_,rfl⟩:=has;obtain ⟨a1,l1,_⟩:=dec_ct h1;obtain ⟨a2,rfl⟩:=dec_bools h2;obtain ⟨a3,rfl,a3k⟩:=dec_rows h3;simp only [mkA,l1];exact l_StepRuns hΓ a1 a2 a3 .self .self a3k
theorem stepRuns_said:Rows.StepRunsSaid :=
 OpenClaim.holds_of_cond 5 Tryz.f5 rfl rfl rfl rfl rfl rfl rfl ⟨rfl,rfl,rfl,rfl,rfl⟩ rfl rfl rfl rfl rfl (by kernel_rfl) Tryz.func5 (by kernel_rfl)
  (of_decide_eq_true (by kernel_rfl)) (by unfold Func.isWrapper; first | (rw [if_pos (by decide +kernel)]; kernel_rfl) | (rw [if_neg (by decide +kernel)]; exact ⟨rfl,rfl⟩))
  (fun os started H enc _ F=>by rw [OpenClaim.pre_eq_preRow]; exact stepRuns_lifted os started H enc F)
theorem stepRuns_plain (f:FuncId) (fn:Func) (hf:Tryz.pinned.checked.prog.funcNamed "patchbay/patchbaylaw08.StepRuns" = some f) (hfn:Tryz.pinned.checked.prog.funcs[f]? = some fn) :
  true=Tryz.pinned.checked.prog.looks []∧∀ (j:Nat) t,fn.params[j]? = some t→Tryz.pinned.checked.prog.wantsStandIn t=false:=by
 obtain rfl:f=5:=Option.some.inj ((show Tryz.prog.funcNamed "patchbay/patchbaylaw08.StepRuns" = some 5 by kernel_rfl).symm.trans hf) |>.symm
 obtain rfl:fn=Tryz.f5:=(Option.some.inj (Tryz.func5.symm.trans hfn)).symm;refine ⟨by kernel_rfl,fun j t ht => ?_⟩
 have h1:(Tryz.f5.params.toList.all fun t => !Tryz.prog.wantsStandIn t)=true:=by kernel_rfl
 have h2:=List.all_eq_true.1 h1 t (by simpa using Array.mem_of_getElem? ht)
 revert h2
 show (!Tryz.prog.wantsStandIn t)=true→Tryz.prog.wantsStandIn t=false
 cases Tryz.prog.wantsStandIn t <;> intro h <;> first | rfl | cases h
theorem stepRuns_holds:Rows.StepRunsCardSaid :=
 Claim7.holds_tied_plain_at .later [] _ _ _ _ stepRuns_said (fun _ h=>by cases h) (by kernel_rfl) (fun _ h=>by cases h) stepRuns_row_tie rfl ⟨rfl,rfl⟩ (by kernel_rfl) rfl stepRuns_plain (by kernel_rfl)
#print axioms stepRuns_holds
end Go.Proofs.YtpinapmcemimcaaGreatDoor
