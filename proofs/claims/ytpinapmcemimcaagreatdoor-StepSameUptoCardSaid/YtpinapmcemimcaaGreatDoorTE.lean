/- Order, by definition: what comes first. -/
import Derived.Test.YtpinapmcemimcaaGreatDoorH
import Derived.Test.YtpinapmcemimcaaGreatDoorF
set_option linter.unusedSimpArgs false
set_option linter.unusedVariables false
namespace Go.Proofs.YtpinapmcemimcaaGreatDoor
open Go.AM Go.Proofs
variable {Γ : Nat → Option AV}
theorem p_r06_Place (c:Ct) (hc:CtFew c) (s:Bs):PureCon Tryz.prog Γ n_r06_Place [eCt c,.str s] (.int .i64 (placeC c s)):=by
 have hN:=nets_le hc
 have key:∀ n i:Nat,i+n=(netsC c).length→Fins Tryz.prog Γ (yjz (.str s) (.list false 1 ((netsC c).map .str)) (.int .i64 i) []) (.ret (.int .i64 (idxS s ((netsC c).drop i) i))):=by
  generalize netsC c=l at hN;intro n
  induction n with
  | zero =>
   intro i hi
   have q1:¬ i<l.length:=by omega
   rw [List.drop_eq_nil_of_le (by omega),idxS];refine .go 60 ?_;simp [q1];exact .back (by simp)
  | succ n ih =>
   intro i hi
   have q1:i<l.length:=by omega
   have hh:=ih (i+1) (by omega);rw [List.drop_eq_getElem_cons q1,idxS];refine .go 60 ?_
   by_cases h:l[i]=s
   ·have h':s=l[i]:=h.symm;simp [q1,h];exact .back (by simp [h])
   ·have h':¬ s=l[i]:=fun e=>h e.symm
    simp (disch:=omega) [q1,h,h'];refine .reLoop ?_;simp at hh ⊢;exact hh
 refine .run 60 c_r06_Place (by simp) ?_;simp;refine .call 1 (by simp) (p_r06_Nets c hc) ?_;simp;refine .trees [8] ?_;simp;refine .go 60 ?_;simp;refine .inLoop ?_;simp;refine .drop 0 rfl (by simp) (by simp) (by simp) ?_;have hh:=key (netsC c).length 0 (by omega);simp [placeC] at hh ⊢;exact hh
def rowsB (seq:List (Nat×List Bool)) (m:Nat):Bool:=(seq.take (m+1)).all (fun x=>decide (x.2.length≤60))&&decide (seq.length≤m)
theorem rowsB_yes {seq:List (Nat×List Bool)} {m:Nat} (h:rowsB seq m=true):seq.length≤m∧∀ x∈seq,x.2.length≤60:=by
 simp only [rowsB,Bool.and_eq_true,decide_eq_true_eq] at h;rw [List.take_of_length_le (by omega),List.all_eq_true] at h;exact ⟨h.2,fun x hx=>by simpa using h.1 x hx⟩
set_option maxRecDepth 8000 in
theorem p_w08_Rows (seq:List (Nat×List Bool)) {kq:Nat} (hkq:Kd 1 kq seq) (m:Nat) (hm:m<2^40):PureCon Tryz.prog Γ n_w08_Rows [.list false kq (seq.map eCatB),.int .i64 m] (.bool (rowsB seq m)):=by
 have e1:((seq.length:Int)≤m)=(seq.length≤m):=propext (by omega);have hlen:(seq.take (m+1)).length=min (m+1) seq.length:=List.length_take
 have key:∀ n i:Nat,i+n=(seq.take (m+1)).length→Fins Tryz.prog Γ (ygL (.list false kq (seq.map eCatB)) (.int .i64 m) (.int .i64 i) []) (.ret (.bool (((seq.take (m+1)).drop i).all (fun x=>decide (x.2.length≤60))&&decide (seq.length≤m)))):=by
  intro n
  induction n with
  | zero =>
   intro i hi;rw [List.drop_eq_nil_of_le (by omega)];refine .go 60 ?_
   by_cases q1:i<seq.length
   ·have q2:¬ i≤m:=by omega
    have q3:¬ (i:Int)≤m:=by omega
    simp [q1,q2,q3,e1];exact .back (by simp)
   ·simp [q1,e1];exact .back (by simp)
  | succ n ih =>
   intro i hi
   have q1:i<seq.length:=by omega
   have q2:i≤m:=by omega
   have q3:(i:Int)≤m:=by omega
   have q4:=eq_true (hkq.of q1);have hh:=ih (i+1) (by omega);rw [List.drop_eq_getElem_cons (by omega:i<(seq.take (m+1)).length),List.all_cons,List.getElem_take];refine .go 60 ?_
   by_cases h6:seq[i].2.length≤60
   ·have h6':¬ 60<seq[i].2.length:=by omega
    have h6'':¬ (60:Int)<seq[i].2.length:=by omega
    simp (disch:=omega) [q1,q2,q3,q4,h6,h6',h6''];refine .reLoop ?_;simp at hh ⊢;exact hh
   ·have h6':60<seq[i].2.length:=by omega
    have h6'':(60:Int)<seq[i].2.length:=by omega
    simp (disch:=omega) [q1,q2,q3,q4,h6,h6',h6''];exact .back (by simp [h6'])
 refine .run 60 c_w08_Rows (by simp) ?_;simp;refine .inLoop ?_;have hh:=key (seq.take (m+1)).length 0 (by omega);unfold rowsB;rw [List.drop_zero] at hh;generalize (seq.take (m+1)).all (fun x=>decide (x.2.length≤60))=b at *;simp at hh ⊢;exact hh
theorem runG_rows (c:Ct):∀ (seq:List (Nat×List Bool)) (s:List Bool),∀ x∈(runG c seq s).1,x.length=c.outputs.length
 | [],s,x,h=>by simp [runG] at h
 | i::r,s,x,h=>by
  rw [runG] at h
  split at h
  ·simp only [List.mem_cons] at h
   rcases h with rfl | h
   ·simp [outsC,pickL]
   ·exact runG_rows c r _ x h
  ·simp at h
theorem runE_rows (c:Ct) (seq:List (Nat×List Bool)) (s:List Bool):(runE c s seq).1.length≤seq.length∧(∀ x∈(runE c s seq).1,x.length=c.outputs.length)∧(runE c s seq).2.1.length≤c.latches.length:=by
 unfold runE
 split
 ·split
  ·split
   ·rename_i hl
    split
    ·exact ⟨runG_le c seq s,runG_rows c seq s,Nat.le_of_eq (runG_len c seq s hl)⟩
    ·exact ⟨by simp,by simp,by simp⟩
   ·exact ⟨by simp,by simp,by simp⟩
  ·exact ⟨by simp,by simp,by simp⟩
 ·exact ⟨by simp,by simp,by simp⟩
theorem rows_two (a b:List (List Bool)) (h:a.length<2^40) (ha:∀ x∈a,x.length<2^40) (hb:∀ x∈b,x.length<2^40):PureCon Tryz.prog Γ n_r08_Rows [.list false 1 (a.map eRB),.list false 1 (b.map eRB)] (.bool (decide (a=b))):=by
 have:=p_r08_Rows (Γ:=Γ) (a.map fun x=>(1,x)) (b.map fun x=>(1,x)) (ka:=1) (kb:=1) .self .self (by simp; omega) (by
  intro x hx;obtain ⟨y,hy,rfl⟩:=List.mem_map.1 hx
  exact ⟨.self,ha y hy⟩) (by
  intro x hx;obtain ⟨y,hy,rfl⟩:=List.mem_map.1 hx
  exact ⟨.self,hb y hy⟩)
 simp only [sndL,List.map_map] at this
 have e:∀ l:List (List Bool),l.map ((fun x=>x.2) ∘ fun x=>((1:Nat),x))=l:=fun l=>by
  rw [show ((fun x:Nat×List Bool=>x.2) ∘ fun x:List Bool=>((1:Nat),x))=id from rfl,List.map_id]
 rw [e,e] at this;exact this
theorem runG_F (c:Ct):∀ (seq:List (Nat×List Bool)) (s:List Bool),s.length=c.latches.length →
  ((runG c seq s).2.2=0∧runF c (seq.map (·.2)) s=some ((runG c seq s).1,(runG c seq s).2.1))∨((runG c seq s).2.2=11∧runF c (seq.map (·.2)) s=none)
 | [],s,_=>.inl ⟨rfl,rfl⟩
 | i::r,s,hs=>by
  rw [List.map_cons,runF,runG]
  by_cases hi:i.2.length=c.inputs.length
  ·have hl:lensB c i.2 s=true:=by simp [lensB,hi,hs]
   rw [if_pos hi,if_pos hl]
   rcases runG_F c r (nextC c i.2 s) (nextC_len _ _ _) with ⟨h1,h2⟩ | ⟨h1,h2⟩
   ·exact .inl ⟨h1,by rw [h2]; rfl⟩
   ·exact .inr ⟨h1,by rw [h2]; rfl⟩
  ·have hl:¬ lensB c i.2 s=true:=by simp [lensB,hi]
   rw [if_neg hi,if_neg hl];exact .inr ⟨rfl,rfl⟩
theorem runE_of {c:Ct} {s:List Bool} {seq:List (Nat×List Bool)} (ho:okC c=true) (hq:seq.length≤40) (hs:s.length=c.latches.length) :
  (∃ x,runF c (seq.map (·.2)) s=some x∧runE c s seq=(x.1,x.2,0))∨(runF c (seq.map (·.2)) s=none∧runE c s seq=([],[],11)):=by
 unfold runE;rw [if_pos ho,if_pos hq,if_pos hs]
 rcases runG_F c seq s hs with ⟨h1,h2⟩ | ⟨h1,h2⟩
 ·rw [if_pos h1];refine .inl ⟨_,h2,?_⟩;rw [← h1]
 ·rw [if_neg (by omega),h1];exact .inr ⟨h2,rfl⟩
theorem same_perm {c:Ct} (ok:CtOk c) (hall:∀ i<c.gates.length,i∈sortC c) (ho:okC c=true) {G:List Gt} (hp:G.Perm c.gates) {s:List Bool} {seq:List (Nat×List Bool)} (hq:seq.length≤40) (hs:s.length=c.latches.length) :
  runE (withG c G) s seq=runE c s seq:=by
 have okd:=withG_ok ok hp;have hd:=right_names (right_of ok);have halld:=come_sub okd hd (fun g hg=>hp.mem_iff.1 hg) hall
 have hod:okC (withG c G)=true:=by simp [okC,check_of okd halld]
 have hr:=perm_run ok hall hp (seq.map (·.2)) s hs
 rcases runE_of ho hq hs with ⟨x,h1,h2⟩ | ⟨h1,h2⟩ <;> rcases runE_of (c:=withG c G) hod hq hs with ⟨y,h3,h4⟩ | ⟨h3,h4⟩
 ·rw [hr,h1] at h3;obtain rfl:=Option.some.inj h3;rw [h2,h4]
 ·rw [hr,h1] at h3; cases h3
 ·rw [hr,h1] at h3; cases h3
 ·rw [h2,h4]
theorem same_trim {c:Ct} (ok:CtOk c) (hall:∀ i<c.gates.length,i∈sortC c) (ho:okC c=true) {s:List Bool} {seq:List (Nat×List Bool)} (hq:seq.length≤40) (hs:s.length=c.latches.length) :
  (runE (trimC c) (leftS (keepQ c) c.latches s) seq).1=(runE c s seq).1∧(runE (trimC c) (leftS (keepQ c) c.latches s) seq).2.2=(runE c s seq).2.2:=by
 have okt:=trim_ok ok;have hd:=right_names (right_of ok);have hallt:=come_sub okt hd (fun g hg=>(trim_gate.1 hg).1) hall
 have hot:okC (trimC c)=true:=by simp [okC,check_of okt hallt]
 have hlen:(leftS (keepQ c) c.latches s).length=(trimC c).latches.length:=leftS_len _ _ _ hs;have hr:=trim_run ok hall (seq.map (·.2)) s hs
 rcases runE_of ho hq hs with ⟨x,h1,h2⟩ | ⟨h1,h2⟩ <;> rcases runE_of (c:=trimC c) hot hq hlen with ⟨y,h3,h4⟩ | ⟨h3,h4⟩
 ·rw [h1,h3] at hr;rw [h2,h4];exact ⟨by simpa using hr,rfl⟩
 ·rw [h1,h3] at hr; simp at hr
 ·rw [h1,h3] at hr; simp at hr
 ·rw [h2,h4]; exact ⟨rfl,rfl⟩
def kG0 (c:Ct):Ct:=⟨c.inputs,c.outputs,c.latches,[],c.kI,c.kO,c.kL,0,c.hI,c.hO,c.hL,.nil⟩
theorem runE_k0 (c:Ct) (s:List Bool) (seq:List (Nat×List Bool)):runE (kG0 c) s seq=runE (withG c []) s seq:=by
 have h1:checkO (kG0 c)=checkO (withG c []):=rfl
 have h2:okC (kG0 c)=okC (withG c []):=by unfold okC; rw [h1]
 have h3:∀ i s,envC (kG0 c) i s=envC (withG c []) i s:=fun i s=>rfl
 have h4:∀ seq s,runG (kG0 c) seq s=runG (withG c []) seq s:=by
  intro seq
  induction seq with
  | nil=>intro s; rfl
  | cons i r ih =>
   intro s;rw [runG,runG];rw [ih];rfl
 unfold runE;rw [h2,h4];rfl
theorem drop_rev {α:Type} (l:List α) {i:Nat} (h:i<l.length):(l.drop i).reverse=(l.drop (i+1)).reverse++[l[i]]:=by
 rw [List.drop_eq_getElem_cons h,List.reverse_cons]
abbrev hD0 (c:Ct) (F:AV):List Ob:=[.cells (AV.cells (eCt c)),.cells [.list false c.kI (c.inputs.map .str),.list false c.kO (c.outputs.map .str),.list false c.kL (c.latches.map eLt),F],
 .row 1 t_string [] none true false,.row 1 t_string [] none true false,.row 3 t_api_Latch_2 [] none true false,.row 5 t_api_Gate [] none true false]
abbrev hDg (c:Ct) (G:List Gt):List Ob:=hD0 c (.sl 6 0 G.length)++[.row 5 t_api_Gate (G.map eGt) none true false]
abbrev L12 (c:Ct) (kq:Nat) (seq:List (Nat×List Bool)) (s:List Bool) (o:List (List Bool)) (e:Int) (m:Int) (h:List Ob):Cfg:=ybv (.list false kq (seq.map eCatB)) (.ptr 0 0) (.bool true) (.list false 1 (s.map .bool)) (.list false 1 (o.map eRB)) (.int .i64 e) (.ptr 1 0) (.int .i64 m) h ⟨[],.norm,0,[]⟩
abbrev E12 (c:Ct) (kq:Nat) (seq:List (Nat×List Bool)) (s:List Bool) (o:List (List Bool)) (e:Int) (h:List Ob):Cfg:=ybw (.list false kq (seq.map eCatB)) (.ptr 0 0) (.bool true) (.list false 1 (s.map .bool)) (.list false 1 (o.map eRB)) (.int .i64 e) (.ptr 1 0) h ⟨[],.norm,0,[]⟩
set_option maxRecDepth 8000 in
theorem r_sm12 (c:Ct) (hN:c.gates.length<2^20) (kq:Nat) (seq:List (Nat×List Bool)) (s:List Bool) (o:List (List Bool)) (e:Int):∀ n:Nat,n<c.gates.length →
  AM.Reach Tryz.prog Γ (L12 c kq seq s o e ((n:Int) - 1) (hDg c (c.gates.drop n).reverse)) (E12 c kq seq s o e (hDg c c.gates.reverse)):=by
 intro n
 induction n with
 | zero =>
  intro hn;rw [List.drop_zero];generalize c.gates.reverse=G;refine .goS 60 ?_;simp;exact .exit rfl rfl
 | succ n ih =>
  intro hn
  have q1:n<c.gates.length:=by omega
  have q2:=eq_true (c.hG.of q1);have hh:=ih q1
  have hl:(c.gates.drop (n+1)).reverse.length<2^20:=by simp; omega
  rw [drop_rev _ q1] at hh;generalize (c.gates.drop (n+1)).reverse=G at *;generalize c.gates.reverse=G2 at *
  have hle:(G.length+1)*80≤140737488355328:=by omega
  have e1:((n+1:Nat):Int) - 1=n:=by omega
  rw [e1];refine .goS 60 ?_;simp [q1];refine .drS 60 ?_;simp (disch:=omega) [q1,q2,hle];refine .reLoop ?_;simp;refine .resetTo (i:=6) rfl (by simp) (by simp) (by simp) ?_;simp at hh ⊢;exact hh
theorem leftS_snoc (p:Lt→Bool) (q:Lt) (v:Bool):∀ (l:List Lt) (s:List Bool),s.length=l.length→leftS p (l++[q]) (s++[v])=leftS p l s++(if p q=true then [v] else [])
 | [],[],_=>by simp [leftS]
 | [],_::_,h=>by simp at h
 | _::_,[],h=>by simp at h
 | a::l,b::s,h=>by
  have ih:=leftS_snoc p q v l s (by simpa using h);rw [List.cons_append,List.cons_append,leftS,leftS,ih]
  split <;> simp
theorem keep_place {c:Ct} (ok:CtOk c) {q:Lt} (hq:q∈c.latches):(0≤placeC (trimC c) q.name)↔keepQ c q=true:=by
 have h1:=idxS_has q.name (netsC (trimC c)) 0
 have h2:(0≤placeC (trimC c) q.name)↔q.name∈netsC (trimC c):=by
  unfold placeC;rw [← List.contains_iff_mem,← h1,decide_eq_true_eq]
 rw [h2,mem_netsT];have hd:=nets_nodup ok;rw [List.nodup_append] at hd;obtain ⟨hb,_,hbg⟩:=hd;unfold baseN at hb hbg;rw [List.nodup_append] at hb;have hqm:q.name∈c.latches.map (·.name):=List.mem_map_of_mem (f:=(·.name)) hq;simp only [keepQ,List.contains_iff_mem];constructor
 ·rintro (h | ⟨_,_,h,_⟩ | ⟨g,hg,h,he⟩)
  ·exact absurd rfl (hb.2.2 _ h _ hqm)
  ·exact h
  ·exact h
 ·intro h;exact .inr (.inl ⟨q,hq,h,rfl⟩)
abbrev hT2 (c t:Ct) (V:List Bool):List Ob:=[.cells (AV.cells (eCt c)),.cells (AV.cells (eCt t)),
 .row 1 t_string [] none true false,.row 1 t_string [] none true false,.row 3 t_api_Latch_2 [] none true false,.row 5 t_api_Gate [] none true false,.row 1 t_bool (V.map .bool) none true false]
abbrev L2 (c:Ct) (kq:Nat) (seq:List (Nat×List Bool)) (s:List Bool) (o o2:List (List Bool)) (e e2:Int) (m n:Nat) (h:List Ob):Cfg:=ybs (.list false kq (seq.map eCatB)) (.ptr 0 0) (.bool true) (.list false 1 (s.map .bool)) (.list false 1 (o.map eRB)) (.int .i64 e) (.list false 1 (o2.map eRB)) (.int .i64 e2) (.ptr 1 0) (.sl 6 0 m) (.int .i64 n) h ⟨[],.norm,0,[]⟩
abbrev E2 (c:Ct) (kq:Nat) (seq:List (Nat×List Bool)) (s:List Bool) (o o2:List (List Bool)) (e e2:Int) (m:Nat) (h:List Ob):Cfg:=ybt (.list false kq (seq.map eCatB)) (.bool true) (.list false 1 (o.map eRB)) (.int .i64 e) (.list false 1 (o2.map eRB)) (.int .i64 e2) (.ptr 1 0) (.sl 6 0 m) h ⟨[],.norm,0,[]⟩
set_option maxRecDepth 8000 in
theorem r_sm2 (c:Ct) (hc:CtFew c) (ok:CtOk c) (kq:Nat) (seq:List (Nat×List Bool)) (s:List Bool) (hs:s.length=c.latches.length) (o o2:List (List Bool)) (e e2:Int):∀ n i:Nat,i+n=c.latches.length →
  AM.Reach Tryz.prog Γ (L2 c kq seq s o o2 e e2 (leftS (keepQ c) (c.latches.take i) (s.take i)).length i (hT2 c (trimC c) (leftS (keepQ c) (c.latches.take i) (s.take i))))
   (E2 c kq seq s o o2 e e2 (leftS (keepQ c) c.latches s).length (hT2 c (trimC c) (leftS (keepQ c) c.latches s))):=by
 have hN:=hc.2.2.1;have htf:=trim_few hc;intro n
 induction n with
 | zero =>
  intro i hi
  have q1:¬ i<c.latches.length:=by omega
  rw [List.take_of_length_le (by omega),List.take_of_length_le (by omega)];generalize leftS (keepQ c) c.latches s=V;generalize trimC c=t;refine .goS 60 ?_;simp [q1];exact .exit rfl rfl
 | succ n ih =>
  intro i hi
  have q1:i<c.latches.length:=by omega
  have q1':i<s.length:=by omega
  have q2:=eq_true (c.hL.of q1);have hh:=ih (i+1) (by omega);have hP:=p_r06_Place (Γ:=Γ) (trimC c) htf c.latches[i].name;have hk:=keep_place ok (List.getElem_mem q1);rw [List.take_succ_eq_append_getElem q1,List.take_succ_eq_append_getElem q1',leftS_snoc _ _ _ _ _ (by simp; omega)] at hh
  have hl:(leftS (keepQ c) (c.latches.take i) (s.take i)).length≤i:=by
   rw [leftS_len _ _ _ (by simp; omega)];have:=List.length_filter_le (keepQ c) (c.latches.take i);simp at this ⊢;omega
  generalize leftS (keepQ c) (c.latches.take i) (s.take i)=V at *;generalize leftS (keepQ c) c.latches s=V2 at *;generalize keepQ c c.latches[i]=w at *;generalize placeC (trimC c) c.latches[i].name=pl at *;generalize trimC c=t at *
  have hle:V.length≤140737488355327:=by omega
  refine .goS 60 ?_;simp [q1,q2];refine .drS 60 ?_;simp (disch:=omega) [q1,q2];refine .call (by simp) hP ?_
  cases w with
  | true =>
   have hk':=hk.2 rfl;simp (disch:=omega) [hk',q1,q1',hle];refine .reLoop ?_;simp;refine .dropTo 7 (by simp; rfl) (by simp) (by simp) (by simp) ?_;refine .resetTo (i:=6) rfl (by simp) (by simp) (by simp) ?_;simp [hT2] at hh ⊢;exact hh
  | false =>
   have hk':¬ 0≤pl:=fun h=>by simpa using hk.1 h
   simp (disch:=omega) [hk',q1,q1',hle];refine .reLoop ?_;simp;simp at hh ⊢;exact hh
set_option maxRecDepth 8000 in
theorem l_StepSame (hΓ:InsG Γ) (c:Ct) (hb:CtB c) (seq:List (Nat×List Bool)) (picks:List Bool) (hpl:picks.length<2^40) {kq kp:Nat} (hkq:Kd 1 kq seq) (hqk:∀ x∈seq,Kd 1 x.1 x.2) (hkp:Kd 1 kp picks) :
  PureCon Tryz.prog Γ n_w08_StepSame [eCt c,.list false kq (seq.map eCatB),.list false kp (picks.map .bool)] (.bool true):=by
 have hF:=p_Few (Γ:=Γ) c;have hW:=p_w08_Rows (Γ:=Γ) seq hkq 12 (by omega);have hS:=p_step_Start hΓ c hb picks hkp hpl;simp at hW;refine .run 90 c_w08_StepSame (by simp) ?_;simp;refine .call 90 (by simp) (p_worksS hΓ) ?_;simp;refine .call 90 (by simp) hF ?_
 cases hf:fewC c with
 | false =>
  simp;refine .call 90 (by simp) hS ?_;simp;exact .back (by simp)
 | true =>
  simp;refine .call 90 (by simp) hW ?_;simp
  cases hw:rowsB seq 12 with
  | false =>
   refine .call 90 (by simp) hS ?_;simp;exact .back (by simp)
  | true =>
   obtain ⟨w1,w2⟩:=rowsB_yes hw
   cases ho:okC c with
   | false =>
    refine .call 90 (by simp) hS ?_;simp [ho];exact .back (by simp)
   | true =>
    by_cases g1:60<picks.length
    ·have g1':(60:Int)<picks.length:=by omega
     refine .call 90 (by simp) hS ?_;simp [ho,g1,g1'];exact .back (by simp)
    have g1':¬ (60:Int)<picks.length:=by omega
    obtain ⟨hr,hn,_⟩:=okC_yes ho;obtain ⟨ok,_⟩:=right_ok hr;have hall:=all_come hr hn;have hc:=few_net hf;have hsl:=startF_len c.latches picks
    have hqk2:∀ x∈seq,Kd 1 x.1 x.2∧x.2.length<2^40:=fun x hx=>⟨hqk x hx,by have:=w2 x hx; omega⟩
    have b2:=hc.2.2.1;simp only [ho,if_true] at hS;generalize startF c.latches picks=s at *;have a1:=p_step_Run hΓ c hb s seq (by omega) (by omega) (ks:=1) .self hkq hqk2;obtain ⟨z1,z2,z3⟩:=runE_rows c seq s
    have p1:=fun {G:List Gt} (hp:G.Perm c.gates)=>same_perm (seq:=seq) ok hall ho hp (by omega) hsl
    have p2:=same_trim (seq:=seq) ok hall ho (by omega) hsl;generalize runE c s seq=R at *;obtain ⟨o,nx,e⟩:=R;simp at a1 p1 p2 hS
    have htO:trimO c=trimC c:=by rw [trimO,if_pos hr]
    have hT:=p_TrimO hΓ c hb;rw [htO] at hT;have hll:=leftS_len (keepQ c) c.latches s hsl;have hlf:=List.length_filter_le (keepQ c) c.latches;have a3:=p_step_Run hΓ (trimC c) (trim_few hc).toB (leftS (keepQ c) c.latches s) seq (by omega) (by omega) (ks:=1) .self hkq hqk2;obtain ⟨nx3,hx3⟩:∃ nx3,runE (trimC c) (leftS (keepQ c) c.latches s) seq=(o,nx3,e):=⟨_,Prod.ext p2.1 (Prod.ext rfl p2.2)⟩;rw [hx3] at a3;simp at a3 z1 z2;have h2:=r_sm2 (Γ:=Γ) c hc ok kq seq s hsl o o e e c.latches.length 0 (by omega);rw [List.take_zero,List.take_zero,show leftS (keepQ c) [] []=[] from rfl] at h2;have hb1:=hc.2.1;have hRo0:=rows_two (Γ:=Γ) o o (by omega) (fun x hx=>by have:=z2 x hx; omega) (fun x hx=>by have:=z2 x hx; omega)
    have hRo:PureCon Tryz.prog Γ n_r08_Rows [.list false 1 (o.map eRB),.list false 1 (o.map eRB)] (.bool true):=by simpa using hRo0
    generalize leftS (keepQ c) c.latches s=lf at *;generalize trimC c=t at *;refine .call 6 (by simp) hS ?_;simp;refine .trees [9] ?_;simp;refine .reach (.clrs [34,37,38] _) ?_;simp [clrT];refine .drop 1 rfl (by simp) (by simp) (by simp) ?_;refine .go 60 ?_;simp [g1,g1'];refine .call 8 (by simp) a1 ?_;simp;refine .trees [11] ?_;simp;refine .reach (.clrs [12,52,56,57,58] _) ?_;simp [clrT];refine .drop 1 rfl (by simp) (by simp) (by simp) ?_
    have hN:c.gates.length<2^20:=by have:=hc.2.2.2.1; omega
    refine .go 60 ?_
    by_cases hg0:c.gates.length=0
    ·have hg1:c.gates=[]:=List.length_eq_zero_iff.1 hg0
     have hpm:([]:List Gt).Perm c.gates:=by rw [hg1]
     have hdf:CtFew (kG0 c):=withG_few hc hpm;have a2:=p_step_Run hΓ (kG0 c) hdf.toB s seq (by omega) (by omega) (ks:=1) .self hkq hqk2;rw [runE_k0,p1 hpm] at a2;simp [kG0] at a2;simp [hg0];refine .inLoop ?_;simp;refine .go 26 ?_;simp
     by_cases hoe:∀ x∈o,x=[]
     ·refine .call 8 (by simp) a2 ?_;simp
      try rw [if_pos hoe]
      refine .trees [16] ?_;simp;refine .reach (.clrs [14,17,80,81,84,85,86,87] _) ?_;simp [clrT];refine .drop 1 rfl (by simp) (by simp) (by simp) ?_;refine .go 60 ?_;simp;refine .call 60 (by simp) hT ?_;simp;refine .inLoop ?_;simp [hT2,L2,E2] at h2 ⊢;refine .reach h2 ?_;refine .go 60 ?_;simp;refine .call 60 (by simp) a3 ?_;simp
      try rw [if_pos hoe]
      refine .call 60 (by simp) hRo ?_;simp;refine .call 60 (by simp) hRo ?_;simp;exact .back (by simp)
     ·refine .call 8 (by simp) a2 ?_;simp
      try rw [if_neg hoe]
      refine .trees [16] ?_;simp;refine .reach (.clrs [14,17,80,81,84,85,86,87] _) ?_;simp [clrT];refine .drop 1 rfl (by simp) (by simp) (by simp) ?_;refine .go 60 ?_;simp;refine .call 60 (by simp) hT ?_;simp;refine .inLoop ?_;simp [hT2,L2,E2] at h2 ⊢;refine .reach h2 ?_;refine .go 60 ?_;simp;refine .call 60 (by simp) a3 ?_;simp
      try rw [if_neg hoe]
      refine .call 60 (by simp) hRo ?_;simp;refine .call 60 (by simp) hRo ?_;simp;exact .back (by simp)
    ·obtain ⟨n,hn⟩:∃ n,c.gates.length=n+1:=⟨c.gates.length - 1,by omega⟩
     have q1:n<c.gates.length:=by omega
     have q2:=eq_true (c.hG.of q1);have h12:=r_sm12 (Γ:=Γ) c hN kq seq s o e n q1;rw [drop_rev _ q1,List.drop_eq_nil_of_le (by omega:c.gates.length≤n+1)] at h12
     have e1:((c.gates.length:Nat):Int) - 1=n:=by omega
     simp (disch:=omega) [e1];refine .inLoop ?_;simp (disch:=omega);refine .go 60 ?_;simp [q1];refine .dr 60 ?_;simp (disch:=omega) [q1,q2];refine .reLoop ?_;simp [hDg,hD0] at h12 ⊢;refine .reach h12 ?_;have hpm:c.gates.reverse.Perm c.gates:=List.reverse_perm _;have a2:=p_step_Run hΓ (withG c c.gates.reverse) (withG_few hc hpm).toB s seq (by omega) (by omega) (ks:=1) .self hkq hqk2;rw [p1 hpm] at a2;simp [withG] at a2;refine .go 60 ?_;simp;have htk:(c.gates.map eGt).reverse.take c.gates.length=(c.gates.map eGt).reverse:=List.take_of_length_le (by simp)
     by_cases hoe:∀ x∈o,x=[]
     ·refine .call 8 (by simp [htk]) a2 ?_;simp
      try rw [if_pos hoe]
      refine .trees [16] ?_;simp;refine .reach (.clrs [14,17,80,81,84,85,86,87] _) ?_;simp [clrT];refine .drop 1 rfl (by simp) (by simp) (by simp) ?_;refine .go 60 ?_;simp;refine .call 60 (by simp) hT ?_;simp;refine .inLoop ?_;simp [hT2,L2,E2] at h2 ⊢;refine .reach h2 ?_;refine .go 60 ?_;simp;refine .call 60 (by simp) a3 ?_;simp
      try rw [if_pos hoe]
      refine .call 60 (by simp) hRo ?_;simp;refine .call 60 (by simp) hRo ?_;simp;exact .back (by simp)
     ·refine .call 8 (by simp [htk]) a2 ?_;simp
      try rw [if_neg hoe]
      refine .trees [16] ?_;simp;refine .reach (.clrs [14,17,80,81,84,85,86,87] _) ?_;simp [clrT];refine .drop 1 rfl (by simp) (by simp) (by simp) ?_;refine .go 60 ?_;simp;refine .call 60 (by simp) hT ?_;simp;refine .inLoop ?_;simp [hT2,L2,E2] at h2 ⊢;refine .reach h2 ?_;refine .go 60 ?_;simp;refine .call 60 (by simp) a3 ?_;simp
      try rw [if_neg hoe]
      refine .call 60 (by simp) hRo ?_;simp;refine .call 60 (by simp) hRo ?_;simp;exact .back (by simp)
end Go.Proofs.YtpinapmcemimcaaGreatDoor
namespace Go.Proofs.YtpinapmcemimcaaGreatDoor
open Go.AM Go.Proofs Go.ChangeShapes Go.WideShapes Go.ChangeAt Go.RowKit
theorem stepSame_reads (os:Os) {H:Type} (enc:TypeId×Value→H):∃ places,DataW.whole enc Tryz.prog ((startW os).forCall (fun _ _=>0) ⟨#[],#[.agg #[.slice none 0 0,.slice none 0 0,.slice none 0 0,.slice none 0 0],.slice none 0 0,.slice none 0 0],[]⟩).memory Tryz.f6.params.toList Rows.stepSameSpec.vars false (#[.agg #[.slice none 0 0,.slice none 0 0,.slice none 0 0,.slice none 0 0],.slice none 0 0,.slice none 0 0]:Array Value).toList 8=some ([.agg [.nil,.nil,.nil,.nil],.nil,.nil],[],places) :=
 ⟨[],by kernel_rfl⟩
set_option maxRecDepth 100000 in
theorem stepSame_lifted (os:Os) (started:os.Started) (H:Type) (enc:TypeId×Value→H) (F:Stop.Interp) :
  ReturnsInHanded {} Tryz.checked os 6 .any ((Rows.OpenSpec.upto Rows.stepSameSpec).preRow enc Tryz.prog Tryz.f6 Rows.stepSameUptoRow.domain false Rows.stepSameUptoRow.laid) (((Rows.OpenSpec.upto Rows.stepSameSpec).at F).post enc Tryz.prog Tryz.f6 false true false false):=by
 obtain ⟨places,hx⟩:=stepSame_reads os enc
 refine returnsInHanded_of_row (C:=Tryz.checked) (s:=Rows.OpenSpec.upto Rows.stepSameSpec) own started (by kernel_rfl) Tryz.func6
  (witness_row_at (enc:=enc) (C:=Tryz.checked) false (startW os) #[.agg #[.slice none 0 0,.slice none 0 0,.slice none 0 0,.slice none 0 0],.slice none 0 0,.slice none 0 0] rfl (by kernel_rfl) (by kernel_rfl) (by kernel_rfl)
   (OpenSpec.preRow_of_cond 8 hx (by kernel_rfl) (fun k hk=>by cases hk; kernel_rfl) (by kernel_rfl) (door_met os _))) ?_
 intro W base args ds gs before hval hW _ hcond _ hL hsh _;obtain ⟨Γ,hΓ,hok⟩:=ins_laid hL;refine law_callsQ downU (Γ:=Γ) (shs:=[(true,shCt),(false,shBr),(false,shBs)]) laid mapsR (tb:=4) (by kernel_rfl) u4 (of_decide_eq_true (by kernel_rfl)) (by kernel_rfl) rfl ?_ hok ?_ hval hW (small_of (hcond _ rfl))
 ·intro ds hds
  match ds,hds with
  | [d1,d2,d3],_=>exact ⟨rfl,rfl,rfl⟩
 ·intro xs has;simp only [IsArgs] at has;obtain ⟨_,_,rfl,h1,_,_,_,rfl,h2,_,_,_,rfl,h3,_,rfl⟩:=has;obtain ⟨a1,l1,a1b⟩:=dec_ct h1;obtain ⟨a2,rfl,a2k⟩:=dec_rows h2;obtain ⟨a3,rfl,a3b⟩:=dec_boolsU h3;simp only [mkA,l1];exact l_StepSame hΓ a1 (a1b.toB (by decide)) a2 a3 (by omega) .self a2k .self
theorem stepSame_said:Rows.StepSameUptoSaid :=
 OpenClaim.holds_of_cond 6 Tryz.f6 rfl rfl rfl rfl rfl rfl rfl ⟨rfl,rfl,rfl,rfl,rfl⟩ rfl rfl rfl rfl rfl (by kernel_rfl) Tryz.func6 (by kernel_rfl)
  (of_decide_eq_true (by kernel_rfl)) (by unfold Func.isWrapper; first | (rw [if_pos (by decide +kernel)]; kernel_rfl) | (rw [if_neg (by decide +kernel)]; exact ⟨rfl,rfl⟩))
  (fun os started H enc _ F=>by rw [OpenClaim.pre_eq_preRow]; exact stepSame_lifted os started H enc F)
theorem stepSame_plain (f:FuncId) (fn:Func) (hf:Tryz.pinned.checked.prog.funcNamed "patchbay/patchbaylaw08.StepSame" = some f) (hfn:Tryz.pinned.checked.prog.funcs[f]? = some fn) :
  true=Tryz.pinned.checked.prog.looks []∧∀ (j:Nat) t,fn.params[j]? = some t→Tryz.pinned.checked.prog.wantsStandIn t=false:=by
 obtain rfl:f=6:=Option.some.inj ((show Tryz.prog.funcNamed "patchbay/patchbaylaw08.StepSame" = some 6 by kernel_rfl).symm.trans hf) |>.symm
 obtain rfl:fn=Tryz.f6:=(Option.some.inj (Tryz.func6.symm.trans hfn)).symm;refine ⟨by kernel_rfl,fun j t ht => ?_⟩
 have h1:(Tryz.f6.params.toList.all fun t => !Tryz.prog.wantsStandIn t)=true:=by kernel_rfl
 have h2:=List.all_eq_true.1 h1 t (by simpa using Array.mem_of_getElem? ht)
 revert h2
 show (!Tryz.prog.wantsStandIn t)=true→Tryz.prog.wantsStandIn t=false
 cases Tryz.prog.wantsStandIn t <;> intro h <;> first | rfl | cases h
theorem stepSame_holds:Rows.StepSameUptoCardSaid :=
 Claim7.holds_tied_plain_at .later [] _ _ _ _ stepSame_said (fun _ h=>by cases h) (by kernel_rfl) (fun _ h=>by cases h) stepSameUpto_row_tie rfl ⟨rfl,rfl⟩ (by kernel_rfl) rfl stepSame_plain (by kernel_rfl)
#print axioms stepSame_holds
end Go.Proofs.YtpinapmcemimcaaGreatDoor
