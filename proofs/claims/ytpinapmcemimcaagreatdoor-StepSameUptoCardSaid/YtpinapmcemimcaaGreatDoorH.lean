/- OrderWaits: each gate comes behind those for which it waits. -/
import Derived.Test.YtpinapmcemimcaaGreatDoorG
import Derived.Test.YtpinapmcemimcaaGreatDoorF
import Derived.Test.YtpinapmcemimcaaGreatDoorCode
import Derived.Test.YtpinapmcemimcaaGreatDoorAMd
import Derived.Test.YtpinapmcemimcaaGreatDoorCards
import Derived.Test.YtpinapmcemimcaaGreatDoorTie
import Derived.ProofKit
import Derived.Deep.DeepHandedRow
import Derived.LaidMore
import Derived.JoinedCond
set_option linter.unusedSimpArgs false
set_option linter.unusedVariables false
namespace Go.Proofs.YtpinapmcemimcaaGreatDoor
open Go.AM Go.Proofs
variable {Γ : Nat → Option AV}
def nmG (c:Ct) (a:Nat):Bs:=match c.gates[a]? with
 | some g=>g.name
 | none=>[]
theorem nmG_at {c:Ct} {a:Nat} (h:a<c.gates.length):nmG c a=c.gates[a].name:=by simp [nmG,h]
theorem relv_get (a:Nat):∀ (r lv:List Nat) (i:Nat),r.Nodup→a∉r→i<lv.length→(relv a r lv).getD i 0=if i∈r then max (lv.getD i 0) (lv.getD a 0+1) else lv.getD i 0
 | [],lv,i,_,_,_=>by simp [relv]
 | j::r,lv,i,hr,ha,hi=>by
  rw [List.nodup_cons] at hr;simp only [List.mem_cons,not_or] at ha
  have hg:∀ k,(lv.set j (max (lv.getD j 0) (lv.getD a 0+1))).getD k 0=if j=k∧k<lv.length then max (lv.getD j 0) (lv.getD a 0+1) else lv.getD k 0:=fun k=>by
   simp only [List.getD_eq_getElem?_getD,List.getElem?_set]
   by_cases h1:j=k
   ·subst h1
    by_cases h2:j<lv.length
    ·simp [h2]
    ·simp [h2]
   ·simp [h1]
  have e1:=hg a;have e2:=hg i;rw [if_neg (fun h=>ha.1 h.1.symm)] at e1;rw [relv,relv_get a r _ i hr.2 ha.2 (by simpa using hi),e1,e2]
  by_cases hij:j=i
  ·subst hij;rw [if_neg hr.1,if_pos ⟨rfl,hi⟩,if_pos (by simp)]
  ·have hne:¬ i=j:=fun h=>hij h.symm
   have e3:¬ (j=i∧i<lv.length):=fun h=>hij h.1
   simp only [if_neg e3]
   by_cases h3:i∈r
   ·rw [if_pos h3,if_pos (by simp [h3])]
   ·rw [if_neg h3,if_neg (by simp [h3,hne])]
structure LevI (c:Ct) (p:List Nat) (s:List Nat×List Nat):Prop where
 len:s.1.length=c.gates.length
 cm:∀ x,x∈s.2↔x∈p
 ge:∀ i<c.gates.length,∀ a∈p,inK c i a=true→s.1.getD a 0+1≤s.1.getD i 0
 eq:∀ i<c.gates.length,s.1.getD i 0=0∨∃ a∈p,inK c i a=true∧s.1.getD i 0=s.1.getD a 0+1
theorem putM_mem (k x:Nat) (l:List Nat):x∈putM k l↔x∈l∨x=k:=by
 unfold putM
 split
 ·rename_i h;exact ⟨.inl,fun h1=>h1.elim id fun h1=>h1▸h⟩
 ·simp
theorem LevI.step {c:Ct} (hd:(c.gates.map (·.name)).Nodup) {p:List Nat} {s:List Nat×List Nat} (h:LevI c p s) (hall:∀ i∈p,∀ x,inK c i x=true→x∈p) {a:Nat} (ha:a<c.gates.length) (hm:mayB c p a=true):LevI c (p++[a]) (levS c s a):=by
 obtain ⟨hap,haa⟩:=mayB_is.1 hm
 have hab:a∉(bysC c).getD a []:=fun hb=>hap (haa a ((bysC_mem hd ha a).1 hb))
 have hg:∀ i<c.gates.length,(levS c s a).1.getD i 0=if inK c i a=true then max (s.1.getD i 0) (s.1.getD a 0+1) else s.1.getD i 0:=fun i hi=>by
  rw [levS,relv_get a _ _ i (bysC_nodup c ha) hab (by rw [h.len]; exact hi)];simp only [bysC_mem hd ha i]
 have hsame:∀ x∈p,x<c.gates.length→(levS c s a).1.getD x 0=s.1.getD x 0:=fun x hx hxl=>by
  rw [hg x hxl,if_neg fun hk=>hap (hall x hx a hk)]
 have hsa:(levS c s a).1.getD a 0=s.1.getD a 0:=by rw [hg a ha,if_neg fun hk=>hap (haa a hk)]
 refine ⟨by rw [levS,relv_len]; exact h.len,fun x => ?_,fun i hi x hx hk => ?_,fun i hi => ?_⟩
 ·rw [levS];simp only [putM_mem,h.cm,List.mem_append,List.mem_singleton]
 ·rcases List.mem_append.1 hx with hx | hx
  ·have:=h.ge i hi x hx hk;rw [hsame x hx (inK_lt hk).2,hg i hi]
   split <;> omega
  ·rw [List.mem_singleton] at hx;subst hx
   rw [hsa,hg i hi,if_pos hk]; omega
 ·rw [hg i hi]
  by_cases hk:inK c i a=true
  ·rw [if_pos hk]
   rcases Nat.le_total (s.1.getD i 0) (s.1.getD a 0+1) with hle | hle
   ·exact .inr ⟨a,by simp,hk,by rw [hsa]; omega⟩
   ·rcases h.eq i hi with h0 | ⟨x,hx,hkx,he⟩
    ·omega
    ·exact .inr ⟨x,by simp [hx],hkx,by rw [hsame x hx (inK_lt hkx).2]; omega⟩
  ·rw [if_neg hk]
   rcases h.eq i hi with h0 | ⟨x,hx,hkx,he⟩
   ·exact .inl h0
   ·exact .inr ⟨x,by simp [hx],hkx,by rw [hsame x hx (inK_lt hkx).2]; exact he⟩
theorem checkO_no {c:Ct} (h:(checkO c).1=0):rightC c=true∧neverO c=[]∧checkO c=(0,[]):=by
 unfold checkO at h ⊢
 by_cases h0:(checkC c).1=0
 ·rw [if_pos h0] at h ⊢
  cases hn:neverO c with
  | nil=>exact ⟨decide_eq_true h0,rfl,rfl⟩
  | cons s l=>rw [hn] at h; cases h
 ·rw [if_neg h0] at h;exact absurd h h0
theorem all_come {c:Ct} (hr:rightC c=true) (hn:neverO c=[]):∀ i<c.gates.length,i∈sortC c:=fun i hi=>by
 refine Classical.byContradiction fun h => ?_
 have:=(never_at (right_names hr) (sortC c) hi).2 h;rw [neverO,if_pos hr] at hn
 rw [hn] at this; cases this
theorem findU_ok (N:List Bs):∀ l:List Bs,(∀ s∈l,s∈N)→findU N l=(0,[])
 | [],_=>rfl
 | a::l,h=>by rw [findU,if_pos (h a (by simp)),findU_ok N l fun s hs=>h s (by simp [hs])]
theorem findG_ok (r:Int×Bs):∀ l:List Gt,(∀ g∈l,gateB g=true)→findG r l=r
 | [],_=>rfl
 | a::l,h=>by rw [findG,if_pos (h a (by simp)),findG_ok r l fun s hs=>h s (by simp [hs])]
theorem findL_ok (r:Int×Bs):∀ l:List Lt,(∀ g∈l,initOk g=true)→findL r l=r
 | [],_=>rfl
 | a::l,h=>by rw [findL,if_pos (h a (by simp)),findL_ok r l fun s hs=>h s (by simp [hs])]
theorem findN_ok (r:Int×Bs):∀ l:List Bs,(∀ g∈l,nameB g=true)→findN r l=r
 | [],_=>rfl
 | a::l,h=>by rw [findN,if_pos (h a (by simp)),findN_ok r l fun s hs=>h s (by simp [hs])]
theorem check_ok {c:Ct} (h:CtOk c):checkC c=(0,[]):=by
 unfold checkC;rw [h.lim,if_neg (by simp),findN_ok _ _ h.names,h.nets,h.outs,findL_ok _ _ h.init,findG_ok _ _ h.gates,findU_ok _ _ h.used];rfl
theorem right_of {c:Ct} (h:CtOk c):rightC c=true:=by rw [rightC,check_ok h]; rfl
theorem twiceS_of:∀ (l seen:List Bs),l.Nodup→(∀ s∈l,s∉seen)→twiceS seen l=none
 | [],_,_,_=>rfl
 | a::l,seen,hn,h=>by
  rw [List.nodup_cons] at hn;rw [twiceS,if_neg (h a (by simp))]
  refine twiceS_of l _ hn.2 fun s hs => ?_
  simp only [List.mem_append,List.mem_singleton,not_or];exact ⟨h s (by simp [hs]),fun he=>hn.1 (he▸hs)⟩
theorem twice_of {l:List Bs} (h:l.Nodup):twiceL l=none:=twiceS_of l [] h (by simp)
theorem anyB_of {α:Type} {p:α→Bool}:∀ {l:List α},(∀ x∈l,p x=false)→anyB p l=false
 | [],_=>by simp
 | a::l,h=>by rw [anyB_cons,h a (by simp),anyB_of fun x hx=>h x (by simp [hx])]; rfl
def withG (c:Ct) (G:List Gt):Ct:=⟨c.inputs,c.outputs,c.latches,G,c.kI,c.kO,c.kL,5,c.hI,c.hO,c.hL,.self⟩
theorem withG_ok {c:Ct} (ok:CtOk c) {G:List Gt} (hp:G.Perm c.gates):CtOk (withG c G):=by
 have hm:∀ g,g∈G↔g∈c.gates:=fun g=>hp.mem_iff
 have hn:(netsC (withG c G)).Perm (netsC c):=by
  simp only [netsC,withG];exact (List.Perm.refl _).append (hp.map _)
 have hl:=ok.lim;refine ⟨?_,fun s hs=>ok.names s ?_,twice_of (hn.nodup_iff.2 ok.nodup),ok.outs,ok.init,fun g hg=>ok.gates g ((hm g).1 hg),fun s hs=>hn.mem_iff.2 (ok.used s ?_)⟩
 ·simp only [limC,Bool.or_eq_false_iff,decide_eq_false_iff_not] at hl ⊢;refine ⟨anyB_of fun g hg=>anyB_no hl.1 g ((hm g).1 hg),?_,hl.2.2⟩;have:=hp.length_eq
  simp only [withG]; omega
 ·simp only [toldC,toldG,List.mem_append,List.mem_flatMap,withG] at hs ⊢
  refine hs.imp id fun ⟨g,hg,h⟩=>⟨g,(hm g).1 hg,h⟩
 ·simp only [usedC,usedG,List.mem_append,List.mem_flatMap,withG] at hs ⊢
  refine hs.imp id fun ⟨g,hg,h⟩=>⟨g,(hm g).1 hg,h⟩
theorem withG_few {c:Ct} (hc:CtFew c) {G:List Gt} (hp:G.Perm c.gates):CtFew (withG c G):=by
 obtain ⟨h1,h2,h3,h4,h5,h6⟩:=hc;exact ⟨h1,h2,h3,by have:=hp.length_eq; simp only [withG]; omega,fun g hg=>h5 g (hp.mem_iff.1 hg),h6⟩
theorem coneO_is {c:Ct} (hr:rightC c=true) (nets:List Bs) (s:Bs):s∈coneO c nets↔s∈netsC c∧Leads c nets s:=by
 rw [coneO,if_pos hr,List.mem_filter,decide_eq_true_eq,coneC_is]
theorem getM_of {K V:Type} [DecidableEq K]:∀ {M:List (K×V)} {x:K×V},(M.map (·.1)).Nodup→x∈M→getM x.1 M=some x.2
 | (a,v)::l,x,hn,hx=>by
  rw [List.map_cons,List.nodup_cons] at hn;rw [getM]
  rcases List.mem_cons.1 hx with rfl | hx
  ·rw [if_pos rfl]
  ·rw [if_neg fun he=>hn.1 (by rw [← he]; exact List.mem_map_of_mem (f:=(·.1)) hx)];exact getM_of hn.2 hx
theorem nextL_latch {c:Ct} (hn:((nextM c).map (·.1)).Nodup) {q:Lt} (hq:q∈c.latches):nextL c q.name=[q.next]:=by
 rw [nextL,getM_of (x:=(q.name,(true,1,[q.next]))) hn (by simp only [nextM,List.mem_append,List.mem_map]; exact .inl ⟨q,hq,rfl⟩)]
theorem nextL_gate {c:Ct} (hn:((nextM c).map (·.1)).Nodup) {g:Gt} (hg:g∈c.gates):nextL c g.name=g.ins:=by
 rw [nextL,getM_of (x:=(g.name,(false,g.ki,g.ins))) hn (by simp only [nextM,List.mem_append,List.mem_map]; exact .inr ⟨g,hg,rfl⟩)]
theorem mem_nets {c:Ct} {s:Bs}:s∈netsC c↔s∈c.inputs∨(∃ q∈c.latches,q.name=s)∨∃ g∈c.gates,g.name=s:=by
 simp [netsC]
theorem mem_netsT {c:Ct} {s:Bs}:s∈netsC (trimC c)↔s∈c.inputs∨(∃ q∈c.latches,s∈coneO c c.outputs∧q.name=s)∨∃ g∈c.gates,s∈coneO c c.outputs∧g.name=s:=by
 simp only [mem_nets,trimC,List.mem_filter,List.contains_eq_mem,decide_eq_true_eq];refine or_congr Iff.rfl (or_congr ?_ ?_)
 ·constructor
  ·rintro ⟨q,⟨h1,h2⟩,rfl⟩; exact ⟨q,h1,h2,rfl⟩
  ·rintro ⟨q,h1,h2,rfl⟩; exact ⟨q,⟨h1,h2⟩,rfl⟩
 ·constructor
  ·rintro ⟨q,⟨h1,h2⟩,rfl⟩; exact ⟨q,h1,h2,rfl⟩
  ·rintro ⟨q,h1,h2,rfl⟩; exact ⟨q,⟨h1,h2⟩,rfl⟩
theorem keep_nets {c:Ct} {s:Bs} (h1:s∈netsC c) (h2:s∈coneO c c.outputs):s∈netsC (trimC c):=by
 rw [mem_netsT]
 rcases mem_nets.1 h1 with h | ⟨q,hq,h⟩ | ⟨g,hg,h⟩
 ·exact .inl h
 ·exact .inr (.inl ⟨q,hq,h2,h⟩)
 ·exact .inr (.inr ⟨g,hg,h2,h⟩)
theorem trim_latch {c:Ct} {q:Lt}:q∈(trimC c).latches↔q∈c.latches∧q.name∈coneO c c.outputs:=by simp [trimC]
theorem trim_gate {c:Ct} {g:Gt}:g∈(trimC c).gates↔g∈c.gates∧g.name∈coneO c c.outputs:=by simp [trimC]
theorem nets_sub (c:Ct):(netsC (trimC c)).Sublist (netsC c):=by
 simp only [netsC,trimC];exact ((List.Sublist.refl _).append (List.filter_sublist.map _)).append (List.filter_sublist.map _)
theorem CtOk.nodup' {c:Ct} (ok:CtOk c):((nextM c).map (·.1)).Nodup:=by
 have:=ok.nodup;rw [netsC,List.append_assoc,List.nodup_append] at this
 rw [nextM_keys]; exact this.2.1
theorem trim_ok {c:Ct} (ok:CtOk c):CtOk (trimC c):=by
 have hr:=right_of ok;have hn:=ok.nodup';have hl:=ok.lim;refine ⟨?_,fun s hs=>ok.names s ?_,twice_of ((nets_sub c).nodup ok.nodup),ok.outs,fun q hq=>ok.init q (trim_latch.1 hq).1,fun g hg=>ok.gates g (trim_gate.1 hg).1,fun s hs => ?_⟩
 ·simp only [limC,Bool.or_eq_false_iff,decide_eq_false_iff_not] at hl ⊢;have h1:(trimC c).latches.length≤c.latches.length:=List.length_filter_le _ _;have h2:(trimC c).gates.length≤c.gates.length:=List.length_filter_le _ _;have h3:(trimC c).inputs=c.inputs:=rfl;have h4:(trimC c).outputs=c.outputs:=rfl;refine ⟨anyB_of fun g hg=>anyB_no hl.1 g (trim_gate.1 hg).1,?_,?_⟩
  ·rw [h3]; omega
  ·rw [h4]; exact hl.2.2
 ·simp only [toldC,toldL,toldG,List.mem_append,List.mem_flatMap] at hs ⊢
  refine hs.imp (fun h=>h.imp id fun ⟨q,hq,h⟩=>⟨q,(trim_latch.1 hq).1,h⟩) fun ⟨g,hg,h⟩=>⟨g,(trim_gate.1 hg).1,h⟩
 ·have key:Leads c c.outputs s∧s∈netsC c:=by
   simp only [usedC,usedG,List.mem_append,List.mem_flatMap,List.mem_map] at hs
   rcases hs with (hs | ⟨q,hq,rfl⟩) | ⟨g,hg,hs⟩
   ·have hs':s∈c.outputs:=hs;exact ⟨.base hs',ok.used s (by simp [usedC,hs'])⟩
   ·obtain ⟨h1,h2⟩:=trim_latch.1 hq;refine ⟨.step ((coneO_is hr _ _).1 h2).2 (by rw [nextL_latch hn h1]; simp),ok.used _ ?_⟩;simp only [usedC,List.mem_append,List.mem_map];exact .inl (.inr ⟨q,h1,rfl⟩)
   ·obtain ⟨h1,h2⟩:=trim_gate.1 hg;refine ⟨.step ((coneO_is hr _ _).1 h2).2 (by rw [nextL_gate hn h1]; exact hs),ok.used _ ?_⟩;simp only [usedC,usedG,List.mem_append,List.mem_flatMap];exact .inr ⟨g,h1,hs⟩
  exact keep_nets key.2 ((coneO_is hr _ _).2 ⟨key.2,key.1⟩)
theorem trim_few {c:Ct} (hc:CtFew c):CtFew (trimC c):=by
 obtain ⟨h1,h2,h3,h4,h5,h6,h7,h8⟩:=hc;have e1:(trimC c).latches.length≤c.latches.length:=List.length_filter_le _ _;have e2:(trimC c).gates.length≤c.gates.length:=List.length_filter_le _ _;exact ⟨h1,h2,by omega,by omega,fun g hg=>h5 g (trim_gate.1 hg).1,h6,h7,fun q hq=>h8 q (trim_latch.1 hq).1⟩
theorem snocInd {α:Type} {P:List α→Prop} (h0:P []) (h1:∀ l a,P l→P (l++[a])) (l:List α):P l:=by
 rw [← List.reverse_reverse l]
 induction l.reverse with
 | nil=>exact h0
 | cons a r ih=>rw [List.reverse_cons]; exact h1 _ _ ih
def lkE (m:List (Bs×Bool)) (s:Bs):Bool:=match getM s m with
 | some v=>v
 | none=>false
theorem lkE_app {m r:List (Bs×Bool)} {s:Bs} (h:s∈m.map (·.1)):lkE (m++r) s=lkE m s:=by
 induction m with
 | nil=>cases h
 | cons a m ih =>
  obtain ⟨k,v⟩:=a;rw [List.cons_append];unfold lkE;rw [getM,getM]
  by_cases hk:s=k
  ·rw [if_pos hk,if_pos hk]
  ·rw [if_neg hk,if_neg hk];rw [List.map_cons,List.mem_cons] at h;exact ih (h.resolve_left hk)
theorem lkE_new {m:List (Bs×Bool)} {s:Bs} (v:Bool) (h:s∉m.map (·.1)):lkE (m++[(s,v)]) s=v:=by
 induction m with
 | nil=>simp [lkE,getM]
 | cons a m ih =>
  obtain ⟨k,u⟩:=a;rw [List.map_cons,List.mem_cons,not_or] at h;rw [List.cons_append];unfold lkE;rw [getM,if_neg h.1];exact ih h.2
theorem getM_app {m:List (Bs×Bool)} {s:Bs} (h:s∉m.map (·.1)):getM s m=none:=getM_none.2 fun x hx he=>h (by rw [← he]; exact List.mem_map_of_mem (f:=(·.1)) hx)
def pickL (m:List (Bs×Bool)) (l:List Bs):List Bool:=l.map (lkE m)
def baseN (c:Ct):List Bs:=c.inputs++c.latches.map (·.name)
def env0 (c:Ct) (ins state:List Bool):List (Bs×Bool):=(baseN c).zip (ins++state)
def envS (c:Ct) (m:List (Bs×Bool)) (a:Nat):List (Bs×Bool):=match c.gates[a]? with
 | some g=>m++[(g.name,gateV g (pickL m g.ins))]
 | none=>m
def envP (c:Ct) (ins state:List Bool) (p:List Nat):List (Bs×Bool):=p.foldl (envS c) (env0 c ins state)
def envC (c:Ct) (ins state:List Bool):List (Bs×Bool):=envP c ins state (sortC c)
theorem envP_snoc (c:Ct) (ins state:List Bool) (p:List Nat) {a:Nat} (ha:a<c.gates.length):envP c ins state (p++[a])=envP c ins state p++[(c.gates[a].name,gateV c.gates[a] (pickL (envP c ins state p) c.gates[a].ins))]:=by
 rw [envP,List.foldl_append,List.foldl_cons,List.foldl_nil,envS,List.getElem?_eq_getElem ha]; rfl
theorem baseN_len (c:Ct):(baseN c).length=c.inputs.length+c.latches.length:=by simp [baseN]
theorem env0_keys {c:Ct} {ins state:List Bool} (hi:ins.length=c.inputs.length) (hs:state.length=c.latches.length):(env0 c ins state).map (·.1)=baseN c:=by
 rw [env0,List.map_fst_zip (by rw [baseN_len]; simp; omega)]
theorem envP_keys {c:Ct} {ins state:List Bool} (hi:ins.length=c.inputs.length) (hs:state.length=c.latches.length):∀ p:List Nat,(∀ a∈p,a<c.gates.length)→(envP c ins state p).map (·.1)=baseN c++p.map (nmG c):=by
 intro p
 induction p using snocInd with
 | h0=>intro _; simpa [envP] using env0_keys hi hs
 | h1 p a ih =>
  intro h;have ha:=h a (by simp);rw [envP_snoc c ins state p ha,List.map_append,ih fun b hb=>h b (by simp [hb])];simp [nmG_at ha]
theorem nets_nodup {c:Ct} (ok:CtOk c):(baseN c++c.gates.map (·.name)).Nodup:=by
 have:=ok.nodup;simpa [netsC,baseN] using this
theorem envP_new {c:Ct} (ok:CtOk c) {ins state:List Bool} (hi:ins.length=c.inputs.length) (hs:state.length=c.latches.length) {p:List Nat} (hp:∀ a∈p,a<c.gates.length) {a:Nat} (ha:a<c.gates.length) (hn:a∉p):c.gates[a].name∉(envP c ins state p).map (·.1):=by
 have hd:=right_names (right_of ok);rw [envP_keys hi hs p hp,List.mem_append,not_or];have h:=nets_nodup ok;rw [List.nodup_append] at h;refine ⟨fun hb=>h.2.2 _ hb _ (List.mem_map_of_mem (f:=(·.name)) (List.getElem_mem ha)) rfl,fun hb => ?_⟩;obtain ⟨x,hx,he⟩:=List.mem_map.1 hb;have hxl:=hp x hx;rw [nmG_at hxl] at he;exact hn (name_inj hd hxl ha he▸hx)
structure ValsI (c:Ct) (ins state:List Bool) (f:Bs→Bool):Prop where
 inp:∀ i,∀ h:i<c.inputs.length,f c.inputs[i]=ins.getD i false
 lat:∀ i,∀ h:i<c.latches.length,f c.latches[i].name=state.getD i false
 gat:∀ i,∀ h:i<c.gates.length,f c.gates[i].name=gateV c.gates[i] (c.gates[i].ins.map f)
theorem lkE_zip:∀ (l:List Bs) (b:List Bool),l.Nodup→∀ i,∀ h:i<l.length,i<b.length→lkE (l.zip b) l[i]=b.getD i false
 | [],_,_,i,h,_=>by simp at h
 | s::l,[],_,i,h,h2=>by simp at h2
 | s::l,v::b,hn,i,h,h2=>by
  rw [List.nodup_cons] at hn;rw [List.zip_cons_cons];unfold lkE
  cases i with
  | zero=>simp [getM]
  | succ i =>
   have hne:¬ (s::l)[i+1]=s:=fun he=>hn.1 (by rw [← he]; simp)
   rw [getM,if_neg hne];simpa [lkE] using lkE_zip l b hn.2 i (by simpa using h) (by simpa using h2)
theorem envP_low {c:Ct} {ins state:List Bool} (hi:ins.length=c.inputs.length) (hs:state.length=c.latches.length) (p:List Nat) (hp:∀ a∈p,a<c.gates.length):∀ r:List Nat,(∀ a∈r,a<c.gates.length)→∀ s∈(envP c ins state p).map (·.1),lkE (envP c ins state (p++r)) s=lkE (envP c ins state p) s:=by
 intro r
 induction r using snocInd with
 | h0=>intro _ s _; simp
 | h1 r a ih =>
  intro hr s hs';have ha:=hr a (by simp)
  have hr':=fun b hb=>hr b (List.mem_append.2 (.inl hb))
  have h1:=ih hr' s hs';rw [← List.append_assoc,envP_snoc c ins state (p++r) ha,lkE_app ?_,h1];rw [envP_keys hi hs _ fun b hb=>(List.mem_append.1 hb).elim (hp b) (hr' b)];rw [envP_keys hi hs p hp] at hs';simp only [List.mem_append,List.map_append] at hs' ⊢
  exact hs'.elim .inl fun h=>.inr (.inl h)
theorem envC_vals {c:Ct} (ok:CtOk c) (hall:∀ i<c.gates.length,i∈sortC c) {ins state:List Bool} (hi:ins.length=c.inputs.length) (hs:state.length=c.latches.length):ValsI c ins state (lkE (envC c ins state)):=by
 have hd:=right_names (right_of ok);have hlt:=sortC_lt c;have hnd:=nets_nodup ok
 have hbn:(baseN c).Nodup:=by rw [List.nodup_append] at hnd; exact hnd.1
 have hbase:∀ i,∀ h:i<(baseN c).length,lkE (envC c ins state) (baseN c)[i]=(ins++state).getD i false:=fun i h=>by
  have h1:=envP_low hi hs [] (by simp) (sortC c) hlt (baseN c)[i] (by rw [envP_keys hi hs [] (by simp)]; simp);rw [List.nil_append] at h1;rw [envC,h1];have:=lkE_zip (baseN c) (ins++state) hbn i h (by rw [baseN_len] at h; simp; omega);simpa [envP,env0] using this
 refine ⟨fun i h => ?_,fun i h => ?_,fun i h => ?_⟩
 ·have:=hbase i (by rw [baseN_len]; omega);simp only [baseN,List.getElem_append_left h] at this;rw [this,List.getD_eq_getElem?_getD,List.getD_eq_getElem?_getD,List.getElem?_append_left (by omega)]
 ·have:=hbase (c.inputs.length+i) (by rw [baseN_len]; omega);simp only [baseN] at this;rw [List.getElem_append_right (by omega)] at this;simp only [Nat.add_sub_cancel_left,List.getElem_map] at this;rw [this,List.getD_eq_getElem?_getD,List.getD_eq_getElem?_getD,List.getElem?_append_right (by omega),hi,Nat.add_sub_cancel_left]
 ·obtain ⟨p,q,he⟩:=List.append_of_mem (hall i h)
  have hpl:∀ a∈p,a<c.gates.length:=fun a ha=>hlt a (by rw [he]; simp [ha])
  have hql:∀ a∈q,a<c.gates.length:=fun a ha=>hlt a (by rw [he]; simp [ha])
  have hpos:=(mayB_is.1 (sortC_pos c he).1);have hnew:=envP_new ok hi hs hpl h hpos.1
  have e1:sortC c=(p++[i])++q:=by rw [he]; simp
  have hpi:∀ a∈p++[i],a<c.gates.length:=fun a ha=>by
   rcases List.mem_append.1 ha with ha | ha
   ·exact hpl a ha
   ·rw [List.mem_singleton] at ha; subst ha; exact h
  have h2:lkE (envC c ins state) c.gates[i].name=gateV c.gates[i] (pickL (envP c ins state p) c.gates[i].ins):=by
   rw [envC,e1,envP_low hi hs (p++[i]) hpi q hql _ (by rw [envP_keys hi hs _ hpi]; simp [nmG_at h])];rw [envP_snoc c ins state p h,lkE_new _ hnew]
  rw [h2];congr 1;apply List.map_congr_left;intro s hsi
  have hs0:s∈(envP c ins state p).map (·.1):=by
   rw [envP_keys hi hs p hpl,List.mem_append];have hu:s∈netsC c:=ok.used s (by simp only [usedC,usedG,List.mem_append,List.mem_flatMap]; exact .inr ⟨_,List.getElem_mem h,hsi⟩)
   rcases mem_nets.1 hu with hu | ⟨x,hx,rfl⟩ | ⟨x,hx,rfl⟩
   ·exact .inl (by simp [baseN,hu])
   ·exact .inl (by simp only [baseN,List.mem_append,List.mem_map]; exact .inr ⟨x,hx,rfl⟩)
   ·obtain ⟨j,hj,rfl⟩:=List.getElem_of_mem hx;have:=hpos.2 j ((inK_eq h hj).2 hsi);exact .inr (List.mem_map.2 ⟨j,this,nmG_at hj⟩)
  rw [envC,e1,List.append_assoc];exact (envP_low hi hs p hpl ([i]++q) (fun a ha=>hlt a (by rw [he]; simp at ha ⊢; exact .inr ha)) s hs0).symm
theorem vals_one {c:Ct} (ok:CtOk c) (hall:∀ i<c.gates.length,i∈sortC c) {ins state:List Bool} {f g:Bs→Bool} (hf:ValsI c ins state f) (hg:ValsI c ins state g):∀ s∈netsC c,f s=g s:=by
 have hlow:∀ s∈baseN c,f s=g s:=fun s hs=>by
  simp only [baseN,List.mem_append,List.mem_map] at hs
  rcases hs with hs | ⟨q,hq,rfl⟩
  ·obtain ⟨i,hi,rfl⟩:=List.getElem_of_mem hs;rw [hf.inp i hi,hg.inp i hi]
  ·obtain ⟨i,hi,rfl⟩:=List.getElem_of_mem hq;rw [hf.lat i hi,hg.lat i hi]
 have key:∀ (q p:List Nat),sortC c=p++q→(∀ a∈p,∀ h:a<c.gates.length,f c.gates[a].name=g c.gates[a].name)→∀ a∈p++q,∀ h:a<c.gates.length,f c.gates[a].name=g c.gates[a].name:=by
  intro q
  induction q with
  | nil=>intro p _ h; simpa using h
  | cons x q ih =>
   intro p he h
   have:=ih (p++[x]) (by simpa using he) fun a ha hal=>by
    rcases List.mem_append.1 ha with ha | ha
    ·exact h a ha hal
    ·rw [List.mem_singleton] at ha;subst ha;rw [hf.gat a hal,hg.gat a hal];congr 1;apply List.map_congr_left;intro s hs;have hu:s∈netsC c:=ok.used s (by simp only [usedC,usedG,List.mem_append,List.mem_flatMap]; exact .inr ⟨_,List.getElem_mem hal,hs⟩)
     rcases mem_nets.1 hu with hu | ⟨y,hy,rfl⟩ | ⟨y,hy,rfl⟩
     ·exact hlow s (by simp [baseN,hu])
     ·exact hlow _ (by simp only [baseN,List.mem_append,List.mem_map]; exact .inr ⟨y,hy,rfl⟩)
     ·obtain ⟨j,hj,rfl⟩:=List.getElem_of_mem hy;exact h j ((mayB_is.1 (sortC_pos c he).1).2 j ((inK_eq hal hj).2 hs)) hj
   simpa using this
 intro s hs
 rcases mem_nets.1 hs with hu | ⟨y,hy,rfl⟩ | ⟨y,hy,rfl⟩
 ·exact hlow s (by simp [baseN,hu])
 ·exact hlow _ (by simp only [baseN,List.mem_append,List.mem_map]; exact .inr ⟨y,hy,rfl⟩)
 ·obtain ⟨j,hj,rfl⟩:=List.getElem_of_mem hy;exact key (sortC c) [] rfl (by simp) j (by simpa using hall j hj) hj
def valsC (c:Ct) (ins state:List Bool):List Bool:=pickL (envC c ins state) (netsC c)
def outsC (c:Ct) (ins state:List Bool):List Bool:=pickL (envC c ins state) c.outputs
def nextC (c:Ct) (ins state:List Bool):List Bool:=c.latches.map fun q=>lkE (envC c ins state) q.next
theorem nextC_len (c:Ct) (ins state:List Bool):(nextC c ins state).length=c.latches.length:=by simp [nextC]
def runF (c:Ct):List (List Bool)→List Bool→Option (List (List Bool)×List Bool)
 | [],s=>some ([],s)
 | i::r,s=>if i.length=c.inputs.length then (runF c r (nextC c i s)).map fun x=>(outsC c i s::x.1,x.2) else none
theorem come_sub {c d:Ct} (okD:CtOk d) (hc:(c.gates.map (·.name)).Nodup) (hsub:∀ g∈d.gates,g∈c.gates) (hall:∀ i<c.gates.length,i∈sortC c):∀ i<d.gates.length,i∈sortC d:=by
 have key:∀ (q p:List Nat),sortC c=p++q→(∀ a,∀ h:a<d.gates.length,(∃ b∈p,∃ hb:b<c.gates.length,c.gates[b]=d.gates[a])→a∈sortC d)→∀ a,∀ h:a<d.gates.length,(∃ b∈p++q,∃ hb:b<c.gates.length,c.gates[b]=d.gates[a])→a∈sortC d:=by
  intro q
  induction q with
  | nil=>intro p _ h; simpa using h
  | cons x q ih =>
   intro p he h
   have:=ih (p++[x]) (by simpa using he) fun a ha ⟨b,hb,hbl,hbe⟩=>by
    rcases List.mem_append.1 hb with hb | hb
    ·exact h a ha ⟨b,hb,hbl,hbe⟩
    ·rw [List.mem_singleton] at hb;subst hb
     refine Classical.byContradiction fun hna => ?_
     obtain ⟨y,hy1,hy2⟩:=sortC_never d ha hna;obtain ⟨_,hyl⟩:=inK_lt hy1;have h1:=(inK_eq ha hyl).1 hy1;obtain ⟨z,hz,hze⟩:=List.getElem_of_mem (hsub _ (List.getElem_mem hyl));have h2:inK c b z=true:=(inK_eq hbl hz).2 (by rw [hze,hbe]; exact h1);have h3:=(mayB_is.1 (sortC_pos c he).1).2 z h2;exact hy2 (h y hyl ⟨z,h3,hz,hze⟩)
   simpa using this
 intro i hi;obtain ⟨z,hz,hze⟩:=List.getElem_of_mem (hsub _ (List.getElem_mem hi));exact key (sortC c) [] rfl (fun a h ⟨b,hb,_⟩=>by cases hb) i hi ⟨z,by simpa using hall z hz,hz,hze⟩
theorem never_of {c:Ct} (ok:CtOk c) (hall:∀ i<c.gates.length,i∈sortC c):neverO c=[]:=by
 rw [neverO,if_pos (right_of ok),List.eq_nil_iff_forall_not_mem];intro s hs;rw [neverF_mem] at hs;obtain ⟨t,ht,_,h2⟩:=hs;rw [Nat.zero_add] at h2;exact h2 (hall t ht)
theorem check_of {c:Ct} (ok:CtOk c) (hall:∀ i<c.gates.length,i∈sortC c):checkO c=(0,[]):=by
 unfold checkO
 rw [check_ok ok,never_of ok hall]; rfl
theorem perm_vals {c:Ct} {G:List Gt} (hp:G.Perm c.gates) {ins state:List Bool} {f:Bs→Bool} (h:ValsI c ins state f):ValsI (withG c G) ins state f:=by
 refine ⟨h.inp,h.lat,fun i hi => ?_⟩;have hm:(withG c G).gates[i]∈c.gates:=hp.mem_iff.1 (List.getElem_mem hi);obtain ⟨j,hj,he⟩:=List.getElem_of_mem hm;rw [← he];exact h.gat j hj
theorem perm_env {c:Ct} (ok:CtOk c) (hall:∀ i<c.gates.length,i∈sortC c) {G:List Gt} (hp:G.Perm c.gates) {ins state:List Bool} (hi:ins.length=c.inputs.length) (hs:state.length=c.latches.length):∀ s∈netsC c,lkE (envC (withG c G) ins state) s=lkE (envC c ins state) s:=by
 have okd:=withG_ok ok hp;have hd:=right_names (right_of ok);have halld:=come_sub okd hd (fun g hg=>hp.mem_iff.1 hg) hall;intro s hsn;refine vals_one okd halld (envC_vals okd halld hi hs) (perm_vals hp (envC_vals ok hall hi hs)) s ?_
 rcases mem_nets.1 hsn with h | ⟨q,hq,h⟩ | ⟨g,hg,h⟩
 ·exact mem_nets.2 (.inl h)
 ·exact mem_nets.2 (.inr (.inl ⟨q,hq,h⟩))
 ·exact mem_nets.2 (.inr (.inr ⟨g,hp.mem_iff.2 hg,h⟩))
theorem out_net {c:Ct} (ok:CtOk c) {s:Bs} (h:s∈c.outputs):s∈netsC c:=ok.used s (by simp [usedC,h])
theorem next_net {c:Ct} (ok:CtOk c) {q:Lt} (h:q∈c.latches):q.next∈netsC c:=ok.used _ (by simp only [usedC,List.mem_append,List.mem_map]; exact .inl (.inr ⟨q,h,rfl⟩))
theorem perm_run {c:Ct} (ok:CtOk c) (hall:∀ i<c.gates.length,i∈sortC c) {G:List Gt} (hp:G.Perm c.gates):∀ (seq:List (List Bool)) (s:List Bool),s.length=c.latches.length→runF (withG c G) seq s=runF c seq s
 | [],s,_=>rfl
 | i::r,s,hs=>by
  rw [runF,runF]
  by_cases hi:i.length=c.inputs.length
  ·have he:=perm_env ok hall hp hi hs
   have h1:nextC (withG c G) i s=nextC c i s:=by
    simp only [nextC];apply List.map_congr_left;intro q hq;exact he _ (next_net ok hq)
   have h2:outsC (withG c G) i s=outsC c i s:=by
    simp only [outsC,pickL];apply List.map_congr_left;intro x hx;exact he _ (out_net ok hx)
   rw [if_pos hi,if_pos (show i.length=(withG c G).inputs.length from hi),h1,h2,perm_run ok hall hp r _ (nextC_len c i s)]
  ·rw [if_neg hi,if_neg (show ¬ i.length=(withG c G).inputs.length from hi)]
def leftS (p:Lt→Bool):List Lt→List Bool→List Bool
 | q::l,v::s=>if p q=true then v::leftS p l s else leftS p l s
 | _,_=>[]
theorem leftS_len (p:Lt→Bool):∀ (l:List Lt) (s:List Bool),s.length=l.length→(leftS p l s).length=(l.filter p).length
 | [],_,_=>by simp [leftS]
 | q::l,[],h=>by simp at h
 | q::l,v::s,h=>by
  have:=leftS_len p l s (by simpa using h);rw [leftS,List.filter_cons]
  split <;> simp [this]
theorem leftS_get (p:Lt→Bool) (f:Bs→Bool):∀ (l:List Lt) (s:List Bool),s.length=l.length→(∀ i,∀ h:i<l.length,f l[i].name=s.getD i false)→∀ i,∀ h:i<(l.filter p).length,f (l.filter p)[i].name=(leftS p l s).getD i false
 | [],_,_,_,i,h=>by simp at h
 | q::l,[],h,_,_,_=>by simp at h
 | q::l,v::s,hl,hf,i,hi=>by
  have ih:=leftS_get p f l s (by simpa using hl) fun j hj=>by
   have:=hf (j+1) (by simpa using hj);rwa [List.getD_cons_succ,List.getElem_cons_succ] at this
  have h0:=hf 0 (by simp);rw [List.getD_cons_zero,List.getElem_cons_zero] at h0
  by_cases hp:p q=true
  ·have e1:(q::l).filter p=q::l.filter p:=by rw [List.filter_cons,if_pos hp]
   have e2:leftS p (q::l) (v::s)=v::leftS p l s:=by rw [leftS,if_pos hp]
   rw [e2]
   cases i with
   | zero=>simp [e1,h0]
   | succ i =>
    have hi':i<(l.filter p).length:=by rw [e1] at hi; simpa using hi
    have:=ih i hi';simp only [e1,List.getElem_cons_succ,List.getD_cons_succ];exact this
  ·have e1:(q::l).filter p=l.filter p:=by rw [List.filter_cons,if_neg hp]
   have e2:leftS p (q::l) (v::s)=leftS p l s:=by rw [leftS,if_neg hp]
   rw [e2]
   have hi':i<(l.filter p).length:=by rw [e1] at hi; exact hi
   have:=ih i hi';simp only [e1];exact this
theorem leftS_map (p:Lt→Bool) (f:Lt→Bool):∀ l:List Lt,leftS p l (l.map f)=(l.filter p).map f
 | []=>by simp [leftS]
 | q::l=>by
  rw [List.map_cons,leftS,List.filter_cons,leftS_map p f l]
  split <;> simp
def keepQ (c:Ct) (q:Lt):Bool:=(coneO c c.outputs).contains q.name
theorem trim_env {c:Ct} (ok:CtOk c) (hall:∀ i<c.gates.length,i∈sortC c) {ins state:List Bool} (hi:ins.length=c.inputs.length) (hs:state.length=c.latches.length):∀ s∈netsC (trimC c),lkE (envC (trimC c) ins (leftS (keepQ c) c.latches state)) s=lkE (envC c ins state) s:=by
 have okt:=trim_ok ok;have hd:=right_names (right_of ok);have hallt:=come_sub okt hd (fun g hg=>(trim_gate.1 hg).1) hall;have hv:=envC_vals ok hall hi hs;have hlen:(leftS (keepQ c) c.latches state).length=(trimC c).latches.length:=leftS_len _ _ _ hs;refine vals_one okt hallt (envC_vals okt hallt hi hlen) ⟨hv.inp,fun i h => ?_,fun i h => ?_⟩
 ·exact leftS_get (keepQ c) _ c.latches state hs hv.lat i h
 ·obtain ⟨j,hj,he⟩:=List.getElem_of_mem (trim_gate.1 (List.getElem_mem h)).1;rw [← he];exact hv.gat j hj
theorem trim_run {c:Ct} (ok:CtOk c) (hall:∀ i<c.gates.length,i∈sortC c):∀ (seq:List (List Bool)) (s:List Bool),s.length=c.latches.length→(runF (trimC c) seq (leftS (keepQ c) c.latches s)).map (·.1)=(runF c seq s).map (·.1)
 | [],s,_=>rfl
 | i::r,s,hs=>by
  rw [runF,runF]
  by_cases hi:i.length=c.inputs.length
  ·have he:=trim_env ok hall hi hs;have okt:=trim_ok ok
   have h1:nextC (trimC c) i (leftS (keepQ c) c.latches s)=leftS (keepQ c) c.latches (nextC c i s):=by
    simp only [nextC];rw [leftS_map];apply List.map_congr_left;intro q hq;exact he _ (next_net okt hq)
   have h2:outsC (trimC c) i (leftS (keepQ c) c.latches s)=outsC c i s:=by
    simp only [outsC,pickL];apply List.map_congr_left;intro x hx;exact he _ (out_net okt hx)
   rw [if_pos hi,if_pos (show i.length=(trimC c).inputs.length from hi),h1,h2];have:=trim_run ok hall r (nextC c i s) (nextC_len c i s);simp only [Option.map_map,Function.comp_def] at this ⊢
   cases h3:runF (trimC c) r (leftS (keepQ c) c.latches (nextC c i s)) with
   | none=>rw [h3] at this; cases h4:runF c r (nextC c i s) with
    | none=>rfl
    | some y=>rw [h4] at this; simp at this
   | some x=>rw [h3] at this; cases h4:runF c r (nextC c i s) with
    | none=>rw [h4] at this; simp at this
    | some y=>rw [h4] at this; simp at this; simp [this]
  ·rw [if_neg hi,if_neg (show ¬ i.length=(trimC c).inputs.length from hi)]
def startF:List Lt→List Bool→List Bool
 | [],_=>[]
 | q::r,picks=>(if q.init=2 then picks.headD false else decide (q.init=1))::startF r (if q.init=2 then picks.tail else picks)
theorem startF_len:∀ (l:List Lt) (p:List Bool),(startF l p).length=l.length
 | [],_=>rfl
 | q::r,p=>by rw [startF,List.length_cons,startF_len r,List.length_cons]
def allowF:List Lt→List Bool→Bool
 | q::l,v::s=>(decide (2≤q.init)||(decide (q.init=1)==v))&&allowF l s
 | _,_=>true
theorem and1 (x:Nat) (hx:x<256):binI .and .i64 x 1=some ((x % 2:Nat):Int):=by
 have h:∀ n:Fin 256,binI .and .i64 (n.val:Int) 1=some ((n.val % 2:Nat):Int):=by decide +kernel
 exact h ⟨x,hx⟩
abbrev hR (n:Nat) (odd:Bool) (l:List Bs):List Ob:=[.row 1 t_string [] none true false,.cells [.sl 2 0 l.length],.row 1 t_string (l.map .str) none true false,.cells [.int .i64 n],.cells [.bool odd],.dfr true,
 .loop .ready .none n_net_rows [U,U,U,U,.sl 0 0 0,.bool false,U,U,.ptr 1 0,U,U,U,U,U,U,U,U,U,U,U,U,U,U,U,U,U,U,U,U,U,U,U,U,U,U,U,U,U,U,U,U,U,U,U,U,U] [40] (.reg yrj) yrl]
theorem p_r08_Bools (a b:List Bool) {ka kb:Nat} (ha:Kd 1 ka a) (hb:Kd 1 kb b) (hs:a.length<2^60):PureCon Tryz.prog Γ n_r08_Bools [.list false ka (a.map .bool),.list false kb (b.map .bool)] (.bool (decide (a=b))):=by
 refine .run 60 c_r08_Bools (by simp) ?_
 by_cases hl:a.length=b.length
 ·have key:∀ n i:Nat,i+n=a.length→Fins Tryz.prog Γ (ygf (.list false ka (a.map .bool)) (.list false kb (b.map .bool)) (.int .i64 i) []) (.ret (.bool (decide (a.drop i=b.drop i)))):=by
   intro n
   induction n with
   | zero =>
    intro i hi;refine .go 60 ?_
    have h1:¬ i<a.length:=by omega
    have h2:a.drop i=b.drop i:=by rw [List.drop_eq_nil_of_le (by omega),List.drop_eq_nil_of_le (by omega)]
    simp [h1,h2];exact .back (by simp)
   | succ n ih =>
    intro i hi
    have h1:i<a.length:=by omega
    have h2:i<b.length:=by omega
    obtain rfl:=ha.of h1;obtain rfl:=hb.of h2;have h4:=drop_eq h1 h2;refine .go 60 ?_
    by_cases h3:a[i]=b[i]
    ·simp (disch:=omega) [h1,h2,h3,h4];refine .reLoop ?_;simpa using ih (i+1) (by omega)
    ·simp (disch:=omega) [h1,h2,h3,h4];exact .back (by simp)
  simp [hl];refine .inLoop ?_;simpa [hl] using key a.length 0 (by omega)
 ·have h2:¬ a=b:=fun e=>hl (by rw [e])
  simp [hl,h2];exact .back (by simp)
def okC (c:Ct):Bool:=decide ((checkO c).1=0)
theorem okC_yes {c:Ct} (h:okC c=true):rightC c=true∧neverO c=[]∧checkO c=(0,[]):=checkO_no (of_decide_eq_true h)
theorem p_step_right (hΓ:InsG Γ) (c:Ct) (hb:CtB c):PureCon Tryz.prog Γ n_step_right [eCt c] (.bool (okC c)):=by
 have hC:=p_CheckO hΓ c hb;unfold okC;generalize checkO c=r at *;obtain ⟨e,s⟩:=r;refine .run 60 c_step_right (by simp) ?_;simp;refine .call 60 (by simp) hC ?_;simp;exact .back (by simp)
theorem startF_drop (l:List Lt) (p:List Bool) {i:Nat} (h:i<l.length):startF (l.drop i) p=(if l[i].init=2 then p.headD false else decide (l[i].init=1))::startF (l.drop (i+1)) (if l[i].init=2 then p.tail else p):=by
 rw [List.drop_eq_getElem_cons h,startF]
abbrev hSt (c:Ct) (l:List Bool):List Ob:=[.cells (AV.cells (eCt c)),.row 1 t_bool [] none true false,.row 1 t_bool (l.map .bool) none true false]
set_option maxRecDepth 8000 in
theorem f_st1 (c:Ct) (hb:c.latches.length<2^40) {k:Nat}:∀ n i:Nat,i+n=c.latches.length→∀ (picks:List Bool) (fl:Bool),Kd 1 k picks→picks.length<2^40→∀ l:List Bool,l.length≤i →
  Fins Tryz.prog Γ (ydG (.list fl k (picks.map .bool)) (.sl 2 0 l.length) (.list false c.kL (c.latches.map eLt)) (.int .i64 c.latches.length) (.int .i64 i) (hSt c l) ⟨[],.norm,0,[]⟩)
   (.ret (.tup [.own 1 t_bool ((l++startF (c.latches.drop i) picks).map .bool),.int .i64 0])):=by
 intro n
 induction n with
 | zero =>
  intro i hi picks fl hk hp l hl
  have q1:¬ i<c.latches.length:=by omega
  rw [List.drop_eq_nil_of_le (by omega),startF,List.append_nil];refine .go 60 ?_;simp [q1];exact .back (by simp)
 | succ n ih =>
  intro i hi picks fl hk hp l hl
  have q1:i<c.latches.length:=by omega
  have q2:=eq_true (c.hL.of q1)
  have hle:((l.length:Int)+1)≤140737488355328:=by omega
  rw [startF_drop _ _ q1]
  by_cases h2:c.latches[i].init=2
  ·rw [if_pos h2,if_pos h2]
   cases picks with
   | nil =>
    have hh:=ih (i+1) (by omega) [] fl hk hp (l++[false]) (by simp; omega);refine .go 60 ?_;simp (disch:=omega) [q1,q2,h2,hle];refine .reLoop ?_;simp;refine .drop 3 rfl (by simp) (by simp) (by simp) ?_;refine .reset (i:=2) rfl (by simp) (by simp) (by simp) ?_;simp [hSt] at hh ⊢;exact hh
   | cons p ps =>
    have hk1:=hk.of (i:=0) (by simp);subst hk1;have hh:=ih (i+1) (by omega) ps fl (.inl rfl) (by simp at hp; omega) (l++[p]) (by simp; omega);refine .go 60 ?_;simp (disch:=omega) [q1,q2,h2,hle];refine .reLoop ?_;simp;refine .drop 3 rfl (by simp) (by simp) (by simp) ?_;refine .reset (i:=2) rfl (by simp) (by simp) (by simp) ?_;simp [hSt] at hh ⊢;exact hh
  ·rw [if_neg h2,if_neg h2];have hh:=ih (i+1) (by omega) picks fl hk hp (l++[decide (c.latches[i].init=1)]) (by simp; omega);refine .go 60 ?_;simp (disch:=omega) [q1,q2,h2,hle];refine .reLoop ?_;simp;refine .drop 3 rfl (by simp) (by simp) (by simp) ?_;refine .reset (i:=2) rfl (by simp) (by simp) (by simp) ?_;simp [hSt] at hh ⊢;exact hh
set_option maxRecDepth 8000 in
theorem p_step_Start (hΓ:InsG Γ) (c:Ct) (hb:CtB c) (picks:List Bool) {k:Nat} (hk:Kd 1 k picks) (hp:picks.length<2^40):PureCon Tryz.prog Γ n_step_Start [eCt c,.list false k (picks.map .bool)]
  (.tup [.own 1 t_bool ((if okC c=true then startF c.latches picks else []).map .bool),.int .i64 (if okC c=true then 0 else 1)]):=by
 have hR:=p_step_right hΓ c hb;have b2:=hb.2.2.1;refine .run 60 c_step_Start (by simp) ?_;simp;refine .call 60 (by simp) hR ?_
 cases ho:okC c with
 | false =>
  simp;exact .back (by simp)
 | true =>
  simp;have hh:=f_st1 (Γ:=Γ) c b2 c.latches.length 0 (by omega) picks false hk hp [] (by simp);refine .inLoop ?_;simp at hh ⊢;exact hh
theorem allowF_drop (l:List Lt) (s:List Bool) {i:Nat} (h:i<l.length) (h2:i<s.length):allowF (l.drop i) (s.drop i)=((decide (2≤l[i].init)||(decide (l[i].init=1)==s[i]))&&allowF (l.drop (i+1)) (s.drop (i+1))):=by
 rw [List.drop_eq_getElem_cons h,List.drop_eq_getElem_cons h2,allowF]
def allowC (c:Ct) (s:List Bool):Bool:=okC c&&(decide (s.length=c.latches.length)&&allowF c.latches s)
set_option maxRecDepth 8000 in
theorem p_step_Allowed (hΓ:InsG Γ) (c:Ct) (hb:CtB c) (s:List Bool) {k:Nat} (hk:Kd 1 k s) (hs:s.length<2^40):PureCon Tryz.prog Γ n_step_Allowed [eCt c,.list false k (s.map .bool)] (.bool (allowC c s)):=by
 have hR:=p_step_right hΓ c hb;have b2:=hb.2.2.1;have e:((s.length:Int)=c.latches.length)=(s.length=c.latches.length):=propext (by omega);unfold allowC;refine .run 60 c_step_Allowed (by simp) ?_;simp;refine .call 60 (by simp) hR ?_
 cases ho:okC c with
 | false =>
  simp;exact .back (by simp)
 | true =>
  by_cases hl:s.length=c.latches.length
  ·have key:∀ n i:Nat,i+n=c.latches.length→Fins Tryz.prog Γ (ygx (.list false k (s.map .bool)) (.list false c.kL (c.latches.map eLt)) (.int .i64 c.latches.length) (.int .i64 i) [.cells (AV.cells (eCt c))] ⟨[],.norm,0,[]⟩) (.ret (.bool (allowF (c.latches.drop i) (s.drop i)))):=by
    intro n
    induction n with
    | zero =>
     intro i hi
     have q1:¬ i<c.latches.length:=by omega
     rw [List.drop_eq_nil_of_le (by omega),List.drop_eq_nil_of_le (by omega),allowF]
     ·refine .go 60 ?_;simp [q1];exact .back (by simp)
     ·intro q l v s h; cases h
    | succ n ih =>
     intro i hi
     have q1:i<c.latches.length:=by omega
     have q3:i<s.length:=by omega
     have q2:=eq_true (c.hL.of q1);have q4:=eq_true (hk.of q3);have hh:=ih (i+1) (by omega);rw [allowF_drop _ _ q1 q3];refine .go 60 ?_
     by_cases h2:c.latches[i].init<2
     ·have h2':¬ 2≤c.latches[i].init:=by omega
      by_cases h1:c.latches[i].init=1
      ·cases h3:s[i] with
       | true =>
        simp (disch:=omega) [q1,q2,q3,q4,h2,h2',h1,h3];refine .reLoop ?_;simp;refine .drop 1 rfl (by simp) (by simp) (by simp) ?_;simp at hh ⊢;exact hh
       | false =>
        simp (disch:=omega) [q1,q2,q3,q4,h2,h2',h1,h3];exact .back (by simp)
      ·cases h3:s[i] with
       | false =>
        simp (disch:=omega) [q1,q2,q3,q4,h2,h2',h1,h3];refine .reLoop ?_;simp;refine .drop 1 rfl (by simp) (by simp) (by simp) ?_;simp at hh ⊢;exact hh
       | true =>
        simp (disch:=omega) [q1,q2,q3,q4,h2,h2',h1,h3];exact .back (by simp)
     ·have h2':2≤c.latches[i].init:=by omega
      simp (disch:=omega) [q1,q2,q3,q4,h2,h2'];refine .reLoop ?_;simp;refine .drop 1 rfl (by simp) (by simp) (by simp) ?_;simp at hh ⊢;exact hh
   have hh:=key c.latches.length 0 (by omega);simp [e,hl];refine .inLoop ?_;simp at hh ⊢;exact hh
  ·simp [e,hl];exact .back (by simp)
abbrev eCatB (x:Nat×List Bool):AV:=.list false x.1 (x.2.map AV.bool)
def catB:List (Nat×List Bool)→List Bool
 | []=>[]
 | x::xs=>x.2++catB xs
theorem catB_append (a b:List (Nat×List Bool)):catB (a++b)=catB a++catB b:=by
 induction a with
 | nil=>rfl
 | cons x a ih=>simp [catB,ih]
theorem catB_take (xs:List (Nat×List Bool)) (i:Nat) (h:i<xs.length):catB (xs.take (i+1))=catB (xs.take i)++xs[i].2:=by
 rw [List.take_succ_eq_append_getElem h,catB_append]; simp [catB]
theorem catB_le (xs:List (Nat×List Bool)) (i:Nat):(catB (xs.take i)).length≤(catB xs).length:=by
 conv=>rhs; rw [← List.take_append_drop i xs,catB_append]
 simp
set_option maxRecDepth 8000 in
theorem p_slices_Concat_bool_bool (xs:List (Nat×List Bool)) (hk:∀ x∈xs,Kd 1 x.1 x.2) (hn:xs.length<2^40) (hs:(catB xs).length<2^40) (hp:0<(catB xs).length) :
  PureCon Tryz.prog Γ n_slices_Concat_bool_bool [.list false 1 (xs.map eCatB)] (.own 1 t_bool ((catB xs).map AV.bool)):=by
 refine .run 60 c_slices_Concat_bool_bool (by simp) ?_
 have key2:∀ n i:Nat,i+n=xs.length→∀ m:Nat,(catB (xs.take i)).length+m=(catB xs).length →
   Fins Tryz.prog Γ (yvM (.sl 2 0 (catB (xs.take i)).length) (.list false 1 (xs.map eCatB)) (.int .i64 xs.length) (.int .i64 i) [.row 1 t_bool [] none true false,.row 1 t_bool [] none true false,.row 1 t_bool ((catB (xs.take i)).map AV.bool++List.replicate m (AV.bool false)) none true false])
    (.ret (.own 1 t_bool ((catB xs).map AV.bool))):=by
  intro n
  induction n with
  | zero =>
   intro i hi m hm
   have q1:¬ i<xs.length:=by omega
   have q2:xs.take i=xs:=List.take_of_length_le (by omega);rw [q2] at hm ⊢
   have hm0:m=0:=by omega
   subst hm0;refine .go 60 ?_;simp [q1];exact .back (by simp)
  | succ n ih =>
   intro i hi m hm
   have q1:i<xs.length:=by omega
   have q2:=catB_take xs i q1;have q3:=catB_le xs (i+1);rw [q2,List.length_append] at q3;have q4:=hk xs[i] (List.getElem_mem q1);have q5:xs[i].1=1∨xs[i].2=[]:=q4;have hh:=ih (i+1) (by omega) (m - xs[i].2.length) (by rw [q2,List.length_append]; omega);rw [q2] at hh
   have hd:(List.replicate m (AV.bool false)).drop xs[i].2.length=List.replicate (m - xs[i].2.length) (AV.bool false):=by simp
   refine .go 60 ?_
   by_cases q6:(catB (xs.take i)).length=(catB xs).length
   ·have q7:xs[i].2=[]:=List.length_eq_zero_iff.1 (by omega)
    have hm0:m=0:=by omega
    subst hm0;simp [q7] at hh;simp (disch:=(first | omega | (simp; omega))) [q1,q5,q7];refine .reLoop ?_;simp;exact hh
   ·simp (disch:=(first | omega | (simp; omega))) [q1,q5]
    by_cases q7:m=0
    ·omega
    ·have c1:¬ (catB (List.take i xs)).length=(catB (List.take i xs)).length+m:=by omega
     have c2:(catB (List.take i xs)).length+xs[i].snd.length≤(catB (List.take i xs)).length+m:=by omega
     simp (disch:=(first | omega | (simp; omega))) [q1,q5,c1,c2,q7];refine .reLoop ?_;have hd0:((catB (xs.take i)).map AV.bool).drop ((catB (xs.take i)).length+xs[i].2.length)=[]:=List.drop_eq_nil_of_le (by simp);simp [List.drop_append,hd,hd0] at hh ⊢;exact hh
 have key1:∀ n i:Nat,i+n=xs.length →
   Fins Tryz.prog Γ (yvO (.list false 1 (xs.map eCatB)) (.int .i64 (catB (xs.take i)).length) (.list false 1 (xs.map eCatB)) (.int .i64 xs.length) (.int .i64 i) [.row 1 t_bool [] none true false])
    (.ret (.own 1 t_bool ((catB xs).map AV.bool))):=by
  intro n
  induction n with
  | zero =>
   intro i hi
   have q1:¬ i<xs.length:=by omega
   have q2:xs.take i=xs:=List.take_of_length_le (by omega);have q3:0<(catB xs).length:=hp;have hh:=key2 xs.length 0 (by omega) (catB xs).length (by simp [catB]);refine .go 60 ?_;rw [q2];simp [q1];refine .enter 60 c_slices_Grow_bool_bool ?_
   have q4:¬ (catB xs).length=0:=by omega
   have q5:catB xs≠[]:=fun e=>by rw [e] at hp; simp at hp
   obtain ⟨m,hm⟩:∃ m,(catB xs).length=m+1:=⟨(catB xs).length - 1,by omega⟩
   have hrep:List.replicate (catB xs).length (AV.bool false)=(AV.bool false)::List.replicate m (AV.bool false):=by rw [hm]; rfl
   simp (disch:=(first | omega | (simp; omega))) [q3,q4,q5,hrep];refine .inLoop ?_;simp [catB,hrep] at hh ⊢;exact hh
  | succ n ih =>
   intro i hi
   have q1:i<xs.length:=by omega
   have q2:=catB_take xs i q1;have q3:=catB_le xs (i+1);rw [q2,List.length_append] at q3;have hh:=ih (i+1) (by omega);rw [q2] at hh;refine .go 60 ?_
   have q4:¬ ((catB (xs.take i)).length:Int)+xs[i].2.length<0:=by omega
   simp (disch:=(first | omega | (simp; omega))) [q1,q4];refine .reLoop ?_;simp at hh ⊢;exact hh
 simp;refine .inLoop ?_;have hh:=key1 xs.length 0 (by omega);simp [catB] at hh ⊢;exact hh
set_option maxRecDepth 8000 in
theorem p_slices_Concat_bool_bool_nil (xs:List (Nat×List Bool)) (hx:∀ x∈xs,x.2=[]) (hn:xs.length<2^40) :
  PureCon Tryz.prog Γ n_slices_Concat_bool_bool [.list false 1 (xs.map eCatB)] (.own 1 t_bool []):=by
 refine .run 60 c_slices_Concat_bool_bool (by simp) ?_
 have key2:∀ n i:Nat,i+n=xs.length→Fins Tryz.prog Γ (yvM (.list true 0 []) (.list false 1 (xs.map eCatB)) (.int .i64 xs.length) (.int .i64 i) [.row 1 t_bool [] none true false,.row 1 t_bool [] none true false])
    (.ret (.own 1 t_bool [])):=by
  intro n
  induction n with
  | zero =>
   intro i hi
   have q1:¬ i<xs.length:=by omega
   refine .nilslot 6 1 t_bool rfl (by omega) ?_;refine .go 60 ?_;simp [q1];exact .back (by simp)
  | succ n ih =>
   intro i hi
   have q1:i<xs.length:=by omega
   have q7:=hx xs[i] (List.getElem_mem q1);have hh:=ih (i+1) (by omega);refine .go 60 ?_;simp (disch:=(first | omega | (simp; omega))) [q1,q7];refine .reLoop ?_;simp at hh ⊢;exact hh
 have key:∀ n i:Nat,i+n=xs.length→Fins Tryz.prog Γ (yvO (.list false 1 (xs.map eCatB)) (.int .i64 0) (.list false 1 (xs.map eCatB)) (.int .i64 xs.length) (.int .i64 i) [.row 1 t_bool [] none true false])
    (.ret (.own 1 t_bool [])):=by
  intro n
  induction n with
  | zero =>
   intro i hi
   have q1:¬ i<xs.length:=by omega
   refine .go 60 ?_;simp [q1];refine .enter 60 c_slices_Grow_bool_bool ?_;simp;refine .inLoop ?_;have hh:=key2 xs.length 0 (by omega);simp at hh ⊢;exact hh
  | succ n ih =>
   intro i hi
   have q1:i<xs.length:=by omega
   have q7:=hx xs[i] (List.getElem_mem q1);have hh:=ih (i+1) (by omega);refine .go 60 ?_;simp (disch:=(first | omega | (simp; omega))) [q1,q7];refine .reLoop ?_;simp at hh ⊢;exact hh
 simp;refine .inLoop ?_;have hh:=key xs.length 0 (by omega);simp at hh ⊢;exact hh
abbrev eBo (x:Bs×Bool):AV×AV:=(.str x.1,.bool x.2)
@[simp] theorem belM_bo (n:Nat):∀ l:List (Bs×Bool),belM n (l.map eBo)=true
 | []=>rfl
 | x::r=>by simp [belM_bo n r]
@[simp] theorem vldM_bo (n m:Nat):∀ l:List (Bs×Bool),vldM n m (l.map eBo)=true
 | []=>rfl
 | x::r=>by simp [vldM_bo n m r]
@[simp] theorem rnM_bo (n:Nat) (τ:List Nat) (l:List (Bs×Bool)):rnM n τ (l.map eBo)=l.map eBo:=rnM_bel (belM_bo n l)
def mapB (m:List (Bs×Bool)):Ob:=.map (m.map eBo) true
def rowBo (l:List Bool):Ob:=.row 1 t_bool (l.map .bool) none true false
theorem find_bo (s:Bs) (m:List (Bs×Bool)):findIn (.sc .str) (.str s) (m.map eBo)=some ((getM s m).map AV.bool):=findIn_gen eq_str AV.bool s m
theorem getA1 {h os:List Ob} {a b:Ob}:(h++a::b::os)[h.length+1]? = some b:=by simp
set_option maxRecDepth 8000 in
theorem r_pick (m:List (Bs×Bool)) (l:List Bs) {fl:Bool} {k:Nat} (hk:Kd 1 k l) (hl:l.length<2^40) {j:Nat} {h:List Ob} (hj:h[j]? = some (mapB m)) (hw:WfO h) (hv:WfV h) :
  ∀ up,AM.Reach Tryz.prog Γ (.cl n_step_pick [.mp j,.list fl k (l.map .str)] up h) (.back up (.sl h.length 0 l.length) (h++[rowBo (pickL m l)])):=by
 intro up;have hb:=hw h.length (Nat.le_refl _);have hjl:j<h.length:=(List.getElem?_eq_some_iff.1 hj).1
 have hget:=fun os=>get_app hj os
 have hvv:=fun m=>hv (h.length+1) m (by omega)
 have key:∀ n i:Nat,i+n=l.length→AM.Reach Tryz.prog Γ (yol (.mp j) (.sl (h.length+1) 0 i) (.list fl k (l.map .str)) (.int .i64 l.length) (.int .i64 i) (h++[.row 1 t_bool [] none true false,.row 1 t_bool ((pickL m (l.take i)).map .bool) none true false]) ⟨[],.norm,h.length,up⟩)
   (.back up (.sl h.length 0 l.length) (h++[rowBo (pickL m l)])):=by
  intro n
  induction n with
  | zero =>
   intro i hi
   have q1:¬ i<l.length:=by omega
   have he:i=l.length:=by omega
   subst he;rw [List.take_of_length_le (by omega)];generalize pickL m l=P at *;refine .gcTo h.length [1] (by simp [okP_bel hb,hjl]) (by decide) ?_;have hlt:(h.length+1<h.length)=False:=eq_false (by omega);simp [rnH_bel hb,hjl,hlt];refine .goB 60 ?_;simp [q1,rowBo]
  | succ n ih =>
   intro i hi
   have q1:i<l.length:=by omega
   have q2:=eq_true (hk.of q1);have hh:=ih (i+1) (by omega)
   have e1:pickL m (l.take (i+1))=pickL m (l.take i)++[lkE m l[i]]:=by
    rw [List.take_succ_eq_append_getElem q1,pickL,List.map_append]; rfl
   have hlen:(pickL m (l.take i)).length=i:=by simp [pickL]; omega
   rw [e1] at hh;have hf:=find_bo l[i] m;have hlk:lkE m l[i]=(match getM l[i] m with | some v=>v | none=>false):=rfl
   have hle:((i:Int)+1)≤140737488355328:=by omega
   generalize pickL m (l.take i)=P at *;refine .goB 60 ?_
   cases hg:getM l[i] m with
   | none =>
    rw [hg] at hf hlk;simp at hf hlk;rw [hlk] at hh;simp (disch:=omega) [q1,q2,hget,mapB,hf,isKey,allDatum,isDatum,hle,hlen];refine .reLoop ?_;simp;refine .resetTo (i:=h.length+1) getA1 (by simp) (by simp [hlen]) (by simp [hvv]) ?_;simp at hh ⊢;exact hh
   | some v =>
    rw [hg] at hf hlk;simp at hf hlk;rw [hlk] at hh;simp (disch:=omega) [q1,q2,hget,mapB,hf,isKey,allDatum,isDatum,hle,hlen];refine .reLoop ?_;simp;refine .resetTo (i:=h.length+1) getA1 (by simp) (by simp [hlen]) (by simp [hvv]) ?_;simp at hh ⊢;exact hh
 refine .enterB 60 c_step_pick ?_;simp;refine .inLoop ?_;have hh:=key l.length 0 (by omega);simp [pickL] at hh ⊢;exact hh
theorem modA1 {h os:List Ob} {a b:Ob} {f:Ob→Ob}:(h++a::b::os).modify (h.length+1) f=h++a::f b::os:=by
 induction h with
 | nil=>rfl
 | cons x h ih=>simpa using ih
theorem getA4 {h os:List Ob} {a b c d e:Ob}:(h++a::b::c::d::e::os)[h.length+4]? = some e:=by simp
theorem modA3 {h os:List Ob} {a b c d:Ob} {f:Ob→Ob}:(h++a::b::c::d::os).modify (h.length+3) f=h++a::b::c::f d::os:=by
 induction h with
 | nil=>rfl
 | cons x h ih=>simpa using ih
def mach (c:Ct) (N:List Bs) (l:List Nat):Ob:=.cells [.list false c.kI (c.inputs.map .str),.list false c.kO (c.outputs.map .str),.list false c.kL (c.latches.map eLt),.list false c.kG (c.gates.map eGt),.list false 1 (N.map .str),.list false 1 (l.map iN)]
set_option maxRecDepth 8000 in
theorem r_begin (hΓ:InsG Γ) (c:Ct) (hb:CtB c) (ho:okC c=true) {h:List Ob} (hw:WfO h) (hv:WfV h) :
  ∀ up,AM.Reach Tryz.prog Γ (.cl n_step_begin [eCt c] up h) (.back up (.tup [.ptr h.length 0,.int .i64 0]) (h++[mach c (netsC c) (sortC c)])):=by
 intro up;obtain ⟨hr,hn,_⟩:=okC_yes ho;have hbb:=hw h.length (Nat.le_refl _);have hR:=p_step_right hΓ c hb;rw [ho] at hR;have hS:=p_SortO hΓ c hb;rw [hn] at hS
 have hSo:sortO c=sortC c:=by simp [sortO,hr]
 rw [hSo] at hS;have hN:=p_Nets (Γ:=Γ) c (right_few hb hr);generalize sortC c=l at *;refine .enterB 60 c_step_begin ?_;simp;refine .callB 60 (by simp) hR ?_;simp;refine .callB 60 (by simp) hS ?_;simp;refine .trees [4] ?_;simp [modA1,shareOne];refine .drB 0 ?_;simp;refine DRC.call (by simp) hN ?_;simp;generalize netsC c=N at *;refine .trans (.treeC 4 getA4) ?_;have htk:(N.map AV.str).take N.length=N.map AV.str:=List.take_of_length_le (by simp);simp [trA,share,modA3,shareOne,htk];refine .trans (.clrs [1,5,9,11,12,13,16,18] _) ?_;simp [clrT];refine .gcTo h.length [4] (by simp [okP_bel hbb]) (by decide) ?_;have hlt:(h.length+4<h.length)=False:=eq_false (by omega);simp [rnH_bel hbb,hlt];refine .goB 60 ?_;simp [mach]
theorem r_begin0 (hΓ:InsG Γ) (c:Ct) (hb:CtB c) (ho:okC c=false) {h:List Ob} :
  ∀ up,AM.Reach Tryz.prog Γ (.cl n_step_begin [eCt c] up h) (.back up (.tup [.nilp,.int .i64 1]) (h++[.cells (AV.cells (eCt c))])):=by
 intro up;have hR:=p_step_right hΓ c hb;rw [ho] at hR;refine .enterB 60 c_step_begin ?_;simp;refine .callB 60 (by simp) hR ?_;simp
set_option maxRecDepth 8000 in
theorem r_valsE (c:Ct) (hc:CtFew c) (N:List Bs) (l:List Nat) (ins state:List Bool) {fi fs:Bool} {ki ks:Nat} (hi2:ins.length<2^40) (hs2:state.length<2^40) (hn:¬ (ins.length=c.inputs.length∧state.length=c.latches.length)) {j:Nat} {h:List Ob} (hj:h[j]? = some (mach c N l)) :
  ∀ up,AM.Reach Tryz.prog Γ (.cl n_step_machine_values [.ptr j 0,.list fs ks (state.map .bool),.list fi ki (ins.map .bool)] up h) (.back up (.tup [.nilm,.int .i64 11]) h):=by
 intro up;have b0:=hc.1;have b2:=hc.2.2.1;have e1:((state.length:Int)=c.latches.length)=(state.length=c.latches.length):=propext (by omega);have e2:((ins.length:Int)=c.inputs.length)=(ins.length=c.inputs.length):=propext (by omega);have hj':=hj;unfold mach at hj';refine .enterB 60 c_step_machine_values ?_
 by_cases h1:state.length=c.latches.length
 ·have h2:¬ ins.length=c.inputs.length:=fun h=>hn ⟨h,h1⟩
  simp [hj',e1,e2,h1,h2]
 ·simp [hj',e1,e2,h1]
theorem p_concat2 (a b:List Bool) {ka kb:Nat} (ha:Kd 1 ka a) (hb:Kd 1 kb b) (hl:a.length+b.length<2^40):PureCon Tryz.prog Γ n_slices_Concat_bool_bool [.list false 1 [.list false ka (a.map .bool),.list false kb (b.map .bool)]] (.own 1 t_bool ((a++b).map .bool)):=by
 by_cases h:a++b=[]
 ·rw [List.append_eq_nil_iff] at h;have:=p_slices_Concat_bool_bool_nil (Γ:=Γ) [(ka,a),(kb,b)] (by simp [h]) (by simp);simpa [h,eCatB] using this
 ·have h2:0<(a++b).length:=List.length_pos_iff.2 h;have:=p_slices_Concat_bool_bool (Γ:=Γ) [(ka,a),(kb,b)] (by simp [ha,hb]) (by simp) (by simp [catB]; omega) (by simpa [catB] using h2);simpa [catB,eCatB] using this
theorem zip_take_new {N:List Bs} (hn:N.Nodup) (v:List Bool) {i:Nat} (hi:i<N.length):getM N[i] ((N.take i).zip (v.take i))=none:=by
 rw [getM_none];intro x hx he;have:=(List.of_mem_zip (a:=x.1) (b:=x.2) hx).1;obtain ⟨j,hj,hje⟩:=List.getElem_of_mem this;rw [List.getElem_take] at hje;have h1:=(List.getElem_inj (xs:=N) (i:=j) (j:=i) (h₀ := by simp at hj; omega) (h₁ := hi) hn).1 (hje.trans he)
 simp at hj; omega
theorem zip_take_succ (N:List Bs) (v:List Bool) {i:Nat} (hi:i<N.length) (h2:i<v.length):(N.take (i+1)).zip (v.take (i+1))=(N.take i).zip (v.take i)++[(N[i],v[i])]:=by
 rw [List.take_succ_eq_append_getElem hi,List.take_succ_eq_append_getElem h2,List.zip_append (by simp; omega)];rfl
abbrev hVa (h:List Ob) (m:List (Bs×Bool)) (v:List Bool):List Ob:=h++[mapB m,.row 1 t_bool (v.map .bool) none true true]
set_option maxRecDepth 8000 in
theorem r_va9 (c:Ct) (N:List Bs) (hN:N.Nodup) (hNl:N.length<2^30) (l:List Nat) (v:List Bool) (hvN:v.length≤N.length) {j:Nat} {h:List Ob} (hj:h[j]? = some (mach c N l)) (hw:WfO h) (hv:WfV h) (up:List Fr):∀ n i:Nat,i+n=v.length →
  AM.Reach Tryz.prog Γ (ynW (.ptr j 0) (.mp h.length) (.list false 1 (v.map .bool)) (.int .i64 v.length) (.int .i64 i) (hVa h ((N.take i).zip (v.take i)) v) ⟨[],.norm,h.length,up⟩)
   (ynX (.ptr j 0) (.mp h.length) (hVa h (N.zip v) v) ⟨[],.norm,h.length,up⟩):=by
 have hjl:j<h.length:=(List.getElem?_eq_some_iff.1 hj).1
 have hget:=fun os=>get_app hj os
 unfold mach at hget;intro n
 induction n with
 | zero =>
  intro i hi
  have q1:¬ i<v.length:=by omega
  have e1:(N.take i).zip (v.take i)=N.zip v:=by
   rw [List.take_of_length_le (l:=v) (by omega)]
   conv=>rhs; rw [← List.take_append_drop i N]
   have:v=v++[]:=by simp
   conv=>rhs; rw [this]
   rw [List.zip_append (by simp; omega)];simp
  rw [e1];refine .goS 60 ?_;simp [q1];exact .exit rfl rfl
 | succ n ih =>
  intro i hi
  have q1:i<v.length:=by omega
  have q3:i<N.length:=by omega
  have hh:=ih (i+1) (by omega);rw [zip_take_succ N v q3 q1] at hh;have hput:=putIn_gen (E:=.sc .str) (e:=AV.str) eq_str AV.bool v[i] (zip_take_new hN v q3);generalize (N.take i).zip (v.take i)=m at *;refine .goS 60 ?_;simp (disch:=omega) [q1,q3,hget,mapB,hput,isKey,allDatum,isDatum];refine .reLoop ?_;simp [mapB,hVa] at hh ⊢;exact hh
set_option maxRecDepth 8000 in
theorem r_va1 (hΓ:InsG Γ) (c:Ct) (hc:CtFew c) (ok:CtOk c) (ins state:List Bool) (hi2:ins.length=c.inputs.length) (hs2:state.length=c.latches.length) (v:List Bool) {j:Nat} {h:List Ob} (hj:h[j]? = some (mach c (netsC c) (sortC c))) (hw:WfO h) (hv:WfV h) (up:List Fr):∀ n i:Nat,i+n=(sortC c).length →
  AM.Reach Tryz.prog Γ (ynT (.ptr j 0) (.mp h.length) (.list false 1 ((sortC c).map iN)) (.int .i64 (sortC c).length) (.int .i64 i) (hVa h (envP c ins state ((sortC c).take i)) v) ⟨[],.norm,h.length,up⟩)
   (ynU (.mp h.length) (hVa h (envC c ins state) v) ⟨[],.norm,h.length,up⟩):=by
 have hjl:j<h.length:=(List.getElem?_eq_some_iff.1 hj).1
 have hget:=fun os=>get_app hj os
 unfold mach at hget;have hlt:=sortC_lt c;have hnd:=sortC_nodup c;have hll:=sortC_lt20 hc;have hbb:=hw (h.length+2) (by omega);intro n
 induction n with
 | zero =>
  intro i hi
  have q1:¬ i<(sortC c).length:=by omega
  rw [List.take_of_length_le (by omega),← envC];refine .goS 60 ?_;simp [q1];exact .exit rfl rfl
 | succ n ih =>
  intro i hi
  have q1:i<(sortC c).length:=by omega
  have ha:=hlt _ (List.getElem_mem q1);have q2:=eq_true (c.hG.of ha);have hh:=ih (i+1) (by omega)
  have hnew:=envP_new ok hi2 hs2 (p:=(sortC c).take i) (fun a h=>hlt a (List.mem_of_mem_take h)) ha (fun hm=>by
   obtain ⟨x,hx,he⟩:=List.getElem_of_mem hm;rw [List.getElem_take] at he;have:=(List.getElem_inj (xs:=sortC c) (h₀ := by simp at hx; omega) (h₁ := q1) hnd).1 he
   simp at hx; omega)
  rw [List.take_succ_eq_append_getElem q1,envP_snoc c ins state _ ha] at hh
  have hput:=fun u=>putIn_gen (E:=.sc .str) (e:=AV.str) eq_str AV.bool u (getM_app hnew)
  have hgf:=hc.2.2.2.2.1 _ (List.getElem_mem ha)
  have gl:((sortC c).map iN)[i]? = some (.int .i64 (sortC c)[i]):=by simp [q1]
  obtain ⟨gl1,gl2⟩:=List.getElem?_eq_some_iff.1 gl
  have hEl:((sortC c).map iN).length=(sortC c).length:=by simp
  generalize envP c ins state ((sortC c).take i)=m at *;generalize (sortC c)[i]=a at *;have hG:=p_step_Gate hΓ c.gates[a] hgf (pickL m c.gates[a].ins) (k:=1) .self (by simp [pickL]; have:=hgf.2.1; omega)
  have hP:=r_pick (Γ:=Γ) m c.gates[a].ins (fl:=false) c.gates[a].hi (by have:=hgf.2.1; omega) (j:=h.length) (h:=hVa h m v++[.cells (AV.cells (eGt c.gates[a])),.row 1 t_string [] none true false,.row 1 t_string [] none true false]) (by simp) (by
   intro n hn;simp at hn
   simp [hw n (by omega),mapB]) (by
   intro n k hn;simp at hn
   simp [hv n k (by omega),mapB])
  refine .goS 60 ?_;simp (disch:=omega) [q1,q2,gl,gl2,hEl,ha,hget,ofCells];refine .drS 60 ?_;simp (disch:=omega) [q1,q2,hget]
  have hpl:(pickL m c.gates[a].ins).length=c.gates[a].ins.length:=by simp [pickL]
  simp at hP;generalize pickL m c.gates[a].ins=P at *;refine DRC.reach (by simp) hP ?_;simp [rowBo];have htk:(P.map AV.bool).take c.gates[a].ins.length=P.map AV.bool:=List.take_of_length_le (by simp [hpl]);refine DRC.call (by simp [hpl,htk]) hG ?_;simp (disch:=omega) [mapB,hput,isKey,allDatum,isDatum];refine .reLoop ?_;simp
  have hj2:j<h.length+2:=by omega
  have hbm:=belM_bo (h.length+2) (m++[(c.gates[a].name,gateV c.gates[a] P)]);rw [List.map_append,List.map_cons,List.map_nil] at hbm;refine .dropTo (h.length+2) (by simp; rfl) (by simp) (by simp [hj2]) (by simp [hbb]; exact hbm) ?_;simp [mapB,hVa] at hh ⊢;exact hh
set_option maxRecDepth 8000 in
theorem r_vals (hΓ:InsG Γ) (c:Ct) (hc:CtFew c) (ok:CtOk c) (ins state:List Bool) (hi2:ins.length=c.inputs.length) (hs2:state.length=c.latches.length) {fi fs:Bool} {ki ks:Nat} (hki:Kd 1 ki ins) (hks:Kd 1 ks state) {j:Nat} {h:List Ob} (hj:h[j]? = some (mach c (netsC c) (sortC c))) (hw:WfO h) (hv:WfV h) :
  ∀ up,AM.Reach Tryz.prog Γ (.cl n_step_machine_values [.ptr j 0,.list fs ks (state.map .bool),.list fi ki (ins.map .bool)] up h) (.back up (.tup [.mp h.length,.int .i64 0]) (h++[mapB (envC c ins state)])):=by
 intro up;have b0:=hc.1;have b2:=hc.2.2.1;have hnl:=nets_le hc;have e1:((state.length:Int)=c.latches.length)=True:=eq_true (by omega);have e2:((ins.length:Int)=c.inputs.length)=True:=eq_true (by omega);have hjl:j<h.length:=(List.getElem?_eq_some_iff.1 hj).1
 have hget:=fun os=>get_app hj os
 have hj':=hj;unfold mach at hj' hget;have hbb:=hw (h.length+1) (by omega);have hC:=p_concat2 (Γ:=Γ) ins state hki hks (by omega)
 have hvN:(ins++state).length≤(netsC c).length:=by simp [netsC]; omega
 have h9:=r_va9 (Γ:=Γ) c (netsC c) ok.nodup (by omega) (sortC c) (ins++state) hvN hj hw hv up (ins++state).length 0 (by omega);have h1:=r_va1 hΓ c hc ok ins state hi2 hs2 (ins++state) hj hw hv up (sortC c).length 0 (by omega)
 have hz:(netsC c).zip (ins++state)=envP c ins state []:=by
  have e:ins++state=(ins++state)++[]:=by simp
  rw [envP,List.foldl_nil,env0,netsC,e,← baseN,List.zip_append (by rw [baseN_len]; simp; omega)];simp
 rw [List.take_zero] at h9 h1;rw [hz] at h9;simp only [List.take_zero,List.zip_nil_right] at h9
 have hvl:(ins++state).length=ins.length+state.length:=by simp
 generalize envP c ins state []=m0 at *;generalize envC c ins state=m1 at *;generalize sortC c=l at *;generalize netsC c=N at *;refine .enterB 60 c_step_machine_values ?_;simp [hj',e1,e2];generalize ins++state=v at *;refine .callB 60 (by simp) hC ?_;simp;refine .trees [38] ?_;simp [modA1,shareOne];refine .inLoop ?_;simp [mapB,hVa] at h9 h1 ⊢;refine .trans h9 ?_;refine .goB 60 ?_;simp [hget];refine .inLoop ?_;simp;refine .trans h1 ?_;refine .dropTo (h.length+1) (by simp; rfl) (by simp) (by simp) (by simp [hbb]) ?_;refine .goB 60 ?_;simp
theorem getA3 {h os:List Ob} {a b c d:Ob}:(h++a::b::c::d::os)[h.length+3]? = some d:=by simp
abbrev hMs (h:List Ob) (m:List (Bs×Bool)) (nx:List Bool):List Ob:=h++[.row 1 t_bool [] none true false,.row 1 t_bool [] none true false,mapB m,.row 1 t_bool (nx.map .bool) none true false]
set_option maxRecDepth 8000 in
theorem r_ms1 (c:Ct) (hc:CtFew c) (m:List (Bs×Bool)) {j:Nat} {h:List Ob} (hjl:j<h.length) (hw:WfO h) (hv:WfV h) (up:List Fr):∀ n i:Nat,i+n=c.latches.length →
  AM.Reach Tryz.prog Γ (ypm (.ptr j 0) (.mp (h.length+2)) (.sl (h.length+3) 0 i) (.list false c.kL (c.latches.map eLt)) (.int .i64 c.latches.length) (.int .i64 i) (hMs h m ((c.latches.take i).map fun q=>lkE m q.next)) ⟨[],.norm,h.length,up⟩)
   (ypn (.ptr j 0) (.mp (h.length+2)) (.sl (h.length+3) 0 c.latches.length) (hMs h m (c.latches.map fun q=>lkE m q.next)) ⟨[],.norm,h.length,up⟩):=by
 have b2:=hc.2.2.1
 have hvv:=fun m=>hv (h.length+3) m (by omega)
 have hbb:=hw (h.length+4) (by omega)
 have hj4:j<h.length+4:=by omega
 have hbm:=belM_bo (h.length+4) m
 have hvm:=fun k=>vldM_bo (h.length+3) k m
 intro n
 induction n with
 | zero =>
  intro i hi
  have q1:¬ i<c.latches.length:=by omega
  have he:i=c.latches.length:=by omega
  subst he;rw [List.take_of_length_le (by omega)];refine .goS 60 ?_;simp [q1];exact .exit rfl rfl
 | succ n ih =>
  intro i hi
  have q1:i<c.latches.length:=by omega
  have q2:=eq_true (c.hL.of q1);have hh:=ih (i+1) (by omega)
  have e1:((c.latches.take (i+1)).map fun q=>lkE m q.next)=((c.latches.take i).map fun q=>lkE m q.next)++[lkE m c.latches[i].next]:=by
   rw [List.take_succ_eq_append_getElem q1,List.map_append]; rfl
  have hlen:((c.latches.take i).map fun q=>lkE m q.next).length=i:=by simp; omega
  rw [e1] at hh;have hf:=find_bo c.latches[i].next m;have hlk:lkE m c.latches[i].next=(match getM c.latches[i].next m with | some v=>v | none=>false):=rfl
  have hle:((i:Int)+1)≤140737488355328:=by omega
  generalize ((c.latches.take i).map fun q=>lkE m q.next)=P at *;generalize (c.latches.map fun q=>lkE m q.next)=P2 at *;refine .goS 60 ?_
  cases hg:getM c.latches[i].next m with
  | none =>
   rw [hg] at hf hlk;simp at hf hlk;rw [hlk] at hh;simp (disch:=omega) [q1,q2,mapB,hf,isKey,allDatum,isDatum,hle,hlen];refine .reLoop ?_;simp;refine .dropTo (h.length+4) (by simp; rfl) (by simp) (by simp [hj4]) (by simp [hbb,hbm]) ?_;refine .resetTo (i:=h.length+3) getA3 (by simp) (by simp [hlen]) (by simp [hvv,hvm]) ?_;simp [hMs,mapB] at hh ⊢;exact hh
  | some v =>
   rw [hg] at hf hlk;simp at hf hlk;rw [hlk] at hh;simp (disch:=omega) [q1,q2,mapB,hf,isKey,allDatum,isDatum,hle,hlen];refine .reLoop ?_;simp;refine .dropTo (h.length+4) (by simp; rfl) (by simp) (by simp [hj4]) (by simp [hbb,hbm]) ?_;refine .resetTo (i:=h.length+3) getA3 (by simp) (by simp [hlen]) (by simp [hvv,hvm]) ?_;simp [hMs,mapB] at hh ⊢;exact hh
def lensB (c:Ct) (ins state:List Bool):Bool:=decide (ins.length=c.inputs.length)&&decide (state.length=c.latches.length)
def stepO (c:Ct) (ins state:List Bool):List Bool×List Bool×Int:=if lensB c ins state=true then (outsC c ins state,nextC c ins state,0) else ([],[],11)
set_option maxRecDepth 8000 in
theorem r_mstep (hΓ:InsG Γ) (c:Ct) (hc:CtFew c) (ok:CtOk c) (ins state:List Bool) (hi2:ins.length<2^40) (hs2:state.length<2^40) {fi fs:Bool} {ki ks:Nat} (hki:Kd 1 ki ins) (hks:Kd 1 ks state) {j:Nat} {h:List Ob} (hj:h[j]? = some (mach c (netsC c) (sortC c))) (hw:WfO h) (hv:WfV h) :
  ∀ up,AM.Reach Tryz.prog Γ (.cl n_step_machine_step [.ptr j 0,.list fs ks (state.map .bool),.list fi ki (ins.map .bool)] up h) (.back up (.tup [.sl h.length 0 (stepO c ins state).1.length,.sl (h.length+1) 0 (stepO c ins state).2.1.length,.int .i64 (stepO c ins state).2.2]) (h++[rowBo (stepO c ins state).1,rowBo (stepO c ins state).2.1])):=by
 intro up;have hjl:j<h.length:=(List.getElem?_eq_some_iff.1 hj).1
 have hget:=fun os=>get_app hj os
 have hbb:=hw h.length (Nat.le_refl _);unfold stepO lensB
 by_cases hl:ins.length=c.inputs.length∧state.length=c.latches.length
 ·have hV:=r_vals hΓ c hc ok ins state hl.1 hl.2 (fi:=fi) (fs:=fs) hki hks (j:=j) (h:=h++[.row 1 t_bool [] none true false,.row 1 t_bool [] none true false]) (hget _) (by
   intro n hn;simp at hn
   simp [hw n (by omega)]) (by
   intro n k hn;simp at hn
   simp [hv n k (by omega)])
  simp at hV;have h1:=r_ms1 (Γ:=Γ) c hc (envC c ins state) hjl hw hv up c.latches.length 0 (by omega)
  have hP:=r_pick (Γ:=Γ) (envC c ins state) c.outputs (fl:=false) c.hO (by have:=hc.2.1; omega) (j:=h.length+2) (h:=hMs h (envC c ins state) (c.latches.map fun q=>lkE (envC c ins state) q.next)) (by simp) (by
   intro n hn;simp at hn
   simp [hw n (by omega),mapB]) (by
   intro n k hn;simp at hn
   simp [hv n k (by omega),mapB])
  unfold mach at hget
  have hol:(outsC c ins state).length=c.outputs.length:=by simp [outsC,pickL]
  have hnl:=nextC_len c ins state;rw [if_pos (by simp [hl.1,hl.2])];unfold outsC nextC at *;simp only at hol hnl ⊢;generalize pickL (envC c ins state) c.outputs=PO at *;generalize (c.latches.map fun q=>lkE (envC c ins state) q.next)=PN at *;generalize envC c ins state=m at *;simp at h1 hP;refine .enterB 60 c_step_machine_step ?_;simp;refine .rcall 60 hV ?_;simp [hget,mapB];refine .inLoop ?_;simp [hMs,mapB,rowBo] at h1 hP ⊢;refine .trans h1 ?_;refine .goB 60 ?_;simp [hget];refine .rcall 4 hP ?_;simp;refine .trans (.clrs [9,11,42,48,49] _) ?_;simp [clrT];have hlt3:(h.length+3<h.length)=False:=eq_false (by omega);have hlt4:(h.length+4<h.length)=False:=eq_false (by omega);refine .gcTo h.length [4,3] (by simp [okP_bel hbb,hjl]) (by decide) ?_;simp [rnH_bel hbb,hjl,hlt3,hlt4];refine .goB 60 ?_;simp [hol,hnl]
 ·have hV:=r_valsE (Γ:=Γ) c hc (netsC c) (sortC c) ins state (fi:=fi) (fs:=fs) (ki:=ki) (ks:=ks) hi2 hs2 hl (j:=j) (h:=h++[.row 1 t_bool [] none true false,.row 1 t_bool [] none true false]) (hget _);rw [if_neg (by simpa using hl)];refine .enterB 60 c_step_machine_step ?_;simp;refine .rcall 12 hV ?_;simp;refine .goB 6 ?_;simp;have hlt3:(h.length+3<h.length)=False:=eq_false (by omega);have hlt2:(h.length+2<h.length)=False:=eq_false (by omega);refine .gcTo h.length [2,3] (by simp [okP_bel hbb,hjl]) (by decide) ?_;simp [rnH_bel hbb,hjl,hlt3,hlt2];refine .goB 60 ?_;simp [rowBo]
def stepE (c:Ct) (ins state:List Bool):List Bool×List Bool×Int:=if okC c=true then stepO c ins state else ([],[],1)
def valsE (c:Ct) (ins state:List Bool):List Bool×Int:=if okC c=true then (if lensB c ins state=true then (valsC c ins state,0) else ([],11)) else ([],1)
set_option maxRecDepth 8000 in
theorem p_step_Step (hΓ:InsG Γ) (c:Ct) (hb:CtB c) (ins state:List Bool) (hi2:ins.length<2^40) (hs2:state.length<2^40) {ki ks:Nat} (hki:Kd 1 ki ins) (hks:Kd 1 ks state) :
  PureCon Tryz.prog Γ n_step_Step [eCt c,.list false ks (state.map .bool),.list false ki (ins.map .bool)] (.tup [.own 1 t_bool ((stepE c ins state).1.map .bool),.own 1 t_bool ((stepE c ins state).2.1.map .bool),.int .i64 (stepE c ins state).2.2]):=by
 unfold stepE
 cases ho:okC c with
 | false =>
  have hB:=r_begin0 hΓ c hb ho (h:=[.cells (AV.cells (eCt c)),.row 1 t_bool [] none true false,.row 1 t_bool [] none true false]);simp at hB;refine .run 60 c_step_Step (by simp) ?_;simp;refine .rcall 60 hB ?_;simp;exact .back (by simp)
 | true =>
  obtain ⟨hr,_,_⟩:=okC_yes ho;obtain ⟨ok,_⟩:=right_ok hr;have hc:=right_few hb hr;have hB:=r_begin hΓ c hb ho (h:=[.cells (AV.cells (eCt c)),.row 1 t_bool [] none true false,.row 1 t_bool [] none true false]) (by intro n hn; simp) (by intro n k hn; simp);have hM:=r_mstep hΓ c hc ok ins state hi2 hs2 (fi:=false) (fs:=false) hki hks (j:=3) (h:=[.cells (AV.cells (eCt c)),.row 1 t_bool [] none true false,.row 1 t_bool [] none true false,mach c (netsC c) (sortC c)]) rfl (by intro n hn; simp [mach]) (by intro n k hn; simp at hn; simp [mach]);generalize stepO c ins state=R at *;obtain ⟨o,nx,e⟩:=R;simp at hB hM;refine .run 60 c_step_Step (by simp) ?_;simp;refine .rcall 60 hB ?_;simp;refine .rcall 60 hM ?_;simp [rowBo];exact .back (by simp)
set_option maxRecDepth 8000 in
theorem p_step_Values (hΓ:InsG Γ) (c:Ct) (hb:CtB c) (ins state:List Bool) (hi2:ins.length<2^40) (hs2:state.length<2^40) {ki ks:Nat} (hki:Kd 1 ki ins) (hks:Kd 1 ks state) :
  PureCon Tryz.prog Γ n_step_Values [eCt c,.list false ks (state.map .bool),.list false ki (ins.map .bool)] (.tup [.own 1 t_bool ((valsE c ins state).1.map .bool),.int .i64 (valsE c ins state).2]):=by
 unfold valsE
 cases ho:okC c with
 | false =>
  have hB:=r_begin0 hΓ c hb ho (h:=[.cells (AV.cells (eCt c)),.row 1 t_bool [] none true false]);simp at hB;refine .run 60 c_step_Values (by simp) ?_;simp;refine .rcall 60 hB ?_;simp;exact .back (by simp)
 | true =>
  obtain ⟨hr,_,_⟩:=okC_yes ho;obtain ⟨ok,_⟩:=right_ok hr;have hc:=right_few hb hr;have hN:=nets_le hc;have hB:=r_begin hΓ c hb ho (h:=[.cells (AV.cells (eCt c)),.row 1 t_bool [] none true false]) (by intro n hn; simp) (by intro n k hn; simp);simp at hB
  by_cases hl:ins.length=c.inputs.length∧state.length=c.latches.length
  ·have hV:=r_vals hΓ c hc ok ins state hl.1 hl.2 (fi:=false) (fs:=false) hki hks (j:=2) (h:=[.cells (AV.cells (eCt c)),.row 1 t_bool [] none true false,mach c (netsC c) (sortC c)]) rfl (by intro n hn; simp [mach]) (by intro n k hn; simp at hn; simp [mach]);have hP:=r_pick (Γ:=Γ) (envC c ins state) (netsC c) (fl:=false) (k:=1) .self (by omega) (j:=3) (h:=[.cells (AV.cells (eCt c)),.row 1 t_bool [] none true false,mach c (netsC c) (sortC c),mapB (envC c ins state)]) rfl (by intro n hn; simp [mach,mapB]) (by intro n k hn; simp at hn; simp [mach,mapB])
   have hpl:(valsC c ins state).length=(netsC c).length:=by simp [valsC,pickL]
   rw [show lensB c ins state=true by simp [lensB,hl.1,hl.2]];unfold valsC at hpl ⊢;simp only [if_true];generalize pickL (envC c ins state) (netsC c)=P at *;generalize envC c ins state=m at *;generalize netsC c=N at *;generalize sortC c=l at *;simp at hV hP;refine .run 60 c_step_Values (by simp) ?_;simp;refine .rcall 60 hB ?_;simp;refine .rcall 60 hV ?_;simp [mach];refine .rcall 60 hP ?_;simp [rowBo,hpl];exact .back (by simp [hpl])
  ·have hV:=r_valsE (Γ:=Γ) c hc (netsC c) (sortC c) ins state (fi:=false) (fs:=false) (ki:=ki) (ks:=ks) hi2 hs2 hl (j:=2) (h:=[.cells (AV.cells (eCt c)),.row 1 t_bool [] none true false,mach c (netsC c) (sortC c)]) rfl;rw [show lensB c ins state=false by simpa [lensB] using hl];refine .run 60 c_step_Values (by simp) ?_;simp;refine .rcall 60 hB ?_;simp;refine .rcall 60 hV ?_;simp;exact .back (by simp)
theorem p_slices_Clone_bool_bool (l:List Bool) {k:Nat} (hk:Kd 1 k l) (hl:l.length<2^40):PureCon Tryz.prog Γ n_slices_Clone_bool_bool [.list false k (l.map AV.bool)] (.own 1 t_bool (l.map AV.bool)):=by
 refine .run 60 c_slices_Clone_bool_bool (by simp) ?_
 cases l with
 | nil =>
  simp;refine .either 0 (by simp) (fun b => ?_)
  cases b
  ·refine .go 9 ?_;simp;refine .nilslot 2 1 t_bool rfl (by omega) ?_;refine .go 60 ?_;simp;exact .back (by simp)
  ·refine .go 60 ?_;simp;exact .back (by simp)
 | cons x xs =>
  have hk0:k=1:=by
   rcases hk with h | h
   ·exact h
   ·cases h
  subst hk0;simp at hl;simp (disch:=(first | omega | (simp; omega)));exact .back (by simp)
def runG (c:Ct):List (Nat×List Bool)→List Bool→List (List Bool)×List Bool×Int
 | [],s=>([],s,0)
 | i::r,s=>if lensB c i.2 s=true then (outsC c i.2 s::(runG c r (nextC c i.2 s)).1,(runG c r (nextC c i.2 s)).2) else ([],s,11)
abbrev eRB (x:List Bool):AV:=.list false 1 (x.map .bool)
abbrev loR:List AV:=[U,U,U,U,.ptr 1 0,U,.sl 2 0 0,.sl 3 0 0,.int .i64 0,U,U,.ptr 6 0,U,U,U,U,U,U,U,U,U,U,U,U,U,U,U,U,U,U,U,U,U,U,U,U,U,U,U,U,U,U,U,U,U,U,U,U,U,U,U]
abbrev hRn (c:Ct) (N:List Bs) (l:List Nat) (kq:Nat) (seq:List (Nat×List Bool)) (acc:List (List Bool)) (k:Nat) (s:List Bool) (e:Int):List Ob:=[.cells (AV.cells (eCt c)),.cells [.list false k (s.map .bool)],.row 1 t_bool_2 [] none true false,.row 1 t_bool [] none true false,mach c N l,.cells [.int .i64 e],
 .cells [.sl 7 0 acc.length],.row 1 t_bool_2 (acc.map eRB) none true false,.cells [.ptr 4 0],.cells [.list false k (s.map .bool)],.cells [.list false kq (seq.map eCatB)],.cells [.ptr 5 0],.dfr true,.loop .ready .none n_step_Run loR [38,39] ygT ygU]
@[simp] theorem belO_mach (n:Nat) (c:Ct) (N:List Bs) (l:List Nat):belO n (mach c N l)=true:=by simp [mach]
@[simp] theorem vldO_mach (n m:Nat) (c:Ct) (N:List Bs) (l:List Nat):vldO n m (mach c N l)=true:=by simp [mach]
set_option maxRecDepth 8000 in
theorem r_rn0 (hΓ:InsG Γ) (c:Ct) (hc:CtFew c) (ok:CtOk c) (fr:Fr) (hf7:∀ m,vldF 7 m fr=true) {kq:Nat} (seq:List (Nat×List Bool)) (hkq:Kd 1 kq seq) (hqk:∀ x∈seq,Kd 1 x.1 x.2∧x.2.length<2^40) (hql:seq.length≤40):∀ n i:Nat,i+n=seq.length→∀ (acc:List (List Bool)) (k:Nat) (s:List Bool),acc.length≤i→Kd 1 k s→s.length=c.latches.length→∃ k' os,Kd 1 k' (runG c (seq.drop i) s).2.1 ∧
  AM.Reach Tryz.prog Γ (ywy (.yld 13) (.ptr 8 0) (.ptr 9 0) (.ptr 11 0) (.list false kq (seq.map eCatB)) (.int .i64 seq.length) (.int .i64 i) (hRn c (netsC c) (sortC c) kq seq acc k s 0) ⟨[],.norm,14,[fr]⟩)
   (.back [fr] (.tup []) (hRn c (netsC c) (sortC c) kq seq (acc++(runG c (seq.drop i) s).1) k' (runG c (seq.drop i) s).2.1 (runG c (seq.drop i) s).2.2++os)):=by
 have b2:=hc.2.2.1;intro n
 induction n with
 | zero =>
  intro i hi acc k s ha hk hs
  have q1:¬ i<seq.length:=by omega
  rw [List.drop_eq_nil_of_le (by omega),runG,List.append_nil];refine ⟨k,[],hk,?_⟩;rw [List.append_nil];refine .goB 60 ?_;simp [q1]
 | succ n ih =>
  intro i hi acc k s ha hk hs
  have q1:i<seq.length:=by omega
  have q2:=eq_true (hkq.of q1);obtain ⟨hki,hkl⟩:=hqk _ (List.getElem_mem q1);have hM:=r_mstep hΓ c hc ok seq[i].2 s hkl (by omega) (fi:=false) (fs:=false) hki hk (j:=4) (h:=hRn c (netsC c) (sortC c) kq seq acc k s 0) rfl (by intro n hn; simp at hn; simp [mach]; omega) (by intro n m hn; simp at hn; simp [mach]; omega);rw [List.drop_eq_getElem_cons q1,runG];unfold stepO at hM;generalize netsC c=N at *;generalize sortC c=l at *
  cases hlens:lensB c seq[i].2 s with
  | false =>
   rw [hlens] at hM;refine ⟨k,[rowBo [],rowBo []],hk,?_⟩;simp at hM ⊢;refine .goB 60 ?_;simp [q1,q2];refine .rcall 60 hM ?_;simp
  | true =>
   rw [hlens] at hM;obtain ⟨k',os,hk',hh⟩:=ih (i+1) (by omega) (acc++[outsC c seq[i].2 s]) 1 (nextC c seq[i].2 s) (by simp; omega) .self (nextC_len _ _ _);refine ⟨k',os,hk',?_⟩;clear hk'
   have hol:(outsC c seq[i].2 s).length=c.outputs.length:=by simp [outsC,pickL]
   have hnl:=nextC_len c seq[i].2 s;generalize runG c (seq.drop (i+1)) (nextC c seq[i].2 s)=R at *;generalize outsC c seq[i].2 s=PO at *;generalize nextC c seq[i].2 s=PN at *;simp at hM ⊢;refine .goB 60 ?_;simp [q1,q2];refine .rcall 10 hM ?_;simp [rowBo];refine .trees [8,9] ?_;have htkO:(PO.map AV.bool).take c.outputs.length=PO.map AV.bool:=List.take_of_length_le (by simp [hol]);have htkN:(PN.map AV.bool).take c.latches.length=PN.map AV.bool:=List.take_of_length_le (by simp [hnl])
   have hle:(acc.length+1)*24≤140737488355328:=by omega
   simp [hol,hnl,htkO,htkN];refine .goB 60 ?_;simp [hle];refine .trans (.pop _) ?_;simp;refine .goB 60 ?_;simp (disch:=omega);refine .reLoop ?_;simp;refine .dropTo 14 (by simp; rfl) (by simp) (by simp) (by simp [mach]) ?_;refine .resetUT (i:=7) rfl (by simp) (by have h7:=hf7 (acc.length+1); simp at h7 ⊢; exact h7) (by simp [mach]) ?_;simp [hRn] at hh ⊢;exact hh
theorem exReach {P:Program} {c:AM.Cfg} {o:Out} {p:Nat→Prop} {f:Nat→List Ob→AM.Cfg} (h:∃ k,p k∧∃ os,AM.Reach P Γ c (f k os)) (h2:∀ k os,p k→Fins P Γ (f k os) o):Fins P Γ c o:=by
 obtain ⟨k,hk,os,h1⟩:=h;exact .reach h1 (h2 k os hk)
def runE (c:Ct) (state:List Bool) (seq:List (Nat×List Bool)):List (List Bool)×List Bool×Int :=
 if okC c=true then (if seq.length≤40 then (if state.length=c.latches.length then (if (runG c seq state).2.2=0 then runG c seq state else ([],[],(runG c seq state).2.2)) else ([],[],11)) else ([],[],8)) else ([],[],1)
theorem runG_len (c:Ct):∀ (seq:List (Nat×List Bool)) (s:List Bool),s.length=c.latches.length→(runG c seq s).2.1.length=c.latches.length
 | [],s,h=>h
 | i::r,s,h=>by
  rw [runG]
  split
  ·exact runG_len c r _ (nextC_len _ _ _)
  ·exact h
theorem runG_le (c:Ct):∀ (seq:List (Nat×List Bool)) (s:List Bool),(runG c seq s).1.length≤seq.length
 | [],s=>by simp [runG]
 | i::r,s=>by
  rw [runG]
  split
  ·have:=runG_le c r (nextC c i.2 s); simp; omega
  ·simp
set_option maxRecDepth 8000 in
theorem p_step_Run1 (hΓ:InsG Γ) (c:Ct) (hb:CtB c) (ho:okC c=true) (state:List Bool) (seq:List (Nat×List Bool)) (hs2:state.length<2^40) {ks kq:Nat} (hks:Kd 1 ks state) (hkq:Kd 1 kq seq) (hqk:∀ x∈seq,Kd 1 x.1 x.2∧x.2.length<2^40) (hl:state.length=c.latches.length) (hq:seq.length≤40) :
  PureCon Tryz.prog Γ n_step_Run [eCt c,.list false ks (state.map .bool),.list false kq (seq.map eCatB)] (.tup [.own 1 t_bool_2 ((if (runG c seq state).2.2=0 then (runG c seq state).1 else []).map eRB),.own 1 t_bool ((if (runG c seq state).2.2=0 then (runG c seq state).2.1 else []).map .bool),.int .i64 (runG c seq state).2.2]):=by
 obtain ⟨hr,_,_⟩:=okC_yes ho;obtain ⟨ok,_⟩:=right_ok hr;have hc:=right_few hb hr;have b2:=hb.2.2.1;have e1:((state.length:Int)=c.latches.length)=True:=eq_true (by omega);have e2:((40:Int)<seq.length)=False:=eq_false (by omega);have hB:=r_begin hΓ c hb ho (h:=[.cells (AV.cells (eCt c)),.cells [.list false ks (state.map .bool)],.row 1 t_bool_2 [] none true false,.row 1 t_bool [] none true false]) (by intro n hn; simp) (by intro n k hn; simp);simp at hB;have hRl:=runG_len c seq state hl
 have h0:=fun fr hf=>r_rn0 hΓ c hc ok fr hf (kq:=kq) seq hkq hqk hq seq.length 0 (by omega) [] ks state (by simp) hks hl
 rw [List.drop_zero] at h0;generalize runG c seq state=R at *;obtain ⟨ro,rs,re⟩:=R;generalize netsC c=N at *;generalize sortC c=l at *;simp at h0 hRl;refine .run 60 c_step_Run (by simp) ?_;simp;refine .rcall 90 hB ?_;simp [e1,e2];refine .enter 60 c_step_machine_steps ?_;simp;refine .enter 60 c_step_machine_steps_1 ?_;simp;refine .inLoop ?_;simp;refine exReach (h0 _ ?_) (fun k' os hk' => ?_)
 ·intro m; simp
 have htl:(ro.map eRB).take ro.length=ro.map eRB:=List.take_of_length_le (by simp)
 by_cases h00:re=0
 ·refine .go 60 ?_;simp [h00];refine .drop 14 (by simp; rfl) (by simp) (by simp) (by simp [mach]) ?_;refine .dr 60 ?_;simp;refine .call (by simp) (p_slices_Clone_bool_bool rs hk' (by omega)) ?_;simp;exact .back (by simp [htl])
 ·refine .go 60 ?_;simp [h00];refine .drop 14 (by simp; rfl) (by simp) (by simp) (by simp [mach]) ?_;refine .dr 60 ?_;simp;exact .back (by simp)
theorem p_step_Run (hΓ:InsG Γ) (c:Ct) (hb:CtB c) (state:List Bool) (seq:List (Nat×List Bool)) (hs2:state.length<2^40) (hq2:seq.length<2^40) {ks kq:Nat} (hks:Kd 1 ks state) (hkq:Kd 1 kq seq) (hqk:∀ x∈seq,Kd 1 x.1 x.2∧x.2.length<2^40) :
  PureCon Tryz.prog Γ n_step_Run [eCt c,.list false ks (state.map .bool),.list false kq (seq.map eCatB)] (.tup [.own 1 t_bool_2 ((runE c state seq).1.map eRB),.own 1 t_bool ((runE c state seq).2.1.map .bool),.int .i64 (runE c state seq).2.2]):=by
 have b2:=hb.2.2.1;have e1:((state.length:Int)=c.latches.length)=(state.length=c.latches.length):=propext (by omega);have e2:((40:Int)<seq.length)=(40<seq.length):=propext (by omega);unfold runE
 cases ho:okC c with
 | false =>
  have hB:=r_begin0 hΓ c hb ho (h:=[.cells (AV.cells (eCt c)),.cells [.list false ks (state.map .bool)],.row 1 t_bool_2 [] none true false,.row 1 t_bool [] none true false]);simp at hB;refine .run 60 c_step_Run (by simp) ?_;simp;refine .rcall 90 hB ?_;simp;refine .dr 60 ?_;simp;exact .back (by simp)
 | true =>
  obtain ⟨hr,_,_⟩:=okC_yes ho;have hB:=r_begin hΓ c hb ho (h:=[.cells (AV.cells (eCt c)),.cells [.list false ks (state.map .bool)],.row 1 t_bool_2 [] none true false,.row 1 t_bool [] none true false]) (by intro n hn; simp) (by intro n k hn; simp);simp at hB
  by_cases hq:seq.length≤40
  ·by_cases hl:state.length=c.latches.length
   ·have:=p_step_Run1 hΓ c hb ho state seq hs2 hks hkq hqk hl hq;rw [if_pos rfl,if_pos hq,if_pos hl]
    by_cases h0:(runG c seq state).2.2=0
    ·rw [if_pos h0]; rw [if_pos h0,if_pos h0] at this; exact this
    ·rw [if_neg h0]; rw [if_neg h0,if_neg h0] at this; exact this
   ·have hq':¬ 40<seq.length:=by omega
    rw [if_pos rfl,if_pos hq,if_neg hl];refine .run 60 c_step_Run (by simp) ?_;simp;refine .rcall 90 hB ?_;simp [e1,e2,hq',hl];exact .back (by simp)
  ·have hq':40<seq.length:=by omega
   rw [if_pos rfl,if_neg hq];refine .run 60 c_step_Run (by simp) ?_;simp;refine .rcall 90 hB ?_;simp [e1,e2,hq'];exact .back (by simp)
def sndL (a:List (Nat×List Bool)):List (List Bool):=a.map (·.2)
def RowsK (a:List (Nat×List Bool)):Prop:=∀ x∈a,Kd 1 x.1 x.2∧x.2.length<2^40
theorem sndL_drop {a b:List (Nat×List Bool)} {i:Nat} (h1:i<a.length) (h2:i<b.length):(sndL (a.drop i)=sndL (b.drop i))=(a[i].2=b[i].2∧sndL (a.drop (i+1))=sndL (b.drop (i+1))):=by
 rw [List.drop_eq_getElem_cons h1,List.drop_eq_getElem_cons h2];apply propext;simp only [sndL,List.map_cons,List.cons.injEq]
theorem p_r08_Rows (a b:List (Nat×List Bool)) {ka kb:Nat} (ha:Kd 1 ka a) (hb:Kd 1 kb b) (hs:a.length<2^60) (hra:RowsK a) (hrb:RowsK b):PureCon Tryz.prog Γ n_r08_Rows [.list false ka (a.map eCatB),.list false kb (b.map eCatB)] (.bool (decide (sndL a=sndL b))):=by
 refine .run 60 c_r08_Rows (by simp) ?_
 by_cases hl:a.length=b.length
 ·have key:∀ n i:Nat,i+n=a.length→Fins Tryz.prog Γ (yib (.list false ka (a.map eCatB)) (.list false kb (b.map eCatB)) (.int .i64 i) []) (.ret (.bool (decide (sndL (a.drop i)=sndL (b.drop i))))):=by
   intro n
   induction n with
   | zero =>
    intro i hi;refine .go 60 ?_
    have h1:¬ i<a.length:=by omega
    have h2:a.drop i=[]:=List.drop_eq_nil_of_le (by omega);have h3:b.drop i=[]:=List.drop_eq_nil_of_le (by omega);simp [h1,h2,h3];exact .back (by simp)
   | succ n ih =>
    intro i hi
    have h1:i<a.length:=by omega
    have h2:i<b.length:=by omega
    have q1:=eq_true (ha.of h1);have q2:=eq_true (hb.of h2);obtain ⟨k1,k2⟩:=hra _ (List.getElem_mem h1);obtain ⟨k3,k4⟩:=hrb _ (List.getElem_mem h2);have hB:=p_r08_Bools (Γ:=Γ) a[i].2 b[i].2 k1 k3 (by omega);have hh:=ih (i+1) (by omega);have h4:=sndL_drop h1 h2;refine .go 60 ?_
    by_cases h3:a[i].2=b[i].2
    ·have hd:decide (a[i].2=b[i].2)=true:=by simpa using h3
     rw [hd] at hB;simp (disch:=omega) [h1,h2,q1,q2];refine .dr 60 ?_;simp (disch:=omega) [h1,h2,q1,q2];refine .call (by simp) hB ?_;simp (disch:=omega) [h3,h4];refine .reLoop ?_;simp at hh ⊢;exact hh
    ·have hd:decide (a[i].2=b[i].2)=false:=by simpa using h3
     rw [hd] at hB;simp (disch:=omega) [h1,h2,q1,q2];refine .dr 60 ?_;simp (disch:=omega) [h1,h2,q1,q2];refine .call (by simp) hB ?_;simp (disch:=omega) [h3,h4];exact .back (by simp)
  simp [hl];refine .inLoop ?_;have hh:=key a.length 0 (by omega);simp [hl] at hh ⊢;exact hh
 ·have h2:¬ sndL a=sndL b:=fun e=>hl (by have:=congrArg List.length e; simpa [sndL] using this)
  have h3:¬ (a.length:Int)=b.length:=by omega
  simp [hl,h2,h3];exact .back (by simp)
def wcS:Ct:=⟨[],[[113]],[⟨[113],[122],0⟩],[⟨[122],3,[[113]],[],false,1,0,.self,.nil⟩],0,1,3,5,.nil,.self,.self,.self⟩
theorem wcS_few:CtFew wcS:=few_net (by kernel_rfl)
theorem wcS_ok:okC wcS=true:=by kernel_rfl
theorem wcS_run:runE wcS [false] [(0,[]),(0,[]),(0,[])]=([[false],[true],[false]],[true],0):=by kernel_rfl
theorem wcS_vals:valsE wcS [] [false]=([false,true],0):=by kernel_rfl
theorem wcS_step:stepE wcS [] []=([],[],11):=by kernel_rfl
def wgS:Gt:=⟨[],10,[[97],[98]],[[49,45]],true,1,1,.self,.self⟩
theorem wgS_few:GtFew wgS:=few_gate (by kernel_rfl)
theorem wgS_v:gateV wgS [true,false]=false:=by kernel_rfl
theorem wgS_e:gateE wgS [true,false]=0:=by kernel_rfl
set_option maxRecDepth 8000 in
theorem p_worksS (hΓ:InsG Γ):PureCon Tryz.prog Γ n_w08_works [] (.bool true):=by
 have hS:=p_step_Start hΓ wcS wcS_few.toB [] (k:=0) .nil (by simp);have hR:=p_step_Run hΓ wcS wcS_few.toB [false] [(0,[]),(0,[]),(0,[])] (by simp) (by simp) (ks:=1) (kq:=1) .self .self (by simp [Kd]);have hG:=p_step_Gate hΓ wgS wgS_few [true,false] (k:=1) .self (by simp);have hV:=p_step_Values hΓ wcS wcS_few.toB [] [false] (by simp) (by simp) (ki:=0) (ks:=1) .nil .self;have hT:=p_step_Step hΓ wcS wcS_few.toB [] [] (by simp) (by simp) (ki:=0) (ks:=0) .nil .nil;have hA:=p_step_Allowed hΓ wcS wcS_few.toB [false] (k:=1) .self (by simp);have hA2:=p_step_Allowed hΓ wcS wcS_few.toB [true] (k:=1) .self (by simp);have hRo:=p_r08_Rows (Γ:=Γ) [(1,[false]),(1,[true]),(1,[false])] [(1,[false]),(1,[true]),(1,[false])] (ka:=1) (kb:=1) .self .self (by simp) (by simp [RowsK,Kd]) (by simp [RowsK,Kd]);have hBo:=p_r08_Bools (Γ:=Γ) [false,true] [false,true] (ka:=1) (kb:=1) .self .self (by simp)
 rw [wcS_run] at hR;rw [wgS_v,wgS_e] at hG;rw [wcS_vals] at hV;rw [wcS_step] at hT;rw [wcS_ok] at hS;rw [show allowC wcS [false]=true by kernel_rfl] at hA;rw [show allowC wcS [true]=false by kernel_rfl] at hA2;rw [show startF wcS.latches []=[false] by kernel_rfl] at hS;unfold wcS wgS at *;simp at hS hR hG hV hT hA hA2 hRo hBo;refine .run 90 c_w08_works (by simp) ?_;simp;refine .call 90 (by simp) hS ?_;simp;refine .call 90 (by simp) hR ?_;simp;refine .call 90 (by simp) hG ?_;simp;refine .call 90 (by simp) hV ?_;simp;refine .call 90 (by simp) hT ?_;simp;refine .call 90 (by simp) hRo ?_;simp;refine .call 90 (by simp) hBo ?_;simp;refine .call 90 (by simp) hA ?_;simp;refine .call 90 (by simp) hA2 ?_;simp;exact .back (by simp)
end Go.Proofs.YtpinapmcemimcaaGreatDoor
namespace Go.Proofs.YtpinapmcemimcaaGreatDoor
open Go.AM Go.Proofs Go.ChangeShapes Go.WideShapes Go.ChangeAt Go.RowKit
theorem own:ownKnob Tryz.prog.godebug=none:=by kernel_rfl
theorem laid:laidOutB Tryz.prog=true:=by kernel_rfl
theorem mapsR:mapsRowed Tryz.prog=true:=by kernel_rfl
def insD:List (Lit×DataW Unit):=match (Rows.laid_patchbay_net_ins:DataW Unit) with
 | .map D=>D
 | _=>[]
theorem insD_eq:(Rows.laid_patchbay_net_ins:DataW Unit)=.map insD:=by kernel_rfl
def insK:List (AV×AV):=[(.int .i64 0,p2 0 0),(.int .i64 1,p2 0 0),(.int .i64 2,p2 1 1),(.int .i64 3,p2 1 1),(.int .i64 4,p2 2 8),(.int .i64 5,p2 2 8),(.int .i64 6,p2 2 8),(.int .i64 7,p2 2 8),(.int .i64 8,p2 2 8),(.int .i64 9,p2 2 8),(.int .i64 10,p2 0 8)]
theorem insD_av:(insD.map fun d=>(keyAV d.1,valAV d.2))=insK:=by kernel_rfl
theorem gIns0:Tryz.prog.globalNamed "patchbay/net.ins" = some 0:=by kernel_rfl
theorem tIns:(Tryz.prog.globals[0]?).map (·.type)=some 106:=by kernel_rfl
theorem uIns:Tryz.prog.underlying 106=some (.map 22 104):=by kernel_rfl
theorem u37:Tryz.prog.underlying 22=some (.int .i64):=by kernel_rfl
theorem u74:Tryz.prog.underlying 104=some (.array 2 3):=by kernel_rfl
theorem u3:Tryz.prog.underlying 3=some (.int .i64):=by kernel_rfl
theorem u4:Tryz.prog.underlying 4=some .bool:=by kernel_rfl
abbrev gFirst:Nat:=2
theorem ins_laid {W:World} (h:laidMetH Tryz.prog Rows.stepGatesRow.laid W):∃ Γ:Nat→Option AV,InsG Γ∧∀ n a,Γ n=some a→belL 0 a.cells=true∧∃ vs,VL (gw W) [] a.cells vs∧∀ j (hj:j<vs.length),W.cell? ⟨n,j,none⟩=some vs[j]:=by
 obtain ⟨ks,us,h1,h2,z,hz,hm⟩:=map_laid h (by kernel_rfl) (name := "patchbay/net.ins") (D:=insD) (by rw [← insD_eq]; exact List.mem_cons_of_mem _ (List.mem_cons_self ..)) gIns0 tIns uIns
  (fun v q hq=>by obtain ⟨a,b,_⟩:=key_int u37 (g:=gw W) (h:=[]) hq; exact ⟨a,b⟩) (fun n v x hf ht=>val_int2 u74 u3 (by kernel_rfl) (by kernel_rfl) hf ht)
 refine ⟨fun n=>if n=0 then some (.kmp ks us) else none,⟨ks,us,rfl,fun n => ?_⟩,fun n a hn => ?_⟩
 ·rw [hz];rw [insD_av] at hm
  obtain ⟨r,e1,e2,e3⟩:=findIn_spec (.sc .int) (.int .i64 n) z (by
   intro y hy;have hy2:=(hm y).1 hy;simp only [insK,List.mem_cons,List.not_mem_nil,or_false] at hy2
   have hcase:∀ m:Int,(eqData (.sc .int) (.int .i64 n) (.int .i64 m)=some true∧AV.int .i64 n=.int .i64 m)∨(eqData (.sc .int) (.int .i64 n) (.int .i64 m)=some false∧AV.int .i64 n≠.int .i64 m):=by
    intro m
    by_cases hnm:n=m
    ·exact .inl ⟨by simp [eqData,eqOne,hnm],by rw [hnm]⟩
    ·exact .inr ⟨by simp [eqData,eqOne,hnm],by simp [hnm]⟩
   rcases hy2 with rfl | rfl | rfl | rfl | rfl | rfl | rfl | rfl | rfl | rfl | rfl <;> exact hcase _)
  rw [e1];unfold insO
  cases r with
  | some v =>
   have hv:=(hm _).1 (e3 v rfl);simp only [insK,List.mem_cons,List.not_mem_nil,or_false,Prod.mk.injEq,AV.int.injEq,true_and] at hv
   rcases hv with ⟨rfl,rfl⟩ | ⟨rfl,rfl⟩ | ⟨rfl,rfl⟩ | ⟨rfl,rfl⟩ | ⟨rfl,rfl⟩ | ⟨rfl,rfl⟩ | ⟨rfl,rfl⟩ | ⟨rfl,rfl⟩ | ⟨rfl,rfl⟩ | ⟨rfl,rfl⟩ | ⟨rfl,rfl⟩ <;> rfl
  | none =>
   have hno:∀ y∈insK,¬ (AV.int .i64 n=y.1):=fun y hy=>e2 rfl y ((hm y).2 hy)
   simp only [insK,List.mem_cons,List.not_mem_nil,or_false,forall_eq_or_imp,forall_eq,AV.int.injEq,true_and] at hno;rw [if_neg (by omega),if_neg (by omega),if_neg (by omega),if_neg (by omega)]
 ·simp only at hn
  split at hn
  ·rename_i h0
   cases hn
   subst h0;exact ⟨h1,h2⟩
  ·cases hn
noncomputable def startW (os:Os):World :=
 { World.doorLaid Tryz.prog 4000 os with heap:=((World.doorLaid Tryz.prog 4000 os).heap.toList.zipIdx.map fun x=>if x.2=gFirst then (match x.1 with
  | .cells _ t q=>.cells (Go.Pinned.utf8FirstZ.map fun n:Nat=>Value.int .u8 (n:Int)).toArray t q
  | o=>o) else x.1).toArray }
theorem door_met (os:Os) (args:Array Value):laidMetH Tryz.prog Rows.stepGatesRow.laid ((startW os).forCall (fun _ _=>0) ⟨#[],args,[]⟩).memory :=
 laidMetH_of_parts3 (fuel:=8) (laidMet_of_run' 8 (by kernel_rfl) (by kernel_rfl)) (by kernel_rfl) (by kernel_rfl)
abbrev shI:Sh:=.int .i64
abbrev shSs:Sh:=.list 1 false .str
abbrev shLt:Sh:=.parts [.str,.str,.int .i64]
abbrev shGt:Sh:=.parts [.str,.int .i64,shSs,shSs,.bool]
abbrev shCt:Sh:=.parts [shSs,shSs,.list 3 true shLt,.list 5 true shGt]
abbrev shBs:Sh:=.list 1 false .bool
abbrev shBr:Sh:=.list 1 false shBs
theorem dec_bools {B:Nat} {cs:List AV} (h:IsSh B shBs cs):∃ l:List Bool,cs=[.list false 1 (l.map .bool)]:=by
 simp only [IsSh] at h;obtain ⟨xs,rfl,h0,h1⟩:=h
 obtain ⟨l,hl,hn⟩:=map_dec (f:=mkA false) (e:=AV.bool) (fun x hx=>by
  obtain ⟨⟨n,rfl⟩,_⟩:=h1 x hx
  exact ⟨n,rfl⟩)
 exact ⟨l,by rw [hl]⟩
theorem dec_rows {B:Nat} {cs:List AV} (h:IsSh B shBr cs):∃ l:List (Nat×List Bool),cs=[.list false 1 (l.map eCatB)]∧∀ x∈l,Kd 1 x.1 x.2:=by
 rw [IsSh] at h;obtain ⟨xs,rfl,_,h1⟩:=h
 obtain ⟨l,hl,_⟩:=map_dec (f:=mkA false) (e:=fun q:List Bool=>eCatB (1,q)) (fun x hx=>by
  obtain ⟨t,ht⟩:=dec_bools (h1 x hx).1
  exact ⟨t,by rw [ht]; rfl⟩)
 refine ⟨l.map fun q=>(1,q),by rw [hl,List.map_map]; rfl,fun x hx => ?_⟩;obtain ⟨y,_,rfl⟩:=List.mem_map.1 hx;exact .self
theorem dec_i {B:Nat} {cs:List AV} (h:IsSh B shI cs):∃ n:Int,cs=[.int .i64 n]:=by
 simp only [IsSh] at h;obtain ⟨n,rfl,h1,h2⟩:=h;exact ⟨n,rfl⟩
theorem dec_str {B:Nat} {cs:List AV} (h:IsSh B .str cs):∃ s:List UInt8,cs=[.str s]∧s.length≤B:=by
 simp only [IsSh] at h;exact h
theorem dec_strs {B:Nat} {cs:List AV} (h:IsSh B shSs cs):∃ l:List (List UInt8),cs=[.list false 1 (l.map .str)]∧l.length≤B∧∀ s∈l,s.length≤B:=by
 simp only [IsSh] at h;obtain ⟨xs,rfl,h0,h1⟩:=h
 obtain ⟨l,hl,hn⟩:=map_dec (f:=mkA false) (e:=fun s:{s:List UInt8 // s.length≤B}=>AV.str s.val) (fun x hx=>by
  obtain ⟨⟨n,rfl,hb⟩,_⟩:=h1 x hx
  exact ⟨⟨n,hb⟩,rfl⟩)
 refine ⟨l.map (·.val),by rw [hl,List.map_map]; rfl,by rw [List.length_map]; omega,fun s hs => ?_⟩;obtain ⟨x,_,rfl⟩:=List.mem_map.1 hs;exact x.property
def LtS (B:Nat) (q:Lt):Prop:=q.name.length≤B∧q.next.length≤B
def GtS (B:Nat) (g:Gt):Prop:=g.name.length≤B∧g.ins.length≤B∧g.rows.length≤B∧(∀ s∈g.ins,s.length≤B)∧∀ s∈g.rows,s.length≤B
def CtS (B:Nat) (c:Ct):Prop:=c.inputs.length≤B∧c.outputs.length≤B∧c.latches.length≤B∧c.gates.length≤B∧(∀ g∈c.gates,GtS B g)∧(∀ s∈c.inputs,s.length≤B)∧(∀ s∈c.outputs,s.length≤B)∧∀ q∈c.latches,LtS B q
theorem CtS.toB {B:Nat} {c:Ct} (h:CtS B c) (hB:B<2^40):CtB c:=by
 obtain ⟨h1,h2,h3,h4,h5,h6,h7,h8⟩:=h;refine ⟨by omega,by omega,by omega,by omega,fun g hg => ?_,fun s hs => ?_,fun s hs => ?_,fun q hq => ?_⟩
 ·obtain ⟨a,b,d,e,f⟩:=h5 g hg;exact ⟨by omega,by omega,by omega,fun s hs=>by have:=e s hs; omega,fun s hs=>by have:=f s hs; omega⟩
 ·have:=h6 s hs; omega
 ·have:=h7 s hs; omega
 ·obtain ⟨a,b⟩:=h8 q hq;exact ⟨by omega,by omega⟩
theorem dec_lt {B:Nat} {cs:List AV} (h:IsSh B shLt cs):∃ q:Lt,AV.agg cs=eLt q∧LtS B q:=by
 simp only [IsSh,IsShL] at h;obtain ⟨_,_,rfl,⟨a,rfl,ha⟩,_,_,rfl,⟨b,rfl,hb⟩,_,_,rfl,⟨m,rfl,_⟩,rfl⟩:=h;exact ⟨⟨a,b,m⟩,rfl,ha,hb⟩
theorem dec_gt {B:Nat} {cs:List AV} (h:IsSh B shGt cs):∃ g:Gt,AV.agg cs=eGt g∧GtS B g:=by
 rw [IsSh] at h;simp only [IsShL] at h;obtain ⟨_,_,rfl,h1,_,_,rfl,h2,_,_,rfl,h3,_,_,rfl,h4,_,_,rfl,h5,rfl⟩:=h;obtain ⟨n,rfl,hn⟩:=dec_str h1;obtain ⟨op,rfl⟩:=dec_i h2;obtain ⟨i,rfl,hi,hi2⟩:=dec_strs h3;obtain ⟨r,rfl,hr,hr2⟩:=dec_strs h4;simp only [IsSh] at h5;obtain ⟨b,rfl⟩:=h5;exact ⟨⟨n,op,i,r,b,1,1,.self,.self⟩,rfl,hn,hi,hr,hi2,hr2⟩
theorem dec_ct {B:Nat} {cs:List AV} (h:IsSh B shCt cs):∃ c:Ct,AV.agg cs=eCt c∧CtS B c:=by
 rw [IsSh] at h;simp only [IsShL] at h;obtain ⟨_,_,rfl,h1,_,_,rfl,h2,_,_,rfl,h3,_,_,rfl,h4,rfl⟩:=h;obtain ⟨i,rfl,hi,hi2⟩:=dec_strs h1;obtain ⟨o,rfl,ho,ho2⟩:=dec_strs h2;rw [IsSh] at h3 h4;obtain ⟨xs,rfl,hxs,h3⟩:=h3;obtain ⟨ys,rfl,hys,h4⟩:=h4
 obtain ⟨l,hl,hn⟩:=map_dec (f:=mkA true) (e:=fun q:{q:Lt // LtS B q}=>eLt q.val) (fun x hx=>by
  obtain ⟨t,ht,hb⟩:=dec_lt (h3 x hx).1
  exact ⟨⟨t,hb⟩,ht⟩)
 obtain ⟨g,hg,hm⟩:=map_dec (f:=mkA true) (e:=fun q:{q:Gt // GtS B q}=>eGt q.val) (fun x hx=>by
  obtain ⟨t,ht,hb⟩:=dec_gt (h4 x hx).1
  exact ⟨⟨t,hb⟩,ht⟩)
 refine ⟨⟨i,o,l.map (·.val),g.map (·.val),1,1,3,5,.self,.self,.self,.self⟩,by rw [hl,hg]; simp [eCt,List.map_map,Function.comp_def],hi,ho,by rw [List.length_map]; omega,by rw [List.length_map]; omega,fun x hx => ?_,hi2,ho2,fun x hx => ?_⟩
 ·obtain ⟨y,_,rfl⟩:=List.mem_map.1 hx;exact y.property
 ·obtain ⟨y,_,rfl⟩:=List.mem_map.1 hx;exact y.property
theorem bulk_pos {H:Type} (d:DataW H):1≤Rows.uptoBulk d:=by
 cases d with
 | lit l=>cases l <;> simp [Rows.uptoBulk]
 | _=>simp [Rows.uptoBulk]
theorem bulk_len {H:Type}:∀ ds:List (DataW H),ds.length≤Rows.uptoBulkAll ds
 | []=>by simp
 | d::ds=>by have:=bulk_len ds; have:=bulk_pos d; simp only [List.length_cons,Rows.uptoBulkAll]; omega
theorem bulk_mem {H:Type}:∀ {ds:List (DataW H)} {d:DataW H},d∈ds→Rows.uptoBulk d≤Rows.uptoBulkAll ds
 | e::ds,d,h=>by
  simp only [Rows.uptoBulkAll]
  rcases List.mem_cons.1 h with rfl | h
  ·omega
  ·have:=bulk_mem h; omega
def Small {H:Type} (d:DataW H):Prop:=Rows.uptoBulk d≤1048576
theorem downU {H:Type}:Down (H:=H) 1048576 Small:=by
 refine ⟨fun e r h _ => ?_,fun ps h d hd => ?_,fun b h _ => ?_⟩
 ·simp only [Small,Rows.uptoBulk] at h;refine ⟨by have:=bulk_len e; omega,fun d hd => ?_⟩;have:=bulk_mem hd
  simp only [Small]; omega
 ·simp only [Small,Rows.uptoBulk] at h ⊢;have:=bulk_mem hd;omega
 ·simp only [Small,Rows.uptoBulk] at h;omega
theorem small_of {H:Type} {ds gs:List (DataW H)} (hk:Rows.uptoSmall H (ds++gs)=true):∀ d∈ds,Small d:=by
 intro d hd;have h:=of_decide_eq_true hk;have:=bulk_mem (List.mem_append_left gs hd)
 simp only [Small]; omega
theorem dec_boolsU {B:Nat} {cs:List AV} (h:IsSh B shBs cs):∃ l:List Bool,cs=[.list false 1 (l.map .bool)]∧l.length≤B:=by
 simp only [IsSh] at h;obtain ⟨xs,rfl,h0,h1⟩:=h
 obtain ⟨l,hl,hn⟩:=map_dec (f:=mkA false) (e:=AV.bool) (fun x hx=>by
  obtain ⟨⟨n,rfl⟩,_⟩:=h1 x hx
  exact ⟨n,rfl⟩)
 exact ⟨l,by rw [hl],by omega⟩
end Go.Proofs.YtpinapmcemimcaaGreatDoor
namespace Go.Proofs.YtpinapmcemimcaaGreatDoor
open Go.AM Go.Proofs
variable {Γ : Nat → Option AV}
end Go.Proofs.YtpinapmcemimcaaGreatDoor
