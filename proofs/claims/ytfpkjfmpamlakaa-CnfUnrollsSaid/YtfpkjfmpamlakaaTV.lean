/- The reference's values of a run's variables. -/
import Derived.Test.YtfpkjfmpamlakaaF
set_option linter.unusedSimpArgs false
set_option linter.unusedVariables false
namespace Go.Proofs.Ytfpkjfmpamlakaa
open Go.AM Go.Proofs
variable {Γ : Nat → Option AV}
set_option maxRecDepth 8000 in
theorem f_rv19 (g:Gr) (begin:List Int) {kb:Nat} (hb:Kd 1 kb begin) (state:List Bool) {ks:Nat} (hs:Kd 1 ks state) (hl:state.length<2^40) (hbs:begin.length=state.length) (sq:AV) (hsq:∀ m,vld 2 m sq=true) {o:Out} :
  ∀ n i:Nat,i+n=state.length→∀ acc:List Bool,acc.length≤i+1 →
   (match begV (begin.drop i) (state.drop i) with
    | none=>o=.ret (eOut ([],11))
    | some l=>Fins Try.prog Γ (yfH (.list false ks (state.map .bool)) sq (.ptr 0 0) (.sl 2 0 (acc++l).length) [boxG g,.row 1 t_bool [] none true false,.row 1 t_bool ((acc++l).map .bool) none true false]) o) →
   Fins Try.prog Γ (yfG (.list false kb (begin.map i64)) (.list false ks (state.map .bool)) sq (.ptr 0 0) (.sl 2 0 acc.length) (.int .i64 i)
    [boxG g,.row 1 t_bool [] none true false,.row 1 t_bool (acc.map .bool) none true false]) o:=by
 intro n
 induction n with
 | zero =>
  intro i hi acc ha hc
  obtain rfl:i=state.length:=by omega
  rw [List.drop_length,← hbs,List.drop_length] at hc;simp [begV] at hc;refine .goS 60 ?_;simp;refine .reach (.exit rfl rfl) ?_;exact hc
 | succ n ih =>
  intro i hi acc ha hc
  have q1:i<state.length:=by omega
  have q1b:i<begin.length:=by omega
  have q2:=eq_true (hs.of q1);have q2b:=eq_true (hb.of q1b);rw [List.drop_eq_getElem_cons q1,List.drop_eq_getElem_cons q1b,begV] at hc;refine .go 60 ?_
  by_cases h2:begin[i]=2
  ·rw [if_pos h2] at hc
   have hh:=ih (i+1) (by omega) (acc++[state[i]]) (by simp; omega) (by
    cases hr:begV (begin.drop (i+1)) (state.drop (i+1)) with
    | none=>rw [hr] at hc; simpa using hc
    | some l=>rw [hr] at hc; simpa using hc)
   simp (disch:=(first | omega | (simp; omega))) [q1,q1b,q2,q2b,h2];refine .reLoop ?_;simp
   have hlen:(List.map AV.bool acc++[AV.bool state[i]]).length=acc.length+1:=by simp
   refine .reset (i:=2) rfl (by simp) (by simp [hsq]) (by rw [hlen]; simp [hsq]) ?_;simp at hh ⊢;exact hh
  ·rw [if_neg h2] at hc
   by_cases h3:decide (begin[i]=1)=state[i]
   ·rw [if_pos h3] at hc;have hh:=ih (i+1) (by omega) acc (by omega) hc;have h3':state[i]=decide (begin[i]=1):=h3.symm;simp (disch:=(first | omega | (simp; omega))) [q1,q1b,q2,q2b,h2,h3'];refine .reLoop ?_;simp at hh ⊢;exact hh
   ·rw [if_neg h3] at hc;simp at hc;subst hc
    have h3':¬ state[i]=decide (begin[i]=1):=fun h=>h3 h.symm
    simp (disch:=(first | omega | (simp; omega))) [q1,q1b,q2,q2b,h2,h3'];exact .back (by simp)
set_option maxRecDepth 8000 in
theorem r_rv4 (g:Gr) (v:List Bool) (hlit:∀ a∈g.next,0≤a∧a<2*v.length) (hv:v.length<2^38) (hn:g.next.length<2^38) (sq t:AV) (hsq:∀ m,vld 4 m sq=true) (ht:∀ m,vld 4 m t=true) (no:Nat) (out:List AV) :
  ∀ n j : Nat, j + n = g.next.length → ∀ w, w = litsV v (g.next.take j) → AM.Reach Try.prog Γ (yfB sq (.ptr 0 0) (.sl 2 0 no) t (.sl 3 0 v.length) (.sl 4 0 w.length) (.int .i64 j)
      [boxG g,.row 1 t_bool [] none true false,.row 1 t_bool out none true false,.row 1 t_bool (v.map .bool) none true false,.row 1 t_bool (w.map .bool) none true false])
   (yfC sq (.ptr 0 0) (.sl 2 0 no) t (.sl 4 0 (litsV v g.next).length)
    [boxG g,.row 1 t_bool [] none true false,.row 1 t_bool out none true false,.row 1 t_bool (v.map .bool) none true false,.row 1 t_bool ((litsV v g.next).map .bool) none true false]):=by
 intro n
 induction n with
 | zero =>
  intro j hj w hw
  have q1:¬ j<g.next.length:=by omega
  rw [List.take_of_length_le (by omega)] at hw;subst hw;refine .goS 60 ?_;simp [q1];exact .exit rfl rfl
 | succ n ih =>
  intro j hj w hw
  have q1:j<g.next.length:=by omega
  have q2:=eq_true (g.hn.of q1);obtain ⟨a1,a2⟩:=hlit g.next[j] (List.getElem_mem q1);obtain ⟨x,hx⟩:=Int.eq_ofNat_of_zero_le a1
  have hwl:w.length=j:=by rw [hw]; simp; omega
  have hc:=p_r09_Lit (Γ:=Γ) v x (by omega) (by omega);have hh:=ih (j+1) (by omega) _ rfl;rw [litsV_take q1,← hw,hx] at hh;simp only [Int.toNat_natCast] at hh;refine .goS 60 ?_;simp (disch:=omega) [q1,q2,hx];refine .rcallM 1 60 (fun _=>.con0 (by simp) hc (by simp) (by simp) _) ?_;simp (disch:=(first | omega | (simp; omega))) [q1,q2];refine .reLoop ?_;simp
  have hlen:(List.map AV.bool w++[AV.bool (litV v x)]).length=w.length+1:=by simp
  refine .resetTo (i:=4) rfl (by simp) (by simp [hsq,ht]) (by rw [hlen]; simp) ?_;simp at hh ⊢;exact hh
set_option maxRecDepth 8000 in
theorem f_rv1 (g:Gr) (hf:g.few) (seq:List RowB) {kq:Nat} (hk:Kd 1 kq seq) (hl:seq.length<2^20) (hrow:∀ r∈seq,r.l.length<2^30) :
  ∀ n i:Nat,i+n=seq.length→∀ (state out:List Bool) (ks:Nat),Kd 1 ks state→state.length<2^40→1≤out.length→out.length+n*8000<2^39 →
   Fins Try.prog Γ (yfE (.list false ks (state.map .bool)) (.list false kq (seq.map eRowB)) (.ptr 0 0) (.sl 2 0 out.length) (.int .i64 i) [boxG g,.row 1 t_bool [] none true false,.row 1 t_bool (out.map .bool) none true false])
    (.ret (eOut (runV g state ((seq.drop i).map RowB.l) out))):=by
 intro n
 induction n with
 | zero =>
  intro i hi state out ks hks hs ho1 ho
  obtain rfl:i=seq.length:=by omega
  rw [List.drop_length];refine .go 60 ?_;simp [runV];exact .back (by simp)
 | succ n ih =>
  intro i hi state out ks hks hs ho1 ho;rw [Nat.succ_mul] at ho
  have q1:i<seq.length:=by omega
  have q2:=eq_true (hk.of q1);rw [List.drop_eq_getElem_cons q1,List.map_cons,runV];obtain ⟨hx1,hx2⟩:=And.intro (hrow _ (List.getElem_mem q1)) seq[i].hk;refine .go 60 ?_;simp [q1,q2];refine .dr 0 ?_;simp [q1,q2];refine .call (by simp) (p_r09_Values g hf state seq[i].l (ks:=ks) (ki:=seq[i].k) hks hx2 (by omega) (by omega)) ?_;simp
  by_cases hE:g.valuesE state seq[i].l=0
  ·obtain ⟨ok,d1,d2⟩:=Gr.ok_E hE;obtain ⟨o1,o2⟩:=ok.ins;have o3:=ok.sum;have hvl:=g.vals_len state seq[i].l;rw [if_pos hE];simp [hE,Gr.values];refine .go 9 ?_;simp [hE,q1,q2];have hxl:(seq[i].l.length:Int)=g.ins:=d2
   have hkd:(seq[i].k=1∨seq[i].l=[])=True:=eq_true (by
    by_cases hz:seq[i].l=[]
    ·exact .inr hz
    ·exact .inl (hx2.of (i:=0) (List.length_pos_iff.2 hz)))
   refine .go 8 ?_;simp (disch:=(first | omega | (simp; omega))) [q1,q2,hkd];refine .reach (.clrs [80,81,82,83,84,85] _) ?_;simp;refine .resetI (i:=2) rfl (by split <;> simp) (by simp) (by simp) (by simp) ?_;simp;refine .go 60 ?_;simp
   have hfst:1+seq[i].l.length+state.length=g.first:=by unfold Gr.first; omega
   have hle:=eq_true (show g.first≤(g.vals state seq[i].l).length by omega);have htk:List.take ((g.vals state seq[i].l).length - g.first) (List.map AV.bool (List.drop g.first (g.vals state seq[i].l)))=List.map AV.bool (List.drop g.first (g.vals state seq[i].l)):=List.take_of_length_le (by simp);refine .call 60 (by simp) (p_r09_First g o1 o2 (by omega)) ?_;simp (disch:=(first | omega | (simp; omega))) [hle,← List.map_drop,htk];refine .reach (.clrs [86,87,88,89,90,91] _) ?_;simp;refine .resetI (i:=2) rfl (by split <;> simp) (by simp) (by simp [Nat.add_assoc]) (by simp) ?_;simp;refine .inLoop ?_;have hsv:=stepV_len (out:=out) hE
   have hso:out.length≤(stepV g state seq[i].l out).length:=by simp [stepV]
   have hsn:g.stepN state seq[i].l=litsV (g.vals state seq[i].l) g.next:=by unfold Gr.stepN; rw [if_pos hE]
   have hst:List.map AV.bool out++(List.map AV.bool seq[i].l++List.drop g.first (List.map AV.bool (g.vals state seq[i].l)))=(stepV g state seq[i].l out).map .bool:=by simp [stepV]
   have hsl:out.length+seq[i].l.length+((g.vals state seq[i].l).length - g.first)=(stepV g state seq[i].l out).length:=by simp only [stepV,List.length_append,List.length_drop]; omega
   have hh:=ih (i+1) (by omega) (g.stepN state seq[i].l) (stepV g state seq[i].l out) 1 .self (by rw [hsn]; simp; omega) (by omega) (by omega)
   have hlit:∀ a∈g.next,0≤a∧a<2*((g.vals state seq[i].l).length:Int):=by
    intro a ha;have h1:=ok.next a ha
    have h2:(g.vals state seq[i].l).length=g.all:=by rw [hvl]; unfold Gr.all Gr.first; omega
    have h3:g.lits=2*g.all:=rfl;omega
   have k4:=r_rv4 (Γ:=Γ) g (g.vals state seq[i].l) hlit (by omega) (by omega) (.list false kq (seq.map eRowB)) (.int .i64 i) (by simp) (by simp) (stepV g state seq[i].l out).length ((stepV g state seq[i].l out).map .bool) g.next.length 0 (by omega) [] (by simp [litsV]);rw [hst,hsl];rw [hsn] at hh ⊢;generalize litsV (g.vals state seq[i].l) g.next=nx at *;generalize stepV g state seq[i].l out=out2 at *;simp at k4 ⊢;refine .reach k4 ?_;refine .go 60 ?_;simp (disch:=omega);refine .reLoop ?_;simp;refine .trees [2] ?_;simp;refine .drop 3 rfl (by simp) (by simp) (by simp) ?_;simp at hh ⊢;exact hh
  ·rw [if_neg hE];simp [hE,Gr.values];refine .go 60 ?_;simp [hE];exact .back (by simp)
set_option maxRecDepth 8000 in
theorem p_r19_Values (g:Gr) (hf:g.few) (begin:List Int) {kb:Nat} (hb:Kd 1 kb begin) (hl:begin.length<2^40) (state:List Bool) {ks:Nat} (hs:Kd 1 ks state) (hls:state.length<2^40)
  (seq:List RowB) {kq:Nat} (hk:Kd 1 kq seq) (hq:seq.length<2^40) (hrow:∀ r∈seq,r.l.length<2^30) :
  PureCon Try.prog Γ n_r19_Values [eGr g,.list false kb (begin.map i64),.list false ks (state.map .bool),.list false kq (seq.map eRowB)] (eOut (valC g begin state (seq.map RowB.l))):=by
 refine .run 60 c_r19_Values (by simp) ?_;simp
 by_cases hc:canC g begin seq.length=0
 ·obtain ⟨h1,h2,h3,h4,h5,h6⟩:=canC_ok hc;have ok:=Gr.ok_of h1;have o1:=ok.ins;have o3:=ok.sum
  by_cases hn:state.length=g.next.length
  ·have e:valC g begin state (seq.map RowB.l)=(match begV begin state with
    | none=>([],11)
    | some l=>runV g state (seq.map RowB.l) (true::l)):=by simp only [valC,List.length_map,hc,hn,ne_eq,not_true,if_false]; cases begV begin state <;> rfl
   rw [e]
   have hnb:(state.length:Int)=g.next.length:=by omega
   refine .call 25 (by simp) (p_r19_can g hf begin hb hl seq.length) ?_;simp [hc,hnb];refine .litRow 60 t_bool (es:=[.bool true]) (by simp) (by simp) ?_;simp;refine .inLoop ?_
   have h19:=f_rv19 (Γ:=Γ) g begin hb state hs hls (by omega) (.list false kq (seq.map eRowB)) (by intro m; simp) (o:=.ret (eOut (match begV begin state with
    | none=>([],11)
    | some l=>runV g state (seq.map RowB.l) (true::l)))) state.length 0 (by omega) [true] (by simp) (by
     rw [List.drop_zero,List.drop_zero]
     cases hbv:begV begin state with
     | none=>rfl
     | some l =>
      have hll:=begV_len hbv;have h0:=f_rv1 (Γ:=Γ) g hf seq hk (by omega) hrow seq.length 0 (by omega) state (true::l) ks hs hls (by simp) (by simp; omega);simp;refine .go 60 ?_;simp;refine .inLoop ?_;simp at h0 ⊢
      exact h0)
   simp at h19 ⊢;exact h19
  ·have e:valC g begin state (seq.map RowB.l)=([],11):=by simp [valC,hc,hn]
   rw [e]
   have hnb:¬ (state.length:Int)=g.next.length:=by omega
   refine .call 60 (by simp) (p_r19_can g hf begin hb hl seq.length) ?_;simp [hc,hnb];exact .back (by simp)
 ·have e:valC g begin state (seq.map RowB.l)=([],canC g begin seq.length):=by simp [valC,hc]
  rw [e];refine .call 60 (by simp) (p_r19_can g hf begin hb hl seq.length) ?_;simp [hc];exact .back (by simp)
theorem clsA_short (row:List Int) (n1:Nat):∀ (ps:List (Int×Int)) (i:Nat),∀ c∈clsA row n1 ps i,c.length≤3
 | [],i=>fun c hc=>by simp [clsA] at hc
 | p::ps,i=>by
  intro c hc;rw [clsA] at hc
  rcases List.mem_append.1 hc with hc | hc
  ·simp only [cl3,List.mem_cons,List.not_mem_nil,or_false] at hc
   rcases hc with rfl | rfl | rfl <;> simp
  ·exact clsA_short row n1 ps (i+1) c hc
theorem Bu.steps_short (g:Gr):∀ (n:Nat) (b:Bu),(∀ c∈b.cls,c.length≤3)→∀ c∈(Bu.steps g n b).cls,c.length≤3
 | 0,b,h=>h
 | n + 1, b, h => Bu.steps_short g n (b.step g) (by
     intro c hc;simp only [Bu.step,List.mem_append] at hc
     rcases hc with hc | hc
     ·exact h c hc
     ·exact clsA_short _ _ _ _ c hc)
theorem unN_short {g:Gr} {begin:List Int} {k:Int}:∀ r∈(unN g begin k).cls,r.l.length≤3:=by
 intro r hr;unfold unN at hr
 split at hr
 ·simp only [Bu.cn,List.mem_map] at hr;obtain ⟨c,hc,rfl⟩:=hr;exact Bu.steps_short g k.toNat (bu0 begin) (by simp [bu0]) c hc
 ·simp [cn0] at hr
theorem smallB_yes {g:Gr} {n:Nat} {k:Int} (h:smallB g n k=true):g.ands.length≤60∧(k≤6∨40<k)∧n≤60:=by
 simp [smallB,Gr.fewB] at h;omega
theorem unN_few (g:Gr) (begin:List Int) (k:Int):(unN g begin k).few:=by
 by_cases hc:canC g begin k=0
 ·obtain ⟨h1,h2,h3,h4,h5,h6⟩:=canC_ok hc;have ok:=Gr.ok_of h1;obtain ⟨kk,rfl⟩:=Int.eq_ofNat_of_zero_le h4;obtain ⟨u1,u2,u3,u4,u5,u6⟩:=unN_sizes hc;have o1:=ok.ins;have o3:=ok.sum;have e1:kk*(3*g.ands.length)≤40*(3*4000):=Nat.mul_le_mul (by omega) (by omega);refine ⟨⟨by omega,fun r hr => ?_⟩,⟨by omega,fun r hr => ?_⟩⟩
  ·have:=unN_short r hr; omega
  ·have h7:=u2 r hr;unfold FullR at h7
   unfold Gr.all Gr.first at h7
   omega
 ·have:unN g begin k=cn0:=by unfold unN; rw [if_neg hc]
  rw [this];exact ⟨⟨by simp [cn0],by simp [cn0]⟩,⟨by simp [cn0],by simp [cn0]⟩⟩
theorem runV_len (g:Gr):∀ (xs:List (List Bool)) (state out:List Bool),(runV g state xs out).1.length≤out.length+xs.length*8000
 | [],state,out=>by simp [runV]
 | x::xs,state,out=>by
  rw [runV]
  split
  ·rename_i h;have h1:=runV_len g xs (g.stepN state x) (stepV g state x out);have h2:=stepV_len (out:=out) h
   rw [List.length_cons,Nat.succ_mul]; omega
  ·simp
theorem valC_len (g:Gr) (begin:List Int) (state:List Bool) (xs:List (List Bool)):(valC g begin state xs).1.length≤1+state.length+xs.length*8000:=by
 unfold valC
 split
 ·simp
 split
 ·simp
 split
 ·simp
 ·rename_i l hl;have h1:=begV_len hl;have h2:=runV_len g xs state (true::l)
  rw [List.length_cons] at h2; omega
set_option maxRecDepth 8000 in
theorem l_CnfUnrolls (g:Gr) (begin:List Int) {kb:Nat} (hb:Kd 1 kb begin) (k:Int) (state:List Bool) {ks:Nat} (hs:Kd 1 ks state) (seq:List RowB) {kq:Nat} (hq:Kd 1 kq seq) :
  PureCon Try.prog Γ n_w19_CnfUnrolls [eGr g,.list false kb (begin.map i64),.int .i64 k,.list false ks (state.map .bool),.list false kq (seq.map eRowB)] (.bool true):=by
 refine .run 90 c_w19_CnfUnrolls (by simp) ?_;simp;refine .call 90 (by simp) p_w19_works ?_;simp;refine .call 90 (by simp) (p_w19_small g begin (kb:=kb) k) ?_
 cases h1:smallB g begin.length k with
 | false =>
  simp;exact .back (by simp)
 | true =>
  simp;refine .call 90 (by simp) (p_w19_small g begin (kb:=kb) seq.length) ?_
  cases h2:smallB g begin.length seq.length with
  | false =>
   simp;exact .back (by simp)
  | true =>
   simp;refine .call 90 (by simp) (p_w08_Rows seq hq 45 (by omega)) ?_
   cases h3:fewX (longB 60) 45 seq with
   | false =>
    simp;exact .back (by simp)
   | true =>
    by_cases h4:60<state.length
    ·have h4':(60:Int)<state.length:=by omega
     simp [h4,h4'];exact .back (by simp)
    have h4':¬ (60:Int)<state.length:=by omega
    have hsm:=smallB_yes h1;obtain ⟨f1,f2⟩:=fewX_yes h3
    have hf:g.few:=by simp only [smallB,Bool.and_eq_true] at h1; exact Gr.fewB_few h1.1.1.1
    have hrow:∀ r∈seq,r.l.length<2^30:=fun r hr=>by have:=f2 r hr; simp [longB] at this; omega
    have hv:=p_r19_Values (Γ:=Γ) g hf begin hb (by omega) state hs (by omega) seq hq (by omega) hrow;have hv2:=p_cnf_Values (Γ:=Γ) g hf begin hb (by omega) state hs (by omega) seq hq (by omega) hrow;have hu:=p_cnf_Unroll (Γ:=Γ) g hf begin hb (by omega) k;have hu2:=p_r19_Unroll (Γ:=Γ) g hf begin hb (by omega) k;have hun:=unN_few g begin k
    have hse:sameC (unN g begin k) (unN g begin k)=true:=by simp [sameC]
    have hS:=p_r19_Same (Γ:=Γ) (unN g begin k) (unN g begin k) hun;have hO:=p_w19_Of (Γ:=Γ) (unN g begin k);rw [hse] at hS;have hvl:=valC_len g begin state (seq.map RowB.l);rw [List.length_map] at hvl;generalize hV:valC g begin state (seq.map RowB.l)=V at *
    have hVl:V.1.length<2^60:=by omega
    generalize unN g begin k=u at *;generalize canC g begin k=e at *;have hB:=p_r08_Bools (Γ:=Γ) V.1 V.1 (ka:=1) (kb:=1) .self .self hVl;simp only [decide_true] at hB;simp [h4,h4'];refine .call 90 (by simp) hu ?_;simp;refine .call 90 (by simp) hu2 ?_;simp;refine .call 90 (by simp) hv2 ?_;simp;refine .call 90 (by simp) hv ?_;simp;refine .dr 90 ?_;simp;refine .call (by simp) hO ?_;simp;refine .call (by simp) hS ?_;simp;refine .go 90 ?_;simp;refine .call 90 (by simp) hB ?_;simp;exact .back (by simp)
end Go.Proofs.Ytfpkjfmpamlakaa
namespace Go.Proofs.Ytfpkjfmpamlakaa
open Go.AM Go.Proofs Go.ChangeShapes Go.WideShapes Go.ChangeAt Go.RowKit
set_option maxRecDepth 100000 in
theorem cnfUnrolls_lifted (os:Os) (started:os.Started) (H:Type) (enc:TypeId×Value→H) :
  ReturnsInHanded {} Try.checked os n_w19_CnfUnrolls .any (Rows.cnfUnrollsSpec.pre6 enc Try.prog Try.f4 Rows.cnfUnrollsRow.domain false) (Rows.cnfUnrollsSpec.post enc Try.prog Try.f4 false true false false):=by
 refine returnsInHanded_of_change_shaped (C:=Try.checked) own started (by kernel_rfl) Try.func4
  (ChangeSpec.witness6 (enc:=enc) (C:=Try.checked) false ⟨#[],#[.agg #[.int .i64 0,.slice none 0 0,.slice none 0 0,.slice none 0 0,.slice none 0 0],.slice none 0 0,.int .i64 0,.slice none 0 0,.slice none 0 0],[]⟩ 8 (by kernel_rfl) (by kernel_rfl) (by kernel_rfl) (by kernel_rfl)) ?_
 intro W base args ds gs before hval hW _ _ hsh _;refine law_callsQ Down.any (Γ:=ΓW) (shs:=[(true,shGr),(false,shIs),(false,shI),(false,shBs),(false,shBss)]) laid mapsR (tb:=4) (by kernel_rfl) Try.underlying4 (of_decide_eq_true (by kernel_rfl)) (by kernel_rfl) rfl ?_ ΓW_ok ?_ hval hW (fun _ _=>trivial)
 ·intro ds hds
  match ds,hds with
  | [d1,d2,d3,d4,d5],_=>exact ⟨rfl,rfl,rfl⟩
 ·intro xs has;simp only [IsArgs] at has;obtain ⟨_,_,rfl,h1,_,_,_,rfl,h2,_,_,_,rfl,h3,_,_,_,rfl,h4,_,_,_,rfl,h5,_,rfl⟩:=has;obtain ⟨a1,l1,l1f⟩:=dec_gr h1;obtain ⟨a2,rfl,l2⟩:=dec_ints h2;obtain ⟨a3,rfl,l3⟩:=dec_int h3;obtain ⟨a4,rfl,l4⟩:=dec_bools h4;obtain ⟨a5,rfl,l5,l5b⟩:=dec_rowsB h5;simp only [mkA,l1];exact l_CnfUnrolls a1 a2 .self a3 a4 .self a5 .self
theorem cnfUnrolls_holds:Rows.CnfUnrollsSaid :=
 OpenClaim.holds_of_wide 4 Try.f4 rfl rfl rfl rfl rfl rfl rfl ⟨rfl,rfl,rfl,rfl,rfl⟩ rfl rfl rfl rfl rfl (by kernel_rfl) Try.func4 (by kernel_rfl)
  (of_decide_eq_true (by kernel_rfl)) (by unfold Func.isWrapper; first | (rw [if_pos (by decide +kernel)]; kernel_rfl) | (rw [if_neg (by decide +kernel)]; exact ⟨rfl,rfl⟩))
  (fun os started H enc _=>cnfUnrolls_lifted os started H enc)
#print axioms cnfUnrolls_holds
end Go.Proofs.Ytfpkjfmpamlakaa
