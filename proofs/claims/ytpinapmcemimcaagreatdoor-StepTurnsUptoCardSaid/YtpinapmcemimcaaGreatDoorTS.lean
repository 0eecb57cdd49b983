/- Order, by definition: what comes first. -/
import Derived.Test.YtpinapmcemimcaaGreatDoorH
import Derived.Test.YtpinapmcemimcaaGreatDoorF
set_option linter.unusedSimpArgs false
set_option linter.unusedVariables false
namespace Go.Proofs.YtpinapmcemimcaaGreatDoor
open Go.AM Go.Proofs
variable {Γ : Nat → Option AV}
theorem a_oddRowB (g:Gt) (i:Nat) (hg:GtB g):Asks Tryz.prog Γ (fun h=>h[i]? = some (.cells (AV.cells (eGt g)))) n_net_Gate_1 [.ptr i 0] AV.str (fun s => !rowB g.ins.length s) g.rows:=by
 refine ⟨by simp,fun s hs up h hφ => ?_⟩;refine .enterB 60 c_net_Gate_1 ?_;simp [hφ];refine .callB 60 (by simp) (p_row s g.ins.length (hg.2.2.2.2 s hs)) ?_;simp
theorem p_GateB (hΓ:InsG Γ) (g:Gt) (hg:GtB g):PureCon Tryz.prog Γ n_net_Gate [eGt g] (.bool (gateB g)):=by
 have b1:=hg.2.1;have b2:=hg.2.2.1;refine .run 60 c_net_Gate (by simp) ?_;unfold gateB;have hH:=p_has hΓ g.op g.ins.length;have hC:=p_ContainsFunc_str (Γ:=Γ) (fl:=false) (a_oddRowB g 0 hg) g.hr (by omega) (h:=[.cells (AV.cells (eGt g))]) rfl
 by_cases ho:g.op=10
 ·simp [ho];rw [ho] at hH;refine .call 60 (by simp) hH ?_;have e:((g.ins.length:Int)≤8)=(g.ins.length≤8):=propext (by omega);have e2:((g.rows.length:Int)≤128)=(g.rows.length≤128):=propext (by omega)
  by_cases h1:g.ins.length≤8
  ·by_cases h2:g.rows.length≤128
   ·simp [hasB,h1,h2,e2];simp [ho] at hC;refine .rcall 60 hC ?_;simp;exact .back (by simp)
   ·simp [hasB,h1,h2,e2];exact .back (by simp)
  ·simp [hasB,h1];exact .back (by simp)
 ·simp only [if_neg ho]
  by_cases h1:0<g.rows.length
  ·have e:((0:Int)<g.rows.length)=True:=eq_true (by omega);simp [ho,h1,e];exact .back (by simp)
  ·have e:((0:Int)<g.rows.length)=False:=eq_false (by omega)
   cases h2:g.off with
   | true =>
    simp [ho,h1,h2,e];exact .back (by simp)
   | false =>
    have h0:g.rows=[]:=List.length_eq_zero_iff.1 (by omega);simp [ho,h0,h2];refine .call 60 (by simp) hH ?_
    cases h3:opB g.op g.ins.length with
    | false =>
     simp [hasB,ho,h3];exact .back (by simp)
    | true =>
     simp [hasB,ho,h3];simp only [h0,h2,AV.cells,List.map_nil] at hC;refine .rcall 60 hC ?_;simp [anyB_nil];exact .back (by simp)
theorem r_gate1B (g:Gt) (hg:GtB g) (ins:List Bool) {k:Nat} (hk:Kd 1 k ins) (j:Nat) (hl:∀ s∈g.rows,ins.length=s.length∧s.length<2^40) {h:List Ob} (hj:h[j]? = some (.cells (AV.cells (eGt g)))):∀ up,AM.Reach Tryz.prog Γ (.cl n_step_Gate_1 [.list false k (ins.map .bool),.ptr j 0] up h) (.back up (.bool (anyB (fun s=>fitsS s ins) g.rows)) (h++[.cells [.list false k (ins.map .bool)]])):=by
 intro up
 have hget:=fun os=>get_app hj os
 have hC:=p_ContainsFunc_str (Γ:=Γ) (fl:=false) (a_fits g ins hk h.length hl) g.hr (by have:=hg.2.2.1; omega) (h:=h++[.cells [.list false k (ins.map .bool)]]) (by simp);refine .enterB 60 c_step_Gate_1 ?_;simp [hget];refine .rcall 60 hC ?_;simp
set_option maxRecDepth 8000 in
theorem p_step_GateB (hΓ:InsG Γ) (g:Gt) (hg:GtB g) (ins:List Bool) {k:Nat} (hk:Kd 1 k ins) (hli:ins.length<2^40):PureCon Tryz.prog Γ n_step_Gate [eGt g,.list false k (ins.map .bool)] (.tup [.bool (gateV g ins),.int .i64 (gateE g ins)]):=by
 have kG:=p_GateB hΓ g hg;have e:((ins.length:Int)=g.ins.length)=(ins.length=g.ins.length):=propext (by omega);unfold gateV gateE gateOk;refine .run 200 c_step_Gate (by simp) ?_;simp;refine .call 200 (by simp) kG ?_
 cases hb:gateB g with
 | false =>
  simp;exact .back (by simp)
 | true =>
  by_cases hn:ins.length=g.ins.length
  ·have hop:0≤g.op∧g.op≤10:=by
    unfold gateB opB at hb
    by_cases h10:g.op=10
    ·omega
    ·rw [if_neg h10] at hb;simp only [Bool.and_eq_true] at hb;have hb2:=hb.2
     split at hb2
     ·omega
     ·split at hb2
      ·omega
      ·split at hb2
       ·omega
       ·cases hb2
   have kO:=p_step_of (Γ:=Γ) g.op hop.1 hop.2
   by_cases h10:g.op=10
   ·have hrow:∀ s∈g.rows,ins.length=s.length∧s.length<2^40:=fun s hs=>by
     unfold gateB at hb;rw [if_pos h10] at hb;simp only [Bool.and_eq_true,Bool.not_eq_true'] at hb;have:=anyB_no hb.2.2 s hs;simp only [Bool.not_eq_false',rowB,Bool.and_eq_true,decide_eq_true_eq] at this;exact ⟨by omega,hg.2.2.2.2 s hs⟩
    have hR:=fun (h:List Ob) hj=>r_gate1B (Γ:=Γ) g hg ins hk 0 hrow (h:=h) hj
    have e10:opF 10=.nilf:=rfl;have e11:opT 10=false:=rfl;rw [h10,e10,e11] at kO;simp [hn,e,h10];refine .call 200 (by simp) kO ?_;simp [gateR,h10];refine .dr 200 ?_;simp;refine .reach (by simp) (hR _ (by simp [h10])) ?_;simp;exact .back (by simp)
   ·obtain ⟨f,e1,hbf,hpf⟩:∃ f,opF g.op=.fn (.func f) [] []∧hasBody Tryz.prog f=true∧PureCon Tryz.prog Γ f [.list false k (ins.map .bool)] (.bool (opV g.op ins)):=by
     rcases op_cases hop.1 hop.2 with c | c | c | c | c | c | c | c | c | c | c
     ·rw [c]; exact ⟨_,rfl,by simp,p_of_1 ins hk⟩
     ·rw [c]; exact ⟨_,rfl,by simp,p_of_1 ins hk⟩
     ·rw [c]; exact ⟨_,rfl,by simp,p_of_2 ins hk hli⟩
     ·rw [c]; exact ⟨_,rfl,by simp,p_of_2 ins hk hli⟩
     ·rw [c]; exact ⟨_,rfl,by simp,p_of_2 ins hk hli⟩
     ·rw [c]; exact ⟨_,rfl,by simp,p_of_2 ins hk hli⟩
     ·rw [c]; exact ⟨_,rfl,by simp,p_of_3 ins hk hli⟩
     ·rw [c]; exact ⟨_,rfl,by simp,p_of_3 ins hk hli⟩
     ·rw [c]; exact ⟨_,rfl,by simp,p_of_4 ins hk hli⟩
     ·rw [c]; exact ⟨_,rfl,by simp,p_of_4 ins hk hli⟩
     ·exact absurd c h10
    rw [e1] at kO;simp [hn,e,h10,gateR];refine .call 200 (by simp) kO ?_;simp [h10,hbf];refine .dr 200 ?_;simp [hbf];refine .call (by simp) hpf ?_;simp;exact .back (by simp)
  ·simp [hn,e];exact .back (by simp)
theorem gate_yes {g:Gt} {ins:List Bool} (h:gateE g ins=0):gateB g=true∧ins.length=g.ins.length:=by
 unfold gateE gateOk at h
 split at h
 ·rename_i h1;simpa using h1
 ·cases h
theorem gate_ok {g:Gt} {ins:List Bool} (h:gateB g=true) (hl:ins.length=g.ins.length):gateE g ins=0∧gateV g ins=gateR g ins:=by
 unfold gateE gateV gateOk;simp [h,hl]
theorem gateB_op {g:Gt} (h:gateB g=true) (h10:g.op≠10):g.rows=[]∧g.off=false∧opB g.op g.ins.length=true:=by
 unfold gateB at h;rw [if_neg h10] at h;simp only [Bool.and_eq_true,Bool.not_eq_true',Bool.or_eq_false_iff,decide_eq_false_iff_not] at h;exact ⟨List.length_eq_zero_iff.1 (by omega),h.1.2,h.2⟩
theorem canon_gateV {g:Gt} {ins:List Bool} (h:gateB g=true) (hl:ins.length=g.ins.length):gateB (canonG g)=true∧gateR (canonG g) ins=gateR g ins:=by
 by_cases h10:g.op=10
 ·cases hc:canonF g 10 0 with
  | none =>
   have e:canonG g=g:=by unfold canonG; rw [if_neg (by simpa using h10),hc]
   rw [e]; exact ⟨h,rfl⟩
  | some op =>
   have e:canonG g=⟨g.name,op,g.ins,[],false,g.ki,0,g.hi,.nil⟩:=by unfold canonG; rw [if_neg (by simpa using h10),hc]
   obtain ⟨h1,h2,h3,h4,h5⟩:=canonF_is g 10 0 op hc
   have hop:op≠10:=by omega
   have ho:=op_rows (by omega) (by omega) h3 ins hl;rw [h4,h5] at ho;rw [e];refine ⟨?_,?_⟩
   ·unfold gateB;rw [has_op hop] at h3;simp [hop,h3]
   ·unfold gateR;rw [if_neg hop,if_pos h10];rw [Bool.eq_iff_iff];have:=Bool.eq_iff_iff.1 ho;simp only [bne_iff_ne,ne_eq,Bool.not_eq_true',decide_eq_false_iff_not] at this ⊢;exact this.symm
 ·obtain ⟨hr,ho,hb⟩:=gateB_op h h10;unfold canonG;rw [if_pos h10]
  split
  ·rename_i h1;simp only [oneB,Bool.and_eq_true,decide_eq_true_eq] at h1;have hh:=hb;rw [h1.1] at hh;have:=opB_one hh;rw [this];exact ⟨h,rfl⟩
  ·exact ⟨h,rfl⟩
def notL (l:List Bool):List Bool:=l.map (! ·)
theorem cnt_not:∀ l:List Bool,cntB (notL l)+cntB l=l.length
 | []=>rfl
 | v::l=>by
  have:=cnt_not l;simp only [notL,List.map_cons,List.length_cons] at this ⊢;rw [cntB,cntB]
  cases v <;> simp <;> omega
def opTo (g:Gt) (o:Int):Gt:={ g with op:=o }
theorem turn_of {g:Gt} {ins ins2:List Bool} {o2:Int} (h:gateB g=true) (h10:g.op≠10) (ho2:o2≠10) (hb:∀ n,opB g.op n=true→opB o2 n=true) (hv:(opV o2 ins2=opT o2)↔¬ (opV g.op ins=opT g.op)) :
  gateB (opTo g o2)=true∧gateR (opTo g o2) ins2 = !gateR g ins:=by
 obtain ⟨hr,ho,hb2⟩:=gateB_op h h10;refine ⟨?_,?_⟩
 ·unfold gateB opTo;simp [ho2,hr,ho,hb _ hb2]
 ·unfold gateR opTo;rw [if_neg h10,if_neg ho2];simp only [hv];simp
theorem turn0 {g:Gt} {ins:List Bool} (h:gateB g=true) (h0:g.op=0):gateB (opTo g 1)=true∧gateR (opTo g 1) ins = !gateR g ins :=
 turn_of h (by omega) (by omega) (by intro n; rw [h0]; simp [opB]) (by rw [h0]; simp [opV,opT])
theorem turn2 {g:Gt} {ins:List Bool} (h:gateB g=true) (h0:g.op=2):gateB (opTo g 3)=true∧gateR (opTo g 3) ins = !gateR g ins :=
 turn_of h (by omega) (by omega) (by intro n; rw [h0]; simp [opB]) (by rw [h0]; simp [opV,opT])
theorem turn4 {g:Gt} {ins:List Bool} (h:gateB g=true) (h0:g.op=4):gateB (opTo g 6)=true∧gateR (opTo g 6) (notL ins) = !gateR g ins :=
 turn_of h (by omega) (by omega) (by intro n; rw [h0]; simp [opB]) (by have:=cnt_not ins; rw [h0]; simp [opV,opT]; omega)
theorem turn5 {g:Gt} {ins:List Bool} (h:gateB g=true) (h0:g.op=5):gateB (opTo g 4)=true∧gateR (opTo g 4) ins = !gateR g ins :=
 turn_of h (by omega) (by omega) (by intro n; rw [h0]; simp [opB]) (by rw [h0]; simp [opV,opT])
theorem turn7 {g:Gt} {ins:List Bool} (h:gateB g=true) (h0:g.op=7):gateB (opTo g 6)=true∧gateR (opTo g 6) ins = !gateR g ins :=
 turn_of h (by omega) (by omega) (by intro n; rw [h0]; simp [opB]) (by rw [h0]; simp [opV,opT])
theorem turn8 {g:Gt} {ins:List Bool} (h:gateB g=true) (h0:g.op=8):gateB (opTo g 9)=true∧gateR (opTo g 9) ins = !gateR g ins :=
 turn_of h (by omega) (by omega) (by intro n; rw [h0]; simp [opB]) (by rw [h0]; simp [opV,opT])
def offTo (g:Gt):Gt:={ g with off := !g.off }
theorem turn10 {g:Gt} {ins:List Bool} (h:gateB g=true) (h0:g.op=10):gateB (offTo g)=true∧gateR (offTo g) ins = !gateR g ins:=by
 refine ⟨?_,?_⟩
 ·unfold gateB offTo at *;simp only [h0,if_true] at *;exact h
 ·unfold gateR offTo;simp only [h0,if_true]
  cases g.off <;> cases anyB (fun s=>fitsS s ins) g.rows <;> rfl
abbrev hTu (g:Gt) (l:List Bool):List Ob:=[.cells (AV.cells (eGt g)),.cells (AV.cells (eGt g)),.row 1 t_string [] none true false,.row 1 t_string [] none true false,.row 1 t_bool (l.map .bool) none true false]
set_option maxRecDepth 8000 in
theorem r_tu (g:Gt) (ins:List Bool) {k:Nat} (hk:Kd 1 k ins) (hl:ins.length<2^40) (b5 b7 b9:Bool) (n10:Int):∀ n i:Nat,i+n=ins.length →
  AM.Reach Tryz.prog Γ (ybH (.list false k (ins.map .bool)) (.ptr 0 0) (.bool b5) (.bool b7) (.bool b9) (.int .i64 n10) (.ptr 1 0) (.sl 4 0 (notL (ins.take i)).length) (.int .i64 i) (hTu g (notL (ins.take i))) ⟨[],.norm,0,[]⟩)
   (ybI (.list false k (ins.map .bool)) (.ptr 0 0) (.bool b5) (.bool b7) (.bool b9) (.int .i64 n10) (.ptr 1 0) (.sl 4 0 (notL ins).length) (hTu g (notL ins)) ⟨[],.norm,0,[]⟩):=by
 intro n
 induction n with
 | zero =>
  intro i hi
  have q1:¬ i<ins.length:=by omega
  rw [List.take_of_length_le (by omega)];generalize notL ins=V;refine .goS 60 ?_;simp [q1];exact .exit rfl rfl
 | succ n ih =>
  intro i hi
  have q1:i<ins.length:=by omega
  have q2:=eq_true (hk.of q1);have hh:=ih (i+1) (by omega)
  have e1:notL (ins.take (i+1))=notL (ins.take i)++[!ins[i]]:=by
   rw [List.take_succ_eq_append_getElem q1,notL,List.map_append]; rfl
  have hlen:(notL (ins.take i)).length=i:=by simp [notL]; omega
  rw [e1] at hh;generalize notL (ins.take i)=V at *;generalize notL ins=V2 at *
  have hle:V.length≤140737488355327:=by omega
  have hle2:i≤140737488355327:=by omega
  refine .goS 60 ?_;simp [q1,q2,hle,hlen,hle2];refine .reLoop ?_;simp (disch:=omega);refine .dropTo 5 (by simp; rfl) (by simp) (by simp) (by simp) ?_;refine .resetTo (i:=4) rfl (by simp) (by simp [hlen]) (by simp) ?_;simp [hTu,hlen] at hh ⊢;exact hh
set_option maxRecDepth 8000 in
theorem l_StepTurns (hΓ:InsG Γ) (g:Gt) (hgb:GtB g) (ins:List Bool) (hil:ins.length<2^40) {k:Nat} (hk:Kd 1 k ins):PureCon Tryz.prog Γ n_w08_StepTurns [eGt g,.list false k (ins.map .bool)] (.bool true):=by
 have kF:=p_FewGate (Γ:=Γ) g;have k1:=p_step_GateB hΓ g hgb ins hk hil;refine .run 90 c_w08_StepTurns (by simp) ?_;simp;refine .call 90 (by simp) (p_worksS hΓ) ?_;simp;refine .call 90 (by simp) kF ?_;simp;refine .call 90 (by simp) k1 ?_
 cases hf:fewG g with
 | false =>
  simp;exact .back (by simp)
 | true =>
  by_cases he:gateE g ins=0
  ·by_cases h8:60<ins.length
   ·have h8':(60:Int)<ins.length:=by omega
    simp [he,h8,h8'];exact .back (by simp)
   have h8':¬ (60:Int)<ins.length:=by omega
   have hg:=few_gate hf;obtain ⟨hgB,hlen⟩:=gate_yes he;obtain ⟨hcB,hcR⟩:=canon_gateV hgB hlen;have hCa:=p_Canon hΓ g hg;have k2:=p_step_Gate hΓ (canonG g) (canon_few hg) ins hk hil
   have hcl:ins.length=(canonG g).ins.length:=by rw [(canon_name g).2]; exact hlen
   obtain ⟨c1,c2⟩:=gate_ok hcB hcl;obtain ⟨d1,d2⟩:=gate_ok hgB hlen;rw [c1,c2,hcR] at k2;rw [d2];have hloop:=r_tu (Γ:=Γ) g ins hk hil true (gateR g ins) (gateR g ins) 0 ins.length 0 (by omega)
   have hnl:(notL ins).length=ins.length:=by simp [notL]
   rw [List.take_zero,show notL []=[] from rfl] at hloop;generalize hw:gateR g ins=w at *;simp [he,h8,h8'];refine .call 90 (by simp) hCa ?_;simp;refine .call 90 (by simp) k2 ?_;simp;refine .inLoop ?_;simp [hTu] at hloop ⊢;refine .reach hloop ?_
   by_cases o0:g.op=0
   ·obtain ⟨t1,t2⟩:=turn0 (ins:=ins) hgB o0;obtain ⟨u1,u2⟩:=gate_ok (ins:=ins) t1 (by simpa [opTo] using hlen);have k3:=p_step_Gate hΓ (opTo g 1) hg ins (k:=k) hk (by omega);rw [u1,u2,t2,hw] at k3;unfold opTo at k3
    try simp at k3
    refine .go 120 ?_;simp [o0];refine .call 120 (by simp) k3 ?_;simp;exact .back (by simp)
   by_cases o2:g.op=2
   ·obtain ⟨t1,t2⟩:=turn2 (ins:=ins) hgB o2;obtain ⟨u1,u2⟩:=gate_ok (ins:=ins) t1 (by simpa [opTo] using hlen);have k3:=p_step_Gate hΓ (opTo g 3) hg ins (k:=k) hk (by omega);rw [u1,u2,t2,hw] at k3;unfold opTo at k3
    try simp at k3
    refine .go 120 ?_;simp [o2];refine .call 120 (by simp) k3 ?_;simp;exact .back (by simp)
   by_cases o4:g.op=4
   ·obtain ⟨t1,t2⟩:=turn4 (ins:=ins) hgB o4;obtain ⟨u1,u2⟩:=gate_ok (ins:=notL ins) t1 (by simpa [hnl,opTo] using hlen);have k3:=p_step_Gate hΓ (opTo g 6) hg (notL ins) (k:=1) .self (by omega);rw [u1,u2,t2,hw] at k3;unfold opTo at k3
    try simp at k3
    refine .go 120 ?_;simp [o4];refine .call 120 (by simp) k3 ?_;simp;exact .back (by simp)
   by_cases o5:g.op=5
   ·obtain ⟨t1,t2⟩:=turn5 (ins:=ins) hgB o5;obtain ⟨u1,u2⟩:=gate_ok (ins:=ins) t1 (by simpa [opTo] using hlen);have k3:=p_step_Gate hΓ (opTo g 4) hg ins (k:=k) hk (by omega);rw [u1,u2,t2,hw] at k3;unfold opTo at k3
    try simp at k3
    refine .go 120 ?_;simp [o5];refine .call 120 (by simp) k3 ?_;simp;exact .back (by simp)
   by_cases o7:g.op=7
   ·obtain ⟨t1,t2⟩:=turn7 (ins:=ins) hgB o7;obtain ⟨u1,u2⟩:=gate_ok (ins:=ins) t1 (by simpa [opTo] using hlen);have k3:=p_step_Gate hΓ (opTo g 6) hg ins (k:=k) hk (by omega);rw [u1,u2,t2,hw] at k3;unfold opTo at k3
    try simp at k3
    refine .go 120 ?_;simp [o7];refine .call 120 (by simp) k3 ?_;simp;exact .back (by simp)
   by_cases o8:g.op=8
   ·obtain ⟨t1,t2⟩:=turn8 (ins:=ins) hgB o8;obtain ⟨u1,u2⟩:=gate_ok (ins:=ins) t1 (by simpa [opTo] using hlen);have k3:=p_step_Gate hΓ (opTo g 9) hg ins (k:=k) hk (by omega);rw [u1,u2,t2,hw] at k3;unfold opTo at k3
    try simp at k3
    refine .go 120 ?_;simp [o8];refine .call 120 (by simp) k3 ?_;simp;exact .back (by simp)
   by_cases o10:g.op=10
   ·obtain ⟨t1,t2⟩:=turn10 (ins:=ins) hgB o10;obtain ⟨u1,u2⟩:=gate_ok (ins:=ins) t1 (by simpa [offTo] using hlen);have k3:=p_step_Gate hΓ (offTo g) hg ins (k:=k) hk (by omega);rw [u1,u2,t2,hw] at k3;unfold offTo at k3
    try simp at k3
    refine .go 120 ?_;simp [o10];refine .call 120 (by simp [o10]) k3 ?_;simp;exact .back (by simp)
   refine .go 120 ?_;simp [o0,o2,o4,o5,o7,o8,o10];exact .back (by simp)
  ·simp [he];exact .back (by simp)
end Go.Proofs.YtpinapmcemimcaaGreatDoor
namespace Go.Proofs.YtpinapmcemimcaaGreatDoor
open Go.AM Go.Proofs Go.ChangeShapes Go.WideShapes Go.ChangeAt Go.RowKit
theorem stepTurns_reads (os:Os) {H:Type} (enc:TypeId×Value→H):∃ places,DataW.whole enc Tryz.prog ((startW os).forCall (fun _ _=>0) ⟨#[],#[.agg #[.string ⟨#[]⟩,.int .i64 0,.slice none 0 0,.slice none 0 0,.bool false],.slice none 0 0],[]⟩).memory Tryz.f7.params.toList Rows.stepTurnsSpec.vars false (#[.agg #[.string ⟨#[]⟩,.int .i64 0,.slice none 0 0,.slice none 0 0,.bool false],.slice none 0 0]:Array Value).toList 8=some ([.agg [.lit (.string []),.lit (.int .i64 0),.nil,.nil,.lit (.bool false)],.nil],[],places) :=
 ⟨[],by kernel_rfl⟩
set_option maxRecDepth 100000 in
theorem stepTurns_lifted (os:Os) (started:os.Started) (H:Type) (enc:TypeId×Value→H) (F:Stop.Interp) :
  ReturnsInHanded {} Tryz.checked os 7 .any ((Rows.OpenSpec.upto Rows.stepTurnsSpec).preRow enc Tryz.prog Tryz.f7 Rows.stepTurnsUptoRow.domain false Rows.stepTurnsUptoRow.laid) (((Rows.OpenSpec.upto Rows.stepTurnsSpec).at F).post enc Tryz.prog Tryz.f7 false true false false):=by
 obtain ⟨places,hx⟩:=stepTurns_reads os enc
 refine returnsInHanded_of_row (C:=Tryz.checked) (s:=Rows.OpenSpec.upto Rows.stepTurnsSpec) own started (by kernel_rfl) Tryz.func7
  (witness_row_at (enc:=enc) (C:=Tryz.checked) false (startW os) #[.agg #[.string ⟨#[]⟩,.int .i64 0,.slice none 0 0,.slice none 0 0,.bool false],.slice none 0 0] rfl (by kernel_rfl) (by kernel_rfl) (by kernel_rfl)
   (OpenSpec.preRow_of_cond 8 hx (by kernel_rfl) (fun k hk=>by cases hk; kernel_rfl) (by kernel_rfl) (door_met os _))) ?_
 intro W base args ds gs before hval hW _ hcond _ hL hsh _;obtain ⟨Γ,hΓ,hok⟩:=ins_laid hL;refine law_callsQ downU (Γ:=Γ) (shs:=[(true,shGt),(false,shBs)]) laid mapsR (tb:=4) (by kernel_rfl) u4 (of_decide_eq_true (by kernel_rfl)) (by kernel_rfl) rfl ?_ hok ?_ hval hW (small_of (hcond _ rfl))
 ·intro ds hds
  match ds,hds with
  | [d1,d2],_=>exact ⟨rfl,rfl,rfl⟩
 ·intro xs has;simp only [IsArgs] at has;obtain ⟨_,_,rfl,h1,_,_,_,rfl,h2,_,rfl⟩:=has;obtain ⟨a1,l1,a1b⟩:=dec_gt h1;obtain ⟨a2,rfl,a2b⟩:=dec_boolsU h2;simp only [mkA,l1];exact l_StepTurns hΓ a1 (a1b.toB (by decide)) a2 (by omega) .self
theorem stepTurns_said:Rows.StepTurnsUptoSaid :=
 OpenClaim.holds_of_cond 7 Tryz.f7 rfl rfl rfl rfl rfl rfl rfl ⟨rfl,rfl,rfl,rfl,rfl⟩ rfl rfl rfl rfl rfl (by kernel_rfl) Tryz.func7 (by kernel_rfl)
  (of_decide_eq_true (by kernel_rfl)) (by unfold Func.isWrapper; first | (rw [if_pos (by decide +kernel)]; kernel_rfl) | (rw [if_neg (by decide +kernel)]; exact ⟨rfl,rfl⟩))
  (fun os started H enc _ F=>by rw [OpenClaim.pre_eq_preRow]; exact stepTurns_lifted os started H enc F)
theorem stepTurns_plain (f:FuncId) (fn:Func) (hf:Tryz.pinned.checked.prog.funcNamed "patchbay/patchbaylaw08.StepTurns" = some f) (hfn:Tryz.pinned.checked.prog.funcs[f]? = some fn) :
  true=Tryz.pinned.checked.prog.looks []∧∀ (j:Nat) t,fn.params[j]? = some t→Tryz.pinned.checked.prog.wantsStandIn t=false:=by
 obtain rfl:f=7:=Option.some.inj ((show Tryz.prog.funcNamed "patchbay/patchbaylaw08.StepTurns" = some 7 by kernel_rfl).symm.trans hf) |>.symm
 obtain rfl:fn=Tryz.f7:=(Option.some.inj (Tryz.func7.symm.trans hfn)).symm;refine ⟨by kernel_rfl,fun j t ht => ?_⟩
 have h1:(Tryz.f7.params.toList.all fun t => !Tryz.prog.wantsStandIn t)=true:=by kernel_rfl
 have h2:=List.all_eq_true.1 h1 t (by simpa using Array.mem_of_getElem? ht)
 revert h2
 show (!Tryz.prog.wantsStandIn t)=true→Tryz.prog.wantsStandIn t=false
 cases Tryz.prog.wantsStandIn t <;> intro h <;> first | rfl | cases h
theorem stepTurns_holds:Rows.StepTurnsUptoCardSaid :=
 Claim7.holds_tied_plain_at .later [] _ _ _ _ stepTurns_said (fun _ h=>by cases h) (by kernel_rfl) (fun _ h=>by cases h) stepTurnsUpto_row_tie rfl ⟨rfl,rfl⟩ (by kernel_rfl) rfl stepTurns_plain (by kernel_rfl)
#print axioms stepTurns_holds
end Go.Proofs.YtpinapmcemimcaaGreatDoor
