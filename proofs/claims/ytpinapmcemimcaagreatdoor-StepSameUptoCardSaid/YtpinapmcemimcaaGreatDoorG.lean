/- Order: who waits for whom: as a whole. -/
import Derived.Test.YtpinapmcemimcaaGreatDoorF
import Derived.Test.YtpinapmcemimcaaGreatDoorAMd
import Derived.Test.YtpinapmcemimcaaGreatDoorCode
set_option linter.unusedSimpArgs false
set_option linter.unusedVariables false
namespace Go.Proofs.YtpinapmcemimcaaGreatDoor
open Go.AM Go.Proofs
variable {Γ : Nat → Option AV}
theorem okP_set {n:Nat} {τ:List Nat} {k:Nat} {E:TypeId} {es:List AV} (ho:okL n τ es=true):∀ {h:List Ob} (j:Nat),okP n τ h=true→okP n τ (h.set j (.row k E es none false false))=true
 | [],_,h1=>h1
 | o'::h,0,h1=>by
  have h2:okP n τ h=true:=by cases o' <;> simp only [okP,Bool.and_eq_true] at h1 <;> exact h1.2
  simp [okP,okO,ho,h2]
 | o'::h,j+1,h1=>by
  cases o' <;> simp only [okP,Bool.and_eq_true,List.set_cons_succ] at h1 ⊢ <;> exact ⟨h1.1,okP_set ho j h1.2⟩
theorem rnH_set {n:Nat} {τ:List Nat} (o:Ob):∀ {h:List Ob} (j:Nat),belH n h=true→rnH n τ (h.set j o)=h.set j (rnO n τ o)
 | [],_,_=>rfl
 | o'::h,0,h1=>by
  simp only [belH,Bool.and_eq_true] at h1;simp only [List.set_cons_zero,rnH,rnH_bel h1.2]
 | o'::h,j+1,h1=>by
  simp only [belH,Bool.and_eq_true] at h1;simp only [List.set_cons_succ,rnH,rnO_bel h1.1,rnH_set o j h1.2]
theorem needE_split {n N m:Nat} (h:m<N) (v:AV):(needE n N m).set m v=(List.range m).map (fun i=>AV.mp (n+(3+(N+i))))++(v::List.replicate (N - (m+1)) .nilm):=by
 rw [needE,List.set_append_right _ _ (by simp),show N - m=(N - (m+1))+1 by omega,List.replicate_succ];simp
theorem needE_succ {n N m:Nat} (h:m<N):(List.range m).map (fun i=>AV.mp (n+(3+(N+i))))++(.mp (n+(3+(N+m)))::List.replicate (N - (m+1)) .nilm)=needE n N (m+1):=by
 rw [needE,List.range_succ]; simp
theorem bel_mps {n N m q:Nat} (h:n+(3+(N+m))≤q):belL q ((List.range m).map (fun i=>AV.mp (n+(3+(N+i)))))=true:=by
 have:=bel_needE h;rw [needE,belL_append,Bool.and_eq_true] at this;exact this.1
theorem bel_nils (q:Nat):∀ k,belL q (List.replicate k AV.nilm)=true
 | 0=>rfl
 | k+1=>by simp [List.replicate_succ,bel_nils q k]
theorem hQ_new {H:List Ob} {nd b:List (List Nat)} (h:nd.length<b.length):(hQ H nd b).set (H.length+1) (.row 1 t_map_int_bool_2 (needE H.length b.length (nd.length+1)) none false false)++[.map [] true]=hQ H (nd++[[]]) b:=by
 have e:H.length+1=H.length+1:=rfl;rw [hQ,ap_set,hQ,List.append_assoc];have f6:decide ((nd++[[]]).length=0)=false:=decide_eq_false (by simp);simp [hF,mapI]
theorem ofCells_nilm (c:AV):ofCells [c] .nilm=c:=rfl
def waitF (pl:List (Bs×Nat)):List Gt→Nat→List (List Nat)→List (List Nat)→List (List Nat)×List (List Nat)
 | [],_,nd,b=>(nd,b)
 | g::r,i,nd,b=>waitF pl r (i+1) (nd++[needL pl g.ins []]) (byL pl i g.ins [] b)
theorem byL_len (pl:List (Bs×Nat)) (i:Nat):∀ (l:List Bs) (a:List Nat) (b:List (List Nat)),(byL pl i l a b).length=b.length
 | [],_,_=>rfl
 | s::r,a,b=>by
  rw [byL]
  split
  ·exact byL_len pl i r a b
  ·rw [byL_len]; split <;> simp
theorem byL_bnd (pl:List (Bs×Nat)) (i M:Nat):∀ (l:List Bs) (a:List Nat) (b:List (List Nat)),(∀ x∈b,x.length≤M)→∀ x∈byL pl i l a b,x.length≤M+l.length
 | [],_,_,h=>fun x hx=>by have:=h x hx; simpa using this
 | s::r,a,b,h=>fun x hx=>by
  rw [byL] at hx
  have hM:∀ x∈b,x.length≤M+1:=fun x hx=>by have:=h x hx; omega
  have key:∀ (b':List (List Nat)) (a':List Nat),(∀ x∈b',x.length≤M+1)→x∈byL pl i r a' b'→x.length≤M+(s::r).length:=fun b' a' h1 h2=>by
   have:=byL_bnd pl i (M+1) r a' b' h1 x h2
   simp only [List.length_cons]; omega
  split at hx
  ·exact key _ _ hM hx
  ·rename_i k _
   split at hx
   ·exact key _ _ hM hx
   ·refine key _ _ (fun y hy => ?_) hx
    rcases List.mem_or_eq_of_mem_set hy with h1 | h1
    ·exact hM y h1
    ·rw [h1,List.length_append,List.length_singleton]
     by_cases hk:k<b.length
     ·rw [List.getD_eq_getElem?_getD,List.getElem?_eq_getElem hk];have:=h _ (List.getElem_mem hk)
      simp only [Option.getD_some]; omega
     ·rw [List.getD_eq_getElem?_getD,List.getElem?_eq_none (by omega)]; simp
theorem hQ_setlo {H:List Ob} {nd b:List (List Nat)} {p:Nat} (h:p<H.length) (o:Ob):(hQ H nd b).set p o=hQ (H.set p o) nd b:=by
 rw [hQ,List.set_append_left _ _ h,hQ,List.length_set]
set_option maxRecDepth 8000 in
theorem r_wait1 (c:Ct) (hc:CtFew c) {H:List Ob} (hw:WfO H) (hv:WfV H) {m0:Nat} (hm:H[m0]? = some (.map ((plM c).map ePl) true)) (up:List Fr) (base:Nat) (hbase:base≤H.length) (p2:Nat) (hp2:p2<H.length) (C:AM.Cfg) (i:Nat) (hi:i<c.gates.length) (nd b:List (List Nat)) (hnd:nd.length=i) (hb:b.length=c.gates.length) (hbl:∀ l∈b,l.length≤2^20+i*2^10)
  (hC:AM.Reach Tryz.prog Γ (yEl (.ptr p2 0) (.mp m0) (.ptr H.length 0) (.list false c.kG (c.gates.map eGt)) (.int .i64 c.gates.length) (.int .i64 (i+1:Nat)) (hQ H (nd++[needL (plM c) c.gates[i].ins []]) (byL (plM c) i c.gates[i].ins [] b)) ⟨[],.norm,base,up⟩) C) :
  AM.Reach Tryz.prog Γ (yEl (.ptr p2 0) (.mp m0) (.ptr H.length 0) (.list false c.kG (c.gates.map eGt)) (.int .i64 c.gates.length) (.int .i64 i) (hQ H nd b) ⟨[],.norm,base,up⟩) C:=by
 have q2:=eq_true (c.hG.of hi);have xw:=hQ_w (H:=H) (nd:=nd) (b:=b);have xn:=hQ_n (H:=H) (nd:=nd) (b:=b);have yl:=needE_len (n:=H.length) (N:=b.length) (m:=nd.length) (by omega);have hlen:=hQ_len (H:=H) (nd:=nd) (b:=b);have hm0:=lt_of_get hm;have hnew:=hQ_new (H:=H) (nd:=nd) (b:=b) (by omega);have hsp:=needE_split (n:=H.length) (N:=b.length) (m:=nd.length) (by omega) (.mp ((hQ H nd b).length+3));have hsu:=needE_succ (n:=H.length) (N:=b.length) (m:=nd.length) (by omega);have hwf:=hQ_wf (nd:=nd) (b:=b) hw (hQ H nd b).length (Nat.le_refl _);have hbm:=bel_mps (n:=H.length) (N:=b.length) (m:=nd.length) (q:=(hQ H nd b).length) (by omega);have hbn:=bel_nils (hQ H nd b).length (b.length - (nd.length+1))
 have yc:∀ h,(needE H.length b.length nd.length)[nd.length]'h=.nilm:=fun h=>by
  have e:(needE H.length b.length nd.length)[nd.length]? = some .nilm:=by
   rw [needE,List.getElem?_append_right (by simp),List.length_map,List.length_range,Nat.sub_self,show b.length - nd.length=(b.length - (nd.length+1))+1 by omega,List.replicate_succ]; rfl
  exact (List.getElem?_eq_some_iff.1 e).2
 have hin:=r_wait3 (Γ:=Γ) c hc hw hv hm nd i hi hnd up base hbase p2 c.gates[i].ins.length 0 (by omega) [] b hb (fun l hl=>by have:=hbl l hl; omega);subst hnd;rw [hb] at xw xn yl hlen hnew hsp hsu hbm hbn yc
 have w1:∀ os,(hQ H nd b++os)[H.length]? = some (.cells [.sl (H.length+1) 0 c.gates.length,.sl (H.length+2) 0 c.gates.length]):=fun os=>get_app xw os
 have w2:∀ os,(hQ H nd b++os)[H.length+1]? = some (.row 1 t_map_int_bool_2 (needE H.length c.gates.length nd.length) none (decide (nd.length=0)) false):=fun os=>get_app xn os
 have w3:∀ os o,(hQ H nd b++os).set (H.length+1) o=(hQ H nd b).set (H.length+1) o++os:=fun os o=>List.set_append_left _ _ (by rw [hlen]; omega)
 have w4:∀ o os,((hQ H nd b).set (H.length+1) o++os)[(hQ H nd b).length]? = os[0]? := fun o os=>by rw [List.getElem?_append_right (by simp)]; simp
 have hX:(hQ H nd b).length=H.length+(3+(c.gates.length+nd.length)):=hlen;generalize hQ H nd b=X at *;clear hlen
 have hb2:base≤X.length:=by omega
 have hX1:H.length<X.length:=by omega
 have hX2:H.length+1<X.length:=by omega
 have hX3:p2<X.length:=by omega
 have hX4:m0<X.length:=by omega
 refine .goB 60 ?_;simp (disch:=omega) [hi,q2,w1,w2,w3,w4,yl,yc,ofCells_nilm];rw [hsp]
 have hmp:(AV.mp (H.length+(3+(c.gates.length+nd.length))))=.mp X.length:=by rw [hX]
 rw [hmp] at hsu;refine .trans (.clrs [6,27,28,29,30,31,32,33,34,35] _) ?_;simp [clrT]
 refine .gcTo X.length [3] (by
  simp [hb2,hX1,hX3,hX4]
  exact okP_set (by simp [okL_bel hbm,okL_bel hbn]) _ (okP_bel hwf)) (by decide) ?_
 have hlt3:(X.length+3<X.length)=False:=eq_false (by omega);simp [hX1,hX3,hX4,rnH_set _ _ hwf,rnL_bel hbm,rnL_bel hbn,hlt3];rw [hsu,hnew];refine .inLoop ?_;simp at hin ⊢;refine .trans hin ?_;refine .goB 60 ?_
 have hB:nd.length<2^10:=by have:=hc.2.2.2.1; omega
 simp (disch:=omega);refine .reLoop ?_;simp at hC ⊢;exact hC
set_option maxRecDepth 8000 in
theorem r_waitL (c:Ct) (hc:CtFew c) {H:List Ob} (hw:WfO H) (hv:WfV H) {m0:Nat} (hm:H[m0]? = some (.map ((plM c).map ePl) true)) (up:List Fr) (base:Nat) (hbase:base≤H.length) (p2:Nat) (hp2:p2<H.length) {r0 r1:AV} (hr:H[p2]? = some (.cells [r0,r1])):∀ n i:Nat,i+n=c.gates.length→∀ nd b:List (List Nat),nd.length=i→b.length=c.gates.length→(∀ l∈b,l.length≤2^20+i*2^10) →
  AM.Reach Tryz.prog Γ (yEl (.ptr p2 0) (.mp m0) (.ptr H.length 0) (.list false c.kG (c.gates.map eGt)) (.int .i64 c.gates.length) (.int .i64 i) (hQ H nd b) ⟨[],.norm,base,up⟩)
   (.back up (.agg [.sl (H.length+1) 0 c.gates.length,.sl (H.length+2) 0 c.gates.length]) (hQ (H.set p2 (.cells [.sl (H.length+1) 0 c.gates.length,.sl (H.length+2) 0 c.gates.length])) (waitF (plM c) (c.gates.drop i) i nd b).1 (waitF (plM c) (c.gates.drop i) i nd b).2)):=by
 intro n
 induction n with
 | zero =>
  intro i hi nd b hnd hb hbl
  have q1:¬ i<c.gates.length:=by omega
  rw [List.drop_eq_nil_of_le (by omega),waitF];have xw:=hQ_w (H:=H) (nd:=nd) (b:=b)
  have xp:(hQ H nd b)[p2]? = some (.cells [r0,r1]):=by rw [hQ_lo hp2]; exact hr
  have xs:=fun o=>hQ_setlo (nd:=nd) (b:=b) hp2 o
  have xp2:∀ o,((hQ H nd b).set p2 o)[p2]? = some o:=fun o=>by rw [List.getElem?_set_self (by rw [hQ_len]; omega)]
  rw [hb] at xw;refine .goB 60 ?_;simp [q1,xw,xp,xp2];rw [xs];exact .refl _
 | succ n ih =>
  intro i hi nd b hnd hb hbl
  have q1:i<c.gates.length:=by omega
  have hiB:c.gates[i].ins.length<2^10:=(hc.2.2.2.2.1 _ (List.getElem_mem q1)).2.1;rw [List.drop_eq_getElem_cons q1,waitF];refine r_wait1 c hc hw hv hm up base hbase p2 hp2 _ i q1 nd b hnd hb hbl ?_
  exact ih (i+1) (by omega) _ _ (by simp [hnd]) (by rw [byL_len]; exact hb) (fun l hl=>by
   have:=byL_bnd (plM c) i (2^20+i*2^10) c.gates[i].ins [] b hbl l hl
   rw [Nat.succ_mul]; omega)
def needsC (c:Ct):List (List Nat):=(waitF (plM c) c.gates 0 [] (List.replicate c.gates.length [])).1
def bysC (c:Ct):List (List Nat):=(waitF (plM c) c.gates 0 [] (List.replicate c.gates.length [])).2
def hWt (c:Ct) (n:Nat) (x y:AV):List Ob:=[.cells (AV.cells (eCt c)),.cells [x,y],.row 1 t_map_int_bool_2 [] none true false,.row 1 t_int_2 [] none true false,.cells (AV.cells (eCt c)),.map ((plM c).map ePl) true]
def hWait (c:Ct) (h:List Ob):List Ob:=h++hWt c h.length (.sl (h.length+7) 0 c.gates.length) (.sl (h.length+8) 0 c.gates.length)
theorem hWait_len (c:Ct) (h:List Ob):(hWait c h).length=h.length+6:=by simp [hWait,hWt]
theorem vld_pl (i m:Nat):∀ l:List (Bs×Nat),vldM i m (l.map ePl)=true
 | []=>rfl
 | x::l=>by simp [vld_pl i m l]
set_option maxRecDepth 8000 in
theorem r_wait (c:Ct) (hc:CtFew c) (hd:(c.gates.map (·.name)).Nodup) {h:List Ob} (hw:WfO h) (hv:WfV h):∀ up,AM.Reach Tryz.prog Γ (.cl n_order_wait [eCt c] up h)
  (.back up (.agg [.sl ((hWait c h).length+1) 0 c.gates.length,.sl ((hWait c h).length+2) 0 c.gates.length]) (hQ (hWait c h) (needsC c) (bysC c))):=by
 intro up;have hN:=hc.2.2.2.1;generalize hH:h++hWt c h.length (.sl (h.length+2) 0 0) (.sl (h.length+3) 0 0)=H
 have hHl:H.length=h.length+6:=by rw [← hH]; simp [hWt]
 have hp:H[h.length]? = some (.cells (AV.cells (eCt c))):=by rw [← hH]; simp [hWt]
 have hp2:H[h.length+1]? = some (.cells [.sl (h.length+2) 0 0,.sl (h.length+3) 0 0]):=by rw [← hH]; simp [hWt]
 have hm:H[h.length+5]? = some (.map ((plM c).map ePl) true):=by rw [← hH]; simp [hWt]
 have hwH:WfO H:=fun m hm=>by
  have h1:=hw m (by omega);have h2:=bel_pl m (plM c);rw [← hH,belH_append,h1]
  simp [hWt,h2]; omega
 have hvH:WfV H:=fun i m hi=>by
  have h1:=hv i m (by omega);have h2:=vld_pl i m (plM c);rw [← hH,vldH_append,h1]
  simp [hWt,h2]; omega
 have hend:H.set (h.length+1) (.cells [.sl (H.length+1) 0 c.gates.length,.sl (H.length+2) 0 c.gates.length])=hWait c h:=by
  rw [← hH,ap_set,hWait];simp [hWt]
 have hL:=r_waitL (Γ:=Γ) c hc hwH hvH hm up h.length (by omega) (h.length+1) (by omega) hp2 c.gates.length 0 (by omega) [] (List.replicate c.gates.length []) rfl (by simp) (by simp)
 have hcv:=fun f=>r_conv (Γ:=Γ) H c.gates.length f up c.gates.length 0 (by omega)
 rw [hConv_end,hConv_zero] at hcv;rw [hend,List.drop_zero,hHl] at hL;refine .enterB 60 c_order_wait ?_;simp;refine .trans (r_places c hc hd ?_ _) ?_
 ·intro m hm;simp at hm;have h1:=hw m (by omega)
  simp [h1]; omega
 have e2:h.length+1+1=h.length+2:=rfl;have e3:h.length+1+1+1=h.length+3:=rfl;have e5:h.length+4+1=h.length+5:=rfl;refine .trans (.pop _) (.goB 60 ?_);simp [e2,e3,e5];refine .trans (.clrs [0,11,12] _) ?_;simp [clrT]
 have hR:=fun k hk C hC=>r_waitR (Γ:=Γ) (c:=c) (p:=h.length) (x2:=.ptr (h.length+1) 0) (x3:=.mp (h.length+5)) (H:=H) (up:=up) (base:=h.length) (k:=k) (C:=C) hc hp (hwH _ (Nat.le_refl _)) (by omega) (by simp; omega) (by simp; omega) hk hC
 rw [← hH] at hR;simp [hWt] at hR;refine hR _ ?_ _ ?_
 ·simp
 have hcv':∀ f,AM.Reach Tryz.prog Γ (.fr f up (h++(hWt c h.length (.sl (h.length+2) 0 0) (.sl (h.length+3) 0 0)++hW c (h.length+6)))) (.fr f up (hQ H [] (List.replicate c.gates.length []))):=fun f=>by
  rw [← List.append_assoc,hH,← hHl]; exact hcv f
 simp [hWt] at hcv';refine .trans (hcv' _) ?_;refine .goB 60 ?_;have hq:=hQ_lo (H:=H) (nd:=[]) (b:=List.replicate c.gates.length []) (lt_of_get hp);rw [hp] at hq;simp [hq];refine .inLoop ?_;simp at hL ⊢;rw [hWait_len];simp [needsC,bysC];exact hL
def hP (A:List Ob) (l s:List Nat) (g:Option Nat):List Ob:=A++[.row 1 t_int ((l++s).map iN) g true false,.cells [.sl A.length 0 l.length]]
def swp (l:List Nat) (i j:Nat):List Nat:=(l.set i (l.getD j 0)).set j (l.getD i 0)
section
variable {A : List Ob} {l s : List Nat} {g : Option Nat}
theorem hP_len:(hP A l s g).length=A.length+2:=by simp [hP]
theorem hP_r:(hP A l s g)[A.length]? = some (.row 1 t_int ((l++s).map iN) g true false):=by simp [hP]
theorem hP_c:(hP A l s g)[A.length+1]? = some (.cells [.sl A.length 0 l.length]):=by
 rw [hP,List.getElem?_append_right (by omega)]; simp
theorem hP_lo {i:Nat} (h:i<A.length):(hP A l s g)[i]? = A[i]? := by rw [hP,List.getElem?_append_left h]
theorem hP_setr {l' s':List Nat} (h:l'.length=l.length):(hP A l s g).set A.length (.row 1 t_int ((l'++s').map iN) g true false)=hP A l' s' g:=by
 have:=ap_set A [.row 1 t_int ((l++s).map iN) g true false,.cells [.sl A.length 0 l.length]] 0 (.row 1 t_int ((l'++s').map iN) g true false);rw [Nat.add_zero] at this
 rw [hP,this,hP,h]; rfl
theorem swp_len (i j:Nat):(swp l i j).length=l.length:=by simp [swp]
theorem get_iN {L:List Nat} {i:Nat} (h:i<L.length):(L.map iN)[i]? = some (.int .i64 (L.getD i 0:Nat)):=by simp [h]
end
theorem r_Len (A:List Ob) (l s:List Nat) (g:Option Nat) (hg:g=none∨g=some 0∧s=[]):∀ up,AM.Reach Tryz.prog Γ (.cl n_order_pile_Len [.sl A.length 0 l.length] up (hP A l s g)) (.back up (.int .i64 l.length) (hP A l s g)):=by
 intro up;have xr:=hP_r (A:=A) (l:=l) (s:=s) (g:=g)
 have hl2:s=[]→((l++s).map iN).length=l.length:=fun h=>by rw [h]; simp
 generalize hP A l s g=X at *;generalize hL:(l++s).map iN=L at *
 have hl:l.length≤L.length:=by rw [← hL]; simp
 rcases hg with rfl | ⟨rfl,rfl⟩
 ·refine .enterB 60 c_order_pile_Len ?_;simp [xr]
 ·have hl3:=hl2 rfl;refine .enterB 60 c_order_pile_Len ?_;simp [xr,hl3]
theorem r_Less (A:List Ob) (l s:List Nat) (g:Option Nat) (hg:g=none∨g=some 0∧s=[]) {i j:Nat} (hi:i<l.length) (hj:j<l.length):∀ up,AM.Reach Tryz.prog Γ (.cl n_order_pile_Less [.sl A.length 0 l.length,.int .i64 i,.int .i64 j] up (hP A l s g)) (.back up (.bool (decide (l.getD i 0<l.getD j 0))) (hP A l s g)):=by
 intro up;have xr:=hP_r (A:=A) (l:=l) (s:=s) (g:=g)
 have e:∀ k,k<l.length→(l++s).getD k 0=l.getD k 0:=fun k hk=>by simp [List.getElem?_append_left hk]
 have gi:=get_iN (L:=l++s) (i:=i) (by simp; omega);have gj:=get_iN (L:=l++s) (i:=j) (by simp; omega);rw [e i hi] at gi;rw [e j hj] at gj;generalize hP A l s g=X at *;generalize hL:(l++s).map iN=L at *
 have hl:l.length≤L.length:=by rw [← hL]; simp
 obtain ⟨_,gi'⟩:=List.getElem?_eq_some_iff.1 gi;obtain ⟨_,gj'⟩:=List.getElem?_eq_some_iff.1 gj;generalize l.getD i 0=vi at *;generalize l.getD j 0=vj at *
 have hl2:s=[]→L.length=l.length:=fun h=>by rw [← hL,h]; simp
 rcases hg with rfl | ⟨rfl,rfl⟩
 ·refine .enterB 60 c_order_pile_Less ?_;simp (disch:=omega) [xr,gi,gj,gi',gj',hi,hj,hl,ofCells]
 ·have hl3:=hl2 rfl;refine .enterB 60 c_order_pile_Less ?_;simp (disch:=omega) [xr,gi,gj,gi',gj',hi,hj,hl3,ofCells]
theorem setP {A:List Ob} {l s:List Nat} {i:Nat} {v:Nat} (hi:i<l.length):((l++s).map iN).set i (.int .i64 v)=(l.set i v++s).map iN:=by
 rw [List.map_append,List.set_append_left _ _ (by simpa using hi),List.map_append,List.map_set]
theorem r_Swap (A:List Ob) (l s:List Nat) (g:Option Nat) (hg:g=none∨g=some 0∧s=[]) {i j:Nat} (hi:i<l.length) (hj:j<l.length):∀ up,AM.Reach Tryz.prog Γ (.cl n_order_pile_Swap [.sl A.length 0 l.length,.int .i64 i,.int .i64 j] up (hP A l s g)) (.back up (.tup []) (hP A (swp l i j) s g)):=by
 intro up;have xr:=hP_r (A:=A) (l:=l) (s:=s) (g:=g);have xl:=hP_len (A:=A) (l:=l) (s:=s) (g:=g)
 have e:∀ k,k<l.length→(l++s).getD k 0=l.getD k 0:=fun k hk=>by simp [List.getElem?_append_left hk]
 have gi:=get_iN (L:=l++s) (i:=i) (by simp; omega);have gj:=get_iN (L:=l++s) (i:=j) (by simp; omega);rw [e i hi] at gi;rw [e j hj] at gj
 have fin:(hP A l s g).set A.length (.row 1 t_int ((((l++s).map iN).set i (.int .i64 (l.getD j 0))).set j (.int .i64 (l.getD i 0))) g true false)=hP A (swp l i j) s g:=by
  rw [setP (A:=A) hi,setP (A:=A) (by simpa using hj)];exact hP_setr (by simp)
 have hr:A.length<(hP A l s g).length:=by omega
 clear xl;generalize hP A l s g=X at *;generalize hL:(l++s).map iN=L at *
 have hl:l.length≤L.length:=by rw [← hL]; simp
 have hiL:i<L.length:=by omega
 have hjL:j<L.length:=by omega
 generalize l.getD i 0=vi at *;generalize l.getD j 0=vj at *;obtain ⟨_,gi'⟩:=List.getElem?_eq_some_iff.1 gi;obtain ⟨_,gj'⟩:=List.getElem?_eq_some_iff.1 gj;obtain ⟨_,xr'⟩:=List.getElem?_eq_some_iff.1 xr
 have gs:(L.set i (.int .i64 vj))[j]? = some (.int .i64 vj):=by
  by_cases hij:i=j
  ·subst hij; rw [List.getElem?_set_self hiL]
  ·rw [List.getElem?_set_ne hij]; exact gj
 have hl2:s=[]→L.length=l.length:=fun h=>by rw [← hL,h]; simp
 rcases hg with rfl | ⟨rfl,rfl⟩
 ·refine .enterB 60 c_order_pile_Swap ?_;simp (disch:=omega) [xr,xr',gs,gi,gj,gi',gj',hi,hj,hl,hiL,hjL,ofCells];rw [fin];exact .refl _
 ·have hl3:=hl2 rfl;refine .enterB 60 c_order_pile_Swap ?_;simp (disch:=omega) [xr,xr',gs,gi,gj,gi',gj',hi,hj,hl3,hiL,hjL,ofCells];rw [fin];exact .refl _
def upF (l:List Nat) (j:Nat):List Nat :=
 if j=0 then l else if l.getD j 0<l.getD ((j - 1) / 2) 0 then upF (swp l ((j - 1) / 2) j) ((j - 1) / 2) else l
termination_by j
decreasing_by omega
theorem upF_len (j:Nat):∀ l:List Nat,(upF l j).length=l.length:=by
 induction j using Nat.strongRecOn with
 | _ j ih =>
  intro l;rw [upF]
  split
  ·rfl
  ·rename_i h0
   split
   ·rw [ih _ (by omega),swp_len]
   ·rfl
theorem quo2 (j:Nat) (h:j≠0):((j:Int) - 1).tdiv 2=(((j - 1) / 2:Nat):Int):=by
 have e:(j:Int) - 1=((j - 1:Nat):Int):=by omega
 rw [e,Int.tdiv_eq_ediv_of_nonneg (by omega)];rfl
theorem r_up (A:List Ob) (s:List Nat) (g:Option Nat) (hg:g=none∨g=some 0∧s=[]) (up:List Fr) (base:Nat):∀ (j:Nat) (l:List Nat),j<l.length→l.length<2^40 →
  AM.Reach Tryz.prog Γ (yFG (.ifc t_order_pile (.ptr (A.length+1) 0)) (.int .i64 j) (hP A l s g) ⟨[],.norm,base,up⟩) (.back up (.tup []) (hP A (upF l j) s g)):=by
 intro j
 induction j using Nat.strongRecOn with
 | _ j ih =>
  intro l hj hl;have xc:=hP_c (A:=A) (l:=l) (s:=s) (g:=g);rw [upF]
  by_cases h0:j=0
  ·rw [if_pos h0];subst h0;generalize hP A l s g=X at *;refine .goB 60 ?_;simp [xc]
  ·rw [if_neg h0];have hq:=quo2 j h0
   have hlt:(j - 1) / 2<j:=by omega
   have hne:((((j - 1) / 2:Nat):Int)=(j:Int))=False:=eq_false (by omega);have hL:=r_Less (Γ:=Γ) A l s g hg hj (show (j - 1) / 2<l.length by omega);have hS:=r_Swap (Γ:=Γ) A l s g hg (show (j - 1) / 2<l.length by omega) hj
   by_cases hc:l.getD j 0<l.getD ((j - 1) / 2) 0
   ·rw [if_pos hc];have hh:=ih _ hlt (swp l ((j - 1) / 2) j) (by rw [swp_len]; omega) (by rw [swp_len]; exact hl);rw [decide_eq_true hc] at hL;generalize hP A l s g=X at *;generalize (j - 1) / 2=i at *;refine .goB 60 ?_;simp (disch:=omega) [xc,hq,hne];refine .rcall 60 hL ?_;simp [xc];refine .rcall 60 hS ?_;simp;refine .reLoop ?_;simp at hh ⊢;exact hh
   ·rw [if_neg hc];rw [decide_eq_false hc] at hL;generalize hP A l s g=X at *;generalize (j - 1) / 2=i at *;refine .goB 60 ?_;simp (disch:=omega) [xc,hq,hne];refine .rcall 60 hL ?_;simp [xc]
theorem r_upC (A:List Ob) (s:List Nat) (g:Option Nat) (hg:g=none∨g=some 0∧s=[]) (j:Nat) (l:List Nat) (hj:j<l.length) (hl:l.length<2^40):∀ up,
  AM.Reach Tryz.prog Γ (.cl n_container_heap_up [.ifc t_order_pile (.ptr (A.length+1) 0),.int .i64 j] up (hP A l s g)) (.back up (.tup []) (hP A (upF l j) s g)):=by
 intro up;have h:=r_up (Γ:=Γ) A s g hg up (hP A l s g).length j l hj hl;generalize hP A l s g=X at *;refine .enterB 60 c_container_heap_up ?_;simp;refine .inLoop ?_;simp at h ⊢;exact h
def kidF (l:List Nat) (j n:Nat):Nat:=if j+1<n∧l.getD (j+1) 0<l.getD j 0 then j+1 else j
def downF (n:Nat) (l:List Nat) (i:Nat):List Nat×Nat :=
 if n≤2*i+1 then (l,i) else if l.getD (kidF l (2*i+1) n) 0<l.getD i 0 then downF n (swp l i (kidF l (2*i+1) n)) (kidF l (2*i+1) n) else (l,i)
termination_by n - i
decreasing_by
 have:2*i+1≤kidF l (2*i+1) n:=by unfold kidF; split <;> omega
 omega
theorem kid_ge (l:List Nat) (j n:Nat):j≤kidF l j n:=by unfold kidF; split <;> omega
theorem kid_lt (l:List Nat) {j n:Nat} (h:j<n):kidF l j n<n:=by unfold kidF; split <;> omega
theorem downF_len (n:Nat):∀ (m i:Nat) (l:List Nat),n - i≤m→(downF n l i).1.length=l.length:=by
 intro m
 induction m with
 | zero =>
  intro i l h;rw [downF,if_pos (by omega)]
 | succ m ih =>
  intro i l h;rw [downF]
  split
  ·rfl
  ·split
   ·have:=kid_ge l (2*i+1) n;rw [ih _ _ (by omega),swp_len]
   ·rfl
theorem r_down (A:List Ob) (s:List Nat) (g:Option Nat) (hg:g=none∨g=some 0∧s=[]) (up:List Fr) (base:Nat) (n i0:Nat) (hn:n<2^40):∀ (m i:Nat) (l:List Nat),n - i≤m→i<2^41→n≤l.length→(i<l.length) →
  AM.Reach Tryz.prog Γ (yFY (.ifc t_order_pile (.ptr (A.length+1) 0)) (.int .i64 i0) (.int .i64 n) (.int .i64 i) (hP A l s g) ⟨[],.norm,base,up⟩) (.back up (.bool (decide (i0<(downF n l i).2))) (hP A (downF n l i).1 s g)):=by
 intro m
 induction m with
 | zero =>
  intro i l hm hi hnl hil;obtain ⟨j1,hj1⟩:∃ j1,j1=2*i+1:=⟨_,rfl⟩
  have e1:2*(i:Int)+1=(j1:Int):=by omega
  rw [downF,if_pos (by omega)]
  have q1:¬ j1<n:=by omega
  have q2:n≤j1:=by omega
  generalize hP A l s g=X at *;refine .goB 60 ?_;simp (disch:=omega) [e1,q1,q2]
 | succ m ih =>
  intro i l hm hi hnl hil;obtain ⟨j1,hj1⟩:∃ j1,j1=2*i+1:=⟨_,rfl⟩
  have e1:2*(i:Int)+1=(j1:Int):=by omega
  obtain ⟨j2,hj2⟩:∃ j2,j2=j1+1:=⟨_,rfl⟩
  have e2:(j1:Int)+1=(j2:Int):=by omega
  rw [downF]
  by_cases h1:n≤2*i+1
  ·rw [if_pos h1]
   have q1:¬ j1<n:=by omega
   have q2:n≤j1:=by omega
   generalize hP A l s g=X at *;refine .goB 60 ?_;simp (disch:=omega) [e1,q1,q2]
  ·rw [if_neg h1]
   have q1:j1<n:=by omega
   have q2:¬ n≤j1:=by omega
   have q3:(n:Int)≤(j1:Int)↔False:=⟨fun h=>by omega,False.elim⟩;have hkg:=kid_ge l j1 n;have hkl:=kid_lt l q1;rw [← hj1];have xc:=hP_c (A:=A) (l:=l) (s:=s) (g:=g)
   by_cases h2:j2<n
   ·have hL:=r_Less (Γ:=Γ) A l s g hg (show j2<l.length by omega) (show j1<l.length by omega)
    by_cases h3:l.getD (j2) 0<l.getD j1 0
    ·rw [decide_eq_true h3] at hL
     have hk:kidF l j1 n=j2:=by unfold kidF; rw [← hj2,if_pos ⟨h2,h3⟩]
     rw [hk];have hL2:=r_Less (Γ:=Γ) A l s g hg (show j2<l.length by omega) hil
     by_cases hc:l.getD (j2) 0<l.getD i 0
     ·rw [if_pos hc];have hS:=r_Swap (Γ:=Γ) A l s g hg hil (show j2<l.length by omega);have hh:=ih (j2) (swp l i (j2)) (by omega) (by omega) (by rw [swp_len]; omega) (by rw [swp_len]; omega);rw [decide_eq_true hc] at hL2;generalize hP A l s g=X at *;refine .goB 60 ?_;simp (disch:=omega) [xc,e1,e2,q1,q2,h2];refine .rcall 60 hL ?_;simp [xc];refine .rcall 60 hL2 ?_;simp [xc];refine .rcall 60 hS ?_;simp;refine .reLoop ?_;simp at hh ⊢;exact hh
     ·rw [if_neg hc];rw [decide_eq_false hc] at hL2;generalize hP A l s g=X at *;refine .goB 60 ?_;simp (disch:=omega) [xc,e1,e2,q1,q2,h2];refine .rcall 60 hL ?_;simp [xc];refine .rcall 60 hL2 ?_;simp [xc]
    ·rw [decide_eq_false h3] at hL
     have hk:kidF l j1 n=j1:=by unfold kidF; rw [← hj2,if_neg (fun h=>h3 h.2)]
     rw [hk];have hL2:=r_Less (Γ:=Γ) A l s g hg (show j1<l.length by omega) hil
     by_cases hc:l.getD (j1) 0<l.getD i 0
     ·rw [if_pos hc];have hS:=r_Swap (Γ:=Γ) A l s g hg hil (show j1<l.length by omega);have hh:=ih (j1) (swp l i (j1)) (by omega) (by omega) (by rw [swp_len]; omega) (by rw [swp_len]; omega);rw [decide_eq_true hc] at hL2;generalize hP A l s g=X at *;refine .goB 60 ?_;simp (disch:=omega) [xc,e1,e2,q1,q2,h2];refine .rcall 60 hL ?_;simp [xc];refine .rcall 60 hL2 ?_;simp [xc];refine .rcall 60 hS ?_;simp;refine .reLoop ?_;simp at hh ⊢;exact hh
     ·rw [if_neg hc];rw [decide_eq_false hc] at hL2;generalize hP A l s g=X at *;refine .goB 60 ?_;simp (disch:=omega) [xc,e1,e2,q1,q2,h2];refine .rcall 60 hL ?_;simp [xc];refine .rcall 60 hL2 ?_;simp [xc]
   ·have hk:kidF l j1 n=j1:=by unfold kidF; rw [← hj2,if_neg (fun h=>h2 h.1)]
    rw [hk];have hL2:=r_Less (Γ:=Γ) A l s g hg (show j1<l.length by omega) hil
    by_cases hc:l.getD (j1) 0<l.getD i 0
    ·rw [if_pos hc];have hS:=r_Swap (Γ:=Γ) A l s g hg hil (show j1<l.length by omega);have hh:=ih (j1) (swp l i (j1)) (by omega) (by omega) (by rw [swp_len]; omega) (by rw [swp_len]; omega);rw [decide_eq_true hc] at hL2;generalize hP A l s g=X at *;refine .goB 60 ?_;simp (disch:=omega) [xc,e1,e2,q1,q2,h2];refine .rcall 60 hL2 ?_;simp [xc];refine .rcall 60 hS ?_;simp;refine .reLoop ?_;simp at hh ⊢;exact hh
    ·rw [if_neg hc];rw [decide_eq_false hc] at hL2;generalize hP A l s g=X at *;refine .goB 60 ?_;simp (disch:=omega) [xc,e1,e2,q1,q2,h2];refine .rcall 60 hL2 ?_;simp [xc]
theorem r_downC (A:List Ob) (s:List Nat) (g:Option Nat) (hg:g=none∨g=some 0∧s=[]) (n i:Nat) (hn:n<2^40) (l:List Nat) (hnl:n≤l.length) (hi:i<l.length) (hi2:i<2^40):∀ up,
  AM.Reach Tryz.prog Γ (.cl n_container_heap_down [.ifc t_order_pile (.ptr (A.length+1) 0),.int .i64 i,.int .i64 n] up (hP A l s g)) (.back up (.bool (decide (i<(downF n l i).2))) (hP A (downF n l i).1 s g)):=by
 intro up;have h:=r_down (Γ:=Γ) A s g hg up (hP A l s g).length n i hn (n - i) i l (Nat.le_refl _) (by omega) hnl hi;generalize hP A l s g=X at *;refine .enterB 60 c_container_heap_down ?_;simp;refine .inLoop ?_;simp at h ⊢;exact h
def gP (s:List Nat):Option Nat:=if s=[] then some 0 else none
theorem gP_ok (s:List Nat):gP s=none∨gP s=some 0∧s.tail=[]:=by
 unfold gP
 split
 ·rename_i h; exact .inr ⟨rfl,by rw [h]; rfl⟩
 ·exact .inl rfl
theorem r_pPush (A:List Ob) (l s:List Nat) (x:Nat) (hx:x<2^40) (hl:l.length<2^40):∀ up,AM.Reach Tryz.prog Γ (.cl n_order_pile_Push [.ptr (A.length+1) 0,.ifc t_int (.int .i64 x)] up (hP A l s none)) (.back up (.tup []) (hP A (l++[x]) s.tail (gP s))):=by
 intro up;have xr:=hP_r (A:=A) (l:=l) (s:=s) (g:=none);have xc:=hP_c (A:=A) (l:=l) (s:=s) (g:=none)
 have b8:(l.length+1)*8≤140737488355328:=by omega
 have hr:A.length<(hP A l s none).length:=by rw [hP_len]; omega
 have hr1:A.length+1<(hP A l s none).length:=by rw [hP_len]; omega
 cases s with
 | nil =>
  have fin:((hP A l [] none).set A.length (.row 1 t_int (l.map iN++[.int .i64 x]) (some 0) true false)).set (A.length+1) (.cells [.sl A.length 0 (l.length+1)])=hP A (l++[x]) [] (some 0):=by
   simp [hP]
  rw [List.append_nil] at xr;rw [show gP []=some 0 from rfl];generalize hP A l [] none=X at *;obtain ⟨_,xr'⟩:=List.getElem?_eq_some_iff.1 xr;obtain ⟨_,xc'⟩:=List.getElem?_eq_some_iff.1 xc;refine .enterB 60 c_order_pile_Push ?_;simp (disch:=omega) [xr,xc,xr',xc',b8,ofCells];refine .drB 60 ?_;simp (disch:=omega) [xr,xc,xr',xc',b8,ofCells];rw [fin];exact .refl _
 | cons a s =>
  have fin:((hP A l (a::s) none).set A.length (.row 1 t_int (l.map iN++(AV.int .i64 x)::s.map iN) none true false)).set (A.length+1) (.cells [.sl A.length 0 (l.length+1)])=hP A (l++[x]) s none:=by
   simp [hP]
  rw [show gP (a::s)=none from rfl]
  have hL:((l++a::s).map iN)=l.map iN++.int .i64 a::s.map iN:=by simp
  rw [hL] at xr
  have tk:(l.map iN++AV.int .i64 a::s.map iN).take l.length=l.map iN:=by rw [List.take_append_of_le_length (by simp)]; simp
  have dr:(l.map iN++AV.int .i64 a::s.map iN).drop (l.length+1)=s.map iN:=by rw [List.drop_append,List.drop_eq_nil_of_le (by simp),show l.length+1 - (l.map iN).length=1 by simp]; rfl
  have ln:¬ (l.length=(l.map iN++AV.int .i64 a::s.map iN).length):=by simp
  have ln2:l.length+1≤(l.map iN++AV.int .i64 a::s.map iN).length:=by simp
  have ln3:l.length≤(l.map iN++AV.int .i64 a::s.map iN).length:=by simp
  generalize hP A l (a::s) none=X at *;generalize (l.map iN++AV.int .i64 a::s.map iN)=L at *;obtain ⟨_,xr'⟩:=List.getElem?_eq_some_iff.1 xr;obtain ⟨_,xc'⟩:=List.getElem?_eq_some_iff.1 xc;refine .enterB 60 c_order_pile_Push ?_;simp (disch:=omega) [xr,xc,xr',xc',b8,ofCells];refine .drB 60 ?_;simp (disch:=omega) [xr,xc,xr',xc',b8,ofCells,ln,ln2,ln3,tk,dr];rw [fin];exact .refl _
theorem r_pPop (A:List Ob) (l s:List Nat) (x:Nat) (hl:l.length<2^40):∀ up,AM.Reach Tryz.prog Γ (.cl n_order_pile_Pop [.ptr (A.length+1) 0] up (hP A (l++[x]) s none)) (.back up (.ifc t_int (.int .i64 x)) (hP A l (x::s) none)):=by
 intro up;have xr:=hP_r (A:=A) (l:=l++[x]) (s:=s) (g:=none);have xc:=hP_c (A:=A) (l:=l++[x]) (s:=s) (g:=none)
 have hr1:A.length+1<(hP A (l++[x]) s none).length:=by rw [hP_len]; omega
 have fin:(hP A (l++[x]) s none).set (A.length+1) (.cells [.sl A.length 0 l.length])=hP A l (x::s) none:=by simp [hP]
 have e:(l++[x]).length=l.length+1:=by simp
 rw [e] at xc
 have gx:(((l++[x])++s).map iN)[l.length]? = some (.int .i64 x):=by simp
 generalize hP A (l++[x]) s none=X at *;generalize hL:(((l++[x])++s).map iN)=L at *
 have hlL:l.length<L.length:=by rw [← hL]; simp
 obtain ⟨_,gx'⟩:=List.getElem?_eq_some_iff.1 gx;obtain ⟨_,xr'⟩:=List.getElem?_eq_some_iff.1 xr;obtain ⟨_,xc'⟩:=List.getElem?_eq_some_iff.1 xc;refine .enterB 60 c_order_pile_Pop ?_;simp (disch:=omega) [xr,xc,xr',xc',gx,gx',ofCells];rw [fin];exact .refl _
def pushF (l:List Nat) (x:Nat):List Nat:=upF (l++[x]) l.length
theorem r_Push (A:List Ob) (l s:List Nat) (x:Nat) (hx:x<2^40) (hl:l.length<2^39):∀ up,AM.Reach Tryz.prog Γ (.cl n_container_heap_Push [.ifc t_order_pile (.ptr (A.length+1) 0),.ifc t_int (.int .i64 x)] up (hP A l s none)) (.back up (.tup []) (hP A (pushF l x) s.tail (gP s))):=by
 intro up;have h1:=r_pPush (Γ:=Γ) A l s x hx (by omega);have h2:=r_Len (Γ:=Γ) A (l++[x]) s.tail (gP s) (gP_ok s);have h3:=r_upC (Γ:=Γ) A s.tail (gP s) (gP_ok s) l.length (l++[x]) (by simp) (by simp; omega);have hxc:=hP_c (A:=A) (l:=l++[x]) (s:=s.tail) (g:=gP s)
 have e:(l++[x]).length=l.length+1:=by simp
 rw [e] at hxc h2;rw [pushF];refine .enterB 60 c_container_heap_Push ?_;simp;refine .rcall 60 h1 ?_;generalize hP A (l++[x]) s.tail (gP s)=X at *;simp [hxc];refine .rcall 60 h2 ?_;simp (disch:=omega);refine .rcall 60 h3 ?_;simp
def popF (l:List Nat):List Nat:=(downF (l.length - 1) (swp l 0 (l.length - 1)) 0).1
theorem popF_len (l:List Nat):(popF l).length=l.length:=by rw [popF,downF_len _ _ _ _ (Nat.le_refl _),swp_len]
theorem r_Pop (A:List Ob) (l s:List Nat) (h0:0<l.length) (hl:l.length<2^39):∀ up,AM.Reach Tryz.prog Γ (.cl n_container_heap_Pop [.ifc t_order_pile (.ptr (A.length+1) 0)] up (hP A l s none)) (.back up (.ifc t_int (.int .i64 ((popF l).getD (l.length - 1) 0:Nat))) (hP A ((popF l).take (l.length - 1)) ((popF l).getD (l.length - 1) 0::s) none)):=by
 intro up;obtain ⟨n,hn⟩:∃ n,l.length=n+1:=⟨l.length - 1,by omega⟩;have h1:=r_Len (Γ:=Γ) A l s none (.inl rfl);have h2:=r_Swap (Γ:=Γ) A l s none (.inl rfl) h0 (show n<l.length by omega);have h3:=r_downC (Γ:=Γ) A s none (.inl rfl) n 0 (by omega) (swp l 0 n) (by rw [swp_len]; omega) (by rw [swp_len]; omega) (by omega)
 have e:(downF n (swp l 0 n) 0).1=popF l:=by rw [popF,hn]; rfl
 have el:=popF_len l
 have e2:popF l=(popF l).take n++[(popF l).getD n 0]:=by
  have hlt:n<(popF l).length:=by omega
  have h5:(popF l).getD n 0=(popF l)[n]:=by rw [List.getD_eq_getElem?_getD,List.getElem?_eq_getElem hlt]; rfl
  rw [h5]
  conv=>lhs; rw [← List.take_append_drop n (popF l)]
  congr 1;rw [List.drop_eq_getElem_cons hlt,List.drop_eq_nil_of_le (by omega)]
 have h4:=r_pPop (Γ:=Γ) A ((popF l).take n) s ((popF l).getD n 0) (by rw [List.length_take]; omega);have c1:=hP_c (A:=A) (l:=l) (s:=s) (g:=none);have c2:=hP_c (A:=A) (l:=swp l 0 n) (s:=s) (g:=none);have c3:=hP_c (A:=A) (l:=popF l) (s:=s) (g:=none);rw [← e2] at h4;rw [e] at h3;rw [hn] at h1 h2 c1;rw [swp_len,hn] at c2;rw [el,hn] at c3
 have en:l.length - 1=n:=by omega
 have hn40:n<2^40:=by omega
 rw [en];clear hn en h0 hl el e2 e;generalize (popF l).getD n 0=x at *;generalize (popF l).take n=l' at *;generalize hP A l s none=X at *;generalize hP A (swp l 0 n) s none=Y at *;generalize hP A (popF l) s none=Z at *;refine .enterB 60 c_container_heap_Pop ?_;simp [c1];refine .rcall 60 h1 ?_;simp (disch:=omega) [c1];simp at h2 h3;refine .rcall 60 h2 ?_;simp (disch:=omega) [c2];refine .rcall 60 h3 ?_;simp (disch:=omega) [c3];refine .rcall 60 h4 ?_;simp
theorem Reach.ycall {P:Program} {fn:FuncId} {k:List It} {ds:List ADef} {kind:FK} {base:Nat} {up:List Fr} {h h':List Ob} {t:List AV} {d:Option Nat} {a:AO} {os:List AG} {l:Nat} {args:List AV} {v:AV} {C:AM.Cfg}
  (ha:aop P Γ t h a=.yield l args) (hb:AM.Reach P Γ ((Cal.yl l).cfg args (⟨.run,fn,.ops (⟨d,none,a⟩::os)::k,t,ds,kind,base⟩::up) h) (.back (⟨.run,fn,.ops (⟨d,none,a⟩::os)::k,t,ds,kind,base⟩::up) v h'))
  (hn:AM.Reach P Γ (.fr ⟨.run,fn,.ops os::k,setD t d v,ds,kind,base⟩ up h') C):AM.Reach P Γ (.fr ⟨.run,fn,.ops (⟨d,none,a⟩::os)::k,t,ds,kind,base⟩ up h) C:=by
 refine .goB 1 ?_;rw [go_op,ha];exact .trans hb (.trans (.pop _) hn)
theorem waitF_len1 (pl:List (Bs×Nat)):∀ (l:List Gt) (i:Nat) (nd b:List (List Nat)),(waitF pl l i nd b).1.length=nd.length+l.length
 | [],_,_,_=>by simp [waitF]
 | g::r,i,nd,b=>by rw [waitF,waitF_len1 pl r]; simp; omega
theorem waitF_len2 (pl:List (Bs×Nat)):∀ (l:List Gt) (i:Nat) (nd b:List (List Nat)),(waitF pl l i nd b).2.length=b.length
 | [],_,_,_=>by simp [waitF]
 | g::r,i,nd,b=>by rw [waitF,waitF_len2 pl r,byL_len]
theorem needsC_len (c:Ct):(needsC c).length=c.gates.length:=by rw [needsC,waitF_len1]; simp
theorem bysC_len (c:Ct):(bysC c).length=c.gates.length:=by rw [bysC,waitF_len2]; simp
def aC (c:Ct) (M:List Ob) (nd:List (List Nat)):List Ob:=hQ (hWait c M) nd (bysC c)++[.cells [.sl (M.length+7) 0 c.gates.length,.sl (M.length+8) 0 c.gates.length]]
def tC (c:Ct) (n:Nat) (nd:List (List Nat)):List Ob :=
 hWt c n (.sl (n+7) 0 c.gates.length) (.sl (n+8) 0 c.gates.length)++(hF (n+6) c.gates.length nd.length (bysC c)++((bysC c).map rowI++nd.map mapI))++[.cells [.sl (n+7) 0 c.gates.length,.sl (n+8) 0 c.gates.length]]
section
variable {c : Ct} {M : List Ob} {nd : List (List Nat)}
theorem aC_eq:aC c M nd=M++tC c M.length nd:=by
 have hl:(M++hWt c M.length (.sl (M.length+7) 0 c.gates.length) (.sl (M.length+8) 0 c.gates.length)).length=M.length+6:=by simp [hWt]
 simp only [aC,hQ,tC,hWait,hl,bysC_len,List.append_assoc]
theorem aC_len (hn:nd.length=c.gates.length):(aC c M nd).length=M.length+(10+(c.gates.length+c.gates.length)):=by
 simp [aC,hQ_len,hWait_len,bysC_len,hn]; omega
theorem aC_lt {i:Nat} (h:i<(hQ (hWait c M) nd (bysC c)).length):(aC c M nd)[i]? = (hQ (hWait c M) nd (bysC c))[i]? := by rw [aC,List.getElem?_append_left h]
theorem aC_w (hn:nd.length=c.gates.length):(aC c M nd)[M.length+(9+(c.gates.length+c.gates.length))]? = some (.cells [.sl (M.length+7) 0 c.gates.length,.sl (M.length+8) 0 c.gates.length]):=by
 have hl:(hQ (hWait c M) nd (bysC c)).length=M.length+(9+(c.gates.length+c.gates.length)):=by rw [hQ_len,hWait_len,bysC_len,hn]; omega
 rw [aC,List.getElem?_append_right (by omega),hl,Nat.sub_self]; rfl
theorem aC_n (hn:nd.length=c.gates.length):(aC c M nd)[M.length+7]? = some (.row 1 t_map_int_bool_2 (needE (M.length+6) c.gates.length c.gates.length) none (decide (c.gates.length=0)) false):=by
 have h:=hQ_n (H:=hWait c M) (nd:=nd) (b:=bysC c);rw [hWait_len,bysC_len,hn] at h
 rw [aC_lt (by rw [hQ_len,hWait_len]; omega)]; exact h
theorem aC_b:(aC c M nd)[M.length+8]? = some (.row 1 t_int_2 (byE (M.length+6) (bysC c)) none (decide (c.gates.length=0)) false):=by
 have h:=hQ_b (H:=hWait c M) (nd:=nd) (b:=bysC c);rw [hWait_len,bysC_len] at h
 rw [aC_lt (by rw [hQ_len,hWait_len]; omega)]; exact h
theorem aC_r {k:Nat} (hk:k<c.gates.length):(aC c M nd)[M.length+(9+k)]? = some (rowI ((bysC c).getD k [])):=by
 have h:=hQ_r (H:=hWait c M) (nd:=nd) (b:=bysC c) (k:=k) (by rw [bysC_len]; exact hk);rw [hWait_len] at h
 rw [aC_lt (by rw [hQ_len,hWait_len,bysC_len]; omega),show M.length+(9+k)=M.length+6+(3+k) by omega,h,List.getD_eq_getElem?_getD,List.getElem?_eq_getElem (by rw [bysC_len]; exact hk)]; rfl
theorem aC_m {i:Nat} (hn:nd.length=c.gates.length) (hi:i<c.gates.length):(aC c M nd)[M.length+(9+(c.gates.length+i))]? = some (mapI (nd.getD i [])):=by
 have h:=hQ_m (H:=hWait c M) (nd:=nd) (b:=bysC c) (i:=i) (by omega);rw [hWait_len,bysC_len] at h
 rw [aC_lt (by rw [hQ_len,hWait_len,bysC_len]; omega),show M.length+(9+(c.gates.length+i))=M.length+6+(3+(c.gates.length+i)) by omega,h,List.getD_eq_getElem?_getD,List.getElem?_eq_getElem (by omega)]; rfl
theorem aC_setm {i:Nat} (l:List Nat) (hn:nd.length=c.gates.length) (hi:i<c.gates.length):(aC c M nd).set (M.length+(9+(c.gates.length+i))) (mapI l)=aC c M (nd.set i l):=by
 have h:=hQ_setm (H:=hWait c M) (b:=bysC c) (nd:=nd) (i:=i) l (by omega);rw [hWait_len,bysC_len] at h;rw [aC,List.set_append_left _ _ (by rw [hQ_len,hWait_len,bysC_len]; omega),show M.length+(9+(c.gates.length+i))=M.length+6+(3+(c.gates.length+i)) by omega,h,aC]
theorem hWt_wf (c:Ct) {n m:Nat} (h:n+8<m):belH m (hWt c n (.sl (n+7) 0 c.gates.length) (.sl (n+8) 0 c.gates.length))=true:=by
 have h2:=bel_pl m (plM c)
 simp [hWt,h2]; omega
theorem aC_vld (hv:WfV M) {i m:Nat} (hi:M.length+(9+c.gates.length)≤i):vldH i m (aC c M nd)=true:=by
 have h1:=hv i m (by omega);have h2:=vld_pl i m (plM c)
 have h3:vldL i m (byE (M.length+6) (bysC c))=true:=vld_byE _ fun j hj he=>by rw [bysC_len] at hj; omega
 have h4:=vld_needE (n:=M.length+6) (N:=c.gates.length) (m:=nd.length) (i:=i) (q:=m);rw [aC_eq,vldH_append,tC,vldH_append,vldH_append,vldH_append,vldH_append,h1,vld_rows,vld_maps];simp [hWt,hF,h2,h3,h4];omega
theorem tC_vld {r m:Nat} (n:Nat) (hr:r<n):vldH r m (tC c n nd)=true:=by
 have h2:=vld_pl r m (plM c)
 have h3:vldL r m (byE (n+6) (bysC c))=true:=vld_byE _ fun j hj he=>by omega
 have h4:=vld_needE (n:=n+6) (N:=c.gates.length) (m:=nd.length) (i:=r) (q:=m);rw [tC,vldH_append,vldH_append,vldH_append,vldH_append,vld_rows,vld_maps];simp [hWt,hF,h2,h3,h4];omega
end
def delN (a:Nat) (l:List Nat):List Nat:=l.filter fun x=>decide (¬ x=a)
theorem del_cur (a:Nat):∀ {l:List Nat},l.Nodup→delIn (.sc .int) (.int .i64 a) (l.map eK)=some ((delN a l).map eK)
 | [],_=>rfl
 | b::l,h=>by
  simp only [List.nodup_cons] at h
  by_cases h2:a=b
  ·subst h2
   have h3:delN a l=l:=by
    unfold delN;rw [List.filter_eq_self];intro x hx
    exact decide_eq_true fun hn=>h.1 (hn▸hx)
   have h4:delN a (a::l)=l:=by rw [← h3]; simp [delN]
   simp only [List.map_cons,delIn,eq_nat,decide_true,h4]
  ·have h4:delN a (b::l)=b::delN a l:=by
    unfold delN;rw [List.filter_cons,if_pos (by simpa using fun h=>h2 h.symm)]
   simp only [List.map_cons,delIn,eq_nat,h2,decide_false,del_cur a h.2,Option.map_some,h4]
theorem delN_nodup (a:Nat) {l:List Nat} (h:l.Nodup):(delN a l).Nodup:=h.filter _
theorem pushF_len (l:List Nat) (x:Nat):(pushF l x).length=l.length+1:=by rw [pushF,upF_len]; simp
def initN (nd:List (List Nat)):Nat→Nat→List Nat→List Nat
 | 0,_,l=>l
 | m+1,i,l=>initN nd m (i+1) (if nd.getD i []=[] then pushF l i else l)
def relS (a:Nat):List Nat→List (List Nat)→List Nat→List Nat→List (List Nat)×List Nat×List Nat
 | [],nd,l,s=>(nd,l,s)
 | i::r,nd,l,s=>if delN a (nd.getD i [])=[] then relS a r (nd.set i (delN a (nd.getD i []))) (pushF l i) s.tail else relS a r (nd.set i (delN a (nd.getD i []))) l s
theorem r_unmark {A:List Ob} {l s:List Nat} (s0:List Nat) (hs:s=s0.tail) {f:Fr} {up:List Fr} (hb:f.base≤A.length) (hf:∀ m,vldF A.length m f=true) (hv:∀ m,vldH A.length m A=true) :
  AM.Reach Tryz.prog Γ (.fr f up (hP A l s (gP s0))) (.fr f up (hP A l s none)):=by
 unfold gP
 split
 ·rename_i h0
  have hs0:s=[]:=by rw [hs,h0]; rfl
  subst hs0
  have e:(hP A l [] (some 0)).set A.length (.row 1 t_int ((l++[]).map iN) none true false)=hP A l [] none:=by simp [hP]
  refine .resetTo (hP_r (A:=A) (l:=l) (s:=[]) (g:=some 0)) hb (hf _) (by
   rw [hP,vldH_append,hv]
   simp) ?_
  rw [e];exact .refl _
 ·exact .refl _
set_option maxRecDepth 8000 in
theorem r_cm14 (c:Ct) (hc:CtFew c) {M:List Ob} (hv:WfV M) (nd:List (List Nat)) (hn:nd.length=c.gates.length) (L:Nat) (p:AV) (up:List Fr):∀ m i:Nat,i+m=c.gates.length→∀ l:List Nat,l.length≤i →
  AM.Reach Tryz.prog Γ (yDF (.yld L) (.ptr (M.length+(9+(c.gates.length+c.gates.length))) 0) (.ptr (M.length+(11+(c.gates.length+c.gates.length))) 0) (.int .i64 c.gates.length) (.int .i64 i) (hP (aC c M nd) l [] none) ⟨[],.norm,M.length,up⟩)
   (yDG (.yld L) (.ptr (M.length+(9+(c.gates.length+c.gates.length))) 0) (.ptr (M.length+(11+(c.gates.length+c.gates.length))) 0) (hP (aC c M nd) (initN nd m i l) [] none) ⟨[],.norm,M.length,up⟩):=by
 have hN:=hc.2.2.2.1;intro m
 induction m with
 | zero =>
  intro i hi l hl
  have q1:¬ i<c.gates.length:=by omega
  rw [initN];generalize hP (aC c M nd) l [] none=X at *;refine .goS 60 ?_;simp [q1];exact .exit rfl rfl
 | succ m ih =>
  intro i hi l hl
  have q1:i<c.gates.length:=by omega
  have hAl:=aC_len (M:=M) hn;have xw:=hP_lo (A:=aC c M nd) (l:=l) (s:=[]) (g:=none) (i:=M.length+(9+(c.gates.length+c.gates.length))) (by omega);have xn:=hP_lo (A:=aC c M nd) (l:=l) (s:=[]) (g:=none) (i:=M.length+7) (by omega);have xm:=hP_lo (A:=aC c M nd) (l:=l) (s:=[]) (g:=none) (i:=M.length+(9+(c.gates.length+i))) (by omega);rw [aC_w hn] at xw;rw [aC_n hn] at xn;rw [aC_m hn q1,mapI] at xm;have yn:=needE_get (n:=M.length+6) (N:=c.gates.length) q1;rw [show M.length+6+(3+(c.gates.length+i))=M.length+(9+(c.gates.length+i)) by omega] at yn;have yl:=needE_len (n:=M.length+6) (N:=c.gates.length) (m:=c.gates.length) (Nat.le_refl _);have yt:List.take c.gates.length (needE (M.length+6) c.gates.length c.gates.length)=needE (M.length+6) c.gates.length c.gates.length:=List.take_of_length_le (by rw [yl]; exact Nat.le_refl _);obtain ⟨_,yn'⟩:=List.getElem?_eq_some_iff.1 yn;rw [initN]
  by_cases h0:nd.getD i []=[]
  ·have hh:=ih (i+1) (by omega) (pushF l i) (by rw [pushF_len]; omega);have hP':=r_Push (Γ:=Γ) (aC c M nd) l [] i (by omega) (by omega)
   have hun:=fun f hb hf=>r_unmark (Γ:=Γ) (l:=pushF l i) (s:=[]) [] rfl (f:=f) (up:=up) hb hf (fun m=>aC_vld hv (nd:=nd) (by rw [hAl]; omega))
   rw [hAl] at hun hP';rw [show M.length+(10+(c.gates.length+c.gates.length))+1=M.length+(11+(c.gates.length+c.gates.length)) by omega] at hP';rw [if_pos h0];rw [h0] at xm;generalize hP (aC c M nd) l [] none=X at *;generalize hP (aC c M nd) (pushF l i) [] none=Y at *;rw [List.tail_nil] at hP';generalize hP (aC c M nd) (pushF l i) [] (gP [])=Z at *;generalize needE (M.length+6) c.gates.length c.gates.length=E at *;refine .goS 60 ?_;simp (disch:=omega) [q1,xw,xn,xm,yn,yl,yt,yn'];refine .rcallM 1 60 hP' ?_;simp (disch:=omega);refine .trans (hun _ (by simp) (by intro m; simp; omega)) ?_;refine .reLoop ?_;simp at hh ⊢;exact hh
  ·have hh:=ih (i+1) (by omega) l (by omega);rw [if_neg h0]
   have xln:¬ (nd.getD i []).length=0:=by simpa using h0
   generalize nd.getD i []=z at *
   have e0:(((z.map eK).length:Nat):Int)=0↔False:=by simp; exact h0
   generalize hP (aC c M nd) l [] none=X at *;generalize needE (M.length+6) c.gates.length c.gates.length=E at *;refine .goS 60 ?_;simp (disch:=omega) [q1,xw,xn,xm,yn,yl,yt,yn',h0,xln];refine .reLoop ?_;simp at hh ⊢;exact hh
theorem hP_setlo {A:List Ob} {l s:List Nat} {g:Option Nat} {i:Nat} (h:i<A.length) (o:Ob):(hP A l s g).set i o=hP (A.set i o) l s g:=by
 rw [hP,List.set_append_left _ _ h,hP,List.length_set]
set_option maxRecDepth 8000 in
theorem r_cm1 (c:Ct) (hc:CtFew c) {M:List Ob} (hv:WfV M) (L a:Nat) (ha:a<c.gates.length) (hb:∀ i∈(bysC c).getD a [],i<c.gates.length) (up:List Fr):∀ m j:Nat,j+m=((bysC c).getD a []).length→∀ (nd:List (List Nat)) (l s:List Nat),nd.length=c.gates.length→(∀ x∈nd,x.Nodup)→l.length+m<2^38→j+m<2^38 →
  AM.Reach Tryz.prog Γ (yDA (.yld L) (.ptr (M.length+(9+(c.gates.length+c.gates.length))) 0) (.ptr (M.length+(11+(c.gates.length+c.gates.length))) 0) (.int .i64 a) (.sl (M.length+(9+a)) 0 ((bysC c).getD a []).length) (.int .i64 ((bysC c).getD a []).length) (.int .i64 j) (hP (aC c M nd) l s none) ⟨[],.norm,M.length,up⟩)
   (yDB (.yld L) (.ptr (M.length+(9+(c.gates.length+c.gates.length))) 0) (.ptr (M.length+(11+(c.gates.length+c.gates.length))) 0) (hP (aC c M (relS a (((bysC c).getD a []).drop j) nd l s).1) (relS a (((bysC c).getD a []).drop j) nd l s).2.1 (relS a (((bysC c).getD a []).drop j) nd l s).2.2 none) ⟨[],.norm,M.length,up⟩):=by
 have hN:=hc.2.2.2.1;intro m
 induction m with
 | zero =>
  intro j hj nd l s hn hd hl hj2
  have q1:¬ j<((bysC c).getD a []).length:=by omega
  rw [List.drop_eq_nil_of_le (by omega),relS];generalize (bysC c).getD a []=bs at *;generalize hP (aC c M nd) l s none=X at *;refine .goS 60 ?_;simp [q1];exact .exit rfl rfl
 | succ m ih =>
  intro j hj nd l s hn hd hl hj2;have xr:=hP_lo (A:=aC c M nd) (l:=l) (s:=s) (g:=none) (i:=M.length+(9+a)) (by rw [aC_len hn]; omega);rw [aC_r ha] at xr;generalize hbs:(bysC c).getD a []=bs at *
  have q1:j<bs.length:=by omega
  have hi:=hb _ (List.getElem_mem q1)
  have xi:(bs.map iN)[j]? = some (.int .i64 (bs[j]:Nat)):=by simp [q1]
  rw [List.drop_eq_getElem_cons q1,relS];generalize bs[j]=i at *;have hAl:=aC_len (M:=M) hn;have xw:=hP_lo (A:=aC c M nd) (l:=l) (s:=s) (g:=none) (i:=M.length+(9+(c.gates.length+c.gates.length))) (by omega);have xn:=hP_lo (A:=aC c M nd) (l:=l) (s:=s) (g:=none) (i:=M.length+7) (by omega);have xm:=hP_lo (A:=aC c M nd) (l:=l) (s:=s) (g:=none) (i:=M.length+(9+(c.gates.length+i))) (by omega);rw [aC_w hn] at xw;rw [aC_n hn] at xn;rw [aC_m hn hi,mapI] at xm;rw [rowI] at xr
  have hXl:(hP (aC c M nd) l s none).length=M.length+(12+(c.gates.length+c.gates.length)):=by rw [hP_len,hAl]; omega
  have xs:∀ o,((hP (aC c M nd) l s none).set (M.length+(9+(c.gates.length+i))) o)[M.length+(9+(c.gates.length+i))]? = some o:=fun o=>List.getElem?_set_self (by omega)
  clear hXl;have yn:=needE_get (n:=M.length+6) (N:=c.gates.length) hi;rw [show M.length+6+(3+(c.gates.length+i))=M.length+(9+(c.gates.length+i)) by omega] at yn;have yl:=needE_len (n:=M.length+6) (N:=c.gates.length) (m:=c.gates.length) (Nat.le_refl _);have yt:List.take c.gates.length (needE (M.length+6) c.gates.length c.gates.length)=needE (M.length+6) c.gates.length c.gates.length:=List.take_of_length_le (by rw [yl]; exact Nat.le_refl _);obtain ⟨_,yn'⟩:=List.getElem?_eq_some_iff.1 yn
  have hnd:(nd.getD i []).Nodup:=by
   rw [List.getD_eq_getElem?_getD,List.getElem?_eq_getElem (by omega)];exact hd _ (List.getElem_mem _)
  have dc:=del_cur a hnd
  have fin:(hP (aC c M nd) l s none).set (M.length+(9+(c.gates.length+i))) (.map ((delN a (nd.getD i [])).map eK) true)=hP (aC c M (nd.set i (delN a (nd.getD i [])))) l s none:=by
   rw [hP_setlo (by omega),← aC_setm _ hn hi]; rfl
  have hn2:(nd.set i (delN a (nd.getD i []))).length=c.gates.length:=by rw [List.length_set]; exact hn
  have hd2:∀ x∈nd.set i (delN a (nd.getD i [])),x.Nodup:=fun x hx=>by
   rcases List.mem_or_eq_of_mem_set hx with h1 | h1
   ·exact hd x h1
   ·rw [h1]; exact delN_nodup a hnd
  have hAl2:=aC_len (M:=M) hn2
  by_cases h0:delN a (nd.getD i [])=[]
  ·have hh:=ih (j+1) (by omega) (nd.set i (delN a (nd.getD i []))) (pushF l i) s.tail hn2 hd2 (by rw [pushF_len]; omega) (by omega);have hP':=r_Push (Γ:=Γ) (aC c M (nd.set i (delN a (nd.getD i [])))) l s i (by omega) (by omega)
   have hun:=fun f hb hf=>r_unmark (Γ:=Γ) (l:=pushF l i) (s:=s.tail) s rfl (f:=f) (up:=up) hb hf (fun m=>aC_vld hv (nd:=nd.set i (delN a (nd.getD i []))) (by rw [hAl2]; omega))
   rw [hAl2] at hun hP';rw [show M.length+(10+(c.gates.length+c.gates.length))+1=M.length+(11+(c.gates.length+c.gates.length)) by omega] at hP';rw [if_pos h0]
   have hlz:(delN a (nd.getD i [])).length=0:=by rw [h0]; rfl
   rw [h0] at dc fin;rw [h0] at hP' hun hh ⊢;generalize (relS a (bs.drop (j+1)) (nd.set i []) (pushF l i) s.tail)=R at *;generalize hP (aC c M nd) l s none=X at *;generalize hP (aC c M (nd.set i [])) l s none=Y at *;generalize hP (aC c M (nd.set i [])) (pushF l i) s.tail none=Z at *;generalize hP (aC c M (nd.set i [])) (pushF l i) s.tail (gP s)=W at *;generalize needE (M.length+6) c.gates.length c.gates.length=E at *;generalize hLz:nd.getD i []=z at *;refine .goS 60 ?_;simp (disch:=omega) [q1,xr,xi,xw,xn,xm,yn,yl,yt,yn',hi,dc,xs,isKey,allDatum,isDatum];simp at fin;rw [fin];refine .rcallM 1 60 hP' ?_;simp (disch:=omega);refine .trans (hun _ (by simp) (by intro m; simp; omega)) ?_;refine .reLoop ?_;simp at hh ⊢;exact hh
  ·have hh:=ih (j+1) (by omega) (nd.set i (delN a (nd.getD i []))) l s hn2 hd2 (by omega) (by omega);rw [if_neg h0]
   have xln:¬ (delN a (nd.getD i [])).length=0:=by simpa using h0
   generalize (relS a (bs.drop (j+1)) (nd.set i (delN a (nd.getD i []))) l s)=R at *;generalize hP (aC c M nd) l s none=X at *;generalize hP (aC c M (nd.set i (delN a (nd.getD i [])))) l s none=Y at *;generalize needE (M.length+6) c.gates.length c.gates.length=E at *;generalize delN a (nd.getD i [])=z' at *;generalize hLz:nd.getD i []=z at *;refine .goS 60 ?_;simp (disch:=omega) [q1,xr,xi,xw,xn,xm,yn,yl,yt,yn',hi,dc,xs,isKey,allDatum,isDatum,h0,xln];rw [fin];refine .reLoop ?_;simp at hh ⊢;exact hh
end Go.Proofs.YtpinapmcemimcaaGreatDoor
namespace Go.Proofs.YtpinapmcemimcaaGreatDoor
open Go.AM Go.Proofs
theorem swp_perm {l:List Nat} {i j:Nat} (hi:i<l.length) (hj:j<l.length):(swp l i j).Perm l:=by
 rw [List.perm_iff_count];intro a
 have e1:l.getD i 0=l[i]:=by rw [List.getD_eq_getElem?_getD,List.getElem?_eq_getElem hi]; rfl
 have e2:l.getD j 0=l[j]:=by rw [List.getD_eq_getElem?_getD,List.getElem?_eq_getElem hj]; rfl
 have e3:(l.set i l[j])[j]'(by simpa using hj)=l[j]:=by
  rw [List.getElem_set]; split <;> rfl
 rw [swp,e1,e2,List.count_set (by simpa using hj),List.count_set hi,e3]
 have hp:l[i]=a→0<l.count a:=fun h=>List.count_pos_iff.2 (h▸List.getElem_mem hi)
 by_cases h1:l[i]=a
 ·have:=hp h1
  by_cases h2:l[j]=a <;> simp [h1,h2] <;> omega
 ·by_cases h2:l[j]=a <;> simp [h1,h2]
theorem upF_perm (j:Nat):∀ l:List Nat,j<l.length→(upF l j).Perm l:=by
 induction j using Nat.strongRecOn with
 | _ j ih =>
  intro l hj;rw [upF]
  split
  ·exact .refl _
  ·split
   ·exact (ih _ (by omega) _ (by rw [swp_len]; omega)).trans (swp_perm (by omega) hj)
   ·exact .refl _
theorem downF_perm (n:Nat):∀ (m i:Nat) (l:List Nat),n - i≤m→n≤l.length→i<l.length→(downF n l i).1.Perm l:=by
 intro m
 induction m with
 | zero =>
  intro i l h hn hi;rw [downF,if_pos (by omega)]
 | succ m ih =>
  intro i l h hn hi;rw [downF]
  split
  ·exact .refl _
  ·split
   ·have:=kid_ge l (2*i+1) n;have:=kid_lt l (j:=2*i+1) (n:=n) (by omega);exact (ih _ _ (by omega) (by rw [swp_len]; omega) (by rw [swp_len]; omega)).trans (swp_perm hi (by omega))
   ·exact .refl _
theorem pushF_perm (l:List Nat) (x:Nat):(pushF l x).Perm (x::l):=(upF_perm _ _ (by simp)).trans List.perm_append_comm
def headP (l:List Nat):Nat:=(popF l).getD (l.length - 1) 0
def restP (l:List Nat):List Nat:=(popF l).take (l.length - 1)
theorem popF_perm {l:List Nat} (h:0<l.length):(popF l).Perm l:=by
 rw [popF];exact (downF_perm _ _ _ _ (Nat.le_refl _) (by rw [swp_len]; omega) (by rw [swp_len]; omega)).trans (swp_perm h (by omega))
theorem popF_split {l:List Nat} (h:0<l.length):popF l=restP l++[headP l]:=by
 have hl:=popF_len l
 have hlt:l.length - 1<(popF l).length:=by omega
 have h5:(popF l).getD (l.length - 1) 0=(popF l)[l.length - 1]:=by rw [List.getD_eq_getElem?_getD,List.getElem?_eq_getElem hlt]; rfl
 rw [headP,restP,h5]
 conv=>lhs; rw [← List.take_append_drop (l.length - 1) (popF l)]
 congr 1;rw [List.drop_eq_getElem_cons hlt,List.drop_eq_nil_of_le (by omega)]
theorem head_rest {l:List Nat} (h:0<l.length):(headP l::restP l).Perm l:=by
 have:=popF_perm h;rw [popF_split h] at this;exact List.perm_append_comm.symm.trans this
theorem restP_len (l:List Nat):(restP l).length=l.length - 1:=by rw [restP,List.length_take,popF_len]; omega
def HeapN (n:Nat) (l:List Nat):Prop:=∀ k,0<k→k<n→l.getD ((k - 1) / 2) 0≤l.getD k 0
theorem swp_get {l:List Nat} {i j:Nat} (hi:i<l.length) (hj:j<l.length) (k:Nat):(swp l i j).getD k 0=if k=j then l.getD i 0 else if k=i then l.getD j 0 else l.getD k 0:=by
 simp only [swp,List.getD_eq_getElem?_getD,List.getElem?_set,List.length_set]
 by_cases h1:j=k
 ·subst h1; simp [hj]
 ·have h1':¬ k=j:=fun h=>h1 h.symm
  by_cases h2:i=k
  ·subst h2; simp [h1,h1',hi]
  ·have h2':¬ k=i:=fun h=>h2 h.symm
   simp [h1,h1',h2,h2']
theorem upF_heap (j:Nat):∀ l:List Nat,j<l.length→(∀ k,0<k→k<l.length→k≠j→l.getD ((k - 1) / 2) 0≤l.getD k 0)→(0<j→∀ k,k<l.length→0<k→(k - 1) / 2=j→l.getD ((j - 1) / 2) 0≤l.getD k 0)→HeapN l.length (upF l j):=by
 induction j using Nat.strongRecOn with
 | _ j ih =>
  intro l hj h1 h2;rw [upF]
  split
  ·rename_i h0;intro k hk hkl;exact h1 k hk hkl (by omega)
  ·rename_i h0
   have hpl:(j - 1) / 2<l.length:=by omega
   split
   ·rename_i hlt;have hs:=swp_get hpl hj
    have key:HeapN (swp l ((j - 1) / 2) j).length (upF (swp l ((j - 1) / 2) j) ((j - 1) / 2)):=by
     refine ih _ (by omega) _ (by rw [swp_len]; exact hpl) (fun k hk hkl hkp => ?_) (fun hp k hkl hk hkp => ?_)
     ·rw [swp_len] at hkl;rw [hs,hs]
      have hq:¬ (k - 1) / 2=j∨(k - 1) / 2=j:=by omega
      by_cases hkj:k=j
      ·subst hkj;rw [if_neg (by omega),if_pos rfl,if_pos rfl];omega
      ·rw [if_neg hkj,if_neg hkp];have hk1:=h1 k hk hkl hkj
       by_cases hc:(k - 1) / 2=j
       ·rw [if_pos hc];exact h2 (by omega) k hkl hk hc
       ·rw [if_neg hc]
        by_cases hd:(k - 1) / 2=(j - 1) / 2
        ·rw [if_pos hd]
         rw [hd] at hk1; omega
        ·rw [if_neg hd]; exact hk1
     ·rw [swp_len] at hkl;rw [hs,hs,if_neg (by omega),if_neg (by omega)];have hpp:=h1 ((j - 1) / 2) hp hpl (by omega)
      by_cases hkj:k=j
      ·rw [if_pos hkj]; exact hpp
      ·rw [if_neg hkj,if_neg (by omega)];have hk1:=h1 k hk hkl hkj
       rw [hkp] at hk1; omega
    rw [swp_len] at key;exact key
   ·rename_i hge;intro k hk hkl
    by_cases hkj:k=j
    ·subst hkj; omega
    ·exact h1 k hk hkl hkj
theorem pushF_heap {l:List Nat} (h:HeapN l.length l) (x:Nat):HeapN (pushF l x).length (pushF l x):=by
 have e:(pushF l x).length=(l++[x]).length:=by rw [pushF_len]; simp
 have g:∀ k,k<l.length→(l++[x]).getD k 0=l.getD k 0:=fun k hk=>by simp [List.getElem?_append_left hk]
 rw [e,pushF];refine upF_heap _ _ (by simp) (fun k hk hkl hkj => ?_) (fun hj k hkl hk hkp => ?_)
 ·simp only [List.length_append,List.length_singleton] at hkl;rw [g _ (by omega),g _ (by omega)];exact h k hk (by omega)
 ·simp only [List.length_append,List.length_singleton] at hkl;omega
theorem downF_heap (n:Nat):∀ (m i:Nat) (l:List Nat),n - i≤m→n≤l.length→i<l.length→(∀ k,0<k→k<n→(k - 1) / 2≠i→l.getD ((k - 1) / 2) 0≤l.getD k 0)→(0<i→∀ k,k<n→0<k→(k - 1) / 2=i→l.getD ((i - 1) / 2) 0≤l.getD k 0)→HeapN n (downF n l i).1:=by
 intro m
 induction m with
 | zero =>
  intro i l h hn hi h1 h2;rw [downF,if_pos (by omega)];intro k hk hkn;exact h1 k hk hkn (by omega)
 | succ m ih =>
  intro i l h hn hi h1 h2;rw [downF]
  split
  ·intro k hk hkn;exact h1 k hk hkn (by omega)
  ·rename_i hc;have kg:=kid_ge l (2*i+1) n;have kl:=kid_lt l (j:=2*i+1) (n:=n) (by omega)
   have kk:kidF l (2*i+1) n=2*i+1∨kidF l (2*i+1) n=2*i+2:=by unfold kidF; split <;> omega
   have least:∀ k,k<n→0<k→(k - 1) / 2=i→l.getD (kidF l (2*i+1) n) 0≤l.getD k 0:=by
    intro k hkn hk hkp
    have hk2:k=2*i+1∨k=2*i+1+1:=by omega
    unfold kidF
    split
    ·rename_i hh
     rcases hk2 with rfl | rfl
     ·omega
     ·exact Nat.le_refl _
    ·rename_i hh
     rcases hk2 with rfl | rfl
     ·exact Nat.le_refl _
     ·have:¬ l.getD (2*i+1+1) 0<l.getD (2*i+1) 0:=fun h=>hh ⟨hkn,h⟩
      omega
   generalize kidF l (2*i+1) n=j at *
   have hjl:j<l.length:=by omega
   have hs:=swp_get hi hjl
   split
   ·rename_i hlt;refine ih _ _ (by omega) (by rw [swp_len]; exact hn) (by rw [swp_len]; exact hjl) (fun k hk hkn hkp => ?_) (fun hp k hkn hk hkp => ?_)
    ·rw [hs,hs,if_neg hkp]
     by_cases hkj:k=j
     ·subst hkj;rw [if_pos rfl,if_pos (by omega)];omega
     ·rw [if_neg hkj]
      by_cases hci:(k - 1) / 2=i
      ·rw [if_pos hci,if_neg (by omega)];exact least k hkn hk hci
      ·rw [if_neg hci];have hk1:=h1 k hk hkn hci
       by_cases hki:k=i
       ·rw [if_pos hki];subst hki;exact h2 hk j kl (by omega) (by omega)
       ·rw [if_neg hki]; exact hk1
    ·rw [hs,hs]
     have hpi:(j - 1) / 2=i:=by omega
     have hjne:¬ i=j:=by omega
     rw [hpi,if_neg hjne,if_pos rfl,if_neg (by omega),if_neg (by omega)];have:=h1 k hk hkn (by omega)
     rw [hkp] at this; exact this
   ·rename_i hge;intro k hk hkn
    by_cases hci:(k - 1) / 2=i
    ·have:=least k hkn hk hci
     show l.getD ((k - 1) / 2) 0≤l.getD k 0
     rw [hci]; omega
    ·exact h1 k hk hkn hci
theorem heap_root {n:Nat} {l:List Nat} (h:HeapN n l):∀ k,k<n→l.getD 0 0≤l.getD k 0:=by
 intro k
 induction k using Nat.strongRecOn with
 | _ k ih =>
  intro hk
  by_cases h0:k=0
  ·subst h0; exact Nat.le_refl _
  ·have h1:=h k (by omega) hk;have h2:=ih ((k - 1) / 2) (by omega) (by omega);omega
theorem restP_heap {l:List Nat} (h:HeapN l.length l) (h0:0<l.length):HeapN (restP l).length (restP l):=by
 have hs:=swp_get (l:=l) (i:=0) (j:=l.length - 1) h0 (by omega)
 have hd:HeapN (l.length - 1) (popF l):=by
  rw [popF];refine downF_heap _ _ 0 _ (Nat.le_refl _) (by rw [swp_len]; omega) (by rw [swp_len]; omega) (fun k hk hkn hkp => ?_) (fun hp=>absurd hp (by omega));rw [hs,hs,if_neg (by omega),if_neg hkp,if_neg (by omega),if_neg (by omega)];exact h k hk (by omega)
 have hl:=popF_len l
 have g:∀ k,k<l.length - 1→(restP l).getD k 0=(popF l).getD k 0:=fun k hk=>by
  rw [restP];simp only [List.getD_eq_getElem?_getD];rw [List.getElem?_take_of_lt hk]
 rw [restP_len];intro k hk hkn;rw [g _ (by omega),g _ hkn];exact hd k hk hkn
theorem headP_eq {l:List Nat} (h0:0<l.length):headP l=l.getD 0 0:=by
 have hs:=swp_get (l:=l) (i:=0) (j:=l.length - 1) h0 (by omega)
 have keep:∀ (n m i:Nat) (x:List Nat),n - i≤m→n<x.length→i≤n→(i<x.length)→(i<n∨n=0)→(downF n x i).1.getD n 0=x.getD n 0:=by
  intro n m
  induction m with
  | zero =>
   intro i x h1 h2 h3 h4 h5;rw [downF,if_pos (by omega)]
  | succ m ih =>
   intro i x h1 h2 h3 h4 h5;rw [downF]
   split
   ·rfl
   ·rename_i hc;have kg:=kid_ge x (2*i+1) n;have kl:=kid_lt x (j:=2*i+1) (n:=n) (by omega);generalize kidF x (2*i+1) n=j at *
    split
    ·rw [ih j _ (by omega) (by rw [swp_len]; exact h2) (by omega) (by rw [swp_len]; omega) (by omega),swp_get h4 (by omega),if_neg (by omega),if_neg (by omega)]
    ·rfl
 rw [headP,popF,keep _ _ 0 _ (Nat.le_refl _) (by rw [swp_len]; omega) (by omega) (by rw [swp_len]; omega) (by omega),hs,if_pos rfl]
theorem headP_le {l:List Nat} (h:HeapN l.length l) (h0:0<l.length) {x:Nat} (hx:x∈l):headP l≤x:=by
 rw [headP_eq h0];obtain ⟨k,hk,rfl⟩:=List.getElem_of_mem hx;have:=heap_root h k hk;rw [List.getD_eq_getElem?_getD (i:=k),List.getElem?_eq_getElem hk] at this;exact this
end Go.Proofs.YtpinapmcemimcaaGreatDoor
namespace Go.Proofs.YtpinapmcemimcaaGreatDoor
open Go.AM Go.Proofs
variable {Γ : Nat → Option AV}
def comeL (b:List (List Nat)):Nat→List (List Nat)→List Nat→List Nat→List Nat
 | 0,_,_,_=>[]
 | f+1,nd,l,s=>if l=[] then [] else
  headP l::comeL b f (relS (headP l) (b.getD (headP l) []) nd (restP l) (headP l::s)).1 (relS (headP l) (b.getD (headP l) []) nd (restP l) (headP l::s)).2.1 (relS (headP l) (b.getD (headP l) []) nd (restP l) (headP l::s)).2.2
def comeE (b:List (List Nat)):Nat→List (List Nat)→List Nat→List Nat→Prop
 | 0,_,l,_=>l=[]
 | f+1,nd,l,s=>l=[]∨comeE b f (relS (headP l) (b.getD (headP l) []) nd (restP l) (headP l::s)).1 (relS (headP l) (b.getD (headP l) []) nd (restP l) (headP l::s)).2.1 (relS (headP l) (b.getD (headP l) []) nd (restP l) (headP l::s)).2.2
theorem relS_ok (a N:Nat):∀ (r:List Nat) (nd:List (List Nat)) (l s:List Nat),(∀ i∈r,i<N)→nd.length=N→(∀ x∈nd,x.Nodup)→(∀ x∈l,x<N) →
  (relS a r nd l s).1.length=N∧(∀ x∈(relS a r nd l s).1,x.Nodup)∧(∀ x∈(relS a r nd l s).2.1,x<N)∧(relS a r nd l s).2.1.length≤l.length+r.length
 | [],nd,l,s,_,h2,h3,h4=>⟨h2,h3,h4,by simp [relS]⟩
 | i::r,nd,l,s,h1,h2,h3,h4=>by
  have hi:=h1 i (by simp)
  have hn:(nd.set i (delN a (nd.getD i []))).length=N:=by simpa using h2
  have hd:∀ x∈nd.set i (delN a (nd.getD i [])),x.Nodup:=fun x hx=>by
   rcases List.mem_or_eq_of_mem_set hx with h5 | h5
   ·exact h3 x h5
   ·rw [h5];refine delN_nodup a ?_;rw [List.getD_eq_getElem?_getD,List.getElem?_eq_getElem (by omega)];exact h3 _ (List.getElem_mem _)
  rw [relS]
  split
  ·have:=relS_ok a N r _ (pushF l i) s.tail (fun x hx=>h1 x (by simp [hx])) hn hd (fun x hx=>by
    have:=(pushF_perm l i).mem_iff.1 hx
    rcases List.mem_cons.1 this with rfl | h6
    ·exact hi
    ·exact h4 x h6)
   rw [pushF_len] at this;refine ⟨this.1,this.2.1,this.2.2.1,?_⟩;have:=this.2.2.2
   simp only [List.length_cons]; omega
  ·have:=relS_ok a N r _ l s (fun x hx=>h1 x (by simp [hx])) hn hd h4;refine ⟨this.1,this.2.1,this.2.2.1,?_⟩;have:=this.2.2.2
   simp only [List.length_cons]; omega
set_option maxRecDepth 8000 in
theorem r_cm0 (c:Ct) (hc:CtFew c) (hbL:∀ x∈bysC c,x.length≤2^21∧∀ i∈x,i<c.gates.length) {S:Type} (M:S→List Ob) (F:S→Nat→S) (n L r:Nat) (hM:∀ x,(M x).length=n) (hv:∀ x,WfV (M x)) (hr:r<n) (I:S→Nat→Prop) (hI:∀ x k a,I x k→a<c.gates.length→I (F x a) (k+1))
  (hB:∀ x k a T up,I x k→k<2^20→a<c.gates.length→(∀ m,up.all (vldF r m)=true)→(∀ m,vldH r m T=true)→AM.Reach Tryz.prog Γ ((Cal.yl L).cfg [.int .i64 a] up (M x++T)) (.back up (.bool true) (M (F x a)++T)))
  (up:List Fr) (hup:∀ m,up.all (vldF r m)=true):∀ (f:Nat) (x:S) (k:Nat) (nd:List (List Nat)) (l s:List Nat),nd.length=c.gates.length→(∀ x∈nd,x.Nodup)→(∀ a∈l,a<c.gates.length)→l.length+f*2^22≤2^37→I x k→k+f≤2^20→comeE (bysC c) f nd l s →
  ∃ T,AM.Reach Tryz.prog Γ (yDD (.yld L) (.ptr (n+(9+(c.gates.length+c.gates.length))) 0) (.ptr (n+(11+(c.gates.length+c.gates.length))) 0) (hP (aC c (M x) nd) l s none) ⟨[],.norm,n,up⟩)
   (.back up (.tup []) (M ((comeL (bysC c) f nd l s).foldl F x)++T)):=by
 have stop:∀ (x:S) (nd:List (List Nat)) (s:List Nat),nd.length=c.gates.length→∃ T,AM.Reach Tryz.prog Γ (yDD (.yld L) (.ptr (n+(9+(c.gates.length+c.gates.length))) 0) (.ptr (n+(11+(c.gates.length+c.gates.length))) 0) (hP (aC c (M x) nd) [] s none) ⟨[],.norm,n,up⟩)
   (.back up (.tup []) (M x++T)):=by
  intro x nd s hn;have hAl:=aC_len (M:=M x) hn;rw [hM] at hAl;have xc:=hP_c (A:=aC c (M x) nd) (l:=[]) (s:=s) (g:=none);have h1:=r_Len (Γ:=Γ) (aC c (M x) nd) [] s none (.inl rfl)
  have he:hP (aC c (M x) nd) [] s none=M x++(tC c n nd++[.row 1 t_int (s.map iN) none true false,.cells [.sl (n+(10+(c.gates.length+c.gates.length))) 0 0]]):=by
   rw [hP,hAl]
   conv=>lhs; rw [aC_eq,hM]
   simp
  rw [hAl,show n+(10+(c.gates.length+c.gates.length))+1=n+(11+(c.gates.length+c.gates.length)) by omega] at xc;rw [hAl] at h1;refine ⟨tC c n nd++[.row 1 t_int (s.map iN) none true false,.cells [.sl (n+(10+(c.gates.length+c.gates.length))) 0 0]],?_⟩;rw [← he];generalize hP (aC c (M x) nd) [] s none=X at *;simp at xc h1;refine .goB 60 ?_;simp [xc];refine .rcall 60 h1 ?_;simp
 intro f
 induction f with
 | zero =>
  intro x k nd l s hn hd hl hb hIx hk hE;rw [comeE] at hE;subst hE;rw [comeL];exact stop x nd s hn
 | succ f ih =>
  intro x k nd l s hn hd hl hb hIx hk hE;rw [comeL]
  by_cases h0:l=[]
  ·subst h0;rw [if_pos rfl];exact stop x nd s hn
  ·rw [comeE] at hE;have hE:=hE.resolve_left h0;rw [if_neg h0];have hpos:0<l.length:=List.length_pos_iff.2 h0;have hhr:=head_rest hpos;have ha:headP l<c.gates.length:=hl _ (hhr.mem_iff.1 (by simp))
   have hrl:∀ y∈restP l,y<c.gates.length:=fun y hy=>hl _ (hhr.mem_iff.1 (by simp [hy]))
   have hbm:(bysC c).getD (headP l) []∈bysC c:=by
    rw [List.getD_eq_getElem?_getD,List.getElem?_eq_getElem (by rw [bysC_len]; exact ha)];exact List.getElem_mem _
   obtain ⟨hb1,hb2⟩:=hbL _ hbm;have hok:=relS_ok (headP l) c.gates.length ((bysC c).getD (headP l) []) nd (restP l) (headP l::s) hb2 hn hd hrl;have hrest:=restP_len l
   have h3:=fun M' hv'=>r_cm1 (Γ:=Γ) c hc (M:=M') hv' L (headP l) ha hb2 up ((bysC c).getD (headP l) []).length 0 (by omega) nd (restP l) (headP l::s) hn hd (by omega) (by omega)
   obtain ⟨T,hT⟩:=ih (F x (headP l)) (k+1) _ _ _ hok.1 hok.2.1 hok.2.2.1 (by have:=hok.2.2.2; omega) (hI x k _ hIx ha) (by omega) hE;refine ⟨T,?_⟩;have hAl:=aC_len (M:=M x) hn;have hAl2:=aC_len (M:=M (F x (headP l))) hn;rw [hM] at hAl hAl2;have h3':=h3 (M (F x (headP l))) (hv _);rw [List.drop_zero,hM] at h3';have xc:=hP_c (A:=aC c (M x) nd) (l:=l) (s:=s) (g:=none);have h1:=r_Len (Γ:=Γ) (aC c (M x) nd) l s none (.inl rfl);have h2:=r_Pop (Γ:=Γ) (aC c (M x) nd) l s hpos (by omega);rw [hAl] at xc h1 h2;rw [show n+(10+(c.gates.length+c.gates.length))+1=n+(11+(c.gates.length+c.gates.length)) by omega] at xc h2;rw [show (popF l).getD (l.length - 1) 0=headP l from rfl,show (popF l).take (l.length - 1)=restP l from rfl] at h2
   let T2:List Ob:=tC c n nd++[.row 1 t_int ((restP l++headP l::s).map iN) none true false,.cells [.sl (n+(10+(c.gates.length+c.gates.length))) 0 (restP l).length]]
   have he:∀ y,hP (aC c (M y) nd) (restP l) (headP l::s) none=M y++T2:=fun y=>by
    have hy:=aC_len (M:=M y) hn;rw [hM] at hy;rw [hP,hy]
    conv=>lhs; rw [aC_eq,hM]
    simp [T2]
   have hTv:∀ m,vldH r m T2=true:=fun m=>by
    have hne:(n+(10+(c.gates.length+c.gates.length))==r)=false:=by simp; omega
    rw [show T2=tC c n nd++[.row 1 t_int ((restP l++headP l::s).map iN) none true false,.cells [.sl (n+(10+(c.gates.length+c.gates.length))) 0 (restP l).length]] from rfl,vldH_append,tC_vld n hr];simp [hne]
   have hbody:=fun up hup=>hB x k (headP l) T2 up hIx (by omega) ha hup hTv
   rw [← he,← he] at hbody
   have hlp:(0:Int)<l.length:=by omega
   have xw:=hP_lo (A:=aC c (M (F x (headP l))) nd) (l:=restP l) (s:=headP l::s) (g:=none) (i:=n+(9+(c.gates.length+c.gates.length))) (by omega);have xb:=hP_lo (A:=aC c (M (F x (headP l))) nd) (l:=restP l) (s:=headP l::s) (g:=none) (i:=n+8) (by omega);have w1:=aC_w (M:=M (F x (headP l))) hn;have w2:=aC_b (c:=c) (M:=M (F x (headP l))) (nd:=nd);rw [hM] at w1 w2;rw [w1] at xw;rw [w2] at xb;have yb:=byE_get (n:=n+6) (b:=bysC c) (k:=headP l) (by rw [bysC_len]; exact ha)
   have egd:(bysC c)[headP l]'(by rw [bysC_len]; exact ha)=(bysC c).getD (headP l) []:=by rw [List.getD_eq_getElem?_getD,List.getElem?_eq_getElem (by rw [bysC_len]; exact ha)]; rfl
   rw [egd,show n+6+(3+headP l)=n+(9+headP l) by omega] at yb;have zl:=byE_len (n+6) (bysC c);rw [bysC_len] at zl;have zt:List.take c.gates.length (byE (n+6) (bysC c))=byE (n+6) (bysC c):=List.take_of_length_le (by rw [zl]; exact Nat.le_refl _);obtain ⟨_,yb'⟩:=List.getElem?_eq_some_iff.1 yb;generalize hRR:relS (headP l) ((bysC c).getD (headP l) []) nd (restP l) (headP l::s)=R at *;have hfold:(headP l::comeL (bysC c) f R.1 R.2.1 R.2.2).foldl F x=(comeL (bysC c) f R.1 R.2.1 R.2.2).foldl F (F x (headP l)):=rfl;rw [hfold];clear hfold he hTv h3 hok w1 w2;generalize hP (aC c (M x) nd) l s none=X at *;generalize hP (aC c (M x) nd) (restP l) (headP l::s) none=Y at *;generalize hP (aC c (M (F x (headP l))) nd) (restP l) (headP l::s) none=Z at *;generalize hP (aC c (M (F x (headP l))) R.1) R.2.1 R.2.2 none=W at *;generalize byE (n+6) (bysC c)=E at *;generalize (bysC c).getD (headP l) []=bs at *
   generalize headP l=a at *;refine .goB 60 ?_;simp [xc];refine .rcall 60 h1 ?_;simp [hpos];refine .rcall 8 h2 ?_;simp;refine Reach.ycall (l:=L) (args:=[.int .i64 a]) (v:=.bool true) (h':=Z) (by simp) (hbody _ (fun m=>by simp [hup m]; omega)) ?_;refine .goB 60 ?_;simp [xw,xb,yb,yb',zl,zt,ha];refine .inLoop ?_;simp at h3' ⊢;refine .trans h3' ?_;refine .goB 60 ?_;simp;refine .reLoop ?_;simp at hT ⊢;exact hT
theorem initN_ok (nd:List (List Nat)) (N:Nat):∀ (m i:Nat) (l:List Nat),i+m=N→(∀ a∈l,a<N)→(∀ a∈initN nd m i l,a<N)∧(initN nd m i l).length≤l.length+m
 | 0,i,l,h,hl=>⟨hl,by simp [initN]⟩
 | m+1,i,l,h,hl=>by
  rw [initN]
  split
  ·have:=initN_ok nd N m (i+1) (pushF l i) (by omega) (fun a ha=>by
    rcases List.mem_cons.1 ((pushF_perm l i).mem_iff.1 ha) with rfl | h1
    ·omega
    ·exact hl a h1)
   rw [pushF_len] at this;exact ⟨this.1,by omega⟩
  ·have:=initN_ok nd N m (i+1) l (by omega) hl;exact ⟨this.1,by omega⟩
theorem needL_nodup (pl:List (Bs×Nat)):∀ (l:List Bs) (a:List Nat),a.Nodup→(needL pl l a).Nodup
 | [],a,h=>h
 | s::r,a,h=>by
  rw [needL]
  split
  ·exact needL_nodup pl r a h
  ·refine needL_nodup pl r _ ?_
   split
   ·exact h
   ·rename_i k _ hk;rw [List.nodup_append];refine ⟨h,by simp,fun x hx y hy => ?_⟩;simp only [List.mem_singleton] at hy;subst hy
    exact fun he=>hk (he▸hx)
theorem waitF_nodup (pl:List (Bs×Nat)):∀ (l:List Gt) (i:Nat) (nd b:List (List Nat)),(∀ x∈nd,x.Nodup)→∀ x∈(waitF pl l i nd b).1,x.Nodup
 | [],_,_,_,h=>h
 | g::r,i,nd,b,h=>by
  rw [waitF]
  refine waitF_nodup pl r _ _ _ fun x hx => ?_
  rcases List.mem_append.1 hx with h1 | h1
  ·exact h x h1
  ·rw [List.mem_singleton] at h1
   rw [h1]; exact needL_nodup pl _ _ (by simp)
theorem needsC_nodup (c:Ct):∀ x∈needsC c,x.Nodup:=waitF_nodup _ _ _ _ _ (by simp)
theorem byL_mem (pl:List (Bs×Nat)) (i:Nat):∀ (l:List Bs) (a:List Nat) (b:List (List Nat)),∀ x∈byL pl i l a b,∀ y∈x,y=i∨∃ z∈b,y∈z
 | [],_,_,x,hx,y,hy=>.inr ⟨x,hx,hy⟩
 | s::r,a,b,x,hx,y,hy=>by
  rw [byL] at hx
  split at hx
  ·exact byL_mem pl i r a b x hx y hy
  ·rename_i k _
   rcases byL_mem pl i r _ _ x hx y hy with h | ⟨z,hz,hyz⟩
   ·exact .inl h
   ·split at hz
    ·exact .inr ⟨z,hz,hyz⟩
    ·rcases List.mem_or_eq_of_mem_set hz with h1 | h1
     ·exact .inr ⟨z,h1,hyz⟩
     ·rw [h1] at hyz
      rcases List.mem_append.1 hyz with h2 | h2
      ·by_cases hk:k<b.length
       ·rw [List.getD_eq_getElem?_getD,List.getElem?_eq_getElem hk] at h2;exact .inr ⟨_,List.getElem_mem hk,h2⟩
       ·rw [List.getD_eq_getElem?_getD,List.getElem?_eq_none (by omega)] at h2;simp at h2
      ·exact .inl (by simpa using h2)
theorem waitF_bnd (pl:List (Bs×Nat)):∀ (l:List Gt) (i N B:Nat) (nd b:List (List Nat)),(∀ g∈l,g.ins.length<2^10)→i+l.length=N→(∀ x∈b,x.length≤B∧∀ y∈x,y<N)→∀ x∈(waitF pl l i nd b).2,x.length≤B+l.length*2^10∧∀ y∈x,y<N
 | [],_,_,_,_,_,_,_,h=>fun x hx=>by simpa using h x hx
 | g::r,i,N,B,nd,b,hg,hN,h=>fun x hx=>by
  rw [waitF] at hx;simp only [List.length_cons] at hN ⊢;have hb:=byL_bnd pl i B g.ins [] b (fun x hx=>(h x hx).1)
  have:=waitF_bnd pl r (i+1) N (B+2^10) _ _ (fun y hy=>hg y (by simp [hy])) (by omega) (fun y hy=>by
   have:=hb y hy;have:=hg g (by simp);refine ⟨by omega,fun z hz => ?_⟩
   rcases byL_mem pl i g.ins [] b y hy z hz with h1 | ⟨w,hw,hzw⟩
   ·omega
   ·exact (h w hw).2 z hzw) x hx
  rw [Nat.succ_mul];exact ⟨by omega,this.2⟩
theorem bysC_bnd {c:Ct} (hc:CtFew c):∀ x∈bysC c,x.length≤2^21∧∀ i∈x,i<c.gates.length:=fun x hx=>by
 have hN:=hc.2.2.2.1
 have:=waitF_bnd (plM c) c.gates 0 c.gates.length 0 [] (List.replicate c.gates.length []) (fun g hg=>(hc.2.2.2.2.1 g hg).2.1) (by omega) (fun y hy=>by
  rw [List.mem_replicate] at hy
  rw [hy.2]; simp) x hx
 exact ⟨by omega,this.2⟩
def comeC (c:Ct) (f:Nat):List Nat:=comeL (bysC c) f (needsC c) (initN (needsC c) c.gates.length 0 []) []
def endC (c:Ct) (f:Nat):Prop:=comeE (bysC c) f (needsC c) (initN (needsC c) c.gates.length 0 []) []
theorem aC_wf (c:Ct) {M:List Ob} (hw:WfO M) {nd:List (List Nat)} (hn:nd.length=c.gates.length) {m:Nat} (hm:M.length+(10+(c.gates.length+c.gates.length))≤m):belH m (aC c M nd)=true:=by
 have h1:=hw m (by omega);have h2:=hWt_wf c (n:=M.length) (m:=m) (by omega);have h3:=bel_byE (n:=M.length+6) (m:=m) (bysC c) (by rw [bysC_len]; omega);have h4:=bel_needE (n:=M.length+6) (N:=c.gates.length) (m:=nd.length) (q:=m) (by omega);rw [aC_eq,belH_append,tC,belH_append,belH_append,belH_append,belH_append,h1,h2,bel_rows,bel_maps];simp [hF,h3,h4];omega
set_option maxRecDepth 8000 in
theorem r_coming1 (c:Ct) (hc:CtFew c) (hd:(c.gates.map (·.name)).Nodup) {S:Type} (M:S→List Ob) (F:S→Nat→S) (n L r p:Nat) (hM:∀ x,(M x).length=n) (hw:∀ x,WfO (M x)) (hv:∀ x,WfV (M x)) (hr:r<n) (hL:L<n) (hp:∀ x,(M x)[p]? = some (.cells (AV.cells (eCt c)))) (I:S→Nat→Prop) (hI:∀ x k a,I x k→a<c.gates.length→I (F x a) (k+1))
  (hB:∀ x k a T up,I x k→k<2^20→a<c.gates.length→(∀ m,up.all (vldF r m)=true)→(∀ m,vldH r m T=true)→AM.Reach Tryz.prog Γ ((Cal.yl L).cfg [.int .i64 a] up (M x++T)) (.back up (.bool true) (M (F x a)++T)))
  (up:List Fr) (hup:∀ m,up.all (vldF r m)=true) (x:S) (hI0:I x 0) (f:Nat) (hf:f≤2^14) (hE:endC c f) :
  AM.Reach Tryz.prog Γ (.cl n_order_coming_1 [.yld L,.ptr p 0] up (M x)) (.back up (.tup []) (M ((comeC c f).foldl F x))):=by
 have hN:=hc.2.2.2.1;have hi:=initN_ok (needsC c) c.gates.length c.gates.length 0 [] (by omega) (by simp);obtain ⟨T,hT⟩:=r_cm0 (Γ:=Γ) c hc (bysC_bnd hc) M F n L r hM hv hr I hI hB up hup f x 0 (needsC c) (initN (needsC c) c.gates.length 0 []) [] (needsC_len c) (needsC_nodup c) hi.1 (by have:=hi.2; simp only [List.length_nil] at this; omega) hI0 (by omega) hE;have h14:=r_cm14 (Γ:=Γ) c hc (hv x) (needsC c) (needsC_len c) L (.ptr p 0) up c.gates.length 0 (by omega) [] (Nat.le_refl _);have hwt:=r_wait (Γ:=Γ) c hc hd (hw x) (hv x);have hpx:=hp x;have hMx:=hM x
 have key:AM.Reach Tryz.prog Γ (.cl n_order_coming_1 [.yld L,.ptr p 0] up (M x)) (.back up (.tup []) (M ((comeC c f).foldl F x)++T)):=by
  have e1:hQ (hWait c (M x)) (needsC c) (bysC c)++([.cells [.sl (n+7) 0 c.gates.length,.sl (n+8) 0 c.gates.length]])=aC c (M x) (needsC c):=by rw [aC,hM]
  have e2:aC c (M x) (needsC c)++[.row 1 t_int [] none true false,.cells [.sl (aC c (M x) (needsC c)).length 0 0]]=hP (aC c (M x) (needsC c)) [] [] none:=by simp [hP]
  have e3:=aC_len (M:=M x) (needsC_len c)
  have e4:(hQ (hWait c (M x)) (needsC c) (bysC c)).length=n+(9+(c.gates.length+c.gates.length)):=by rw [hQ_len,hWait_len,bysC_len,needsC_len,hM]; omega
  rw [hWait_len] at hwt;rw [hM] at h14 hwt e3;refine .enterB 60 c_order_coming_1 ?_;simp [hpx];have e5:=aC_wf c (hw x) (needsC_len c) (m:=n+(10+(c.gates.length+c.gates.length))) (by rw [hM]; omega);have hpn:=lt_of_get hpx;rw [hM] at hpn
  have e7:(aC c (M x) (needsC c))[p]? = some (.cells (AV.cells (eCt c))):=by rw [aC_eq]; exact get_app hpx _
  rw [← e1] at e2 e5 e7 h14 hT;refine .rcall 5 hwt ?_;generalize hQ (hWait c (M x)) (needsC c) (bysC c)=X at *;simp
  have et:(X++[Ob.cells [.sl (n+7) 0 c.gates.length,.sl (n+8) 0 c.gates.length],.row 1 t_map_int_bool_2 [] none true false,.row 1 t_int_2 [] none true false]).take (n+(10+(c.gates.length+c.gates.length)))=X++[.cells [.sl (n+7) 0 c.gates.length,.sl (n+8) 0 c.gates.length]]:=by
   rw [show n+(10+(c.gates.length+c.gates.length))=X.length+1 by omega,List.take_length_add_append]; rfl
  refine .dropTo (n:=n+(10+(c.gates.length+c.gates.length))) et (by simp [hM]) (by simp; omega) e5 ?_
  have hXl:(X++[Ob.cells [.sl (n+7) 0 c.gates.length,.sl (n+8) 0 c.gates.length]]).length=n+(10+(c.gates.length+c.gates.length)):=by simp; omega
  rw [hXl] at e2;generalize X++[Ob.cells [.sl (n+7) 0 c.gates.length,.sl (n+8) 0 c.gates.length]]=A at *;refine .litRowTo 60 t_int (es:=[]) (by simp) rfl ?_;have e6:A++[Ob.row 1 t_int [] none true false,.cells [.sl (n+(10+(c.gates.length+c.gates.length))) 0 0]]=hP A [] [] none:=e2
  have e8:=fun os=>get_app e7 os
  simp [e8,hXl,okList];rw [e6];refine .inLoop ?_
  have e9:n+(10+(c.gates.length+c.gates.length))+1=n+(11+(c.gates.length+c.gates.length)):=by omega
  rw [e9,e4,hM];simp at h14 ⊢;refine .trans h14 ?_;refine .goB 60 ?_;simp;refine .inLoop ?_;unfold comeC;simp at hT ⊢;exact hT
 have:=AM.Reach.leave key rfl (by
  rw [hM,← hM ((comeC c f).foldl F x),List.take_left]
  exact hw _ _ (Nat.le_refl _))
 rw [hM,← hM ((comeC c f).foldl F x),List.take_left] at this;exact this
theorem findU_is (N:List Bs):∀ l:List Bs,((findU N l).1=6∧(findU N l).2∉N)∨(findU N l=(0,[])∧∀ s∈l,s∈N)
 | []=>.inr ⟨rfl,fun s hs=>by cases hs⟩
 | a::l=>by
  rw [findU]
  by_cases h:a∈N
  ·rw [if_pos h]
   rcases findU_is N l with h1 | ⟨h1,h2⟩
   ·exact .inl h1
   ·refine .inr ⟨h1,fun s hs => ?_⟩
    rcases List.mem_cons.1 hs with rfl | hs
    ·exact h
    ·exact h2 s hs
  ·rw [if_neg h]; exact .inl ⟨rfl,h⟩
theorem findG_is (r:Int×Bs):∀ l:List Gt,findG r l=r∧(∀ g∈l,gateB g=true)∨(findG r l).1=1
 | []=>.inl ⟨rfl,fun g hg=>by cases hg⟩
 | g::l=>by
  rw [findG]
  by_cases h:gateB g=true
  ·rw [if_pos h]
   rcases findG_is r l with ⟨h1,h2⟩ | h1
   ·refine .inl ⟨h1,fun x hx => ?_⟩
    rcases List.mem_cons.1 hx with rfl | hx
    ·exact h
    ·exact h2 x hx
   ·exact .inr h1
  ·rw [if_neg h]; exact .inr rfl
theorem findL_is (r:Int×Bs):∀ l:List Lt,findL r l=r∧(∀ q∈l,initOk q=true)∨(findL r l).1=1
 | []=>.inl ⟨rfl,fun g hg=>by cases hg⟩
 | g::l=>by
  rw [findL]
  by_cases h:initOk g=true
  ·rw [if_pos h]
   rcases findL_is r l with ⟨h1,h2⟩ | h1
   ·refine .inl ⟨h1,fun x hx => ?_⟩
    rcases List.mem_cons.1 hx with rfl | hx
    ·exact h
    ·exact h2 x hx
   ·exact .inr h1
  ·rw [if_neg h]; exact .inr rfl
theorem findN_is (r:Int×Bs):∀ l:List Bs,findN r l=r∧(∀ s∈l,nameB s=true)∨(findN r l).1=4
 | []=>.inl ⟨rfl,fun g hg=>by cases hg⟩
 | g::l=>by
  rw [findN]
  by_cases h:nameB g=true
  ·rw [if_pos h]
   rcases findN_is r l with ⟨h1,h2⟩ | h1
   ·refine .inl ⟨h1,fun x hx => ?_⟩
    rcases List.mem_cons.1 hx with rfl | hx
    ·exact h
    ·exact h2 x hx
   ·exact .inr h1
  ·rw [if_neg h]; exact .inr rfl
theorem twO_is (t:Option Bs) (r:Int×Bs):(t=none∧twO t r=r)∨(twO t r).1=5:=by
 cases t with
 | none=>exact .inl ⟨rfl,rfl⟩
 | some s=>exact .inr rfl
structure CtOk (c:Ct):Prop where
 lim:limC c=false
 names:∀ s∈toldC c,nameB s=true
 nets:twiceL (netsC c)=none
 outs:twiceL c.outputs=none
 init:∀ q∈c.latches,initOk q=true
 gates:∀ g∈c.gates,gateB g=true
 used:∀ s∈usedC c,s∈netsC c
theorem check_is (c:Ct):((checkC c).1≠0∧((checkC c).1=6→(checkC c).2∉netsC c))∨(checkC c=(0,[])∧CtOk c):=by
 unfold checkC
 cases hl:limC c with
 | true=>exact .inl ⟨by simp,by simp⟩
 | false =>
  rw [if_neg (by simp)]
  rcases findN_is (twO (twiceL (netsC c)) (twO (twiceL c.outputs) (findL (findG (findU (netsC c) (usedC c)) c.gates) c.latches))) (toldC c) with ⟨e1,h1⟩ | h1
  ·rw [e1]
   rcases twO_is (twiceL (netsC c)) (twO (twiceL c.outputs) (findL (findG (findU (netsC c) (usedC c)) c.gates) c.latches)) with ⟨h2,e2⟩ | h2
   ·rw [e2]
    rcases twO_is (twiceL c.outputs) (findL (findG (findU (netsC c) (usedC c)) c.gates) c.latches) with ⟨h3,e3⟩ | h3
    ·rw [e3]
     rcases findL_is (findG (findU (netsC c) (usedC c)) c.gates) c.latches with ⟨e4,h4⟩ | h4
     ·rw [e4]
      rcases findG_is (findU (netsC c) (usedC c)) c.gates with ⟨e5,h5⟩ | h5
      ·rw [e5]
       rcases findU_is (netsC c) (usedC c) with ⟨h6,h7⟩ | ⟨e6,h6⟩
       ·exact .inl ⟨by rw [h6]; decide,fun _=>h7⟩
       ·exact .inr ⟨e6,⟨hl,h1,h2,h3,h4,h5,h6⟩⟩
      ·exact .inl ⟨by rw [h5]; decide,fun h=>by rw [h5] at h; cases h⟩
     ·exact .inl ⟨by rw [h4]; decide,fun h=>by rw [h4] at h; cases h⟩
    ·exact .inl ⟨by rw [h3]; decide,fun h=>by rw [h3] at h; cases h⟩
   ·exact .inl ⟨by rw [h2]; decide,fun h=>by rw [h2] at h; cases h⟩
  ·exact .inl ⟨by rw [h1]; decide,fun h=>by rw [h1] at h; cases h⟩
theorem twiceS_nodup:∀ (l seen:List Bs),twiceS seen l=none→l.Nodup∧∀ s∈l,s∉seen
 | [],seen,_=>⟨List.nodup_nil,fun s hs=>by cases hs⟩
 | a::l,seen,h=>by
  rw [twiceS] at h
  by_cases hm:a∈seen
  ·rw [if_pos hm] at h; cases h
  ·rw [if_neg hm] at h;obtain ⟨h1,h2⟩:=twiceS_nodup l _ h;refine ⟨List.nodup_cons.2 ⟨fun ha=>h2 a ha (by simp),h1⟩,fun s hs => ?_⟩
   rcases List.mem_cons.1 hs with rfl | hs
   ·exact hm
   ·exact fun hs2=>h2 s hs (by simp [hs2])
theorem CtOk.nodup {c:Ct} (h:CtOk c):(netsC c).Nodup:=(twiceS_nodup _ _ h.nets).1
def GtB (g:Gt):Prop:=g.name.length<2^40∧g.ins.length<2^40∧g.rows.length<2^40∧(∀ s∈g.ins,s.length<2^40)∧∀ s∈g.rows,s.length<2^40
def CtB (c:Ct):Prop:=c.inputs.length<2^40∧c.outputs.length<2^40∧c.latches.length<2^40∧c.gates.length<2^40∧(∀ g∈c.gates,GtB g) ∧
 (∀ s∈c.inputs,s.length<2^40)∧(∀ s∈c.outputs,s.length<2^40)∧∀ q∈c.latches,q.name.length<2^40∧q.next.length<2^40
theorem anyB_no {α:Type} {p:α→Bool}:∀ {l:List α},anyB p l=false→∀ x∈l,p x=false
 | [],_,x,hx=>by cases hx
 | a::l,h,x,hx=>by
  rw [anyB_cons,Bool.or_eq_false_iff] at h
  rcases List.mem_cons.1 hx with rfl | hx
  ·exact h.1
  ·exact anyB_no h.2 x hx
theorem CtFew.toB {c:Ct} (h:CtFew c):CtB c:=by
 obtain ⟨h1,h2,h3,h4,h5,h6⟩:=h;refine ⟨by omega,by omega,by omega,by omega,fun g hg => ?_,h6⟩;obtain ⟨g1,g2,g3,g4⟩:=h5 g hg;exact ⟨g1,by omega,by omega,g4⟩
theorem few_of_lim {c:Ct} (hb:CtB c) (hl:limC c=false):CtFew c:=by
 simp only [limC,Bool.or_eq_false_iff,decide_eq_false_iff_not] at hl;obtain ⟨h1,h2,h3⟩:=hl;obtain ⟨b1,b2,b3,b4,b5,b6⟩:=hb;refine ⟨by omega,by omega,by omega,by omega,fun g hg => ?_,b6⟩;obtain ⟨g1,g2,g3,g4⟩:=b5 g hg;have:=anyB_no h1 g hg;simp only [largeB,Bool.or_eq_false_iff,decide_eq_false_iff_not] at this;exact ⟨g1,by omega,by omega,g4⟩
set_option maxRecDepth 8000 in
theorem p_CheckB (hΓ:InsG Γ) (c:Ct) (hb:CtB c):PureCon Tryz.prog Γ n_net_Check [eCt c] (eChk (checkC c)):=by
 cases hl:limC c with
 | false=>exact p_Check hΓ c (few_of_lim hb hl)
 | true =>
  have b0:=hb.1;have b1:=hb.2.1;have b3:=hb.2.2.1;have b4:=hb.2.2.2.1;have hC:=p_ContainsFunc_gate (Γ:=Γ) (fl:=false) (a_large c.gates) c.hG (by omega) (h:=ckH c) trivial;have e0:((c.inputs.length:Int)+c.latches.length+c.gates.length≤200)=(c.inputs.length+c.latches.length+c.gates.length≤200):=propext (by omega);have e1:((c.outputs.length:Int)≤200)=(c.outputs.length≤200):=propext (by omega);refine .run 160 c_net_Check (by simp) ?_;unfold checkC
  by_cases h1:c.inputs.length+c.latches.length+c.gates.length≤200
  ·by_cases h2:c.outputs.length≤200
   ·simp (disch:=omega) [e0,e1,h1,h2];refine .rcall 160 hC ?_
    have h3:anyB largeB c.gates=true:=by
     simp only [limC,Bool.or_eq_true,decide_eq_true_eq] at hl
     rcases hl with h | h | h
     ·exact h
     ·omega
     ·omega
    rw [h3];simp;refine .dcall 160 (by simp) (p_need_die 8 []) ?_;simp;refine .dr 90 ?_;simp;exact .back (by simp [hl])
   ·simp (disch:=omega) [e0,e1,h1,h2];refine .dcall 160 (by simp) (p_need_die 8 []) ?_;simp;refine .dr 90 ?_;simp;exact .back (by simp [hl])
  ·simp (disch:=omega) [e0,e1,h1];refine .dcall 160 (by simp) (p_need_die 8 []) ?_;simp;refine .dr 90 ?_;simp;exact .back (by simp [hl])
def rightC (c:Ct):Bool:=decide ((checkC c).1=0)
theorem p_right (hΓ:InsG Γ) (c:Ct) (hb:CtB c):PureCon Tryz.prog Γ n_order_right [eCt c] (.bool (rightC c)):=by
 have hC:=p_CheckB hΓ c hb;unfold rightC;generalize checkC c=r at *;obtain ⟨e,s⟩:=r;refine .run 60 c_order_right (by simp) ?_;simp;refine .call 60 (by simp) hC ?_;simp;exact .back (by simp)
theorem right_ok {c:Ct} (h:rightC c=true):CtOk c∧checkC c=(0,[]):=by
 rcases check_is c with ⟨h1,_⟩ | ⟨h1,h2⟩
 ·exact absurd (of_decide_eq_true h) h1
 ·exact ⟨h2,h1⟩
theorem right_few {c:Ct} (hb:CtB c) (h:rightC c=true):CtFew c:=few_of_lim hb (right_ok h).1.lim
theorem right_names {c:Ct} (h:rightC c=true):(c.gates.map (·.name)).Nodup:=by
 have:=(right_ok h).1.nodup;rw [netsC,List.nodup_append] at this;exact this.2.1
def leftM (c:Ct) (out:List Nat):List (Bs×Nat):=(plM c).filter fun x => !out.contains x.2
theorem pl_get {c:Ct} {x:Bs×Nat} (hx:x∈plM c):∃ h:x.2<c.gates.length,x.1=c.gates[x.2].name:=by
 obtain ⟨j,hj,rfl⟩:=List.getElem_of_mem hx;rw [plM_len] at hj;rw [plM_get c j hj];exact ⟨hj,rfl⟩
theorem name_inj {c:Ct} (hd:(c.gates.map (·.name)).Nodup) {i j:Nat} (hi:i<c.gates.length) (hj:j<c.gates.length) (h:c.gates[i].name=c.gates[j].name):i=j:=by
 have h1:(c.gates.map (·.name))[i]'(by simpa using hi)=(c.gates.map (·.name))[j]'(by simpa using hj):=by simpa using h
 exact (List.getElem_inj hd).1 h1
theorem leftM_del {c:Ct} (hd:(c.gates.map (·.name)).Nodup) (out:List Nat) {a:Nat} (ha:a<c.gates.length):delM c.gates[a].name (leftM c out)=leftM c (out++[a]):=by
 unfold delM leftM;rw [List.filter_filter];apply List.filter_congr;intro x hx;obtain ⟨h1,h2⟩:=pl_get hx;have e:(x.1=c.gates[a].name)↔x.2=a:=⟨fun h=>name_inj hd h1 ha (by rw [← h2,h]),fun h=>by rw [h2]; simp [h]⟩;rw [Bool.eq_iff_iff];simp only [Bool.and_eq_true,decide_eq_true_eq,Bool.not_eq_true',List.contains_eq_mem,decide_eq_false_iff_not,List.mem_append,List.mem_singleton,not_or,e];exact ⟨fun h=>⟨h.2,h.1⟩,fun h=>⟨h.2,h.1⟩⟩
theorem leftM_nodup {c:Ct} (hd:(c.gates.map (·.name)).Nodup) (out:List Nat):((leftM c out).map (·.1)).Nodup:=by
 have h1:((plM c).map (·.1)).Nodup:=by rw [plM_keys]; exact hd
 exact h1.sublist ((List.filter_sublist).map _)
theorem leftM_nil (c:Ct):leftM c []=plM c:=by simp [leftM]
theorem leftM_get {c:Ct} (hd:(c.gates.map (·.name)).Nodup) (out:List Nat) {i:Nat} (hi:i<c.gates.length):getM c.gates[i].name (leftM c out)=if i∈out then none else some i:=by
 have key:∀ l:List (Bs×Nat),(∀ x∈l,x∈plM c)→getM c.gates[i].name (l.filter fun x => !out.contains x.2)=if i∈out then none else if (c.gates[i].name,i)∈l then some i else none:=by
  intro l
  induction l with
  | nil=>intro _; simp [getM]
  | cons x l ih =>
   intro hl;obtain ⟨h1,h2⟩:=pl_get (hl x (by simp))
   have ih:=ih fun y hy=>hl y (by simp [hy])
   by_cases hx:x.2=i
   ·have hx1:x=(c.gates[i].name,i):=by
     obtain ⟨a,b⟩:=x;simp only at hx h2;subst hx;rw [h2]
    by_cases ho:i∈out
    ·rw [List.filter_cons,if_neg (by rw [hx1]; simpa using ho),ih,if_pos ho,if_pos ho]
    ·rw [List.filter_cons,if_pos (by rw [hx1]; simpa using ho),if_neg ho,hx1];simp [getM]
   ·have hne:¬ c.gates[i].name=x.1:=fun h=>hx (name_inj hd h1 hi (by rw [← h2,h])).symm.symm
    have hm:((c.gates[i].name,i)∈x::l)↔(c.gates[i].name,i)∈l:=by
     rw [List.mem_cons];exact ⟨fun h=>h.resolve_left fun h=>hx (by rw [← h]),.inr⟩
    rw [List.filter_cons]
    split
    ·rw [getM,if_neg hne,ih]; simp only [hm]
    ·rw [ih]; simp only [hm]
 have hm:(c.gates[i].name,i)∈plM c:=by
  have:=List.getElem_mem (l:=plM c) (n:=i) (by rw [plM_len]; exact hi);rwa [plM_get c i hi] at this
 rw [leftM,key _ fun x hx=>hx,if_pos hm]
abbrev lpS:Ob:=.loop .ready .none n_order_Sort [U,.ptr 0 0,.sl 1 0 0,.sl 2 0 0,.ptr 3 0,.ptr 7 0,U,U,U,U,U,U,U,U,U,U,U,U,U,U,U,U,U,U,U,U,U,U,U,U,U,U,U,U,U,U,U,U,U,U,U,U,U,U,U,U,U,U,U,U,U,U,U,U] [19] (.reg yuz) yuD
abbrev lpE:Ob:=.loop .exhausted .none n_order_Sort [U,.ptr 0 0,.sl 1 0 0,.sl 2 0 0,.ptr 3 0,.ptr 7 0,U,U,U,U,U,U,U,U,U,U,U,U,U,U,U,U,U,U,U,U,U,U,U,U,U,U,U,U,U,U,U,U,U,U,U,U,U,U,U,U,U,U,U,U,U,U,U,U] [19] (.reg yuz) yuD
abbrev hS (c:Ct) (out:List Nat):List Ob:=[.cells (AV.cells (eCt c)),.row 1 t_int [] none true false,.row 1 t_string [] none true false,.cells [.sl 4 0 out.length],.row 1 t_int (out.map iN) none true false,.cells (AV.cells (eCt c)),.map ((leftM c out).map ePl) true,.cells [.mp 6],.cells (AV.cells (eCt c)),.dfr true,lpS]
set_option maxRecDepth 8000 in
theorem b_Sort (c:Ct) (hd:(c.gates.map (·.name)).Nodup) (out:List Nat) (a:Nat) (T:List Ob) (up:List Fr) (ho:out.length<2^20) (ha:a<c.gates.length) (hup:∀ m,up.all (vldF 4 m)=true) (hT:∀ m,vldH 4 m T=true) :
  AM.Reach Tryz.prog Γ ((Cal.yl 10).cfg [.int .i64 a] up (hS c out++T)) (.back up (.bool true) (hS c (out++[a])++T)):=by
 have q2:=eq_true (c.hG.of ha);have hdl:=delIn_gen (E:=.sc .str) (e:=AV.str) eq_str (fun n:Nat=>AV.int .i64 n) c.gates[a].name (leftM_nodup hd out);rw [leftM_del hd out ha] at hdl
 have hle:(out.length+1)*8≤140737488355328:=by omega
 have hvp:=fun m=>vld_pl 4 m (leftM c out)
 simp [Cal.cfg];refine .goB 13 ?_;simp (disch:=omega) [hle];refine .trans (.clrs [19,20,21,22,23] _) ?_;simp [clrT];refine .resetUT (i:=4) rfl (by simp) (hup _) (by simp [hT,hvp]) ?_;refine .goB 60 ?_;simp [q2,ha,hdl,isKey,allDatum,isDatum]
theorem wf_Sort (c:Ct) (out:List Nat):WfO (hS c out):=fun m hm=>by
 have h1:=bel_pl m (leftM c out);simp at hm
 simp [h1]; omega
theorem wv_Sort (c:Ct) (out:List Nat):WfV (hS c out):=fun i m hi=>by
 have h1:=vld_pl i m (leftM c out);simp at hi
 simp [h1]; omega
def neverF (out:List Nat):List Gt→Nat→List Bs
 | [],_=>[]
 | g::r,i=>if i∈out then neverF out r (i+1) else g.name::neverF out r (i+1)
set_option maxRecDepth 8000 in
theorem f_Sort1 (c:Ct) (hc:CtFew c) (hd:(c.gates.map (·.name)).Nodup) (out:List Nat):∀ n i:Nat,i+n=c.gates.length→∀ l:List Bs,l.length≤i →
  Fins Tryz.prog Γ (yuN (.ptr 3 0) (.ptr 7 0) (.sl 11 0 l.length) (.list false c.kG (c.gates.map eGt)) (.int .i64 c.gates.length) (.int .i64 i)
   [.cells (AV.cells (eCt c)),.row 1 t_int [] none true false,.row 1 t_string [] none true false,.cells [.sl 4 0 out.length],.row 1 t_int (out.map iN) none true false,.cells (AV.cells (eCt c)),.map ((leftM c out).map ePl) true,.cells [.mp 6],.cells (AV.cells (eCt c)),.dfr true,lpE,.row 1 t_string (l.map .str) none true false] ⟨[.mark 9],.norm,0,[]⟩)
   (.ret (.tup [.own 1 t_int (out.map iN),.own 1 t_string ((l++neverF out (c.gates.drop i) i).map .str)])):=by
 have hN:=hc.2.2.2.1
 have hbp:=fun m=>bel_pl m (leftM c out)
 have hvp:=fun i m=>vld_pl i m (leftM c out)
 intro n
 induction n with
 | zero =>
  intro i hi l hl
  have q1:¬ i<c.gates.length:=by omega
  rw [List.drop_eq_nil_of_le (by omega),neverF,List.append_nil];refine .go 60 ?_;simp [q1];exact .back (by simp)
 | succ n ih =>
  intro i hi l hl
  have q1:i<c.gates.length:=by omega
  have q2:=eq_true (c.hG.of q1);have hfi:=findIn_gen (E:=.sc .str) (e:=AV.str) eq_str (fun n:Nat=>AV.int .i64 n) c.gates[i].name (leftM c out);rw [leftM_get hd out q1] at hfi;rw [List.drop_eq_getElem_cons q1,neverF]
  by_cases h0:i∈out
  ·have hh:=ih (i+1) (by omega) l (by omega);rw [if_pos h0] at hfi ⊢;refine .go 90 ?_;simp (disch:=omega) [q1,q2,hfi,isKey,allDatum,isDatum];refine .reLoop ?_;simp;refine .drop 12 rfl (by simp) (by simp) (by simp [hbp]) ?_;simp at hh ⊢;exact hh
  ·have hh:=ih (i+1) (by omega) (l++[c.gates[i].name]) (by simp; omega)
   have hle:((l.length:Int)+1)*16≤140737488355328:=by omega
   rw [if_neg h0] at hfi ⊢;refine .go 90 ?_;simp (disch:=omega) [q1,q2,hfi,isKey,allDatum,isDatum,hle];refine .reLoop ?_;simp;refine .drop 12 rfl (by simp) (by simp) (by simp [hbp]) ?_;refine .reset (i:=11) rfl (by simp) (by simp) (by simp [hvp]) ?_;simp at hh ⊢;exact hh
set_option maxRecDepth 8000 in
theorem p_Sort (hΓ:InsG Γ) (c:Ct) (hb:CtB c) (hr:rightC c=true) (f:Nat) (hf:f≤2^14) (hE:endC c f) (hl:(comeC c f).length<2^20):PureCon Tryz.prog Γ n_order_Sort [eCt c] (.tup [.own 1 t_int ((comeC c f).map iN),.own 1 t_string ((neverF (comeC c f) c.gates 0).map .str)]):=by
 have hc:=right_few hb hr;have hd:=right_names hr;have hR:=p_right hΓ c hb;rw [hr] at hR
 have hpl:=fun h hw up=>r_places (Γ:=Γ) c hc (right_names hr) (h:=h) hw up
 have hfold:∀ (l out:List Nat),l.foldl (fun x a=>x++[a]) out=out++l:=by
  intro l
  induction l with
  | nil=>intro out; simp
  | cons a l ih=>intro out; rw [List.foldl_cons,ih]; simp
 have hcm:=fun up hup=>r_coming1 (Γ:=Γ) c hc hd (hS c) (fun x a=>x++[a]) 11 10 4 8 (fun _=>rfl) (wf_Sort c) (wv_Sort c) (by omega) (by omega) (fun _=>rfl) (fun x k=>x.length=k) (fun x k a h _=>by simp [h]) (fun x k a T up h hk ha hup hT=>b_Sort c hd x a T up (by omega) ha hup hT) up hup [] rfl f hf hE
 rw [hfold,List.nil_append] at hcm;have h1:=f_Sort1 (Γ:=Γ) c hc hd (comeC c f) c.gates.length 0 (by omega) [] (by simp);refine .run 60 c_order_Sort (by simp) ?_;simp;refine .call 60 (by simp) hR ?_;simp;refine .rcall 60 (hpl _ ?_) ?_
 ·intro m hm;simp at hm
  simp; omega
 simp;refine .go 60 ?_;simp;refine .enter 60 c_order_coming ?_;simp;rw [← leftM_nil c];refine .reach (hcm _ ?_) (.go 60 ?_)
 ·simp
 simp;refine .inLoop ?_;simp at h1 ⊢;exact h1
theorem p_Sort0 (hΓ:InsG Γ) (c:Ct) (hb:CtB c) (hr:rightC c=false):PureCon Tryz.prog Γ n_order_Sort [eCt c] (.tup [.own 1 t_int [],.own 1 t_string []]):=by
 have hR:=p_right hΓ c hb;rw [hr] at hR;refine .run 60 c_order_Sort (by simp) ?_;simp;refine .call 60 (by simp) hR ?_;simp;exact .back (by simp)
end Go.Proofs.YtpinapmcemimcaaGreatDoor
namespace Go.Proofs.YtpinapmcemimcaaGreatDoor
open Go.AM Go.Proofs
def inK (c:Ct) (i j:Nat):Bool:=match c.gates[i]?,c.gates[j]? with
 | some g,some h=>g.ins.contains h.name
 | _,_=>false
theorem inK_lt {c:Ct} {i j:Nat} (h:inK c i j=true):i<c.gates.length∧j<c.gates.length:=by
 unfold inK at h
 split at h
 ·rename_i g h' h1 h2;exact ⟨(List.getElem?_eq_some_iff.1 h1).1,(List.getElem?_eq_some_iff.1 h2).1⟩
 ·cases h
theorem inK_eq {c:Ct} {i j:Nat} (hi:i<c.gates.length) (hj:j<c.gates.length):inK c i j=true↔c.gates[j].name∈c.gates[i].ins:=by
 simp [inK,hi,hj]
theorem getM_mem {K V:Type} [DecidableEq K] {k:K} {v:V}:∀ {l:List (K×V)},getM k l=some v→(k,v)∈l
 | [],h=>by cases h
 | (a,u)::l,h=>by
  rw [getM] at h
  split at h
  ·rename_i h1; cases h; subst h1; simp
  ·exact List.mem_cons_of_mem _ (getM_mem h)
theorem plM_is {c:Ct} (hd:(c.gates.map (·.name)).Nodup) {s:Bs} {k:Nat}:getM s (plM c)=some k↔∃ h:k<c.gates.length,c.gates[k].name=s:=by
 constructor
 ·intro h;obtain ⟨h1,h2⟩:=pl_get (getM_mem h);exact ⟨h1,h2.symm⟩
 ·rintro ⟨h,rfl⟩
  have:=leftM_get hd [] h;rw [leftM_nil] at this;simpa using this
theorem needL_mem (pl:List (Bs×Nat)) (x:Nat):∀ (l:List Bs) (a:List Nat),x∈needL pl l a↔x∈a∨∃ s∈l,getM s pl=some x
 | [],a=>by simp [needL]
 | s::r,a=>by
  rw [needL]
  split
  ·rename_i h0;rw [needL_mem pl x r a];simp [h0]
  ·rename_i k h0;rw [needL_mem pl x r]
   have hk:(x∈if k∈a then a else a++[k])↔x∈a∨x=k:=by
    split
    ·rename_i hm;exact ⟨.inl,fun h=>h.elim id fun h=>h▸hm⟩
    ·simp
   rw [hk];simp only [List.mem_cons,exists_eq_or_imp,h0,Option.some.injEq];constructor
   ·rintro ((h | h) | h)
    ·exact .inl h
    ·exact .inr (.inl h.symm)
    ·exact .inr (.inr h)
   ·rintro (h | h | h)
    ·exact .inl (.inl h)
    ·exact .inl (.inr h.symm)
    ·exact .inr h
theorem waitF_fst (pl:List (Bs×Nat)):∀ (l:List Gt) (i:Nat) (nd b:List (List Nat)),(waitF pl l i nd b).1=nd++l.map fun g=>needL pl g.ins []
 | [],_,_,_=>by simp [waitF]
 | g::r,i,nd,b=>by rw [waitF,waitF_fst pl r]; simp
theorem needsC_mem {c:Ct} (hd:(c.gates.map (·.name)).Nodup) {i:Nat} (hi:i<c.gates.length) (x:Nat):x∈(needsC c).getD i []↔inK c i x=true:=by
 have e:(needsC c).getD i []=needL (plM c) c.gates[i].ins []:=by
  rw [needsC,waitF_fst];simp [hi]
 rw [e,needL_mem];constructor
 ·rintro (h | ⟨s,hs,h⟩)
  ·cases h
  ·obtain ⟨h1,h2⟩:=(plM_is hd).1 h;exact (inK_eq hi h1).2 (h2▸hs)
 ·intro h;obtain ⟨_,h1⟩:=inK_lt h;exact .inr ⟨_,(inK_eq hi h1).1 h,(plM_is hd).2 ⟨h1,rfl⟩⟩
theorem byL_get (pl:List (Bs×Nat)) (i k:Nat):∀ (l:List Bs) (a:List Nat) (b:List (List Nat)),k<b.length→(byL pl i l a b).getD k []=if k∈needL pl l a∧k∉a then b.getD k []++[i] else b.getD k []
 | [],a,b,hk=>by
  rw [byL,needL,if_neg (fun h=>h.2 h.1)]
 | s::r,a,b,hk=>by
  rw [byL,needL]
  split
  ·exact byL_get pl i k r a b hk
  ·rename_i k0 h0
   by_cases hm:k0∈a
   ·simp only [if_pos hm];exact byL_get pl i k r a b hk
   ·simp only [if_neg hm];rw [byL_get pl i k r _ _ (by simpa using hk)]
    have hset:(b.set k0 (b.getD k0 []++[i])).getD k []=if k0=k then b.getD k []++[i] else b.getD k []:=by
     simp only [List.getD_eq_getElem?_getD,List.getElem?_set]
     by_cases h1:k0=k
     ·subst h1; simp [hk]
     ·simp [h1]
    rw [hset]
    by_cases h1:k0=k
    ·subst h1;have hin:k0∈needL pl r (a++[k0]):=(needL_mem pl k0 r _).2 (.inl (by simp));rw [if_neg (by simp),if_pos rfl,if_pos ⟨hin,hm⟩]
    ·have hiff:(k∈needL pl r (a++[k0])∧k∉a++[k0])↔(k∈needL pl r (a++[k0])∧k∉a):=by
      simp only [List.mem_append,List.mem_singleton,not_or];exact ⟨fun h=>⟨h.1,h.2.1⟩,fun h=>⟨h.1,h.2,fun h2=>h1 h2.symm⟩⟩
     rw [if_neg h1];simp only [hiff]
def byF (pl:List (Bs×Nat)) (k:Nat):List Gt→Nat→List Nat
 | [],_=>[]
 | g::r,i=>if k∈needL pl g.ins [] then i::byF pl k r (i+1) else byF pl k r (i+1)
theorem waitF_snd (pl:List (Bs×Nat)) (k:Nat):∀ (l:List Gt) (i:Nat) (nd b:List (List Nat)),k<b.length→(waitF pl l i nd b).2.getD k []=b.getD k []++byF pl k l i
 | [],_,_,_,_=>by simp [waitF,byF]
 | g::r,i,nd,b,hk=>by
  rw [waitF,waitF_snd pl k r _ _ _ (by rw [byL_len]; exact hk),byL_get pl i k g.ins [] b hk,byF]
  split
  ·rename_i h
   rw [if_pos h.1]; simp
  ·rename_i h;rw [if_neg fun h1=>h ⟨h1,by simp⟩]
theorem byF_mem (pl:List (Bs×Nat)) (k j:Nat):∀ (l:List Gt) (i:Nat),j∈byF pl k l i↔∃ t,∃ h:t<l.length,j=i+t∧k∈needL pl l[t].ins []
 | [],i=>by simp [byF]
 | g::r,i=>by
  have ih:=byF_mem pl k j r (i+1)
  have hs:(∃ t,∃ h:t<(g::r).length,j=i+t∧k∈needL pl (g::r)[t].ins [])↔(j=i∧k∈needL pl g.ins [])∨∃ t,∃ h:t<r.length,j=i+1+t∧k∈needL pl r[t].ins []:=by
   constructor
   ·rintro ⟨t,h,e,hm⟩
    cases t with
    | zero=>exact .inl ⟨e,hm⟩
    | succ t=>exact .inr ⟨t,by simpa using h,by omega,hm⟩
   ·rintro (⟨e,hm⟩ | ⟨t,h,e,hm⟩)
    ·exact ⟨0,by simp,e,hm⟩
    ·exact ⟨t+1,by simpa using h,by omega,hm⟩
  rw [hs,byF]
  split
  ·rename_i h0;simp only [List.mem_cons,ih,h0,and_true]
  ·rename_i h0;simp only [ih,h0,and_false,false_or]
theorem byF_nodup (pl:List (Bs×Nat)) (k:Nat):∀ (l:List Gt) (i:Nat),(byF pl k l i).Nodup
 | [],i=>by simp [byF]
 | g::r,i=>by
  rw [byF]
  split
  ·rw [List.nodup_cons];refine ⟨fun h => ?_,byF_nodup pl k r (i+1)⟩;obtain ⟨t,_,e,_⟩:=(byF_mem pl k i r (i+1)).1 h;omega
  ·exact byF_nodup pl k r (i+1)
theorem bysC_eq (c:Ct) {k:Nat} (hk:k<c.gates.length):(bysC c).getD k []=byF (plM c) k c.gates 0:=by
 rw [bysC,waitF_snd _ _ _ _ _ _ (by simpa using hk)];simp [hk]
theorem bysC_mem {c:Ct} (hd:(c.gates.map (·.name)).Nodup) {k:Nat} (hk:k<c.gates.length) (i:Nat):i∈(bysC c).getD k []↔inK c i k=true:=by
 rw [bysC_eq c hk,byF_mem];constructor
 ·rintro ⟨t,ht,e,hm⟩
  have:i=t:=by omega
  subst this;rw [← needsC_mem hd ht,needsC,waitF_fst];simpa [ht] using hm
 ·intro h;obtain ⟨hi,_⟩:=inK_lt h;refine ⟨i,hi,by omega,?_⟩;rw [← needsC_mem hd hi,needsC,waitF_fst] at h;simpa [hi] using h
theorem bysC_nodup (c:Ct) {k:Nat} (hk:k<c.gates.length):((bysC c).getD k []).Nodup:=by rw [bysC_eq c hk]; exact byF_nodup _ _ _ _
def mayB (c:Ct) (done:List Nat) (k:Nat):Bool := !done.contains k&&(List.range c.gates.length).all fun x => !inK c k x||done.contains x
theorem mayB_is {c:Ct} {done:List Nat} {k:Nat}:mayB c done k=true↔k∉done∧∀ x,inK c k x=true→x∈done:=by
 simp only [mayB,Bool.and_eq_true,Bool.not_eq_true',List.contains_eq_mem,decide_eq_false_iff_not,List.all_eq_true,List.mem_range,Bool.or_eq_true,decide_eq_true_eq];constructor
 ·rintro ⟨h1,h2⟩
  refine ⟨h1,fun x hx => ?_⟩
  rcases h2 x (inK_lt hx).2 with h | h
  ·rw [h] at hx; cases hx
  ·exact h
 ·rintro ⟨h1,h2⟩
  refine ⟨h1,fun x _ => ?_⟩
  cases hx:inK c k x with
  | false=>exact .inl rfl
  | true=>exact .inr (h2 x hx)
def nextK (c:Ct) (done:List Nat):Option Nat:=(List.range c.gates.length).find? (mayB c done)
def sortF (c:Ct):Nat→List Nat→List Nat
 | 0,_=>[]
 | f+1,done=>match nextK c done with
  | none=>[]
  | some k=>k::sortF c f (done++[k])
def sortC (c:Ct):List Nat:=sortF c c.gates.length []
theorem nextK_some {c:Ct} {done:List Nat} {a:Nat} (ha:a<c.gates.length) (h1:mayB c done a=true) (h2:∀ j<a,mayB c done j=false):nextK c done=some a:=by
 rw [nextK,List.find?_range_eq_some];exact ⟨h1,by simpa using ha,fun j hj=>by simp [h2 j hj]⟩
theorem nextK_none {c:Ct} {done:List Nat} (h:∀ a<c.gates.length,mayB c done a=false):nextK c done=none:=by
 rw [nextK,List.find?_eq_none];intro x hx
 rw [h x (by simpa using hx)]; simp
theorem nextK_is {c:Ct} {done:List Nat} {a:Nat} (h:nextK c done=some a):a<c.gates.length∧mayB c done a=true∧∀ j<a,mayB c done j=false:=by
 rw [nextK,List.find?_range_eq_some] at h;exact ⟨by simpa using h.2.1,h.1,fun j hj=>by simpa using h.2.2 j hj⟩
theorem nextK_no {c:Ct} {done:List Nat} (h:nextK c done=none) {a:Nat} (ha:a<c.gates.length):mayB c done a=false:=by
 rw [nextK,List.find?_eq_none] at h;simpa using h a (by simpa using ha)
structure Inv (c:Ct) (done:List Nat) (nd:List (List Nat)) (l:List Nat):Prop where
 len:nd.length=c.gates.length
 nds:∀ i<c.gates.length,∀ x,x∈nd.getD i []↔inK c i x=true∧x∉done
 ls:∀ i,i∈l↔i<c.gates.length∧mayB c done i=true
 nod:l.Nodup
 heap:HeapN l.length l
 don:done.Nodup
 lt:∀ x∈done,x<c.gates.length
 all:∀ i∈done,∀ x,inK c i x=true→x∈done
structure RInv (c:Ct) (done:List Nat) (a:Nat) (r:List Nat) (nd:List (List Nat)) (l:List Nat):Prop where
 len:nd.length=c.gates.length
 old:∀ i<c.gates.length,i∈r→∀ x,x∈nd.getD i []↔inK c i x=true∧x∉done
 new:∀ i<c.gates.length,i∉r→∀ x,x∈nd.getD i []↔inK c i x=true∧x∉done++[a]
 ls:∀ i,i∈l↔i<c.gates.length∧i∉r∧mayB c (done++[a]) i=true
 nod:l.Nodup
 heap:HeapN l.length l
theorem delN_mem (a:Nat) (l:List Nat) (x:Nat):x∈delN a l↔x∈l∧x≠a:=by simp [delN]
theorem RInv.run {c:Ct} {done:List Nat} {a:Nat} (ha:a∉done) (haa:∀ x,inK c a x=true→x∈done) (hall:∀ i∈done,∀ x,inK c i x=true→x∈done):∀ (r:List Nat) (nd:List (List Nat)) (l s:List Nat),r.Nodup→(∀ i∈r,inK c i a=true)→RInv c done a r nd l →
  RInv c done a [] (relS a r nd l s).1 (relS a r nd l s).2.1
 | [],nd,l,s,_,_,h=>h
 | i::r,nd,l,s,hr,hW,h=>by
  have hi:=(inK_lt (hW i (by simp))).1;rw [List.nodup_cons] at hr
  have hil:i∉l:=fun hm=>((h.ls i).1 hm).2.1 (by simp)
  have hid:i∉done:=fun hm=>ha (hall i hm a (hW i (by simp)))
  have hia:i≠a:=fun he=>ha (haa a (he▸hW i (by simp)))
  have hg:∀ j,(nd.set i (delN a (nd.getD i []))).getD j []=if i=j then delN a (nd.getD i []) else nd.getD j []:=fun j=>by
   simp only [List.getD_eq_getElem?_getD,List.getElem?_set]
   by_cases h1:i=j
   ·subst h1; simp [h.len,hi]
   ·simp [h1]
  have hmem:∀ x,x∈delN a (nd.getD i [])↔inK c i x=true∧x∉done++[a]:=fun x=>by
   rw [delN_mem,h.old i hi (by simp) x];simp only [List.mem_append,List.mem_singleton,not_or];exact ⟨fun h=>⟨h.1.1,h.1.2,h.2⟩,fun h=>⟨⟨h.1,h.2.1⟩,h.2.2⟩⟩
  have hold:∀ j<c.gates.length,j∈r→∀ x,x∈(nd.set i (delN a (nd.getD i []))).getD j []↔inK c j x=true∧x∉done:=fun j hj hjr x=>by
   have hne:¬ i=j:=fun he=>hr.1 (he▸hjr)
   rw [hg,if_neg hne];exact h.old j hj (by simp [hjr]) x
  have hnew:∀ j<c.gates.length,j∉r→∀ x,x∈(nd.set i (delN a (nd.getD i []))).getD j []↔inK c j x=true∧x∉done++[a]:=fun j hj hjr x=>by
   rw [hg]
   by_cases he:i=j
   ·subst he; rw [if_pos rfl]; exact hmem x
   ·rw [if_neg he];exact h.new j hj (by simp only [List.mem_cons,not_or]; exact ⟨fun h=>he h.symm,hjr⟩) x
  rw [relS]
  split
  ·rename_i h0;refine RInv.run ha haa hall r _ _ _ hr.2 (fun j hj=>hW j (by simp [hj])) ⟨by simpa using h.len,hold,hnew,fun j => ?_,?_,pushF_heap h.heap i⟩
   ·rw [(pushF_perm l i).mem_iff,List.mem_cons];constructor
    ·rintro (rfl | hj)
     ·refine ⟨hi,hr.1,mayB_is.2 ⟨by simp [hid,hia],fun x hx => ?_⟩⟩
      refine Classical.byContradiction fun hn => ?_
      have:=(hmem x).2 ⟨hx,hn⟩
      rw [h0] at this; cases this
     ·have:=(h.ls j).1 hj;exact ⟨this.1,fun h2=>this.2.1 (by simp [h2]),this.2.2⟩
    ·rintro ⟨h1,h2,h3⟩
     by_cases he:j=i
     ·exact .inl he
     ·exact .inr ((h.ls j).2 ⟨h1,by simp only [List.mem_cons,not_or]; exact ⟨he,h2⟩,h3⟩)
   ·rw [(pushF_perm l i).nodup_iff,List.nodup_cons];exact ⟨hil,h.nod⟩
  ·rename_i h0;refine RInv.run ha haa hall r _ _ _ hr.2 (fun j hj=>hW j (by simp [hj])) ⟨by simpa using h.len,hold,hnew,fun j => ?_,h.nod,h.heap⟩;rw [h.ls j];refine ⟨fun ⟨h1,h2,h3⟩=>⟨h1,fun h4=>h2 (by simp [h4]),h3⟩,fun ⟨h1,h2,h3⟩=>⟨h1,?_,h3⟩⟩;simp only [List.mem_cons,not_or];refine ⟨fun he => ?_,h2⟩;subst he;apply h0;rw [List.eq_nil_iff_forall_not_mem];intro x hx;obtain ⟨h5,h6⟩:=(hmem x).1 hx;exact h6 ((mayB_is.1 h3).2 x h5)
theorem Inv.step {c:Ct} (hd:(c.gates.map (·.name)).Nodup) {done:List Nat} {nd:List (List Nat)} {l:List Nat} (h:Inv c done nd l) (h0:l≠[]) (s:List Nat) :
  nextK c done=some (headP l)∧Inv c (done++[headP l]) (relS (headP l) ((bysC c).getD (headP l) []) nd (restP l) s).1 (relS (headP l) ((bysC c).getD (headP l) []) nd (restP l) s).2.1:=by
 have hpos:0<l.length:=List.length_pos_iff.2 h0;have hhr:=head_rest hpos;have hal:headP l∈l:=hhr.mem_iff.1 (by simp);obtain ⟨ha,hmay⟩:=(h.ls _).1 hal;obtain ⟨had,haa⟩:=mayB_is.1 hmay;have hnod:=hhr.nodup_iff.2 h.nod;rw [List.nodup_cons] at hnod
 have hn:nextK c done=some (headP l):=nextK_some ha hmay fun j hj=>by
  rw [Bool.eq_false_iff];intro hm;have:=headP_le h.heap hpos ((h.ls j).2 ⟨by omega,hm⟩);omega
 refine ⟨hn,?_⟩
 have hR:RInv c done (headP l) ((bysC c).getD (headP l) []) nd (restP l):=by
  refine ⟨h.len,fun i hi _ x=>h.nds i hi x,fun i hi hir x => ?_,fun i => ?_,hnod.2,restP_heap h.heap hpos⟩
  ·rw [h.nds i hi x];refine ⟨fun ⟨h1,h2⟩=>⟨h1,?_⟩,fun ⟨h1,h2⟩=>⟨h1,fun h3=>h2 (by simp [h3])⟩⟩;simp only [List.mem_append,List.mem_singleton,not_or];exact ⟨h2,fun he=>hir ((bysC_mem hd ha i).2 (he▸h1))⟩
  ·have hil:i∈l↔i=headP l∨i∈restP l:=by rw [← hhr.mem_iff,List.mem_cons]
   constructor
   ·intro hi;obtain ⟨h1,h2⟩:=(h.ls i).1 (hil.2 (.inr hi));obtain ⟨h3,h4⟩:=mayB_is.1 h2;refine ⟨h1,fun hb => ?_,mayB_is.2 ⟨?_,fun x hx=>by simp [h4 x hx]⟩⟩
    ·exact had (h4 _ ((bysC_mem hd ha i).1 hb))
    ·simp only [List.mem_append,List.mem_singleton,not_or];exact ⟨h3,fun he=>hnod.1 (he▸hi)⟩
   ·rintro ⟨h1,h2,h3⟩
    obtain ⟨h4,h5⟩:=mayB_is.1 h3;simp only [List.mem_append,List.mem_singleton,not_or] at h4
    have hi:i∈l:=(h.ls i).2 ⟨h1,mayB_is.2 ⟨h4.1,fun x hx=>by
     have:=h5 x hx;simp only [List.mem_append,List.mem_singleton] at this
     rcases this with h6 | h6
     ·exact h6
     ·exact absurd ((bysC_mem hd ha i).2 (h6▸hx)) h2⟩⟩
    exact (hil.1 hi).resolve_left h4.2
 have hE:=RInv.run had haa h.all _ _ _ s (bysC_nodup c ha) (fun i hi=>(bysC_mem hd ha i).1 hi) hR;refine ⟨hE.len,fun i hi x=>hE.new i hi (by simp) x,fun i=>by rw [hE.ls i]; simp,hE.nod,hE.heap,?_,fun x hx => ?_,fun i hi x hx => ?_⟩
 ·rw [List.nodup_append];refine ⟨h.don,by simp,fun x hx y hy => ?_⟩;rw [List.mem_singleton] at hy;subst hy
  exact fun he=>had (he▸hx)
 ·rcases List.mem_append.1 hx with h1 | h1
  ·exact h.lt x h1
  ·rw [List.mem_singleton] at h1; subst h1; exact ha
 ·rcases List.mem_append.1 hi with h1 | h1
  ·simp [h.all i h1 x hx]
  ·rw [List.mem_singleton] at h1; subst h1; simp [haa x hx]
theorem nodup_le:∀ (N:Nat) (l:List Nat),l.Nodup→(∀ x∈l,x<N)→l.length≤N
 | 0,[],_,_=>Nat.le_refl _
 | 0,x::l,_,h=>absurd (h x (by simp)) (by omega)
 | N+1,l,hn,h=>by
  have h1:=nodup_le N (l.erase N) (hn.erase N) fun x hx=>by
   obtain ⟨h2,h3⟩:=hn.mem_erase_iff.1 hx
   have:=h x h3; omega
  by_cases hm:N∈l
  ·rw [List.length_erase_of_mem hm] at h1; omega
  ·rw [List.erase_of_not_mem hm] at h1; omega
theorem Inv.come {c:Ct} (hd:(c.gates.map (·.name)).Nodup):∀ (f:Nat) (done:List Nat) (nd:List (List Nat)) (l s:List Nat),Inv c done nd l→comeL (bysC c) f nd l s=sortF c f done
 | 0,_,_,_,_,_=>rfl
 | f+1,done,nd,l,s,h=>by
  rw [comeL,sortF]
  by_cases h0:l=[]
  ·have hn:nextK c done=none:=nextK_none fun a ha=>by
    rw [Bool.eq_false_iff];intro hm;have:=(h.ls a).2 ⟨ha,hm⟩
    rw [h0] at this; cases this
   rw [if_pos h0,hn]
  ·obtain ⟨h1,h2⟩:=h.step hd h0 (headP l::s);rw [if_neg h0,h1];simp only;rw [Inv.come hd f _ _ _ _ h2]
theorem Inv.ends {c:Ct} (hd:(c.gates.map (·.name)).Nodup):∀ (f:Nat) (done:List Nat) (nd:List (List Nat)) (l s:List Nat),Inv c done nd l→c.gates.length≤done.length+f→comeE (bysC c) f nd l s
 | 0,done,nd,l,s,h,hf=>by
  show l=[]
  rw [List.eq_nil_iff_forall_not_mem];intro x hx;obtain ⟨h1,h2⟩:=(h.ls x).1 hx;have h3:=(mayB_is.1 h2).1
  have:=nodup_le c.gates.length (x::done) (List.nodup_cons.2 ⟨h3,h.don⟩) (fun y hy=>by
   rcases List.mem_cons.1 hy with rfl | hy
   ·exact h1
   ·exact h.lt y hy)
  simp only [List.length_cons] at this;omega
 | f+1,done,nd,l,s,h,hf=>by
  rw [comeE]
  by_cases h0:l=[]
  ·exact .inl h0
  ·obtain ⟨h1,h2⟩:=h.step hd h0 (headP l::s);exact .inr (Inv.ends hd f _ _ _ _ h2 (by simp; omega))
theorem initN_inv (nd:List (List Nat)) (N:Nat):∀ (m i:Nat) (l:List Nat),i+m=N→l.Nodup→(∀ x∈l,x<i)→HeapN l.length l →
  (∀ x,x∈initN nd m i l↔x∈l∨(i≤x∧x<N∧nd.getD x []=[]))∧(initN nd m i l).Nodup∧HeapN (initN nd m i l).length (initN nd m i l)
 | 0,i,l,h,h1,h2,h3=>⟨fun x=>by simp [initN]; omega,h1,h3⟩
 | m+1,i,l,h,h1,h2,h3=>by
  rw [initN]
  have hil:i∉l:=fun hm=>by have:=h2 i hm; omega
  split
  ·rename_i h0;have hp:=pushF_perm l i
   obtain ⟨a1,a2,a3⟩:=initN_inv nd N m (i+1) (pushF l i) (by omega) (by rw [hp.nodup_iff,List.nodup_cons]; exact ⟨hil,h1⟩) (fun x hx=>by
    rcases List.mem_cons.1 (hp.mem_iff.1 hx) with rfl | hx
    ·omega
    ·have:=h2 x hx; omega) (pushF_heap h3 i)
   refine ⟨fun x => ?_,a2,a3⟩;rw [a1 x,hp.mem_iff,List.mem_cons];constructor
   ·rintro ((rfl | hx) | ⟨b1,b2,b3⟩)
    ·exact .inr ⟨Nat.le_refl _,by omega,h0⟩
    ·exact .inl hx
    ·exact .inr ⟨by omega,b2,b3⟩
   ·rintro (hx | ⟨b1,b2,b3⟩)
    ·exact .inl (.inr hx)
    ·by_cases he:x=i
     ·exact .inl (.inl he)
     ·exact .inr ⟨by omega,b2,b3⟩
  ·rename_i h0;obtain ⟨a1,a2,a3⟩:=initN_inv nd N m (i+1) l (by omega) h1 (fun x hx=>by have:=h2 x hx; omega) h3;refine ⟨fun x => ?_,a2,a3⟩;rw [a1 x];constructor
   ·rintro (hx | ⟨b1,b2,b3⟩)
    ·exact .inl hx
    ·exact .inr ⟨by omega,b2,b3⟩
   ·rintro (hx | ⟨b1,b2,b3⟩)
    ·exact .inl hx
    ·refine .inr ⟨?_,b2,b3⟩
     have:x≠i:=fun he=>h0 (he▸b3)
     omega
theorem inv0 {c:Ct} (hd:(c.gates.map (·.name)).Nodup):Inv c [] (needsC c) (initN (needsC c) c.gates.length 0 []):=by
 obtain ⟨h1,h2,h3⟩:=initN_inv (needsC c) c.gates.length c.gates.length 0 [] (by omega) (by simp) (by simp) (fun k hk hkl=>by simp at hkl);refine ⟨needsC_len c,fun i hi x=>by rw [needsC_mem hd hi]; simp,fun i => ?_,h2,h3,by simp,by simp,by simp⟩;rw [h1 i];constructor
 ·rintro (h | ⟨_,a,b⟩)
  ·cases h
  ·refine ⟨a,mayB_is.2 ⟨by simp,fun x hx => ?_⟩⟩;have:=(needsC_mem hd a x).2 hx
   rw [b] at this; exact this
 ·rintro ⟨a,b⟩
  refine .inr ⟨by omega,a,?_⟩;rw [List.eq_nil_iff_forall_not_mem];intro x hx;have:=(mayB_is.1 b).2 x ((needsC_mem hd a x).1 hx)
  cases this
theorem come_is {c:Ct} (hd:(c.gates.map (·.name)).Nodup):comeC c c.gates.length=sortC c:=Inv.come hd _ _ _ _ _ (inv0 hd)
theorem come_ends {c:Ct} (hd:(c.gates.map (·.name)).Nodup):endC c c.gates.length:=Inv.ends hd _ _ _ _ _ (inv0 hd) (by simp)
theorem sortF_len (c:Ct):∀ (f:Nat) (done:List Nat),(sortF c f done).length≤f
 | 0,_=>by simp [sortF]
 | f+1,done=>by
  rw [sortF]
  split
  ·simp
  ·rename_i k _;have:=sortF_len c f (done++[k])
   simp only [List.length_cons]; omega
theorem sortF_lt (c:Ct):∀ (f:Nat) (done:List Nat),∀ x∈sortF c f done,x<c.gates.length
 | 0,_=>by simp [sortF]
 | f+1,done=>by
  rw [sortF]
  split
  ·simp
  ·rename_i k hk;intro x hx
   rcases List.mem_cons.1 hx with rfl | hx
   ·exact (nextK_is hk).1
   ·exact sortF_lt c f _ x hx
end Go.Proofs.YtpinapmcemimcaaGreatDoor
namespace Go.Proofs.YtpinapmcemimcaaGreatDoor
open Go.AM Go.Proofs
variable {Γ : Nat → Option AV}
def sortO (c:Ct):List Nat:=if rightC c=true then sortC c else []
def neverO (c:Ct):List Bs:=if rightC c=true then neverF (sortC c) c.gates 0 else []
theorem sortC_lt20 {c:Ct} (hc:CtFew c):(sortC c).length<2^20:=by
 have h1:=sortF_len c c.gates.length [];have:=hc.2.2.2.1
 unfold sortC; omega
theorem p_SortO (hΓ:InsG Γ) (c:Ct) (hb:CtB c):PureCon Tryz.prog Γ n_order_Sort [eCt c] (.tup [.own 1 t_int ((sortO c).map iN),.own 1 t_string ((neverO c).map .str)]):=by
 unfold sortO neverO
 cases hr:rightC c with
 | false=>simpa using p_Sort0 hΓ c hb hr
 | true =>
  have hc:=right_few hb hr;have hd:=right_names hr;have hN:=hc.2.2.2.1;have h:=p_Sort hΓ c hb hr c.gates.length (by omega) (come_ends hd) (by rw [come_is hd]; exact sortC_lt20 hc);rw [come_is hd] at h;simpa using h
def checkO (c:Ct):Int×Bs:=if (checkC c).1=0 then (match neverO c with
 | []=>(0,[])
 | s::_=>(7,s)) else checkC c
set_option maxRecDepth 8000 in
theorem p_CheckO (hΓ:InsG Γ) (c:Ct) (hb:CtB c):PureCon Tryz.prog Γ n_order_Check [eCt c] (eChk (checkO c)):=by
 have hC:=p_CheckB hΓ c hb;have hS:=p_SortO hΓ c hb;unfold checkO;generalize checkC c=r at *;obtain ⟨e,s⟩:=r;refine .run 60 c_order_Check (by simp) ?_;simp;refine .call 60 (by simp) hC ?_
 by_cases h0:e=0
 ·simp [h0];refine .call 60 (by simp) hS ?_
  cases neverO c with
  | nil =>
   simp;exact .back (by simp)
  | cons a l =>
   have hl:(0:Int)<(l.length:Int)+1:=by omega
   simp [hl];exact .back (by simp)
 ·simp [h0];exact .back (by simp)
def nextM (c:Ct):List (Bs×(Bool×Nat×List Bs)):=c.latches.map (fun q=>(q.name,(true,1,[q.next])))++c.gates.map fun g=>(g.name,(false,g.ki,g.ins))
abbrev eNx (x:Bool×Nat×List Bs):AV:=.list x.1 x.2.1 (x.2.2.map .str)
abbrev eNm (x:Bs×(Bool×Nat×List Bs)):AV×AV:=(.str x.1,eNx x.2)
@[simp] theorem belM_nm (n:Nat):∀ l:List (Bs×(Bool×Nat×List Bs)),belM n (l.map eNm)=true
 | []=>rfl
 | x::r=>by simp [belM_nm n r]
@[simp] theorem vldM_nm (n m:Nat):∀ l:List (Bs×(Bool×Nat×List Bs)),vldM n m (l.map eNm)=true
 | []=>rfl
 | x::r=>by simp [vldM_nm n m r]
theorem nextM_keys (c:Ct):(nextM c).map (·.1)=c.latches.map (·.name)++c.gates.map (·.name):=by simp [nextM,Function.comp_def]
theorem getM_nodup {V:Type}:∀ {l:List (Bs×V)} {i:Nat} (h:i<l.length),(l.map (·.1)).Nodup→getM l[i].1 (l.take i)=none:=fun {l i} h hd=>by
 rw [getM_none];intro x hx hn;obtain ⟨j,hj,rfl⟩:=List.getElem_of_mem hx
 have hj':j<i:=by simp at hj; omega
 rw [List.getElem_take] at hn
 have h1:(l.map (·.1))[j]'(by simp; omega)=(l.map (·.1))[i]'(by simpa using h):=by simpa using hn
 have:=(List.getElem_inj hd).1 h1;omega
def nextL (c:Ct) (s:Bs):List Bs:=match getM s (nextM c) with
 | some v=>v.2.2
 | none=>[]
def coneF (c:Ct):Nat→List Bs→Nat→List Bs→List Bs
 | 0,_,_,inn=>inn
 | f + 1, hist, p, inn => if h : p < hist.length then
     (if hist[p]∈inn then coneF c f hist (p+1) inn else coneF c f (hist++nextL c hist[p]) (p+1) (inn++[hist[p]])) else inn
def coneE (c:Ct):Nat→List Bs→Nat→List Bs→Prop
 | 0,hist,p,inn=>hist.length≤p
 | f + 1, hist, p, inn => if h : p < hist.length then
     (if hist[p]∈inn then coneE c f hist (p+1) inn else coneE c f (hist++nextL c hist[p]) (p+1) (inn++[hist[p]])) else True
abbrev hCn (c:Ct) (inn hist:List Bs) (g:Option Nat):List Ob:=[.cells (AV.cells (eCt c)),.row 1 t_string [] none true false,.map ((nextM c).map eNm) true,.map (inn.map eSeen) true,.row 1 t_string (hist.map .str) g true false]
set_option maxRecDepth 8000 in
theorem f_Cn1 (c:Ct) (inn hist:List Bs) (g:Option Nat) (N:List Bs) (hN:N.length<2^30):∀ n i:Nat,i+n=N.length→∀ out:List Bs,out.length≤i →
  Fins Tryz.prog Γ (yqv (.mp 3) (.sl 5 0 out.length) (.sl 6 0 N.length) (.int .i64 N.length) (.int .i64 i) (hCn c inn hist g++[.row 1 t_string (out.map .str) none true false,.row 1 t_string (N.map .str) none true false]) ⟨[],.norm,0,[]⟩)
  (.ret (.own 1 t_string ((out++(N.drop i).filter fun s=>decide (s∈inn)).map .str))):=by
 intro n
 induction n with
 | zero =>
  intro i hi out ho
  have q1:¬ i<N.length:=by omega
  rw [List.drop_eq_nil_of_le (by omega)];refine .go 60 ?_;simp [q1];exact .back (by simp)
 | succ n ih =>
  intro i hi out ho
  have q1:i<N.length:=by omega
  have hfi:=findIn_seen N[i] inn;rw [List.drop_eq_getElem_cons q1]
  by_cases h:N[i]∈inn
  ·have hh:=ih (i+1) (by omega) (out++[N[i]]) (by simp; omega);rw [if_pos h] at hfi;rw [List.filter_cons,if_pos (by simpa using h)]
   have hle:((out.length:Int)+1)*16≤140737488355328:=by omega
   refine .go 60 ?_;simp (disch:=omega) [q1,hfi,isKey,allDatum,isDatum,hle];refine .reLoop ?_;simp;refine .reset (i:=5) rfl (by simp) (by simp) (by simp) ?_;simp at hh ⊢;exact hh
  ·have hh:=ih (i+1) (by omega) out (by omega);rw [if_neg h] at hfi;rw [List.filter_cons,if_neg (by simpa using h)];refine .go 60 ?_;simp (disch:=omega) [q1,hfi,isKey,allDatum,isDatum];refine .reLoop ?_;simp at hh ⊢;exact hh
theorem nextM_kd {c:Ct} (hc:CtFew c) {s:Bs} {v:Bool×Nat×List Bs} (h:getM s (nextM c)=some v):Kd 1 v.2.1 v.2.2∧v.2.2.length<2^10:=by
 have:=getM_mem h;rw [nextM,List.mem_append,List.mem_map,List.mem_map] at this
 rcases this with ⟨q,hq,he⟩ | ⟨g,hg,he⟩
 ·cases he; exact ⟨.self,by simp⟩
 ·cases he; exact ⟨g.hi,(hc.2.2.2.2.1 g hg).2.1⟩
theorem putIn_seen2 {s:Bs} {l:List Bs} (h:s∉l):putIn (.sc .str) (.str s) (.bool true) (l.map eSeen)=some ((l++[s]).map eSeen):=by rw [putIn_seen h]; simp
set_option maxRecDepth 8000 in
theorem f_Cn10 (c:Ct) (hc:CtFew c):∀ (f:Nat) (hist inn:List Bs) (p:Nat) (g:Option Nat),p≤hist.length→(g=none∨∃ lo,g=some lo∧lo≤p)→hist.length+f*2^10<2^40→coneE c f hist p inn →
  Fins Tryz.prog Γ (yqx (.ptr 0 0) (.mp 2) (.mp 3) (.sl 4 p (hist.length - p)) (hCn c inn hist g) ⟨[],.norm,0,[]⟩) (.ret (.own 1 t_string (((netsC c).filter fun s=>decide (s∈coneF c f hist p inn)).map .str))):=by
 intro f
 induction f with
 | zero =>
  intro hist inn p g hp hg hl hE;rw [coneE] at hE;rw [coneF]
  obtain rfl:p=hist.length:=by omega
  have hh:=f_Cn1 (Γ:=Γ) c inn hist g (netsC c) (by have:=nets_le hc; omega) (netsC c).length 0 (by omega) [] (by simp);rw [Nat.sub_self];refine .go 60 ?_;simp;refine .call 60 (by simp) (p_Nets c hc) ?_;simp;refine .inLoop ?_;simp at hh ⊢;exact hh
 | succ f ih =>
  intro hist inn p g hp hg hl hE;rw [coneE] at hE;rw [coneF]
  by_cases h:p<hist.length
  ·obtain ⟨m,hm⟩:∃ m,hist.length=p+(m+1):=⟨hist.length - p - 1,by omega⟩
   have hm1:hist.length - p=m+1:=by omega
   have hm2:hist.length - (p+1)=m:=by omega
   rw [dif_pos h] at hE ⊢
   have gp:(hist.map AV.str)[p]? = some (.str hist[p]):=by simp [h]
   have hfi:=findIn_seen hist[p] inn
   have hEl:(hist.map AV.str).length=p+(m+1):=by simpa using hm
   obtain ⟨_,gp'⟩:=List.getElem?_eq_some_iff.1 gp
   have ok1:okSl (hist.map AV.str) g p (m+1)=true:=by
    rcases hg with rfl | ⟨lo,rfl,hlo⟩
    ·simp [okSl,hm]
    ·simp [okSl,hm,hlo]
   have ok2:okSl (hist.map AV.str) g (p+1) m=true:=by
    rcases hg with rfl | ⟨lo,rfl,hlo⟩
    ·simp [okSl,hm]; omega
    ·simp [okSl,hm]; omega
   rw [hm1]
   by_cases hin:hist[p]∈inn
   ·have hh:=ih hist inn (p+1) g (by omega) (hg.imp id fun ⟨lo,h1,h2⟩=>⟨lo,h1,by omega⟩) (by omega) (by rwa [if_pos hin] at hE);rw [hm2] at hh;rw [if_pos hin] at hfi ⊢
    rcases hg with rfl | ⟨lo,rfl,hlo⟩
    all_goals
     refine .go 60 ?_;simp (disch:=omega) [hEl,hfi,gp,gp',isKey,allDatum,isDatum];refine .reLoop ?_;simp at hh ⊢;exact hh
   ·have hnx:=findIn_gen (E:=.sc .str) (e:=AV.str) eq_str eNx hist[p] (nextM c);have hpu:=putIn_seen2 hin;rw [if_neg hin] at hfi hE ⊢
    cases hx:getM hist[p] (nextM c) with
    | none =>
     have hn0:nextL c hist[p]=[]:=by simp [nextL,hx]
     rw [hn0,List.append_nil] at hE ⊢;have hh:=ih hist (inn++[hist[p]]) (p+1) g (by omega) (hg.imp id fun ⟨lo,h1,h2⟩=>⟨lo,h1,by omega⟩) (by omega) hE;rw [hm2] at hh;rw [hx] at hnx
     have b8:(m:Int)*16≤140737488355328:=by omega
     rcases hg with rfl | ⟨lo,rfl,hlo⟩
     all_goals
      refine .go 60 ?_;simp (disch:=omega) [hEl,hfi,gp,gp',isKey,allDatum,isDatum,hpu,hnx];refine .reLoop ?_;simp [hCn] at hh ⊢;exact hh
    | some v =>
     obtain ⟨hk,hvl⟩:=nextM_kd hc hx
     have hn0:nextL c hist[p]=v.2.2:=by simp [nextL,hx]
     rw [hn0] at hE ⊢;rw [hx] at hnx;obtain ⟨fl,k,l⟩:=v;simp only at hk hvl hn0 hE ⊢
     cases l with
     | nil =>
      rw [List.append_nil] at hE ⊢;have hh:=ih hist (inn++[hist[p]]) (p+1) g (by omega) (hg.imp id fun ⟨lo,h1,h2⟩=>⟨lo,h1,by omega⟩) (by omega) hE;rw [hm2] at hh
      have b8:(m:Int)*16≤140737488355328:=by omega
      rcases hg with rfl | ⟨lo,rfl,hlo⟩
      all_goals
       refine .go 60 ?_;simp (disch:=omega) [hEl,hfi,gp,gp',isKey,allDatum,isDatum,hpu,hnx];refine .reLoop ?_;simp [hCn] at hh ⊢;exact hh
     | cons a l =>
      have hk1:k=1:=hk.of (i:=0) (by simp);subst hk1;have hh:=ih (hist++a::l) (inn++[hist[p]]) (p+1) (some (p+1)) (by simp; omega) (.inr ⟨p+1,rfl,Nat.le_refl _⟩) (by simp only [List.length_append,List.length_cons] at hvl ⊢; omega) hE;rw [show (hist++a::l).length - (p+1)=m+(l.length+1) by simp; omega] at hh;simp only [List.length_cons] at hvl;have e3:(p+1+m=p+(m+1))=True:=eq_true (by omega)
      have b8:(m+(l.length+1))*16≤140737488355328:=by omega
      rcases hg with rfl | ⟨lo,rfl,hlo⟩
      all_goals
       refine .go 60 ?_;simp (disch:=omega) [hEl,hfi,gp,gp',isKey,allDatum,isDatum,hpu,hnx,b8,e3];refine .reLoop ?_;simp [hCn] at hh ⊢;exact hh
  ·obtain rfl:p=hist.length:=by omega
   have hh:=f_Cn1 (Γ:=Γ) c inn hist g (netsC c) (by have:=nets_le hc; omega) (netsC c).length 0 (by omega) [] (by simp);rw [dif_neg h,Nat.sub_self];refine .go 60 ?_;simp;refine .call 60 (by simp) (p_Nets c hc) ?_;simp;refine .inLoop ?_;simp [hCn] at hh ⊢;exact hh
set_option maxRecDepth 8000 in
theorem f_Cn21 (c:Ct) (hc:CtFew c) (hd:((nextM c).map (·.1)).Nodup) (nets:List Bs) {k:Nat} (hk:Kd 1 k nets) (hn:nets.length<2^30) (f:Nat) (hf:f<2^26) (hE:coneE c f nets 0 []):∀ n i:Nat,i+n=c.gates.length →
  Fins Tryz.prog Γ (yqz (.list false k (nets.map .str)) (.ptr 0 0) (.mp 2) (.list false c.kG (c.gates.map eGt)) (.int .i64 c.gates.length) (.int .i64 i) [.cells (AV.cells (eCt c)),.row 1 t_string [] none true false,.map (((nextM c).take (c.latches.length+i)).map eNm) true] ⟨[],.norm,0,[]⟩)
   (.ret (.own 1 t_string (((netsC c).filter fun s=>decide (s∈coneF c f nets 0 [])).map .str))):=by
 have hG:=hc.2.2.2.1;intro n
 induction n with
 | zero =>
  intro i hi
  have q1:¬ i<c.gates.length:=by omega
  have hh:=f_Cn10 (Γ:=Γ) c hc f nets [] 0 none (Nat.zero_le _) (.inl rfl) (by omega) hE;rw [List.take_of_length_le (by simp [nextM]; omega)];refine .go 60 ?_;simp [q1];refine .call 60 (by simp) (p_slices_Clone_string_string nets hk (by omega)) ?_;simp;refine .inLoop ?_;simp at hh ⊢;exact hh
 | succ n ih =>
  intro i hi
  have q1:i<c.gates.length:=by omega
  have q2:=eq_true (c.hG.of q1);have hh:=ih (i+1) (by omega)
  have hlt:c.latches.length+i<(nextM c).length:=by simp [nextM]; omega
  have hg:(nextM c)[c.latches.length+i]=(c.gates[i].name,(false,c.gates[i].ki,c.gates[i].ins)):=by
   simp only [nextM];rw [List.getElem_append_right (by simp)];simp
  have hnone:=getM_nodup hlt hd;have hput:=putIn_gen (E:=.sc .str) (e:=AV.str) eq_str eNx (nextM c)[c.latches.length+i].2 hnone;have e1:(nextM c).take (c.latches.length+(i+1))=(nextM c).take (c.latches.length+i)++[(nextM c)[c.latches.length+i]]:=List.take_succ_eq_append_getElem hlt;rw [e1] at hh;rw [hg] at hh hput;generalize (nextM c).take (c.latches.length+i)=P at *
  have hput2:putIn (.sc .str) (.str c.gates[i].name) (.list false c.gates[i].ki (c.gates[i].ins.map .str)) (P.map eNm)=some (P.map eNm++[(.str c.gates[i].name,.list false c.gates[i].ki (c.gates[i].ins.map .str))]):=by
   have:=hput;rw [List.map_append] at this;exact this
  have ha:(c.gates[i].ins.all fun _=>true)=true:=List.all_eq_true.2 fun _ _=>rfl
  refine .go 60 ?_;simp (disch:=omega) [q1,q2,hput2,isKey,allDatum,isDatum,ha];refine .reLoop ?_;simp;refine .drop 3 rfl (by simp) (by simp) (by simp [belM_app]) ?_;simp [ha] at hh ⊢;exact hh
set_option maxRecDepth 8000 in
theorem f_Cn28 (c:Ct) (hc:CtFew c) (hd:((nextM c).map (·.1)).Nodup) (nets:List Bs) {k:Nat} (hk:Kd 1 k nets) (hn:nets.length<2^30) (f:Nat) (hf:f<2^26) (hE:coneE c f nets 0 []):∀ n i:Nat,i+n=c.latches.length →
  Fins Tryz.prog Γ (yqB (.list false k (nets.map .str)) (.ptr 0 0) (.mp 2) (.list false c.kL (c.latches.map eLt)) (.int .i64 c.latches.length) (.int .i64 i) [.cells (AV.cells (eCt c)),.row 1 t_string [] none true false,.map (((nextM c).take i).map eNm) true] ⟨[],.norm,0,[]⟩)
   (.ret (.own 1 t_string (((netsC c).filter fun s=>decide (s∈coneF c f nets 0 [])).map .str))):=by
 have hG:=hc.2.2.1;intro n
 induction n with
 | zero =>
  intro i hi
  have q1:¬ i<c.latches.length:=by omega
  have hh:=f_Cn21 (Γ:=Γ) c hc hd nets hk hn f hf hE c.gates.length 0 (by omega)
  obtain rfl:i=c.latches.length:=by omega
  refine .go 60 ?_;simp [q1];refine .inLoop ?_;simp at hh ⊢;exact hh
 | succ n ih =>
  intro i hi
  have q1:i<c.latches.length:=by omega
  have q2:=eq_true (c.hL.of q1);have hh:=ih (i+1) (by omega)
  have hlt:i<(nextM c).length:=by simp [nextM]; omega
  have hg:(nextM c)[i]=(c.latches[i].name,(true,1,[c.latches[i].next])):=by
   simp only [nextM];rw [List.getElem_append_left (by simpa using q1)];simp
  have hnone:=getM_nodup hlt hd;have hput:=putIn_gen (E:=.sc .str) (e:=AV.str) eq_str eNx (nextM c)[i].2 hnone;have e1:(nextM c).take (i+1)=(nextM c).take i++[(nextM c)[i]]:=List.take_succ_eq_append_getElem hlt;rw [e1] at hh;rw [hg] at hh hput;generalize (nextM c).take i=P at *
  have hput2:putIn (.sc .str) (.str c.latches[i].name) (.list true 1 [.str c.latches[i].next]) (P.map eNm)=some (P.map eNm++[(.str c.latches[i].name,.list true 1 [.str c.latches[i].next])]):=by
   have:=hput;rw [List.map_append] at this;exact this
  refine .go 60 ?_;simp (disch:=omega) [q1,q2,hput2,isKey,allDatum,isDatum];refine .reLoop ?_;simp;refine .drop 3 rfl (by simp) (by simp) (by simp [belM_app]) ?_;simp at hh ⊢;exact hh
theorem next_nodup {c:Ct} (hr:rightC c=true):((nextM c).map (·.1)).Nodup:=by
 have:=(right_ok hr).1.nodup;rw [netsC,List.append_assoc,List.nodup_append] at this;rw [nextM_keys];exact this.2.1
set_option maxRecDepth 8000 in
theorem p_Cone1 (hΓ:InsG Γ) (c:Ct) (hb:CtB c) (hr:rightC c=true) (nets:List Bs) {k:Nat} (hk:Kd 1 k nets) (hn:nets.length<2^30) (f:Nat) (hf:f<2^26) (hE:coneE c f nets 0 []):PureCon Tryz.prog Γ n_order_Cone [eCt c,.list false k (nets.map .str)] (.own 1 t_string (((netsC c).filter fun s=>decide (s∈coneF c f nets 0 [])).map .str)):=by
 have hc:=right_few hb hr;have hR:=p_right hΓ c hb;rw [hr] at hR;have hh:=f_Cn28 (Γ:=Γ) c hc (next_nodup hr) nets hk hn f hf hE c.latches.length 0 (by omega);refine .run 60 c_order_Cone (by simp) ?_;simp;refine .call 60 (by simp) hR ?_;simp;refine .inLoop ?_;simp at hh ⊢;exact hh
theorem p_Cone0 (hΓ:InsG Γ) (c:Ct) (hb:CtB c) (hr:rightC c=false) (nets:List Bs) {k:Nat}:PureCon Tryz.prog Γ n_order_Cone [eCt c,.list false k (nets.map .str)] (.own 1 t_string []):=by
 have hR:=p_right hΓ c hb;rw [hr] at hR;refine .run 60 c_order_Cone (by simp) ?_;simp;refine .call 60 (by simp) hR ?_;simp;exact .back (by simp)
def sumW (inn:List Bs):List (Bs×(Bool×Nat×List Bs))→Nat
 | []=>0
 | x::r=>(if x.1∈inn then 0 else x.2.2.2.length)+sumW inn r
theorem sumW_le (inn:List Bs) (s:Bs):∀ M:List (Bs×(Bool×Nat×List Bs)),sumW (inn++[s]) M≤sumW inn M
 | []=>Nat.le_refl _
 | x::r=>by
  have:=sumW_le inn s r;simp only [sumW]
  by_cases h:x.1∈inn
  ·have h2:x.1∈inn++[s]:=by simp [h]
   rw [if_pos h,if_pos h2]; omega
  ·rw [if_neg h]
   split <;> omega
theorem sumW_lt {inn:List Bs} {s:Bs} (hs:s∉inn):∀ {M:List (Bs×(Bool×Nat×List Bs))} {v},getM s M=some v→sumW (inn++[s]) M+v.2.2.length≤sumW inn M
 | [],v,h=>by cases h
 | (a,u)::r,v,h=>by
  rw [getM] at h;simp only [sumW]
  split at h
  ·rename_i h1;subst h1
   cases h
   have:=sumW_le inn s r
   rw [if_pos (by simp),if_neg hs]; omega
  ·have:=sumW_lt hs h
   by_cases h2:a∈inn
   ·rw [if_pos (by simp [h2]),if_pos h2]; omega
   ·rw [if_neg h2]
    split <;> omega
theorem coneE_of (c:Ct):∀ (f:Nat) (hist:List Bs) (p:Nat) (inn:List Bs),p≤hist.length→(hist.length - p)+sumW inn (nextM c)≤f→coneE c f hist p inn
 | 0,hist,p,inn,hp,h=>by
  rw [coneE]; omega
 | f+1,hist,p,inn,hp,h=>by
  rw [coneE]
  by_cases h1:p<hist.length
  ·rw [dif_pos h1]
   by_cases h2:hist[p]∈inn
   ·rw [if_pos h2];exact coneE_of c f _ _ _ (by omega) (by omega)
   ·rw [if_neg h2];refine coneE_of c f _ _ _ (by simp; omega) ?_;rw [List.length_append]
    cases hx:getM hist[p] (nextM c) with
    | none =>
     have hn:nextL c hist[p]=[]:=by simp [nextL,hx]
     have:=sumW_le inn hist[p] (nextM c);rw [hn]
     simp only [List.length_nil]; omega
    | some v =>
     have hn:nextL c hist[p]=v.2.2:=by simp [nextL,hx]
     have:=sumW_lt h2 hx
     rw [hn]; omega
  ·rw [dif_neg h1]; trivial
theorem sumW_bnd {c:Ct} (hc:CtFew c):sumW [] (nextM c)≤2^22:=by
 have h:∀ M:List (Bs×(Bool×Nat×List Bs)),(∀ x∈M,x.2.2.2.length<2^10)→sumW [] M≤M.length*2^10:=by
  intro M
  induction M with
  | nil=>intro _; simp [sumW]
  | cons x r ih =>
   intro hM
   have:=ih fun y hy=>hM y (by simp [hy])
   have:=hM x (by simp);simp only [sumW,List.not_mem_nil,if_false,List.length_cons,Nat.succ_mul];omega
 have h1:=h (nextM c) (fun x hx=>by
  rw [nextM,List.mem_append,List.mem_map,List.mem_map] at hx
  rcases hx with ⟨q,hq,he⟩ | ⟨g,hg,he⟩
  ·rw [← he]; simp
  ·rw [← he]; exact (hc.2.2.2.2.1 g hg).2.1)
 have h2:(nextM c).length≤2^11:=by
  have:=hc.2.2.1;have:=hc.2.2.2.1
  simp [nextM]; omega
 omega
def coneC (c:Ct) (nets:List Bs):List Bs:=coneF c (nets.length+sumW [] (nextM c)) nets 0 []
def coneO (c:Ct) (nets:List Bs):List Bs:=if rightC c=true then (netsC c).filter fun s=>decide (s∈coneC c nets) else []
theorem p_ConeO (hΓ:InsG Γ) (c:Ct) (hb:CtB c) (nets:List Bs) {k:Nat} (hk:Kd 1 k nets) (hn:nets.length<2^25):PureCon Tryz.prog Γ n_order_Cone [eCt c,.list false k (nets.map .str)] (.own 1 t_string ((coneO c nets).map .str)):=by
 unfold coneO
 cases hr:rightC c with
 | false=>simpa using p_Cone0 hΓ c hb hr nets
 | true =>
  have:=sumW_bnd (right_few hb hr);have h:=p_Cone1 hΓ c hb hr nets hk (by omega) (nets.length+sumW [] (nextM c)) (by omega) (coneE_of c _ _ _ _ (Nat.zero_le _) (by omega));rw [if_pos rfl];exact h
inductive Leads (c:Ct) (nets:List Bs):Bs→Prop
 | base {s:Bs}:s∈nets→Leads c nets s
 | step {s t:Bs}:Leads c nets s→t∈nextL c s→Leads c nets t
theorem coneF_is (c:Ct) (nets:List Bs):∀ (f:Nat) (hist:List Bs) (p:Nat) (inn:List Bs),p≤hist.length→coneE c f hist p inn→(∀ s∈nets,s∈hist)→(∀ s∈hist,Leads c nets s)→(∀ s∈hist.take p,s∈inn)→(∀ s∈inn,s∈hist)→(∀ s∈inn,∀ t∈nextL c s,t∈hist) →
  ∀ s,s∈coneF c f hist p inn↔Leads c nets s:=by
 have stop:∀ (hist:List Bs) (p:Nat) (inn:List Bs),hist.length≤p→(∀ s∈nets,s∈hist)→(∀ s∈hist,Leads c nets s)→(∀ s∈hist.take p,s∈inn)→(∀ s∈inn,s∈hist)→(∀ s∈inn,∀ t∈nextL c s,t∈hist)→∀ s,s∈inn↔Leads c nets s:=by
  intro hist p inn hp h1 h2 h3 h4 h5 s;rw [List.take_of_length_le hp] at h3;refine ⟨fun h=>h2 s (h4 s h),fun h => ?_⟩
  induction h with
  | base h=>exact h3 _ (h1 _ h)
  | step _ h ih=>exact h3 _ (h5 _ ih _ h)
 intro f
 induction f with
 | zero =>
  intro hist p inn hp hE h1 h2 h3 h4 h5;rw [coneE] at hE;rw [coneF];exact stop hist p inn hE h1 h2 h3 h4 h5
 | succ f ih =>
  intro hist p inn hp hE h1 h2 h3 h4 h5;rw [coneE] at hE;rw [coneF]
  by_cases h:p<hist.length
  ·rw [dif_pos h] at hE ⊢
   have htk:∀ s∈hist.take (p+1),s∈inn∨s=hist[p]:=fun s hs=>by
    rw [List.take_succ_eq_append_getElem h,List.mem_append,List.mem_singleton] at hs;exact hs.imp (h3 s) id
   by_cases hm:hist[p]∈inn
   ·rw [if_pos hm] at hE ⊢;exact ih hist (p+1) inn h hE h1 h2 (fun s hs=>(htk s hs).elim id fun he=>he▸hm) h4 h5
   ·rw [if_neg hm] at hE ⊢;refine ih _ (p+1) _ (by simp; omega) hE (fun s hs=>by simp [h1 s hs]) (fun s hs => ?_) (fun s hs => ?_) (fun s hs => ?_) (fun s hs t ht => ?_)
    ·rcases List.mem_append.1 hs with hs | hs
     ·exact h2 s hs
     ·exact .step (h2 _ (List.getElem_mem h)) hs
    ·rw [List.take_append_of_le_length (by omega)] at hs
     rcases htk s hs with h6 | h6
     ·simp [h6]
     ·simp [h6]
    ·rcases List.mem_append.1 hs with hs | hs
     ·simp [h4 s hs]
     ·rw [List.mem_singleton] at hs
      rw [hs]; simp
    ·rcases List.mem_append.1 hs with hs | hs
     ·simp [h5 s hs t ht]
     ·rw [List.mem_singleton] at hs;rw [hs] at ht;simp [ht]
  ·rw [dif_neg h];exact stop hist p inn (by omega) h1 h2 h3 h4 h5
theorem coneC_is (c:Ct) (nets:List Bs) (s:Bs):s∈coneC c nets↔Leads c nets s :=
 coneF_is c nets _ nets 0 [] (Nat.zero_le _) (coneE_of c _ _ _ _ (Nat.zero_le _) (by omega)) (fun s h=>h) (fun s h=>.base h) (by simp) (by simp) (by simp) s
theorem p_ContainsS (l:List (List UInt8)) (s:List UInt8) {k:Nat} (hk:Kd 1 k l) (hl:l.length<2^40):PureCon Tryz.prog Γ n_slices_Contains_string_string [.list false k (l.map .str),.str s] (.bool (l.contains s)):=by
 refine .run 60 c_slices_Contains_string_string (by simp) ?_;simp;refine .call 60 (by simp) (p_IndexS l s hk hl) ?_;have e:=idxS_has s l 0;simp [e];exact .back (by simp)
theorem p_CloneT (l:List (List UInt8)) {k:Nat} (hk:Kd 1 k l) (hl:l.length<2^40):PureCon Tryz.prog Γ n_slices_Clone_string_string [.list false k (l.map AV.str)] (.list false 1 (l.map AV.str)):=by
 cases l with
 | nil =>
  refine .run 60 c_slices_Clone_string_string (by simp) ?_;simp;refine .either 0 (by simp) (fun b => ?_)
  cases b
  ·refine .go 9 ?_;simp;refine .nilslot 2 1 t_string rfl (by omega) ?_;refine .trees [2] ?_;refine .go 60 ?_;simp;exact .back (by simp)
  ·refine .go 7 ?_;simp;refine .trees [2] ?_;refine .go 60 ?_;simp;exact .back (by simp)
 | cons x xs =>
  have hk0:k=1:=by
   rcases hk with h | h
   ·exact h
   ·cases h
  subst hk0;simp at hl;refine .run 18 c_slices_Clone_string_string (by simp) ?_;simp (disch:=(first | omega | (simp; omega)));refine .trees [2] ?_;refine .go 60 ?_;simp;exact .back (by simp)
abbrev hTr (c:Ct) (cone:List Bs) (L:List Lt) (G:List Gt):List Ob:=[.cells (AV.cells (eCt c)),.cells [.sl 2 0 0,.sl 3 0 0,.sl 4 0 0,.sl 5 0 0],.row 1 t_string [] none true false,.row 1 t_string [] none true false,.row 3 t_api_Latch_2 [] none true false,.row 5 t_api_Gate_2 [] none true false,
 .row 1 t_string (cone.map .str) none true true,.cells [.list false 1 (c.inputs.map .str),.list false 1 (c.outputs.map .str),.sl 12 0 L.length,.sl 13 0 G.length],.row 1 t_string [] none true false,.row 1 t_string [] none true false,.row 3 t_api_Latch_2 [] none true false,.row 5 t_api_Gate_2 [] none true false,
 .row 3 t_api_Latch_2 (L.map eLt) none true false,.row 5 t_api_Gate_2 (G.map eGt) none true false]
abbrev eTr (c:Ct) (L:List Lt) (G:List Gt):AV:=.agg [.list false 1 (c.inputs.map .str),.list false 1 (c.outputs.map .str),.list false 3 (L.map eLt),.list false 5 (G.map eGt)]
set_option maxRecDepth 8000 in
theorem f_Tr1 (c:Ct) (hc:CtFew c) (cone:List Bs) (hcl:cone.length<2^40) (L:List Lt):∀ n i:Nat,i+n=c.gates.length→∀ G:List Gt,G.length≤i →
  Fins Tryz.prog Γ (yji (.ptr 1 0) (.list false 1 (cone.map .str)) (.ptr 7 0) (.list false c.kG (c.gates.map eGt)) (.int .i64 c.gates.length) (.int .i64 i) (hTr c cone L G) ⟨[],.norm,0,[]⟩)
   (.ret (eTr c L (G++(c.gates.drop i).filter fun g=>cone.contains g.name))):=by
 have hN:=hc.2.2.2.1;intro n
 induction n with
 | zero =>
  intro i hi G hG
  have q1:¬ i<c.gates.length:=by omega
  rw [List.drop_eq_nil_of_le (by omega)];refine .go 60 ?_;simp [q1];exact .back (by simp)
 | succ n ih =>
  intro i hi G hG
  have q1:i<c.gates.length:=by omega
  have q2:=eq_true (c.hG.of q1);have hK:=p_ContainsS (Γ:=Γ) cone c.gates[i].name (k:=1) .self hcl;rw [List.drop_eq_getElem_cons q1,List.filter_cons]
  cases hb:cone.contains c.gates[i].name with
  | true =>
   rw [hb] at hK;have hh:=ih (i+1) (by omega) (G++[c.gates[i]]) (by simp; omega)
   have hle:((G.length:Int)+1)*80≤140737488355328:=by omega
   rw [if_pos rfl];refine .go 60 ?_;simp [q1,q2];refine .call 60 (by simp) hK ?_;simp (disch:=omega) [hle];refine .reLoop ?_;simp;refine .drop 14 rfl (by simp) (by simp) (by simp) ?_;refine .reset (i:=13) rfl (by simp) (by simp) (by simp) ?_;simp [hTr] at hh ⊢;exact hh
  | false =>
   rw [hb] at hK;have hh:=ih (i+1) (by omega) G (by omega);rw [if_neg (by simp)];refine .go 60 ?_;simp [q1,q2];refine .call 60 (by simp) hK ?_;simp (disch:=omega);refine .reLoop ?_;simp;refine .drop 14 rfl (by simp) (by simp) (by simp) ?_;simp [hTr] at hh ⊢;exact hh
set_option maxRecDepth 8000 in
theorem f_Tr9 (c:Ct) (hc:CtFew c) (cone:List Bs) (hcl:cone.length<2^40):∀ n i:Nat,i+n=c.latches.length→∀ L:List Lt,L.length≤i →
  Fins Tryz.prog Γ (yjk (.ptr 0 0) (.ptr 1 0) (.list false 1 (cone.map .str)) (.ptr 7 0) (.list false c.kL (c.latches.map eLt)) (.int .i64 c.latches.length) (.int .i64 i) (hTr c cone L []) ⟨[],.norm,0,[]⟩)
   (.ret (eTr c (L++(c.latches.drop i).filter fun g=>cone.contains g.name) (c.gates.filter fun g=>cone.contains g.name))):=by
 have hN:=hc.2.2.1;intro n
 induction n with
 | zero =>
  intro i hi L hG
  have q1:¬ i<c.latches.length:=by omega
  have hh:=f_Tr1 (Γ:=Γ) c hc cone hcl L c.gates.length 0 (by omega) [] (by simp);rw [List.drop_eq_nil_of_le (by omega)];refine .go 60 ?_;simp [q1];refine .inLoop ?_;simp at hh ⊢;exact hh
 | succ n ih =>
  intro i hi L hG
  have q1:i<c.latches.length:=by omega
  have q2:=eq_true (c.hL.of q1);have hK:=p_ContainsS (Γ:=Γ) cone c.latches[i].name (k:=1) .self hcl;rw [List.drop_eq_getElem_cons q1,List.filter_cons]
  cases hb:cone.contains c.latches[i].name with
  | true =>
   rw [hb] at hK;have hh:=ih (i+1) (by omega) (L++[c.latches[i]]) (by simp; omega)
   have hle:((L.length:Int)+1)*40≤140737488355328:=by omega
   rw [if_pos rfl];refine .go 60 ?_;simp [q1,q2];refine .call 60 (by simp) hK ?_;simp (disch:=omega) [hle];refine .reLoop ?_;simp;refine .drop 14 rfl (by simp) (by simp) (by simp) ?_;refine .reset (i:=12) rfl (by simp) (by simp) (by simp) ?_;simp [hTr] at hh ⊢;exact hh
  | false =>
   rw [hb] at hK;have hh:=ih (i+1) (by omega) L (by omega);rw [if_neg (by simp)];refine .go 60 ?_;simp [q1,q2];refine .call 60 (by simp) hK ?_;simp (disch:=omega);refine .reLoop ?_;simp;refine .drop 14 rfl (by simp) (by simp) (by simp) ?_;simp [hTr] at hh ⊢;exact hh
def trimC (c:Ct):Ct where
 inputs:=c.inputs
 outputs:=c.outputs
 latches:=c.latches.filter fun q=>(coneO c c.outputs).contains q.name
 gates:=c.gates.filter fun g=>(coneO c c.outputs).contains g.name
 kI:=1
 kO:=1
 kL:=3
 kG:=5
 hI:=.self
 hO:=.self
 hL:=.self
 hG:=.self
set_option maxRecDepth 8000 in
theorem p_Trim1 (hΓ:InsG Γ) (c:Ct) (hb:CtB c) (hr:rightC c=true):PureCon Tryz.prog Γ n_order_Trim [eCt c] (eCt (trimC c)):=by
 have hc:=right_few hb hr;have hR:=p_right hΓ c hb;rw [hr] at hR;have hC:=p_ConeO hΓ c hb c.outputs c.hO (by have:=hc.2.1; omega)
 have hcl:(coneO c c.outputs).length<2^40:=by
  have h1:=nets_le hc;have h2:=List.length_filter_le (fun s=>decide (s∈coneC c c.outputs)) (netsC c);unfold coneO;rw [if_pos hr];exact Nat.lt_of_le_of_lt h2 (by omega)
 have hh:=f_Tr9 (Γ:=Γ) c hc (coneO c c.outputs) hcl c.latches.length 0 (by omega) [] (by simp);refine .run 60 c_order_Trim (by simp) ?_;simp;refine .call 60 (by simp) hR ?_;simp;refine .call 60 (by simp) hC ?_;simp;refine .dr 60 ?_;simp;refine .quiet (p_CloneT c.inputs c.hI (by have:=hc.1; omega)) (by simp) (by simp) ?_;simp;refine .quiet (p_CloneT c.outputs c.hO (by have:=hc.2.1; omega)) (by simp) (by simp) ?_;simp;refine .trees [3] ?_;simp;refine .nilcell 7 2 3 t_api_Latch_2 rfl rfl (by omega) ?_;simp;refine .nilcell 7 3 5 t_api_Gate_2 rfl rfl (by omega) ?_;simp;refine .inLoop ?_;simp [trimC] at hh ⊢;exact hh
def nilC:Ct:=⟨[],[],[],[],0,0,0,0,.nil,.nil,.nil,.nil⟩
theorem p_Trim0 (hΓ:InsG Γ) (c:Ct) (hb:CtB c) (hr:rightC c=false):PureCon Tryz.prog Γ n_order_Trim [eCt c] (eCt nilC):=by
 have hR:=p_right hΓ c hb;rw [hr] at hR;refine .run 60 c_order_Trim (by simp) ?_;simp;refine .call 60 (by simp) hR ?_;simp;exact .back (by simp [nilC])
def trimO (c:Ct):Ct:=if rightC c=true then trimC c else nilC
theorem p_TrimO (hΓ:InsG Γ) (c:Ct) (hb:CtB c):PureCon Tryz.prog Γ n_order_Trim [eCt c] (eCt (trimO c)):=by
 unfold trimO
 cases hr:rightC c with
 | true=>exact p_Trim1 hΓ c hb hr
 | false=>exact p_Trim0 hΓ c hb hr
def relv (a:Nat):List Nat→List Nat→List Nat
 | [],lv=>lv
 | i::r,lv=>relv a r (lv.set i (max (lv.getD i 0) (lv.getD a 0+1)))
theorem relv_len (a:Nat):∀ (r lv:List Nat),(relv a r lv).length=lv.length
 | [],_=>rfl
 | i::r,lv=>by rw [relv,relv_len a r]; simp
def putM (k:Nat) (l:List Nat):List Nat:=if k∈l then l else l++[k]
def levS (c:Ct) (s:List Nat×List Nat) (a:Nat):List Nat×List Nat:=(relv a ((bysC c).getD a []) s.1,putM a s.2)
def longB (s:Bs):Bool:=decide (60<s.length)
def textsB (m:Nat) (l:List Bs):Bool:=decide (l.length≤m) && !anyB longB l
theorem p_w05_Texts (l:List Bs) (m:Nat) (hm:m<1000) {k:Nat} (hk:Kd 1 k l):PureCon Tryz.prog Γ n_w05_Texts [.list false k (l.map .str),.int .i64 m] (.bool (textsB m l)):=by
 have key:∀ n i:Nat,i+n=l.length→i≤m+1→Fins Tryz.prog Γ (ykt (.list false k (l.map .str)) (.int .i64 m) (.int .i64 i) []) (.ret (.bool (decide (l.length≤m) && !anyB longB (l.drop i)))):=by
  intro n
  induction n with
  | zero =>
   intro i hi hL
   have q1:¬ i<l.length:=by omega
   have e1:((l.length:Int)≤m)=(l.length≤m):=propext (by omega);rw [List.drop_eq_nil_of_le (by omega),anyB_nil];refine .go 60 ?_;simp [q1,e1];exact .back (by simp)
  | succ n ih =>
   intro i hi hL
   have q1:i<l.length:=by omega
   have q2:=eq_true (hk.of q1)
   by_cases h2:i≤m
   ·have h2':((i:Int)≤m)=True:=eq_true (by omega);have hh:=ih (i+1) (by omega) (by omega);have e3:((60:Int)<(l[i].length:Int))=(60<l[i].length):=propext (by omega);rw [List.drop_eq_getElem_cons q1,anyB_cons];refine .go 60 ?_
    by_cases h3:60<l[i].length
    ·have hl:longB l[i]=true:=by simp [longB,h3]
     simp [q1,q2,h2',e3,h3,hl];exact .back (by simp [h3])
    ·have hl:longB l[i]=false:=by simp only [longB,decide_eq_false_iff_not]; exact h3
     simp (disch:=omega) [q1,q2,h2',e3,h3,hl];refine .reLoop ?_;simp at hh ⊢;exact hh
   ·have h2':((i:Int)≤m)=False:=eq_false (by omega);have e1:((l.length:Int)≤m)=False:=eq_false (by omega)
    have h3:¬ l.length≤m:=by omega
    refine .go 60 ?_;simp [q1,h2',e1,h3];exact .back (by simp)
 refine .run 60 c_w05_Texts (by simp) ?_;simp;refine .inLoop ?_;have hh:=key l.length 0 (by omega) (by omega);simp [textsB] at hh ⊢;exact hh
theorem texts_of {m:Nat} {l:List Bs} (h:textsB m l=true):l.length≤m∧∀ s∈l,s.length≤60:=by
 simp only [textsB,Bool.and_eq_true,decide_eq_true_eq,Bool.not_eq_true'] at h;refine ⟨h.1,fun s hs => ?_⟩;have h2:=h.2;clear h
 induction l with
 | nil=>cases hs
 | cons a l ih =>
  rw [anyB_cons,Bool.or_eq_false_iff] at h2
  rcases List.mem_cons.1 hs with rfl | hs
  ·have:=h2.1;simp only [longB,decide_eq_false_iff_not] at this;omega
  ·exact ih hs h2.2
def fewG (g:Gt):Bool:=textsB 12 g.ins&&(textsB 140 g.rows&&decide (g.name.length≤60))
theorem p_FewGate (g:Gt):PureCon Tryz.prog Γ n_w06_FewGate [eGt g] (.bool (fewG g)):=by
 have h1:=p_w05_Texts (Γ:=Γ) g.ins 12 (by omega) g.hi;have h2:=p_w05_Texts (Γ:=Γ) g.rows 140 (by omega) g.hr;have e:((g.name.length:Int)≤60)=(g.name.length≤60):=propext (by omega);refine .run 60 c_w06_FewGate (by simp) ?_;simp;refine .call 60 (by simp) h1 ?_;simp;refine .call 60 (by simp) h2 ?_;unfold fewG
 cases textsB 12 g.ins with
 | false=>simp; exact .back (by simp)
 | true =>
  cases textsB 140 g.rows with
  | false=>simp; exact .back (by simp)
  | true=>simp [e]; exact .back (by simp)
theorem few_gate {g:Gt} (h:fewG g=true):GtFew g:=by
 simp only [fewG,Bool.and_eq_true,decide_eq_true_eq] at h;obtain ⟨a1,a2⟩:=texts_of h.1;obtain ⟨b1,b2⟩:=texts_of h.2.1;exact ⟨by omega,by omega,by omega,fun s hs=>by have:=a2 s hs; omega,fun s hs=>by have:=b2 s hs; omega⟩
def longL (q:Lt):Bool:=decide (60<q.name.length)||decide (60<q.next.length)
def fewC (c:Ct):Bool := !anyB (fun g => !fewG g) (c.gates.take 211)&&(!anyB longL (c.latches.take 211)&&(textsB 210 c.inputs&&(textsB 210 c.outputs&&(decide (c.gates.length≤210)&&decide (c.latches.length≤210)))))
theorem p_Few (c:Ct):PureCon Tryz.prog Γ n_w06_Few [eCt c] (.bool (fewC c)):=by
 have h1:=p_w05_Texts (Γ:=Γ) c.inputs 210 (by omega) c.hI;have h2:=p_w05_Texts (Γ:=Γ) c.outputs 210 (by omega) c.hO;have e1:((c.gates.length:Int)≤210)=(c.gates.length≤210):=propext (by omega);have e2:((c.latches.length:Int)≤210)=(c.latches.length≤210):=propext (by omega)
 have fin:∀ H,H=[Ob.cells (AV.cells (eCt c))]→Fins Tryz.prog Γ (yiD (.ptr 0 0) H) (.ret (.bool (textsB 210 c.inputs&&(textsB 210 c.outputs&&(decide (c.gates.length≤210)&&decide (c.latches.length≤210)))))):=by
  rintro H rfl
  refine .go 60 ?_;simp;refine .call 60 (by simp) h1 ?_;simp;refine .call 60 (by simp) h2 ?_
  cases textsB 210 c.inputs with
  | false=>simp; exact .back (by simp)
  | true =>
   cases textsB 210 c.outputs with
   | false=>simp; exact .back (by simp)
   | true =>
    by_cases q:c.gates.length≤210
    ·simp [e1,e2,q]; exact .back (by simp [q])
    ·simp [e1,e2,q]; exact .back (by simp [q])
 have keyL:∀ n i:Nat,i+n=211→Fins Tryz.prog Γ (yiC (.ptr 0 0) (.int .i64 i) [.cells (AV.cells (eCt c))]) (.ret (.bool (!anyB longL ((c.latches.take 211).drop i)&&(textsB 210 c.inputs&&(textsB 210 c.outputs&&(decide (c.gates.length≤210)&&decide (c.latches.length≤210))))))):=by
  intro n
  induction n with
  | zero =>
   intro i hi;have q1:((i:Int)≤210)=False:=eq_false (by omega);have hf:=fin _ rfl;rw [List.drop_eq_nil_of_le (by simp; omega),anyB_nil]
   by_cases q0:i<c.latches.length
   ·refine .goS 60 ?_;simp [q1,q0];refine .reach (.exit rfl rfl) ?_;simp at hf ⊢;exact hf
   ·refine .goS 60 ?_;simp [q0];refine .reach (.exit rfl rfl) ?_;simp at hf ⊢;exact hf
  | succ n ih =>
   intro i hi;have q1:((i:Int)≤210)=True:=eq_true (by omega)
   by_cases q0:i<c.latches.length
   ·have q2:=eq_true (c.hL.of q0);have hh:=ih (i+1) (by omega)
    have hT:i<(c.latches.take 211).length:=by simp; omega
    have e3:((60:Int)<(c.latches[i].name.length:Int))=(60<c.latches[i].name.length):=propext (by omega);have e4:((60:Int)<(c.latches[i].next.length:Int))=(60<c.latches[i].next.length):=propext (by omega);rw [List.drop_eq_getElem_cons hT,anyB_cons,List.getElem_take];refine .go 90 ?_
    by_cases h3:60<c.latches[i].name.length
    ·have hl:longL c.latches[i]=true:=by simp [longL,h3]
     simp [q0,q1,q2,e3,h3,hl];exact .back (by simp)
    ·by_cases h4:60<c.latches[i].next.length
     ·have hl:longL c.latches[i]=true:=by simp [longL,h4]
      simp [q0,q1,q2,e3,h3,e4,h4,hl];exact .back (by simp)
     ·have hl:longL c.latches[i]=false:=by simp only [longL,h3,h4,decide_false,Bool.or_self]
      simp (disch:=omega) [q0,q1,q2,e3,h3,e4,h4,hl];refine .reLoop ?_;simp at hh ⊢;exact hh
   ·have hf:=fin _ rfl;rw [List.drop_eq_nil_of_le (by simp; omega),anyB_nil];refine .goS 60 ?_;simp [q0];refine .reach (.exit rfl rfl) ?_;simp at hf ⊢;exact hf
 have keyG:∀ n i:Nat,i+n=211→Fins Tryz.prog Γ (yiF (.ptr 0 0) (.int .i64 i) [.cells (AV.cells (eCt c))]) (.ret (.bool (!anyB (fun g => !fewG g) ((c.gates.take 211).drop i)&&(!anyB longL (c.latches.take 211)&&(textsB 210 c.inputs&&(textsB 210 c.outputs&&(decide (c.gates.length≤210)&&decide (c.latches.length≤210)))))))):=by
  intro n;have hf:=keyL 211 0 (by omega)
  induction n with
  | zero =>
   intro i hi;have q1:((i:Int)≤210)=False:=eq_false (by omega);rw [List.drop_eq_nil_of_le (by simp; omega),anyB_nil];refine .go 60 ?_
   by_cases q0:i<c.gates.length
   ·simp [q1,q0];refine .inLoop ?_;simp at hf ⊢;exact hf
   ·simp [q0];refine .inLoop ?_;simp at hf ⊢;exact hf
  | succ n ih =>
   intro i hi;have q1:((i:Int)≤210)=True:=eq_true (by omega)
   by_cases q0:i<c.gates.length
   ·have q2:=eq_true (c.hG.of q0);have hh:=ih (i+1) (by omega)
    have hT:i<(c.gates.take 211).length:=by simp; omega
    have hc:=p_FewGate (Γ:=Γ) c.gates[i];rw [List.drop_eq_getElem_cons hT,anyB_cons,List.getElem_take];refine .go 90 ?_;simp [q0,q1,q2];refine .call 90 (by simp) hc ?_
    cases h3:fewG c.gates[i] with
    | true =>
     simp (disch:=omega);refine .reLoop ?_;simp at hh ⊢;exact hh
    | false =>
     simp;exact .back (by simp)
   ·rw [List.drop_eq_nil_of_le (by simp; omega),anyB_nil];refine .go 60 ?_;simp [q0];refine .inLoop ?_;simp at hf ⊢;exact hf
 refine .run 60 c_w06_Few (by simp) ?_;simp;refine .inLoop ?_;have hh:=keyG 211 0 (by omega);simp [fewC] at hh ⊢;exact hh
theorem anyB_all {α:Type} {p:α→Bool}:∀ {l:List α},anyB p l=false→∀ x∈l,p x=false
 | [],_,x,hx=>by cases hx
 | a::l,h,x,hx=>by
  rw [anyB_cons,Bool.or_eq_false_iff] at h
  rcases List.mem_cons.1 hx with rfl | hx
  ·exact h.1
  ·exact anyB_all h.2 x hx
theorem few_net {c:Ct} (h:fewC c=true):CtFew c:=by
 simp only [fewC,Bool.and_eq_true,decide_eq_true_eq,Bool.not_eq_true'] at h;obtain ⟨h1,h2,h3,h4,h5,h6⟩:=h;rw [List.take_of_length_le (by omega)] at h1 h2;obtain ⟨a1,a2⟩:=texts_of h3;obtain ⟨b1,b2⟩:=texts_of h4;refine ⟨by omega,by omega,by omega,by omega,fun g hg => ?_,fun s hs=>by have:=a2 s hs; omega,fun s hs=>by have:=b2 s hs; omega,fun q hq => ?_⟩
 ·have:=anyB_all h1 g hg;exact few_gate (by simpa using this)
 ·have:=anyB_all h2 q hq;simp only [longL,Bool.or_eq_false_iff,decide_eq_false_iff_not] at this;omega
end Go.Proofs.YtpinapmcemimcaaGreatDoor
namespace Go.Proofs.YtpinapmcemimcaaGreatDoor
open Go.AM Go.Proofs
theorem sortF_law (c:Ct):∀ (f:Nat) (done:List Nat),done.Nodup→(∀ x∈done,x<c.gates.length) →
  (done++sortF c f done).Nodup∧(∀ p a q,sortF c f done=p++a::q→mayB c (done++p) a=true∧∀ j<a,mayB c (done++p) j=false)∧(c.gates.length≤done.length+f→∀ a<c.gates.length,mayB c (done++sortF c f done) a=false)
 | 0,done,hd,hl=>by
  refine ⟨by simpa [sortF] using hd,fun p a q h=>by simp [sortF] at h,fun hf a ha => ?_⟩;rw [Bool.eq_false_iff];intro hm;have h3:=(mayB_is.1 hm).1;simp only [sortF,List.append_nil] at h3
  have:=nodup_le c.gates.length (a::done) (List.nodup_cons.2 ⟨h3,hd⟩) (fun y hy=>by
   rcases List.mem_cons.1 hy with rfl | hy
   ·exact ha
   ·exact hl y hy)
  simp only [List.length_cons] at this;omega
 | f+1,done,hd,hl=>by
  rw [sortF]
  cases hn:nextK c done with
  | none =>
   refine ⟨by simpa using hd,fun p a q h=>by simp at h,fun hf a ha => ?_⟩;simpa using nextK_no hn ha
  | some k =>
   obtain ⟨hk,hm,hj⟩:=nextK_is hn;have h3:=(mayB_is.1 hm).1
   obtain ⟨i1,i2,i3⟩:=sortF_law c f (done++[k]) (by
    rw [List.nodup_append];refine ⟨hd,by simp,fun x hx y hy => ?_⟩;rw [List.mem_singleton] at hy;subst hy
    exact fun he=>h3 (he▸hx)) (fun x hx=>by
    rcases List.mem_append.1 hx with hx | hx
    ·exact hl x hx
    ·rw [List.mem_singleton] at hx; subst hx; exact hk)
   simp only [List.append_assoc,List.singleton_append] at i1 i2 i3;refine ⟨i1,fun p a q h => ?_,fun hf a ha=>i3 (by simp; omega) a ha⟩
   cases p with
   | nil =>
    simp only [List.nil_append,List.cons.injEq] at h;rw [List.append_nil,← h.1];exact ⟨hm,hj⟩
   | cons x p =>
    simp only [List.cons_append,List.cons.injEq] at h;obtain ⟨rfl,h⟩:=h;exact i2 p a q h
theorem sortC_nodup (c:Ct):(sortC c).Nodup:=by simpa [sortC] using (sortF_law c c.gates.length [] (by simp) (by simp)).1
theorem sortC_lt (c:Ct):∀ x∈sortC c,x<c.gates.length:=sortF_lt c _ _
theorem sortC_pos (c:Ct) {p q:List Nat} {a:Nat} (h:sortC c=p++a::q):mayB c p a=true∧∀ j<a,mayB c p j=false:=by
 simpa using (sortF_law c c.gates.length [] (by simp) (by simp)).2.1 p a q h
theorem sortC_end (c:Ct) {a:Nat} (ha:a<c.gates.length):mayB c (sortC c) a=false:=by
 simpa [sortC] using (sortF_law c c.gates.length [] (by simp) (by simp)).2.2 (by simp) a ha
theorem sortC_never (c:Ct) {a:Nat} (ha:a<c.gates.length) (hn:a∉sortC c):∃ x,inK c a x=true∧x∉sortC c:=by
 refine Classical.byContradiction fun h => ?_
 have:=sortC_end c ha;rw [Bool.eq_false_iff] at this;refine this (mayB_is.2 ⟨hn,fun x hx => ?_⟩)
 exact Classical.byContradiction fun h2=>h ⟨x,hx,h2⟩
theorem neverF_mem (out:List Nat) (s:Bs):∀ (l:List Gt) (i:Nat),s∈neverF out l i↔∃ t,∃ h:t<l.length,l[t].name=s∧i+t∉out
 | [],i=>by simp [neverF]
 | g::r,i=>by
  have hs:(∃ t,∃ h:t<(g::r).length,(g::r)[t].name=s∧i+t∉out)↔(g.name=s∧i∉out)∨∃ t,∃ h:t<r.length,r[t].name=s∧i+1+t∉out:=by
   constructor
   ·rintro ⟨t,h,e,hm⟩
    cases t with
    | zero=>exact .inl ⟨e,hm⟩
    | succ t=>exact .inr ⟨t,by simpa using h,e,by rwa [show i+1+t=i+(t+1) by omega]⟩
   ·rintro (⟨e,hm⟩ | ⟨t,h,e,hm⟩)
    ·exact ⟨0,by simp,e,hm⟩
    ·exact ⟨t+1,by simpa using h,e,by rwa [show i+(t+1)=i+1+t by omega]⟩
  rw [hs,neverF]
  split
  ·rename_i h0;rw [neverF_mem out s r (i+1)];exact ⟨.inr,fun h=>h.elim (fun h=>absurd h0 h.2) id⟩
  ·rename_i h0;rw [List.mem_cons,neverF_mem out s r (i+1)];exact ⟨fun h=>h.imp (fun h=>⟨h.symm,h0⟩) id,fun h=>h.imp (fun h=>h.1.symm) id⟩
theorem never_at {c:Ct} (hd:(c.gates.map (·.name)).Nodup) (out:List Nat) {i:Nat} (hi:i<c.gates.length):c.gates[i].name∈neverF out c.gates 0↔i∉out:=by
 rw [neverF_mem];constructor
 ·rintro ⟨t,ht,e,hm⟩
  rw [Nat.zero_add] at hm;rwa [← name_inj hd ht hi e]
 ·intro h;exact ⟨i,hi,rfl,by rwa [Nat.zero_add]⟩
end Go.Proofs.YtpinapmcemimcaaGreatDoor
