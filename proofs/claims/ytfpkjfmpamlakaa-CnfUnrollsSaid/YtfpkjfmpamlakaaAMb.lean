/- The abstract machine: append, copy, new slices. -/
import Derived.Test.YtfpkjfmpamlakaaAMa
import Derived.RangeFuncRecord
import Derived.RangeFuncNested
set_option linter.unusedSimpArgs false
set_option linter.unusedVariables false
namespace Go.AM
open Go.RowKit
def appTail (e:TypeId) (size:Nat) (base:Option Addr) (sLen sCap n:Nat) (zeros:Bool) (s x:Value) (appended:Sem (Array Value)):Sem Value:=do
 let need:=sLen+n
 if need≤sCap then
  let new ← appended
  if let some a:=base then storeCells (a.add (sLen*size)) new.toList
  pure (.slice base need sCap)
 else
  if (need:Int)>IntKind.i64.max∧(zeros∨(← typeInfo e).bytes=0) then runtimePanic (.error "growslice: len out of range")
  if Builtin.nextslicecap need sCap*(← typeInfo e).bytes>2^48 then (if zeros then runtimePanic (.error "growslice: len out of range") else do
   if !(← Builtin.mayShare size sLen n base x) then mark .noRoom
   unsupported (.resourceLimit "append: a slice or a string whose bytes no memory bears"))
  let newCap ← choose (.appendCap need sCap e)
  askRoom (newCap*(← typeInfo e).bytes)
  let old ← Builtin.firstCells size sLen s
  let new ← appended
  let rest:=Builtin.zeroCells (← zeroValue e).cells (newCap - need)
  pure (.slice (some (← newRow e (old++new++rest))) need newCap)
section
variable {P : Program} {w : World}
theorem run_append_elems {sT u ty e:TypeId} {k:Nat} (ht:P.underlying sT=some (.slice e)) (hk:tSize P e=some k) {d:TypeDesc} (hu:P.underlying u=some d) (hd:∀ j,d≠.int j) {base:Option Addr} {sLen sCap n:Nat} {x:Value}
  (hn:(Builtin.lenOf x).run P w=.ok n w) :
  (Builtin.append_ #[sT,u] ty #[.slice base sLen sCap,x]).run P w=(appTail e k base sLen sCap n false (.slice base sLen sCap) x (Builtin.firstCells k n x)).run P w:=by
 unfold Builtin.append_;simp only [List.getElem?_toArray,List.getElem?_cons_zero,List.getElem?_cons_succ]
 cases d <;> first
  | exact absurd rfl (hd _)
  | (simp only [Sem.run_bind, run_underlying ht, Result.andThen_ok, run_size hk, run_underlying hu, Sem.run_pure, Bool.false_eq_true, if_false, hn, appTail, Bool.not_false, if_true]
     rfl)
theorem run_append_zeros {sT u ty e:TypeId} {k B:Nat} (ht:P.underlying sT=some (.slice e)) (hk:tSize P e=some k) (hB:tBytes P e=some B) {j:IntKind} (hu:P.underlying u=some (.int j)) {base:Option Addr} {sLen sCap:Nat}
  {i:IntKind} {m:Int} (h0:0≤m) (hm:m≤2^47) (hmB:m*B≤2^48) :
  (Builtin.append_ #[sT,u] ty #[.slice base sLen sCap,.int i m]).run P w=(appTail e k base sLen sCap m.toNat true (.slice base sLen sCap) (.int i m)
   (if m.toNat*k=0 then pure #[] else do pure (Builtin.zeroCells (← zeroValue e).cells m.toNat))).run P w:=by
 have hwr:IntKind.i64.wrap m=m:=IntWalk.i64_in _ (by omega)
 have hti:∃ i,P.info? e=some i∧i.bytes=B:=by
  unfold tBytes at hB
  cases hi:P.info? e with
  | none=>simp [hi] at hB
  | some i=>simp [hi] at hB; exact ⟨i,rfl,hB⟩
 obtain ⟨ti,hti,hbt⟩:=hti
 have hty:(typeInfo e).run P w=.ok ti w:=by simp [typeInfo,hti]
 unfold Builtin.append_;simp only [List.getElem?_toArray,List.getElem?_cons_zero,List.getElem?_cons_succ];simp only [Sem.run_bind,run_underlying ht,Result.andThen_ok,run_size hk,run_underlying hu,Sem.run_pure];simp only [if_true,Sem.run_bind,asInt,asIntOf,Sem.run_pure,Result.andThen_ok,hwr];rw [if_neg (by omega)];simp only [Sem.run_bind,hty,Result.andThen_ok,hbt];rw [if_neg (by omega)];simp only [appTail,Bool.not_true,Bool.false_eq_true,if_false];rfl
theorem run_appTail_in {e:TypeId} {k sLen sCap n:Nat} {z:Bool} {s x:Value} {ap:Sem (Array Value)} {news:Array Value} (hap:ap.run P w=.ok news w) {b p:Nat} {c:Array Value} {E:TypeId} {fz:Nat×Nat}
  (hb:w.heap[b]? = some (.cells c E fz)) (hf:Free c fz) (hl:p+sLen*k+news.size≤c.size) (h1:∀ v∈news.toList,v.oneCell'=true) (hn:sLen+n≤sCap) :
  (appTail e k (some ⟨b,p,none⟩) sLen sCap n z s x ap).run P w=.ok (.slice (some ⟨b,p,none⟩) (sLen+n) sCap) (w.setRow b (splice c.toList (p+sLen*k) news.toList).toArray):=by
 have h3:=run_storeCells P b (p+sLen*k) E fz news.toList 0 c w hb hf (by simpa using hl) h1;rw [Nat.add_zero] at h3;simp only [appTail];rw [if_pos hn];simp only [Sem.run_bind,hap,Result.andThen_ok,add_none,h3,Sem.run_pure];rfl
theorem run_appTail_nil {e:TypeId} {k sLen sCap:Nat} {z:Bool} {s x:Value} {base:Option Addr} {ap:Sem (Array Value)} (hap:ap.run P w=.ok #[] w) (hn:sLen≤sCap) :
  (appTail e k base sLen sCap 0 z s x ap).run P w=.ok (.slice base sLen sCap) w:=by
 simp only [appTail,Nat.add_zero];rw [if_pos hn];simp only [Sem.run_bind,hap,Result.andThen_ok]
 cases base with
 | none=>simp
 | some a=>simp [storeCells]
theorem run_appTail_grow {e:TypeId} {k B sLen sCap n:Nat} {z:Bool} {s x:Value} {base:Option Addr} {ap:Sem (Array Value)} {olds news:Array Value} {zv:Value} (hap:ap.run P w.drew=.ok news w.drew) (hB:tBytes P e=some B) (hB0:B≠0)
  (hzr:∀ w,(zeroValue e).run P w=.ok zv w) (hn:sCap<sLen+n) (hnB:(sLen+n)*B≤2^47) (hold:(Builtin.firstCells k sLen s).run P w.drew=.ok olds w.drew) :
  ∃ cap,sLen+n≤cap∧(appTail e k base sLen sCap n z s x ap).run P w =
   .ok (.slice (some ⟨w.heap.size,0,none⟩) (sLen+n) cap) (w.drew.alloc (.cells (olds++news++Builtin.zeroCells zv.cells (cap - (sLen+n))) e)):=by
 have hti:∃ i,P.info? e=some i∧i.bytes=B:=by
  unfold tBytes at hB
  cases hi:P.info? e with
  | none=>simp [hi] at hB
  | some i=>simp [hi] at hB; exact ⟨i,rfl,hB⟩
 obtain ⟨ti,hti,hbt⟩:=hti
 have hty:∀ w,(typeInfo e).run P w=.ok ti w:=fun w=>by simp [typeInfo,hti]
 have hnn:sLen+n≤2^47:=by
  have:(sLen+n)*1≤(sLen+n)*B:=Nat.mul_le_mul_left _ (by omega);omega
 refine ⟨grownCap w (sLen+n) sCap e,?_,?_⟩
 ·simp [grownCap,Question.cut]
 ·have h1:¬ (((sLen+n:Nat):Int)>IntKind.i64.max∧(z=true∨ti.bytes=0)):=by
   rw [IntKind.max_i64]; rintro ⟨h,_⟩; omega
  have h2:¬ (Builtin.nextslicecap (sLen+n) sCap*ti.bytes>2^48):=by
   rw [hbt];have:=growslice_fits hn (bytes:=B) (by simpa using hnB);omega
  simp only [appTail];rw [if_neg (by omega)];simp only [Sem.run_bind,hty,Result.andThen_ok];rw [if_neg h1];simp only [Sem.run_bind,hty,Result.andThen_ok];rw [if_neg h2];simp only [Sem.run_bind,run_choose,Question.forced,Bool.false_eq_true,if_false,World.drew_eq,Result.andThen_ok,hty,run_askRoom,hold,hap,hzr,newRow,run_newObj,Sem.run_pure];rfl
end
section
variable {P : Program} {Γ : Nat → Option AV} {N : Env} {g : G} {h : List Ob} {w : World} {r : Operand → Value} {o : Oper} {t : List AV}
theorem VE_oneCell {k:Nat}:∀ {es:List AV} {vs:List Value},AllK k es→VE g h es vs→∀ v∈vs,v.oneCell'=true
 | [],vs,_,hv=>by simp only [VE] at hv; subst hv; simp
 | e::es,vs,hk,hv=>by
  simp only [VE] at hv;obtain ⟨v,vs',h1,rfl,hr⟩:=hv;have he:=hk e (by simp);intro u hu
  rcases List.mem_append.1 hu with hu | hu
  ·exact VL_allOne_oneCell he.2 (V_cells (ok_of_allOne he.2) h1) u hu
  ·exact VE_oneCell (fun x hx=>hk x (by simp [hx])) hr u hu
theorem Inv.drew (H:Inv P Γ N g h w):Inv P Γ N g h w.drew:=H.world rfl rfl rfl rfl
theorem run_olds (H:Inv P Γ N g h w) {a:AV} {base:Option Addr} {n cap k:Nat} (hv:V g h a (.slice base n cap)) {es:List AV} (he:telems' h a=some (k,es)) :
  es.length=n∧∃ olds:Array Value,(Builtin.firstCells k n (.slice base n cap)).run P w=.ok olds w∧VE g h es olds.toList:=by
 obtain ⟨hK,ad,cap',vs,hs,h1,h2⟩:=elems_cells H hv he;simp only [Value.slice.injEq] at hs;obtain ⟨rfl,rfl,rfl⟩:=hs;refine ⟨rfl,vs.toArray,?_,by simpa using h1⟩;have hl:=VE_length hK h1
 rcases h2 with rfl | ⟨b,p,rfl,h3⟩
 ·simp only [VE] at h1;subst h1
  cases base with
  | none=>simp [run_firstCells_none]
  | some b=>exact run_firstCells_some w k 0 b 0 cap [] (by simp) (by simp)
 ·exact run_firstCells_some w k es.length ⟨b,p,none⟩ es.length cap vs hl (fun j v hj=>by rw [add_none]; exact h3 j v hj)
theorem append_sound (H:Inv P Γ N g h w) {e:TypeId} {k B:Nat} (hk:0<k) (hB:tBytes P e=some B) (hB0:B≠0) {zv:Value} (hzr:∀ w,(zeroValue e).run P w=.ok zv w) (hzk:zv.cells.size=k)
  {z:Bool} {s x:Value} {ap:Sem (Array Value)} {news:Array Value} {ys:List AV} {yfl:Bool}
  (hop:∀ base sLen sCap,s=.slice base sLen sCap→(execOp r o).run P w=((appTail e k base sLen sCap ys.length z s x ap).run P w).andThen fun v w=>.ok (.value v) w)
  (hap:∀ w':World,w'.heap=w.heap→ap.run P w'=.ok news w') (hys:VE g h ys news.toList) (hyk:AllK k ys) (hyf:yfl=true→okList ys k=true)
  {a v:AV} {h':List Ob} {E:TypeId} (ha:V g h a s) (hA:appendA h k E B a ys yfl=.val v h'):OpR P Γ N r o w g h h' (some v):=by
 have hnl:news.size=ys.length*k:=by have:=VE_length hyk hys; simpa using this
 have hnone:=VE_oneCell hyk hys
 have hgrow:∀ (base:Option Addr) (sLen sCap:Nat) (es:List AV) (olds:Array Value),s=.slice base sLen sCap→sCap<sLen+ys.length→(sLen+ys.length)*B≤2^47 →
   (Builtin.firstCells k sLen s).run P w.drew=.ok olds w.drew→VE g h es olds.toList→AllK k es→es.length=sLen →
   ∃ cap rest,sLen+ys.length≤cap∧(execOp r o).run P w=.ok (.value (.slice (some ⟨w.heap.size,0,none⟩) (sLen+ys.length) cap)) (w.drew.alloc (.cells ((olds.toList++news.toList)++rest).toArray e)) ∧
    cap*k≤((olds.toList++news.toList)++rest).length:=by
  intro base sLen sCap es olds hs hlt hb hold hE hK hl;obtain ⟨cap,hc,hrun⟩:=run_appTail_grow (x:=x) (z:=z) (base:=base) (hap w.drew rfl) hB hB0 hzr hlt hb hold;have hol:=VE_length hK hE;refine ⟨cap,(Builtin.zeroCells zv.cells (cap - (sLen+ys.length))).toList,hc,?_,?_⟩
  ·rw [hop base sLen sCap hs,hrun];simp only [Result.andThen_ok];congr 3;apply Array.ext';simp
  ·have:(Builtin.zeroCells zv.cells (cap - (sLen+ys.length))).size=(cap - (sLen+ys.length))*k:=by simp [Builtin.zeroCells,hzk]
   simp only [List.length_append,Array.length_toList,this,hnl];simp at hol;rw [hol,hl,← Nat.add_mul,← Nat.add_mul];exact Nat.mul_le_mul_right _ (by omega)
 have hsame:∀ base sLen sCap,s=.slice base sLen sCap→sLen≤sCap→ys=[]→(execOp r o).run P w=.ok (.value s) w:=by
  intro base sLen sCap hs hle hy;subst hy
  have hn0:news = #[]:=by apply Array.ext'; simp only [VE] at hys; simpa using hys
  rw [hop base sLen sCap hs,List.length_nil,run_appTail_nil (by rw [hap w rfl,hn0]) hle,hs];rfl
 cases a <;> simp only [appendA,reduceCtorEq] at hA
 case list f k' es =>
  cases f <;> simp only [reduceCtorEq] at hA
  split at hA
  ·rename_i hc;obtain ⟨hcb,hkk⟩:=hc;have ha0:=ha;simp only [V] at ha0;obtain ⟨hok,base,cap,hs,hcap,_,_⟩:=ha0;have hcap:=hcap trivial
   split at hA
   ·simp only [R.val.injEq] at hA;obtain ⟨rfl,rfl⟩:=hA;exact OpR.same H (hsame base _ _ hs (by omega) rfl) ha
   ·rename_i y ys';simp only [R.val.injEq] at hA;obtain ⟨rfl,rfl⟩:=hA
    have hK:AllK k es:=by
     rcases hkk with rfl | rfl
     ·exact okList_allK hok
     ·intro e he; simp at he
    have hokk:okList es k=true:=by
     rcases hkk with rfl | rfl
     ·exact hok
     ·rfl
    have hte:telems' h (.list true k' es)=some (k',es):=rfl
    have hold:∃ olds:Array Value,(Builtin.firstCells k es.length s).run P w.drew=.ok olds w.drew∧VE g h es olds.toList:=by
     rcases hkk with rfl | rfl
     ·rw [hs] at ha ⊢;exact (run_olds H.drew ha hte).2
     ·rw [hs];refine ⟨#[],?_,by simp [VE]⟩
      cases base with
      | none=>simp [run_firstCells_none]
      | some b=>simpa using run_firstCells_some (P:=P) w.drew k 0 b 0 cap [] (by simp) (by simp)
    obtain ⟨olds,hold,hEo⟩:=hold;obtain ⟨cap',rest,h1,h2,h3⟩:=hgrow base es.length cap es olds hs (by simp; omega) hcb hold hEo hK rfl;have hVE:=VE_append hEo hys
    have hKK:AllK k (es++y::ys'):=by
     intro e he
     rcases List.mem_append.1 he with he | he
     ·exact hK e he
     ·exact hyk e he
    refine OpR.make (w':=w.drew) H rfl rfl rfl rfl (sz:=((olds.toList++news.toList)++rest).length) h2 ?_ (by simp) ?_
    ·exact new_row (P:=P) hk hKK (fun hf=>okList_append.2 ⟨hokk,hyf hf⟩) (upd_same _ _ _) (heap_new w.drew _) rfl (free_nil _) (VE_mono (Ext.push _ _) (VE_bel hVE) hVE)
    ·have:=new_row_V (h:=h) (g':=g.upd h.length (some (w.heap.size,((olds.toList++news.toList)++rest).length,0))) (k:=k) (E:=E) (es:=es++y::ys') (os:=[]) (fl:=yfl) (sh:=false) (upd_same _ _ _) (cap:=cap') (by simpa using h1) h3;simpa using this
  ·simp at hA
 case sl i off n =>
  split at hA
  ·rename_i k' E' es gr fl sh hi
   split at hA
   ·rename_i hc;obtain ⟨rfl,rfl,hok,hcb⟩:=hc;have hil:=lt_of_get hi;have ha0:=ha;simp only [V] at ha0;obtain ⟨k2,E2,es2,gr2,fl2,sh2,hi2,hle,base,cap,hs,hcap,hbn,hq⟩:=ha0;rw [hi] at hi2;simp only [Option.some.injEq,Ob.row.injEq] at hi2;obtain ⟨rfl,rfl,rfl,rfl,rfl,rfl⟩:=hi2;obtain ⟨hlc,hq⟩:=hq hok;have hob:=H.ob i _ hi;simp only [OV] at hob;obtain ⟨_,hK,hfl,hgl,hb⟩:=hob
    have hlo:gr.getD 0≤off:=by
     cases gr with
     | none=>simp
     | some lo=>simp only [okSl,Bool.and_eq_true,decide_eq_true_eq] at hok; simpa using hok.1
    split at hA
    ·rename_i hend;simp only [R.val.injEq] at hA;obtain ⟨rfl,rfl⟩:=hA
     by_cases hy0:ys=[]
     ·subst hy0;simp only [List.append_nil,List.isEmpty_nil,if_true,List.length_nil,Nat.add_zero];have hset:h.set i (.row k' E' es gr (fl&&yfl) sh)=h.set i (.row k' E' es gr (fl&&yfl) sh):=rfl
      have hE:Ext h.length g h g (h.set i (.row k' E' es gr (fl&&yfl) sh)):=by
       have:=Ext.set_row (g:=g) (E':=E') (es':=es) (gr':=gr) (fl':=fl&&yfl) (sh':=sh) (ρ':=g.ρ i) hi (Nat.le_refl _) (fun off' m _ h1=>⟨h1,rfl,fun _ h=>h⟩);rwa [upd_self] at this
      refine ⟨g,w,_,hsame base n cap hs hcap rfl,?_,hE,_,rfl,V_mono hE (V_bel ha) ha⟩
      have:=Inv.set (r:=g.ρ i) (w':=w) H hil (by rw [upd_self]; exact hE) rfl rfl rfl (fun _ _ _=>rfl) (Nat.le_refl _) (fun b' y hy=>⟨Or.inl ⟨y,hy⟩,(H.own i b' y hy).2⟩)
       (fun b y o v _ hv=>H.mem b o v hv) (by
        intro b sz st o v hy hv;obtain ⟨k3,E3,es3,gr3,fl3,h5,h6⟩:=H.mown i b sz st o v hy hv;rw [hi] at h5;simp only [Option.some.injEq,Ob.row.injEq] at h5;obtain ⟨rfl,rfl,rfl,rfl,rfl,rfl⟩:=h5
        exact ⟨_,_,_,_,_,rfl,h6⟩)
       (by
        rw [upd_self];have:=OV_mono (w':=w) hE rfl (fun _ _ _=>rfl) (H.ob i _ hi);simp only [OV] at this ⊢
        exact ⟨this.1,this.2.1,fun hf=>this.2.2.1 (by simp only [Bool.and_eq_true] at hf; exact hf.1),this.2.2.2⟩)
      rwa [upd_self] at this
     ·have hyl:0<ys.length:=List.length_pos_iff.2 hy0
      have hemp:ys.isEmpty=false:=by cases ys <;> simp at hy0 ⊢
      rw [hemp];simp only [Bool.false_eq_true,if_false]
      have hKK:AllK k' (es++ys):=by
       intro e he
       rcases List.mem_append.1 he with he | he
       ·exact hK e he
       ·exact hyk e he
      have hflf:(fl&&yfl)=true→okList (es++ys) k'=true:=fun hf=>by
       simp only [Bool.and_eq_true] at hf;exact okList_append.2 ⟨hfl hf.1,hyf hf.2⟩
      by_cases hfit:n+ys.length≤cap
      ·
       rcases hq with ⟨h0,h00⟩ | ⟨b,sz,st,hρ,hst,rfl,hcs⟩
       ·omega
       rw [hρ] at hb;simp only at hb;obtain ⟨hst',c,Eb,fz,vs,hw,hsz,hfree,hVE,hcells⟩:=hb
       have hm:(off - st)*k'+n*k'+news.size≤c.size:=by
        rw [hnl,hsz,← Nat.add_mul,← Nat.add_mul];exact Nat.le_trans (Nat.mul_le_mul_right _ (by omega)) hcs
       have hrun:=run_appTail_in (e:=e) (k:=k') (sLen:=n) (sCap:=cap) (n:=ys.length) (z:=z) (s:=s) (x:=x) (hap w rfl) (p:=(off - st)*k') hw hfree hm hnone hfit
       have hE:Ext h.length g h g (h.set i (.row k' E' (es++ys) (some off) (fl&&yfl) sh)):=by
        have:=Ext.set_row (g:=g) (E':=E') (es':=es++ys) (gr':=some off) (fl':=fl&&yfl) (sh':=sh) (ρ':=g.ρ i) hi (by simp) (by
         intro off' m hom h1;simp only [okSl,Bool.and_eq_true,beq_iff_eq,List.length_append] at h1
         omega)
        rwa [upd_self] at this
       have hm2:(off - st)*k'+n*k'+news.toList.length≤c.toList.length:=by simpa using hm
       have hsl:=splice_length hm2;refine ⟨g,_,_,by rw [hop _ _ _ hs,hrun]; rfl,Inv.write H hil hρ hw hE ?_ ?_ ?_,hE,_,rfl,?_⟩
       ·intro o v hv;obtain ⟨k3,E3,es3,gr3,fl3,h5,h6⟩:=H.mown i b sz st o v hρ hv;rw [hi] at h5;simp only [Option.some.injEq,Ob.row.injEq] at h5;obtain ⟨rfl,rfl,rfl,rfl,rfl,rfl⟩:=h5
        have e1:(off - st)*k'+n*k'=(es.length - st)*k':=by rw [← Nat.add_mul]; congr 1; omega
        rw [List.getElem?_toArray,splice_get hm2,if_pos (by omega)];simp
       ·intro sz' st' o v hy hv;obtain ⟨k3,E3,es3,gr3,fl3,h5,h6⟩:=H.mown i b sz' st' o v hy hv;rw [hi] at h5;simp only [Option.some.injEq,Ob.row.injEq] at h5;obtain ⟨rfl,rfl,rfl,rfl,rfl,rfl⟩:=h5;refine ⟨_,_,_,_,_,rfl,Nat.lt_of_lt_of_le h6 (Nat.mul_le_mul_right _ (by simp; omega))⟩
       ·simp only [OV];refine ⟨hk,hKK,hflf,by simp; omega,?_⟩;rw [hρ];simp only [Option.getD_some]
        have hdrop:(es++ys).drop off=es.drop off++ys:=by rw [List.drop_append_of_le_length (by omega)]
        have hKd:AllK k' (es.drop (gr.getD 0)):=fun x hx=>hK x (List.mem_of_mem_drop hx)
        have hV1:=VE_drop hKd hVE (off - gr.getD 0);rw [List.drop_drop,show gr.getD 0+(off - gr.getD 0)=off by omega] at hV1;have hV2:=VE_append hV1 hys;refine ⟨hst,(splice c.toList ((off - st)*k'+n*k') news.toList).toArray,Eb,fz,vs.drop ((off - gr.getD 0)*k')++news.toList,setRow_heap w b c _ Eb fz hw,?_,free_size hfree ?_,?_,?_⟩
        ·simp only [List.size_toArray]; rw [hsl]; simpa using hsz
        ·simp only [List.size_toArray]; rw [hsl]; simp
        ·rw [hdrop]; exact VE_mono hE (VE_bel hV2) hV2
        ·intro j hj;have hvl:=VE_length hKd hVE
         have hvl2:vs.length=(es.length - gr.getD 0)*k':=by rw [hvl]; simp
         have e2:vs.length - (off - gr.getD 0)*k'=n*k':=by
          rw [hvl2,← Nat.sub_mul]; congr 1; omega
         rw [List.getElem?_toArray,splice_get hm2]
         by_cases hjn:j<n*k'
         ·rw [if_pos (by omega),List.getElem_append_left (by simp; omega),List.getElem_drop];have h5:=hcells ((off - gr.getD 0)*k'+j) (by omega);rw [← h5]
          have e3:(gr.getD 0 - st)*k'+(off - gr.getD 0)*k'=(off - st)*k':=by rw [← Nat.add_mul]; congr 1; omega
          rw [Array.getElem?_toList];congr 1;omega
         ·rw [if_neg (by omega)];simp only [List.length_append,List.length_drop,e2] at hj;rw [if_pos (by omega),List.getElem_append_right (by simp; omega)];rw [List.getElem?_eq_getElem (by omega)];congr 1;simp only [List.length_drop,e2];congr 1;omega
       ·simp only [V];refine ⟨k',E',es++ys,some off,fl&&yfl,sh,List.getElem?_set_self hil,by simp; omega,_,cap,rfl,hfit,fun _=>⟨_,_,rfl⟩,fun _=>⟨by simp; omega,Or.inr ⟨b,sz,st,hρ,hst,rfl,hcs⟩⟩⟩
      ·
       have hte:telems' h (.sl i off n)=some (k',(es.drop off).take n):=by simp only [telems',hi,hok,if_true]
       have htl:(es.drop off).take n=es.drop off:=by rw [List.take_of_length_le (by simp; omega)]
       rw [htl] at hte;rw [hs] at ha;obtain ⟨hl5,olds,hold,hEo⟩:=run_olds H.drew ha hte
       have hKd:AllK k' (es.drop off):=fun x hx=>hK x (List.mem_of_mem_drop hx)
       obtain ⟨cap',rest,h1,h2,h3⟩:=hgrow base n cap (es.drop off) olds hs (by omega) hcb (by rw [hs]; exact hold) hEo hKd hl5;have hVE:=VE_append hEo hys
       have hE:Ext h.length g h (g.upd i (some (w.heap.size,((olds.toList++news.toList)++rest).length,off))) (h.set i (.row k' E' (es++ys) (some off) (fl&&yfl) sh)) :=
        Ext.set_row hi (by simp) (by
         intro off' m hom h1;simp only [okSl,Bool.and_eq_true,beq_iff_eq,List.length_append] at h1
         omega)
       refine ⟨_,_,_,h2,Inv.set H hil hE rfl rfl rfl (fun b hb _=>by rw [heap_old _ _ _ (by simpa using hb)]; rfl) (by simp) ?_ ?_ ?_ ?_,hE,_,rfl,?_⟩
       ·intro b x hx;simp only [Option.some.injEq,Prod.mk.injEq] at hx;obtain ⟨rfl,_⟩:=hx;exact ⟨Or.inr (Nat.le_refl _),by simp⟩
       ·intro b y o v hy hv;rw [cell?_congr (heap_old _ _ _ (by simpa using (H.own i b y hy).2))];exact H.mem b o v hv
       ·intro b sz st o v hx hv;simp only [Option.some.injEq,Prod.mk.injEq] at hx;obtain ⟨rfl,_⟩:=hx;have:w.heap.size<w.heap.size:=Go.block_lt_of_cell (H.mem _ o v hv);omega
       ·simp only [OV];refine ⟨hk,hKK,hflf,by simp; omega,?_⟩;rw [upd_same];simp only [Option.getD_some];refine ⟨Nat.le_refl _,_,e,(0,0),olds.toList++news.toList,heap_new w.drew _,by simp,free_nil _,?_,?_⟩
        ·rw [List.drop_append_of_le_length (by omega)];exact VE_mono hE (VE_bel hVE) hVE
        ·intro j hj;rw [Nat.sub_self,Nat.zero_mul,Nat.zero_add,List.getElem?_toArray,List.getElem?_append_left hj,List.getElem?_eq_getElem hj]
       ·simp only [V]
        refine ⟨k',E',es++ys,some off,fl&&yfl,sh,List.getElem?_set_self hil,by simp; omega,_,cap',rfl,h1,fun _=>⟨_,_,rfl⟩,
         fun _=>⟨by simp; omega,Or.inr ⟨w.heap.size,_,off,upd_same _ _ _,Nat.le_refl _,by simp,by simpa using h3⟩⟩⟩
    ·rename_i hend
     split at hA
     ·rename_i hc2;obtain ⟨hfit2,rfl⟩:=hc2;simp only [R.val.injEq] at hA;obtain ⟨rfl,rfl⟩:=hA
      rcases hq with ⟨h0,h00⟩ | ⟨b,sz,st,hρ,hst,rfl,hcs⟩
      ·omega
      rw [hρ] at hb;simp only at hb;obtain ⟨hst',c,Eb,fz,vs,hw,hsz,hfree,hVE,hcells⟩:=hb
      have hfit:n+ys.length≤cap:=by omega
      have hm:(off - st)*k'+n*k'+news.size≤c.size:=by
       rw [hnl,hsz,← Nat.add_mul,← Nat.add_mul];exact Nat.le_trans (Nat.mul_le_mul_right _ (by omega)) hcs
      have hrun:=run_appTail_in (e:=e) (k:=k') (sLen:=n) (sCap:=cap) (n:=ys.length) (z:=z) (s:=s) (x:=x) (hap w rfl) (p:=(off - st)*k') hw hfree hm hnone hfit
      have hnewlen:(es.take (off+n)++ys++es.drop (off+n+ys.length)).length=es.length:=by simp; omega
      have hgrn:gr=none:=by
       cases gr with
       | none=>rfl
       | some lo=>simp only [okSl,Bool.and_eq_true,beq_iff_eq] at hok; omega
      subst hgrn;simp only [Option.getD_none,Nat.zero_sub,Nat.zero_mul,Nat.zero_add,List.drop_zero,Nat.le_zero_eq] at *;subst hst'
      have hE:Ext h.length g h g (h.set i (.row k' E' (es.take (off+n)++ys++es.drop (off+n+ys.length)) none (fl&&yfl) false)):=by
       have:=Ext.set_row (g:=g) (E':=E') (es':=es.take (off+n)++ys++es.drop (off+n+ys.length)) (gr':=none) (fl':=fl&&yfl) (sh':=false) (ρ':=g.ρ i) hi (by omega) (by
        intro off' m hom h1
        refine ⟨by simpa [okSl] using hom,hnewlen,fun _ h=>h⟩)
       rwa [upd_self] at this
      have hm2:(off - 0)*k'+n*k'+news.toList.length≤c.toList.length:=by simpa using hm
      have hsl:=splice_length hm2
      have hnoM:∀ o v,g.M b o=some v→False:=by
       intro o v hv;obtain ⟨_,_,_,_,_,h5,_⟩:=H.mown i b sz 0 o v hρ hv;rw [hi] at h5;simp at h5
      have hKn:AllK k' (es.take (off+n)++ys++es.drop (off+n+ys.length)):=by
       intro e he;simp only [List.mem_append] at he
       rcases he with (he | he) | he
       ·exact hK e (List.mem_of_mem_take he)
       ·exact hyk e he
       ·exact hK e (List.mem_of_mem_drop he)
      refine ⟨g,_,_,by rw [hop _ _ _ hs,hrun]; rfl,Inv.write H hil hρ hw hE (fun o v hv=>(hnoM o v hv).elim) (fun sz' st' o v _ hv=>(hnoM o v hv).elim) ?_,hE,_,rfl,?_⟩
      ·simp only [OV];refine ⟨hk,hKn,?_,by simp,?_⟩
       ·intro hf;simp only [Bool.and_eq_true] at hf;rw [okList_append,okList_append];exact ⟨⟨okList_sub (hfl hf.1) (fun e he=>List.mem_of_mem_take he),hyf hf.2⟩,okList_sub (hfl hf.1) (fun e he=>List.mem_of_mem_drop he)⟩
       ·rw [hρ];simp only [Option.getD_none,Nat.zero_sub,Nat.zero_mul,Nat.zero_add,List.drop_zero];have hV2:=VE_append (VE_append (VE_take hK hVE (off+n)) hys) (VE_drop hK hVE (off+n+ys.length));have hvl:=VE_length hK hVE;refine ⟨Nat.le_refl _,(splice c.toList ((off - 0)*k'+n*k') news.toList).toArray,Eb,fz,_,setRow_heap w b c _ Eb fz hw,?_,free_size hfree ?_,VE_mono hE (VE_bel hV2) hV2,?_⟩
        ·simp only [List.size_toArray]; rw [hsl]; simpa using hsz
        ·simp only [List.size_toArray]; rw [hsl]; simp
        ·intro j hj
         have e1:(off+n)*k'=(off - 0)*k'+n*k':=by rw [Nat.add_mul]; simp
         have e2:(off+n+ys.length)*k'=(off - 0)*k'+n*k'+news.toList.length:=by rw [Nat.add_mul,e1]; simp [hnl]
         have hvm:(off - 0)*k'+n*k'+news.toList.length≤vs.length:=by
          rw [← e2,hvl]; exact Nat.mul_le_mul_right _ (by omega)
         have hsp:vs.take ((off+n)*k')++news.toList++vs.drop ((off+n+ys.length)*k')=splice vs ((off - 0)*k'+n*k') news.toList:=by
          rw [e1,e2]; rfl
         have hj2:=splice_get hvm j
         have hj3:j<vs.length:=by
          have:j<(splice vs ((off - 0)*k'+n*k') news.toList).length:=by rw [← hsp]; exact hj
          rwa [splice_length hvm] at this
         rw [List.getElem?_toArray,splice_get hm2,← List.getElem?_eq_getElem hj,hsp,hj2]
         by_cases h7:j<(off - 0)*k'+n*k'
         ·rw [if_pos h7,if_pos h7,List.getElem?_eq_getElem hj3,← hcells j hj3]; simp
         ·rw [if_neg h7,if_neg h7]
          by_cases h8:j<(off - 0)*k'+n*k'+news.toList.length
          ·rw [if_pos h8,if_pos h8]
          ·rw [if_neg h8,if_neg h8,List.getElem?_eq_getElem hj3,← hcells j hj3]; simp
      ·simp only [V];refine ⟨k',E',_,none,fl&&yfl,false,List.getElem?_set_self hil,by omega,_,cap,rfl,hfit,fun _=>⟨_,_,rfl⟩,fun _=>⟨by omega,Or.inr ⟨b,sz,0,hρ,hst,rfl,hcs⟩⟩⟩
     ·simp at hA
   ·simp at hA
  ·simp at hA
end
section
variable {P : Program} {Γ : Nat → Option AV} {N : Env} {g : G} {h : List Ob} {w : World} {r : Operand → Value} {o : Oper} {t : List AV}
theorem exec_append {x y:Operand} {sT u:TypeId} (ho:o.op=.call ⟨.builtin .append,#[x,y],#[sT,u]⟩) :
  (execOp r o).run P w=((Builtin.append_ #[sT,u] o.type #[r x,r y]).run P w).andThen fun v w=>.ok (.value v) w:=by
 simp [execOp,ho,resolve,invoke,builtin]
theorem byteA_V (b:UInt8):V g h (byteA b) (.int .u8 b.toNat):=by simp [byteA,V]
theorem VE_bytes:∀ s:List UInt8,VE g h (s.map byteA) (s.map fun b=>Value.int .u8 b.toNat)
 | []=>by simp [VE]
 | b::s=>by
  simp only [List.map_cons,VE];exact ⟨_,s.map fun b=>Value.int .u8 b.toNat,byteA_V b,rfl,VE_bytes s⟩
theorem okList_bytes:∀ s:List UInt8,okList (s.map byteA) 1=true
 | []=>rfl
 | b::s=>by simp [okList,byteA,AV.cells,allOne,AV.one,belL,bel,okList_bytes s]
theorem ofVal_size {zv:Value} {k:Nat} (h1:(ofVal zv).cells.length=k):zv.cells.size=k:=by
 have:=VL_length (ofVal_cells (⟨fun _=>none,fun _ _=>none,fun _=>none⟩:G) [] zv);simp at this;omega
theorem run_zero' {t:TypeId} {z:AV} (h:tZero P t=some z):∃ v,(∀ w,(zeroValue t).run P w=.ok v w)∧z=ofVal v:=by
 unfold tZero at h
 cases hi:P.info? t with
 | none=>simp [hi] at h
 | some i =>
  cases hz:i.zero with
  | none=>simp [hi,hz] at h
  | some v=>simp [hi,hz] at h; exact ⟨v,fun w=>by simp [zeroValue,typeInfo,hi,hz],h.symm⟩
theorem op_append (H:Inv P Γ N g h w) {x y:Operand} {sT u e:TypeId} (ho:o.op=.call ⟨.builtin .append,#[x,y],#[sT,u]⟩) (ht:P.underlying sT=some (.slice e)) {k B:Nat} (hk:tSize P e=some k) (hk0:0<k)
  (hB:tBytes P e=some B) (hB0:B≠0) {z:AV} (hz:tZero P e=some z) (hzk:z.cells.length=k) {d:TypeDesc} (hu:P.underlying u=some d) (hd:∀ j,d≠.int j)
  {a b v:AV} {h':List Ob} (hx:V g h a (r x)) (hy:V g h b (r y)) {E:TypeId}
  (hA:(∃ f k' es,b=.list f k' es∧(k'=k∨es=[])∧appendA h k E B a es true=.val v h') ∨
   (∃ i q n es E' es' gr fl sh,b=.sl i q n∧telems' h b=some (k,es)∧h[i]? = some (.row k E' es' gr fl sh)∧appendA h k E B a es fl=.val v h') ∨
   (∃ s:List UInt8,b=.str s∧k=1∧appendA h 1 E B a (s.map byteA) true=.val v h')):OpR P Γ N r o w g h h' (some v):=by
 obtain ⟨zv,hzr,rfl⟩:=run_zero' hz;have hzk':=ofVal_size hzk;have hex:=exec_append (P:=P) (w:=w) (r:=r) ho
 rcases hA with ⟨f,k',es,rfl,hkk,hA⟩ | ⟨i,q,n,es,E',es',gr,fl,sh,rfl,hte,hi,hA⟩ | ⟨s,rfl,rfl,hA⟩
 ·have hok:okList es k=true:=by
   have hy0:=hy;simp only [V] at hy0
   rcases hkk with rfl | rfl
   ·exact hy0.1
   ·rfl
  have hte:telems' h (.list f k' es)=some (k',es):=rfl;have hy0:=hy;simp only [V] at hy0;obtain ⟨_,ad,cap,hs,_,_,_⟩:=hy0
  have hnews:∃ news:Array Value,VE g h es news.toList∧∀ w':World,w'.heap=w.heap→(Builtin.firstCells k es.length (r y)).run P w'=.ok news w':=by
   rcases hkk with rfl | rfl
   ·obtain ⟨hK,ad2,cap2,vs,hs2,h1,h2⟩:=elems_cells H hy hte;refine ⟨vs.toArray,by simpa using h1,fun w' hw' => ?_⟩;rw [hs2];have hl:=VE_length hK h1
    rcases h2 with rfl | ⟨b,p,rfl,h3⟩
    ·simp only [VE] at h1;subst h1
     cases ad2 with
     | none=>simp [run_firstCells_none]
     | some b=>simpa using run_firstCells_some (P:=P) w' k' 0 b 0 cap2 [] (by simp) (by simp)
    ·exact run_firstCells_some w' k' es.length ⟨b,p,none⟩ es.length cap2 vs hl (fun j v hj=>by rw [add_none]; have:=h3 j v hj; simpa only [World.cell?,hw'] using this)
   ·refine ⟨#[],by simp [VE],fun w' _ => ?_⟩;rw [hs]
    cases ad with
    | none=>simp [run_firstCells_none]
    | some b=>simpa using run_firstCells_some (P:=P) w' k 0 b 0 cap [] (by simp) (by simp)
  obtain ⟨news,hE,hap⟩:=hnews;refine append_sound H hk0 hB hB0 hzr hzk' (z:=false) (x:=r y) ?_ hap hE (okList_allK hok) (fun _=>hok) hx hA;intro base sLen sCap hsx;rw [hex,hsx,run_append_elems ht hk hu hd (n:=es.length) (by rw [hs]; simp [Builtin.lenOf])]
 ·obtain ⟨hK,ad2,cap2,vs,hs2,h1,h2⟩:=elems_cells H hy hte;have hob:=H.ob i _ hi;simp only [OV] at hob;obtain ⟨_,hK',hfl,_⟩:=hob
  have hsub:∀ e∈es,e∈es':=by
   simp only [telems',hi] at hte
   split at hte
   ·simp only [Option.some.injEq,Prod.mk.injEq,true_and] at hte;subst hte
    exact fun e he=>List.mem_of_mem_drop (List.mem_of_mem_take he)
   ·simp at hte
  have hl:=VE_length hK h1;refine append_sound H hk0 hB hB0 hzr hzk' (z:=false) (x:=r y) (news:=vs.toArray) (ap:=Builtin.firstCells k es.length (r y)) ?_ ?_ (by simpa using h1) hK (fun hf=>okList_sub (hfl hf) hsub) hx hA
  ·intro base sLen sCap hsx;rw [hex,hsx,run_append_elems ht hk hu hd (n:=es.length) (by rw [hs2]; simp [Builtin.lenOf])]
  ·intro w' hw';rw [hs2]
   rcases h2 with rfl | ⟨b,p,rfl,h3⟩
   ·simp only [VE] at h1;subst h1
    cases ad2 with
    | none=>simp [run_firstCells_none]
    | some b=>simpa using run_firstCells_some (P:=P) w' k 0 b 0 cap2 [] (by simp) (by simp)
   ·exact run_firstCells_some w' k es.length ⟨b,p,none⟩ es.length cap2 vs hl (fun j v hj=>by rw [add_none]; have:=h3 j v hj; simpa only [World.cell?,hw'] using this)
 ·rw [V_str hy] at hex
  refine append_sound H hk0 hB hB0 hzr hzk' (z:=false) (x:=.string ⟨s.toArray⟩) (news:=(s.map fun b=>Value.int .u8 b.toNat).toArray) (ap:=Builtin.firstCells 1 (s.map byteA).length (.string ⟨s.toArray⟩)) ?_ ?_
   (by simpa using VE_bytes s) (okList_allK (okList_bytes s)) (fun _=>okList_bytes s) hx hA
  ·intro base sLen sCap hsx;rw [hex,hsx,run_append_elems ht hk hu hd (n:=(s.map byteA).length) (by simp [Builtin.lenOf,str_size])]
  ·intro w' _;simp only [Builtin.firstCells,List.length_map,str_extract,List.take_length,List.drop_zero,Sem.run_pure];congr 1;apply Array.ext';simp
theorem zeros_list {zc:Array Value} {k:Nat} (hk:zc.size=k):∀ n:Nat,((Array.range (n*k)).map fun i=>zc[i % k]!).toList=(List.replicate n zc.toList).flatten
 | 0=>by simp
 | n+1=>by
  have ih:=zeros_list hk n;simp only [Array.toList_map,Array.toList_range] at ih ⊢;rw [List.replicate_succ',List.flatten_append,← ih,Nat.add_mul,Nat.one_mul,List.range_add,List.map_append,List.map_map];congr 1;simp only [List.flatten_cons,List.flatten_nil,List.append_nil];apply List.ext_getElem
  ·simp [hk]
  ·intro i h1 h2;simp only [List.length_map,List.length_range] at h1;simp only [List.getElem_map,List.getElem_range,Function.comp_apply,Array.getElem_toList];rw [Nat.add_comm,Nat.add_mul_mod_self_right,Nat.mod_eq_of_lt h1,getElem!_pos _ _ (by omega)]
theorem op_appendZ (H:Inv P Γ N g h w) {x y:Operand} {sT u e:TypeId} (ho:o.op=.call ⟨.builtin .append,#[x,y],#[sT,u]⟩) (ht:P.underlying sT=some (.slice e)) {k B:Nat} (hk:tSize P e=some k) (hk0:0<k)
  (hB:tBytes P e=some B) (hB0:B≠0) {z:AV} (hz:tZero P e=some z) (hzk:z.cells.length=k) (hz1:allOne z.cells=true) (hzb:belL 0 z.cells=true) {j:IntKind} (hu:P.underlying u=some (.int j))
  {a v:AV} {h':List Ob} (hx:V g h a (r x)) {i:IntKind} {m:Int} (hy:r y=.int i m) (h0:0≤m) (hm:m≤2^47) (hmB:m*B≤2^48) {E:TypeId}
  (hA:appendA h k E B a (List.replicate m.toNat z) true=.val v h'):OpR P Γ N r o w g h h' (some v):=by
 obtain ⟨zv,hzr,rfl⟩:=run_zero' hz;have hzk':=ofVal_size hzk;have hex:=exec_append (P:=P) (w:=w) (r:=r) ho;have hVE:=VE_replicate (V_ofVal g h zv) m.toNat;have hok:=okList_replicate hzk hz1 hzb m.toNat
 refine append_sound H hk0 hB hB0 hzr hzk' (z:=true) (x:=.int i m) (news:=(List.replicate m.toNat zv.cells.toList).flatten.toArray)
  (ap:=if m.toNat*k=0 then pure #[] else do pure (Builtin.zeroCells (← zeroValue e).cells m.toNat)) ?_ ?_ (by simpa using hVE) (okList_allK hok) (fun _=>hok) hx hA
 ·intro base sLen sCap hsx;rw [hex,hsx,hy,run_append_zeros ht hk hB hu h0 hm hmB,List.length_replicate]
 ·intro w' _
  by_cases hmk:m.toNat*k=0
  ·rw [if_pos hmk]
   have:m.toNat=0:=by
    rcases Nat.mul_eq_zero.1 hmk with h1 | h1
    ·exact h1
    ·omega
   simp [this]
  ·rw [if_neg hmk];simp only [Sem.run_bind,hzr,Result.andThen_ok,Sem.run_pure];congr 1;apply Array.ext';have:=zeros_list hzk' m.toNat;simpa [Builtin.zeroCells,hzk'] using this
theorem op_clear (H:Inv P Γ N g h w) {x:Operand} {sT e:TypeId} (ho:o.op=.call ⟨.builtin .clear,#[x],#[sT]⟩) (ht:P.underlying sT=some (.slice e)) {k:Nat} (hk:tSize P e=some k) (hk0:0<k)
  {z:AV} (hz:tZero P e=some z) (hzk:z.cells.length=k) (hz1:allOne z.cells=true) (hzb:belL 0 z.cells=true) {i off n:Nat} (hx:V g h (.sl i off n) (r x)) {E:TypeId} {es:List AV} {fl:Bool}
  (hi:h[i]? = some (.row k E es none fl false)) (hle:off+n≤es.length):OpR P Γ N r o w g h (h.set i (.row k E (es.take off++List.replicate n z++es.drop (off+n)) none fl false)) (some (.tup [])):=by
 obtain ⟨zv,hzr,rfl⟩:=run_zero' hz;have hzk':=ofVal_size hzk;have hys:=VE_replicate (V_ofVal g h zv) n;have hyok:=okList_replicate hzk hz1 hzb n;have hyk:=okList_allK hyok;have hil:=lt_of_get hi;have hx0:=hx;simp only [V] at hx0;obtain ⟨k2,E2,es2,gr2,fl2,sh2,hi2,hle2,base,cap,hs,hcap,hbn,hq⟩:=hx0;rw [hi] at hi2;simp only [Option.some.injEq,Ob.row.injEq] at hi2;obtain ⟨rfl,rfl,rfl,rfl,rfl,rfl⟩:=hi2;obtain ⟨hlc,hq⟩:=hq (by simpa [okSl] using hle);have hob:=H.ob i _ hi;simp only [OV] at hob;obtain ⟨_,hK,hfl,hgl,hb⟩:=hob
 have hnewlen:(es.take off++List.replicate n (ofVal zv)++es.drop (off+n)).length=es.length:=by simp; omega
 have hE:Ext h.length g h g (h.set i (.row k E (es.take off++List.replicate n (ofVal zv)++es.drop (off+n)) none fl false)):=by
  have:=Ext.set_row (g:=g) (E':=E) (es':=es.take off++List.replicate n (ofVal zv)++es.drop (off+n)) (gr':=none) (fl':=fl) (sh':=false) (ρ':=g.ρ i) hi (by omega) (by
   intro off' m hom h1
   refine ⟨by simpa [okSl] using hom,hnewlen,fun _ h=>h⟩)
  rwa [upd_self] at this
 have hKn:AllK k (es.take off++List.replicate n (ofVal zv)++es.drop (off+n)):=by
  intro e he;simp only [List.mem_append] at he
  rcases he with (he | he) | he
  ·exact hK e (List.mem_of_mem_take he)
  ·exact hyk e he
  ·exact hK e (List.mem_of_mem_drop he)
 have hfln:fl=true→okList (es.take off++List.replicate n (ofVal zv)++es.drop (off+n)) k=true:=by
  intro hf;rw [okList_append,okList_append];exact ⟨⟨okList_sub (hfl hf) (fun e he=>List.mem_of_mem_take he),hyok⟩,okList_sub (hfl hf) (fun e he=>List.mem_of_mem_drop he)⟩
 have hex:∀ base cap,r x=.slice base n cap→(execOp r o).run P w=((Builtin.clear_ #[sT] o.type #[r x]).run P w).andThen fun v w=>.ok (.value v) w:=by
  intro base cap _;simp only [execOp,ho,resolve,invoke,builtin,Sem.run_bind,Sem.run_pure,Result.andThen_ok,List.map_toArray,List.map_cons,List.map_nil]
 rcases hq with ⟨h0,h00⟩ | ⟨b,sz,st,hρ,hst,rfl,hcs⟩
 ·subst h0
  have hsame:h.set i (.row k E (es.take off++List.replicate 0 (ofVal zv)++es.drop (off+0)) none fl false)=h:=by
   apply List.ext_getElem?;intro m
   by_cases hm:i=m
   ·subst hm;rw [List.getElem?_set_self hil,hi];simp
   ·rw [List.getElem?_set_ne hm]
  rw [hsame];refine OpR.same H (u:=.tuple #[]) ?_ (by simp only [V,VL]; exact ⟨[],rfl,rfl⟩);rw [hex _ _ hs,hs];simp [Builtin.clear_,run_underlying ht]
  cases base <;> simp
 ·by_cases hn0:n=0
  ·subst hn0
   have hsame:h.set i (.row k E (es.take off++List.replicate 0 (ofVal zv)++es.drop (off+0)) none fl false)=h:=by
    apply List.ext_getElem?;intro m
    by_cases hm:i=m
    ·subst hm;rw [List.getElem?_set_self hil,hi];simp
    ·rw [List.getElem?_set_ne hm]
   rw [hsame];refine OpR.same H (u:=.tuple #[]) ?_ (by simp only [V,VL]; exact ⟨[],rfl,rfl⟩);rw [hex _ _ hs,hs];simp [Builtin.clear_,run_underlying ht]
  ·rw [hρ] at hb;simp only at hb;obtain ⟨hst',c,Eb,fz,vs,hw,hsz,hfree,hVE,hcells⟩:=hb;simp only [Option.getD_none,Nat.zero_sub,Nat.zero_mul,Nat.zero_add,List.drop_zero,Nat.le_zero_eq] at *;subst hst'
   have hnl:(List.replicate n zv.cells.toList).flatten.length=n*k:=by
    have:=VE_length hyk hys; simpa using this
   have hm:off*k+(List.replicate n zv.cells.toList).flatten.length≤c.size:=by
    rw [hnl,hsz,← Nat.add_mul]
    have h1:(off+cap)*k≤sz:=by simpa using hcs
    exact Nat.le_trans (Nat.mul_le_mul_right _ (by omega)) h1
   have h3:=run_storeCells P b ((off - 0)*k) Eb fz (List.replicate n zv.cells.toList).flatten 0 c w hw hfree (by simpa using hm) (VE_oneCell hyk hys)
   have hzl:(Builtin.zeroCells zv.cells n).toList=(List.replicate n zv.cells.toList).flatten:=by
    have:=zeros_list hzk' n;simpa [Builtin.zeroCells,hzk'] using this
   have hrun:(execOp r o).run P w=.ok (.value (.tuple #[])) (w.setRow b (splice c.toList (off*k) (List.replicate n zv.cells.toList).flatten).toArray):=by
    rw [hex _ _ hs,hs];have hn1:∃ m,n=m+1:=⟨n - 1,by omega⟩;obtain ⟨m,rfl⟩:=hn1;rw [Nat.add_zero] at h3;simp only [Builtin.clear_,List.getElem?_toArray,List.getElem?_cons_zero,Sem.run_bind,run_underlying ht,Result.andThen_ok,hzr,hzl,h3,Sem.run_pure];simp [splice]
   have hm2:off*k+(List.replicate n zv.cells.toList).flatten.length≤c.toList.length:=by simpa using hm
   have hsl:=splice_length hm2
   have hnoM:∀ o v,g.M b o=some v→False:=by
    intro o v hv;obtain ⟨_,_,_,_,_,h5,_⟩:=H.mown i b sz 0 o v hρ hv;rw [hi] at h5;simp at h5
   refine ⟨g,_,_,hrun,Inv.write H hil hρ hw hE (fun o v hv=>(hnoM o v hv).elim) (fun sz' st' o v _ hv=>(hnoM o v hv).elim) ?_,hE,_,rfl,by simp only [V,VL]; exact ⟨[],rfl,rfl⟩⟩;simp only [OV];refine ⟨hk0,hKn,hfln,by simp,?_⟩;rw [hρ];simp only [Option.getD_none,Nat.zero_sub,Nat.zero_mul,Nat.zero_add,List.drop_zero];have hV2:=VE_append (VE_append (VE_take hK hVE off) hys) (VE_drop hK hVE (off+n));have hvl:=VE_length hK hVE;refine ⟨Nat.le_refl _,(splice c.toList (off*k) (List.replicate n zv.cells.toList).flatten).toArray,Eb,fz,_,setRow_heap w b c _ Eb fz hw,?_,free_size hfree ?_,VE_mono hE (VE_bel hV2) hV2,?_⟩
   ·simp only [List.size_toArray]; rw [hsl]; simpa using hsz
   ·simp only [List.size_toArray]; rw [hsl]; simp
   ·intro j hj
    have e2:(off+n)*k=off*k+(List.replicate n zv.cells.toList).flatten.length:=by rw [Nat.add_mul,hnl]
    have hvm:off*k+(List.replicate n zv.cells.toList).flatten.length≤vs.length:=by
     rw [← e2,hvl]; exact Nat.mul_le_mul_right _ (by omega)
    have hsp:vs.take (off*k)++(List.replicate n zv.cells.toList).flatten++vs.drop ((off+n)*k)=splice vs (off*k) (List.replicate n zv.cells.toList).flatten:=by
     rw [e2]; rfl
    have hj2:=splice_get hvm j
    have hj3:j<vs.length:=by
     have:j<(splice vs (off*k) (List.replicate n zv.cells.toList).flatten).length:=by rw [← hsp]; exact hj
     rwa [splice_length hvm] at this
    rw [List.getElem?_toArray,splice_get hm2,← List.getElem?_eq_getElem hj,hsp,hj2]
    by_cases h7:j<off*k
    ·rw [if_pos h7,if_pos h7,List.getElem?_eq_getElem hj3,← hcells j hj3]; simp
    ·rw [if_neg h7,if_neg h7]
     by_cases h8:j<off*k+(List.replicate n zv.cells.toList).flatten.length
     ·rw [if_pos h8,if_pos h8]
     ·rw [if_neg h8,if_neg h8,List.getElem?_eq_getElem hj3,← hcells j hj3]; simp
theorem op_mkSlice (H:Inv P Γ N g h w) {x y:Operand} {ty e:TypeId} (ho:o.op=.makeSlice ty x y) (ht:P.underlying ty=some (.slice e)) {k B:Nat} (hk:tSize P e=some k) (hk0:0<k)
  (hB:tBytes P e=some B) {z:AV} (hz:tZero P e=some z) (hzk:z.cells.length=k) (hz1:allOne z.cells=true) (hzb:belL 0 z.cells=true) {i j:IntKind} {n:Int}
  (hx:r x=.int i n) (hy:r y=.int j n) (h0:0≤n) (hn:n≤2^47) (hnB:n*B≤2^47) (E:TypeId) :
  OpR P Γ N r o w g h (h++[.row k E (List.replicate n.toNat z) none true false]) (some (.sl h.length 0 n.toNat)):=by
 obtain ⟨zv,hzr,rfl⟩:=run_zero' hz;have hzk':=ofVal_size hzk
 have hti:∃ i,P.info? e=some i∧i.bytes=B:=by
  unfold tBytes at hB
  cases hi:P.info? e with
  | none=>simp [hi] at hB
  | some i=>simp [hi] at hB; exact ⟨i,rfl,hB⟩
 obtain ⟨ti,hti,hbt⟩:=hti
 have hty:∀ w,(typeInfo e).run P w=.ok ti w:=fun w=>by simp [typeInfo,hti]
 have hwr:IntKind.i64.wrap n=n:=IntWalk.i64_in _ (by omega);have hok:=okList_replicate hzk hz1 hzb n.toNat;have hVE:=VE_replicate (V_ofVal g h zv) n.toNat;have hzl:=zeros_list hzk' n.toNat
 have hBn:(ti.bytes:Int)*n≤2^47:=by rw [hbt,Int.mul_comm]; exact hnB
 have hrun:(Instr.makeSlice ty (r x) (r y)).run P w=.ok (.slice (some ⟨w.heap.size,0,none⟩) n.toNat n.toNat) (w.alloc (.cells ((List.replicate n.toNat zv.cells.toList).flatten++[]).toArray e)):=by
  simp only [Instr.makeSlice,Sem.run_bind,run_underlying ht,Result.andThen_ok,hx,hy,asInt,asIntOf,Sem.run_pure,hty,hwr]
  have h1:(decide (n<0)||decide ((ti.bytes:Int)*n>2^48))=false:=by
   simp only [Bool.or_eq_false_iff,decide_eq_false_iff_not];omega
  have h2:(decide (n<0)||decide ((ti.bytes:Int)*n>2^48)||decide (n<0)||decide (n>n))=false:=by
   rw [h1]; simp; omega
  rw [if_neg (by rw [h2]; simp)];simp only [Sem.run_bind,run_askRoom,Result.andThen_ok,run_size hk]
  by_cases hmk:n.toNat*k=0
  ·have hn0:n.toNat=0:=by
    rcases Nat.mul_eq_zero.1 hmk with h1 | h1
    ·exact h1
    ·omega
   rw [if_pos hmk]
   have e0:Array.map (fun _:Nat=>(default:Value)) (Array.range 0) = #[]:=by apply Array.ext'; simp
   simp [newRow,hn0,e0]
  ·rw [if_neg hmk];simp only [Sem.run_bind,hzr,Result.andThen_ok,newRow,run_newObj,Sem.run_pure,hzk'];congr 4;apply Array.ext';rw [hzl];simp
 have hsz:((List.replicate n.toNat zv.cells.toList).flatten++[]).length=n.toNat*k:=by simp [hzk']
 refine OpR.make (w':=w) H rfl rfl rfl rfl (sz:=n.toNat*k) (by simp only [execOp,ho]; rw [Sem.run_bind,hrun]; rfl) ?_ (by simp) ?_
 ·exact new_row (P:=P) hk0 (okList_allK hok) (fun _=>hok) (upd_same _ _ _) (heap_new w _) hsz.symm (free_nil _) (VE_mono (Ext.push _ _) (VE_bel hVE) hVE)
 ·have:=new_row_V (h:=h) (g':=g.upd h.length (some (w.heap.size,n.toNat*k,0))) (k:=k) (E:=E) (es:=List.replicate n.toNat (ofVal zv)) (os:=[]) (fl:=true) (sh:=false) (upd_same _ _ _) (cap:=n.toNat) (by simp) (Nat.le_refl _);simpa using this
theorem freeze_new (w:World) (c:Array Value) (E:TypeId):(w.alloc (.cells c E)).freeze ⟨w.heap.size,c.size,none⟩ 1=w.alloc (.cells c E (c.size,c.size+1)):=by
 simp only [World.freeze,World.alloc];simp only [Nat.one_ne_zero,if_false];congr 1;apply Array.ext
 ·simp
 ·intro i h1 h2;simp only [Array.getElem_modify,Array.getElem_push];simp at h2
  by_cases hi:i<w.heap.size
  ·have:¬ w.heap.size=i:=by omega
   simp [hi,this]
  ·have:i=w.heap.size:=by omega
   subst this;simp
theorem op_toBytes (H:Inv P Γ N g h w) {s d e:TypeId} {x:Operand} (ho:o.op=.convert s d x) (hs:P.underlying s=some .string) (hd:P.underlying d=some (.slice e)) (he:P.underlying e=some (.int .u8))
  {l:List UInt8} (hx:r x=.string ⟨l.toArray⟩) (E:TypeId):OpR P Γ N r o w g h (h++[.row 1 E (l.map byteA) none true false]) (some (.sl h.length 0 l.length)):=by
 have hcap:∃ cap,l.length≤cap∧(Question.appendCap l.length 0 e).cut (w.tape w.drawn (.appendCap l.length 0 e))=cap:=⟨_,by simp [Question.cut],rfl⟩;obtain ⟨cap,hcap,hcut⟩:=hcap
 have hrun:(convert s d (r x)).run P w=.ok (.slice (some ⟨w.heap.size,0,none⟩) l.length cap)
   (w.drew.alloc (.cells ((l.map fun b:UInt8=>Value.int .u8 b.toNat)++List.replicate (cap - l.length) (Value.int .u8 0)).toArray e (cap,cap+1))):=by
  have hsize:((l.map fun b:UInt8=>Value.int .u8 b.toNat)++List.replicate (cap - l.length) (Value.int .u8 0)).toArray.size=cap:=by simp; omega
  have hshape:(w.drew.alloc (.cells ((l.map fun b:UInt8=>Value.int .u8 b.toNat)++List.replicate (cap - l.length) (Value.int .u8 0)).toArray e)).shape? w.heap.size=some (e,cap):=by
   have:=heap_new w.drew (.cells ((l.map fun b:UInt8=>Value.int .u8 b.toNat)++List.replicate (cap - l.length) (Value.int .u8 0)).toArray e);simp only [World.shape?];rw [show w.heap.size=w.drew.heap.size from rfl,this];simp only [hsize]
  have hfr:=freeze_new w.drew ((l.map fun b:UInt8=>Value.int .u8 b.toNat)++List.replicate (cap - l.length) (Value.int .u8 0)).toArray e;rw [hsize] at hfr;simp only [convert,Sem.run_bind,run_underlying hs,run_underlying hd,Result.andThen_ok,hx,run_underlying he];simp only [Conv.stringToBytes,Sem.run_bind,run_choose,Question.forced,Bool.false_eq_true,if_false,str_size,hcut,Result.andThen_ok,newRow,run_newObj,Sem.run_pure,World.drew_eq,World.alloc_eq]
  have harr:(Array.map (fun b:UInt8=>Value.int .u8 b.toNat) l.toArray++Array.replicate (cap - l.length) (Value.int .u8 0))=((l.map fun b:UInt8=>Value.int .u8 b.toNat)++List.replicate (cap - l.length) (Value.int .u8 0)).toArray:=by
   apply Array.ext'; simp
  rw [harr];simp only [markStringish,Sem.run_bind,run_shape,World.size_drew,hshape,Result.andThen_ok,run_freeze];rw [show (⟨w.heap.size,cap,none⟩:Addr)=⟨w.drew.heap.size,cap,none⟩ from rfl,hfr]
 refine OpR.make (w':=w.drew) H rfl rfl rfl rfl (sz:=cap) (by simp only [execOp,ho]; rw [Sem.run_bind,hrun]; rfl) ?_ (by simp) ?_
 ·exact new_row (P:=P) (Nat.zero_lt_one) (okList_allK (okList_bytes l)) (fun _=>okList_bytes l) (upd_same _ _ _) (heap_new w.drew _) (by simp; omega) (Or.inr (by simp; omega)) (VE_mono (Ext.push _ _) (VE_bel (VE_bytes (g:=g) l)) (VE_bytes l))
 ·have:=new_row_V (h:=h) (g':=g.upd h.length (some (w.heap.size,cap,0))) (k:=1) (E:=E) (es:=l.map byteA) (os:=[]) (fl:=true) (sh:=false) (upd_same _ _ _) (cap:=cap) (by simpa using hcap) (by simp);simpa using this
end
def sameKind:Ob→Ob→Prop
 | .cells _,.cells _=>True
 | .map _ _,.map _ _=>True
 | .siter _ _,.siter _ _=>True
 | .loop _ _ fn t ps a b,.loop _ _ fn' t' ps' a' b'=>fn=fn'∧t=t'∧ps=ps'∧a=a'∧b=b'
 | .dfr _,.dfr _=>True
 | _,_=>False
def setW (w:World) (b:Nat) (o:Obj):World:={ w with heap:=w.heap.setIfInBounds b o }
theorem setW_size (w:World) (b:Nat) (o:Obj):(setW w b o).heap.size=w.heap.size:=by simp [setW]
theorem setW_same {w:World} {b:Nat} (o:Obj) (h:b<w.heap.size):(setW w b o).heap[b]? = some o:=by simp [setW,h]
theorem setW_other (w:World) {b b':Nat} (o:Obj) (h:b'≠b):(setW w b o).heap[b']? = w.heap[b']? := by
 simp only [setW];rw [Array.getElem?_setIfInBounds];rw [if_neg (by omega)]
section
variable {P : Program} {Γ : Nat → Option AV} {N : Env} {g : G} {h : List Ob} {w : World} {r : Operand → Value} {o : Oper} {t : List AV}
theorem Ext.set_kind {i:Nat} {o o':Ob} (hi:h[i]? = some o) (hk:sameKind o o'):Ext h.length g h g (h.set i o'):=by
 have hil:=lt_of_get hi;have hs:=List.getElem?_set_self (l:=h) (i:=i) (a:=o') hil
 have ho:∀ {j x},j≠i→h[j]? = some x→(h.set i o')[j]? = some x:=fun {j x} hj hx=>by rw [List.getElem?_set_ne (by omega)]; exact hx
 refine ⟨fun _ _ _ x=>x,fun _ _ x=>x,?_,?_,?_,?_,?_,?_⟩
 ·intro j us _ hj
  by_cases hji:j=i
  ·subst hji
   rw [hi] at hj; cases hj
   cases o' <;> simp only [sameKind] at hk
   exact ⟨⟨_,hs⟩,fun _ x=>x⟩
  ·exact ⟨⟨us,ho hji hj⟩,fun _ x=>x⟩
 ·intro j es fl _ hj
  by_cases hji:j=i
  ·subst hji
   rw [hi] at hj; cases hj
   cases o' <;> simp only [sameKind] at hk
   exact ⟨⟨_,_,hs⟩,fun _ x=>x⟩
  ·exact ⟨⟨_,_,ho hji hj⟩,fun _ x=>x⟩
 ·intro j s p _ hj
  by_cases hji:j=i
  ·subst hji
   rw [hi] at hj; cases hj
   cases o' <;> simp only [sameKind] at hk
   exact ⟨⟨_,_,hs⟩,fun _ x=>x⟩
  ·exact ⟨⟨_,_,ho hji hj⟩,fun _ x=>x⟩
 ·intro j st q fn t ps a b _ hj
  by_cases hji:j=i
  ·subst hji
   rw [hi] at hj; cases hj
   cases o' <;> simp only [sameKind] at hk
   obtain ⟨rfl,rfl,rfl,rfl,rfl⟩:=hk;exact ⟨⟨_,_,hs⟩,fun _ x=>x⟩
  ·exact ⟨⟨_,_,ho hji hj⟩,fun _ x=>x⟩
 ·intro j l _ hj
  by_cases hji:j=i
  ·subst hji
   rw [hi] at hj; cases hj
   cases o' <;> simp only [sameKind] at hk
   exact ⟨⟨_,hs⟩,fun _ x=>x⟩
  ·exact ⟨⟨_,ho hji hj⟩,fun _ x=>x⟩
 ·intro j k E es gr fl sh _ hj
  have hji:j≠i:=by
   rintro rfl; rw [hi] at hj; cases hj
   cases o' <;> simp only [sameKind] at hk
  exact ⟨_,_,_,_,_,ho hji hj,Nat.le_refl _,fun _ _ _ hk=>⟨hk,rfl,fun _ x=>x⟩⟩
theorem Inv.setO {i b:Nat} {x:Nat×Nat} {o o':Ob} {B:Obj} (H:Inv P Γ N g h w) (hi:h[i]? = some o) (hρ:g.ρ i=some (b,x)) (hk:sameKind o o') (hob:OV P g (h.set i o') (setW w b B) i o') :
  Inv P Γ N g (h.set i o') (setW w b B):=by
 have hlt:b<w.heap.size:=(H.own i b x hρ).2;have hE:=Ext.set_kind (g:=g) hi hk
 have hnoM:∀ o v,g.M b o=some v→False:=by
  intro q v hv;obtain ⟨sz,st⟩:=x;obtain ⟨_,_,_,_,_,h5,_⟩:=H.mown i b sz st q v hρ hv;rw [hi] at h5
  cases h5
  simp only [sameKind] at hk
 have:=Inv.set (r:=g.ρ i) (w':=setW w b B) H (lt_of_get hi) (by rw [upd_self]; exact hE) rfl rfl rfl (fun b' _ hne=>setW_other w B (fun e=>hne x (by rw [e]; exact hρ))) (by simp [setW])
  (fun b' y hy=>⟨Or.inl ⟨y,hy⟩,by rw [setW_size]; exact (H.own i b' y hy).2⟩) (by
   intro b' y q v hy hv;rw [hρ] at hy;simp only [Option.some.injEq,Prod.mk.injEq] at hy;obtain ⟨rfl,_⟩:=hy
   exact (hnoM q v hv).elim)
  (by
   intro b' sz st q v hy hv;rw [hρ] at hy
   have hbb:b'=b:=by simp only [Option.some.injEq,Prod.mk.injEq] at hy; exact hy.1.symm
   subst hbb
   exact (hnoM q v hv).elim)
  (by rw [upd_self]; exact hob)
 rwa [upd_self] at this
theorem run_getObj {b:Nat} {B:Obj} (h:w.heap[b]? = some B) (hc:∀ c e f,B≠.cells c e f):(getObj b).run P w=.ok B w:=by
 simp only [getObj,Sem.run,h]
theorem run_setObj {b:Nat} {B B':Obj} (h:w.heap[b]? = some B) (hc:∀ c e f,B≠.cells c e f):(setObj b B').run P w=.ok () (setW w b B'):=by
 simp only [setObj,Sem.run,h]
 cases B <;> first | rfl | exact absurd rfl (hc _ _ _)
theorem op_next (H:Inv P Γ N g h w) {x:Operand} (ho:o.op=.next x true) {i:Nat} (hx:V g h (.it i) (r x)) {s:List UInt8} {pos:Nat} (hi:h[i]? = some (.siter s pos)) :
  (pos<s.length→OpR P Γ N r o w g h (h.set i (.siter s (pos+(Utf8.decode ⟨s.toArray⟩ pos).2))) (some (.tup [.bool true,.int .i64 pos,.int .i32 (Utf8.decode ⟨s.toArray⟩ pos).1]))) ∧
  (¬ pos<s.length→OpR P Γ N r o w g h h (some (.tup [.bool false]))):=by
 simp only [V] at hx;obtain ⟨_,b,sz,hρ,hrx⟩:=hx;have hb:w.heap[b]? = some (.stringIter ⟨s.toArray⟩ pos):=H.ob i _ hi b sz 0 hρ;have hg:=run_getObj (P:=P) hb (by simp);constructor
 ·intro hlt;have hk:sameKind (.siter s pos) (.siter s (pos+(Utf8.decode ⟨s.toArray⟩ pos).2)):=trivial;refine ⟨g,setW w b (.stringIter ⟨s.toArray⟩ (pos+(Utf8.decode ⟨s.toArray⟩ pos).2)),.value (.tuple #[.bool true,goInt pos,.int .i32 (Utf8.decode ⟨s.toArray⟩ pos).1]),?_,Inv.setO H hi hρ hk ?_,Ext.set_kind hi hk,.tuple #[.bool true,goInt pos,.int .i32 (Utf8.decode ⟨s.toArray⟩ pos).1],rfl,?_⟩
  ·have hst:=run_setObj (P:=P) (B':=.stringIter ⟨s.toArray⟩ (pos+(Utf8.decode ⟨s.toArray⟩ pos).2)) hb (by simp);simp [execOp,ho,hrx,Instr.next,hg,str_size,hlt,hst]
  ·intro b' sz' st' hb';rw [hρ] at hb';simp only [Option.some.injEq,Prod.mk.injEq] at hb';obtain ⟨rfl,_⟩:=hb';exact setW_same _ (H.own i b _ hρ).2
  ·simp only [V,VL];exact ⟨[.bool true,goInt pos,.int .i32 (Utf8.decode ⟨s.toArray⟩ pos).1],rfl,_,_,rfl,rfl,_,_,rfl,rfl,_,_,rfl,rfl,rfl⟩
 ·intro hlt;refine OpR.same H (u:=.tuple #[.bool false]) ?_ (by simp only [V,VL]; exact ⟨[.bool false],rfl,_,_,rfl,rfl,rfl⟩);simp [execOp,ho,hrx,Instr.next,hg,str_size,hlt]
theorem eqOne_val {s:SK} {a b:AV} (h1:eqOne s a b=some true) {x y:Value} (hx:V g h a x) (hy:V g h b y):x=y∧∀ n,Instr.sameBits n x y=true:=by
 cases s <;> cases a <;> cases b <;> simp only [eqOne,reduceCtorEq,Option.some.injEq] at h1
 ·split at h1
  ·rename_i hk;subst hk;simp only [Option.some.injEq,beq_iff_eq] at h1;subst h1;rw [V_int hx,V_int hy];exact ⟨rfl,fun n=>by cases n <;> simp [Instr.sameBits]⟩
  ·simp at h1
 ·simp only [beq_iff_eq] at h1;subst h1;rw [V_str hx,V_str hy];exact ⟨rfl,fun n=>by cases n <;> simp [Instr.sameBits,beq_bytes]⟩
 ·simp only [beq_iff_eq] at h1;subst h1;rw [V_bool hx,V_bool hy];exact ⟨rfl,fun n=>by cases n <;> simp [Instr.sameBits]⟩
theorem eqAll_val:∀ {ss:List SK} {as bs:List AV} {xs ys:List Value},eqAll ss as bs=some true→VL g h as xs→VL g h bs ys→xs=ys∧∀ n,(xs.zip ys).all (fun (x,y)=>Instr.sameBits n x y)=true
 | [],[],[],xs,ys,_,hx,hy=>by simp only [VL] at hx hy; subst hx; subst hy; exact ⟨rfl,fun _=>rfl⟩
 | [],_::_,_,_,_,h1,_,_=>by simp [eqAll] at h1
 | [],[],_::_,_,_,h1,_,_=>by simp [eqAll] at h1
 | _::_,[],_,_,_,h1,_,_=>by simp [eqAll] at h1
 | _::_,_::_,[],_,_,h1,_,_=>by simp [eqAll] at h1
 | s::ss,a::as,b::bs,xs,ys,h1,hx,hy=>by
  simp only [VL] at hx hy;obtain ⟨x,xs',rfl,hx1,hx2⟩:=hx;obtain ⟨y,ys',rfl,hy1,hy2⟩:=hy;simp only [eqAll] at h1
  split at h1
  ·rename_i he;obtain ⟨rfl,h2⟩:=eqOne_val he hx1 hy1;obtain ⟨rfl,h3⟩:=eqAll_val h1 hx2 hy2;exact ⟨rfl,fun n=>by simp [h2]; simpa using h3 n⟩
  ·simp at h1
  ·simp at h1
theorem eqData_val {P:Program} {ty:TypeId} {e:EK} (hk:keyKind P ty=some e) {a b:AV} (h1:eqData e a b=some true) {x y:Value} (hx:V g h a x) (hy:V g h b y):x=y∧Instr.sameBits 10000 x y=true:=by
 unfold keyKind at hk
 split at hk
 ·simp only [Option.some.injEq] at hk;subst hk;obtain ⟨h2,h3⟩:=eqOne_val h1 hx hy;exact ⟨h2,h3 _⟩
 ·simp only [Option.map_eq_some_iff] at hk;obtain ⟨ss,_,rfl⟩:=hk
  cases a <;> cases b <;> simp only [eqData,reduceCtorEq] at h1
  split at h1
  ·simp only [V] at hx hy;obtain ⟨xs,rfl,hx⟩:=hx;obtain ⟨ys,rfl,hy⟩:=hy;obtain ⟨rfl,h2⟩:=eqAll_val h1 hx hy;refine ⟨rfl,?_⟩;have:=h2 9999
   show ((xs.toArray.size==xs.toArray.size)&&(xs.toArray.toList.zip xs.toArray.toList).all fun (x,y)=>Instr.sameBits 9999 x y)=true
   simpa using this
  ·simp at h1
theorem findAt_spec {e:EK} {k:AV}:∀ {es:List (AV×AV)} {i:Nat},findAt e k es=some (some i)→∃ x,es[i]? = some x∧eqData e k x.1=some true
 | [],i,h1=>by simp [findAt] at h1
 | (a,v)::es,i,h1=>by
  simp only [findAt] at h1
  split at h1
  ·rename_i he;simp only [Option.some.injEq] at h1;subst h1;exact ⟨(a,v),rfl,he⟩
  ·simp only [Option.map_eq_some_iff] at h1;obtain ⟨p,hp,h2⟩:=h1;obtain ⟨j,rfl,rfl⟩:=h2;obtain ⟨x,h3,h4⟩:=findAt_spec hp;exact ⟨x,by simpa using h3,h4⟩
  ·simp at h1
theorem VL_eraseIdx:∀ {as:List AV} {vs:List Value} (i:Nat),VL g h as vs→VL g h (as.eraseIdx i) (vs.eraseIdx i)
 | [],vs,i,hv=>by simp only [VL] at hv; subst hv; simp [VL]
 | a::as,vs,i,hv=>by
  simp only [VL] at hv;obtain ⟨v,vs',rfl,h1,h2⟩:=hv
  cases i with
  | zero=>simpa using h2
  | succ i=>simp only [List.eraseIdx_cons_succ,VL]; exact ⟨v,_,rfl,h1,VL_eraseIdx i h2⟩
theorem map_eraseIdx' {α β:Type} (f:α→β):∀ (l:List α) (i:Nat),(l.eraseIdx i).map f=(l.map f).eraseIdx i
 | [],i=>by simp
 | a::l,0=>by simp
 | a::l,i+1=>by simp [map_eraseIdx' f l i]
theorem belL_iff {n:Nat}:∀ {l:List AV},belL n l=true↔∀ a∈l,bel n a=true
 | []=>by simp [belL]
 | a::l=>by simp [belL,belL_iff (l:=l)]
theorem op_upd (H:Inv P Γ N g h w) {ty kt et:TypeId} {m k x:Operand} (ho:o.op=.mapUpdate ty m k x∨o.op=.insert ty m k x) (hu:P.underlying ty=some (.map kt et)) {e:EK} (hk:keyKind P kt=some e)
  {j:Nat} (hm:V g h (.mp j) (r m)) {es es':List (AV×AV)} {fl:Bool} (hj:h[j]? = some (.map es fl)) {a b:AV} (ha:V g h a (r k)) (hkey:isKey e a=true) (hb:V g h b (r x)) (hp:putIn e a b es=some es') :
  OpR P Γ N r o w g h (h.set j (.map es' (fl&&bel 0 b))) none:=by
 simp only [V] at hm;obtain ⟨_,bk,sz,hρ,hrm⟩:=hm;obtain ⟨hfl,hob⟩:=H.ob j _ hj;obtain ⟨ents,ck,hw,hks,hvs⟩:=hob bk sz 0 hρ;have hkk:sameKind (.map es fl) (.map es' (fl&&bel 0 b)):=trivial;have hE:=Ext.set_kind (g:=g) hj hkk;obtain ⟨p,hp1,hp2⟩:=putIn_at hp;have hf:=run_findKey hk ha hks hp1 w;have hck:=run_checkKey hk hkey ha false w;have hg:=run_getObj (P:=P) hw (by simp);have hlen:=VL_fst_len hks;have hbk:=(H.own j bk _ hρ).2
 have hfl':(fl&&bel 0 b)=true→belL 0 (es'.map (·.2))=true:=by
  intro h1;simp only [Bool.and_eq_true] at h1;have h2:=belL_iff.1 (hfl h1.1);rw [belL_iff];intro y hy
  cases p with
  | none =>
   simp only at hp2;subst hp2;simp only [List.map_append,List.map_cons,List.map_nil,List.mem_append,List.mem_singleton] at hy
   rcases hy with hy | rfl
   ·exact h2 y hy
   ·exact h1.2
  | some i =>
   obtain ⟨_,rfl⟩:=hp2;rw [List.map_set] at hy
   rcases List.mem_or_eq_of_mem_set hy with hy | rfl
   ·exact h2 y hy
   ·exact h1.2
 have hdone:∀ (ents':Array MapEntry) (ck':Nat),VL g h (es'.map (·.1)) (ents'.toList.map (·.key))→VL g h (es'.map (·.2)) (ents'.toList.map (·.val)) →
   (Instr.mapUpdate ty (r m) (r k) (r x)).run P w=.ok () (setW w bk (.map ents' ck'))→OpR P Γ N r o w g h (h.set j (.map es' (fl&&bel 0 b))) none:=by
  intro ents' ck' h1 h2 hrun;refine ⟨g,setW w bk (.map ents' ck'),_,?_,Inv.setO H hj hρ hkk ⟨hfl',?_⟩,hE,rfl⟩
  ·rcases ho with ho | ho <;> simp [execOp,ho,hrun]
  ·intro b' sz' st' hb';rw [hρ] at hb';simp only [Option.some.injEq,Prod.mk.injEq] at hb';obtain ⟨rfl,_⟩:=hb';exact ⟨ents',ck',setW_same _ hbk,VL_mono hE (VL_bel h1) h1,VL_mono hE (VL_bel h2) h2⟩
 cases p with
 | none =>
  simp only at hp2;subst hp2;refine hdone (ents.push { key:=r k,val:=r x,born:=ck }) (ck+1) ?_ ?_ ?_
  ·simp only [List.map_append,List.map_cons,List.map_nil,Array.toList_push];exact VL_append hks (by simp only [VL]; exact ⟨_,_,rfl,ha,rfl⟩)
  ·simp only [List.map_append,List.map_cons,List.map_nil,Array.toList_push];exact VL_append hvs (by simp only [VL]; exact ⟨_,_,rfl,hb,rfl⟩)
  ·simp only [Option.bind_none] at hf;have hs:=run_setObj (P:=P) (B':=.map (ents.push { key:=r k,val:=r x,born:=ck }) (ck+1)) hw (by simp);simp [Instr.mapUpdate,run_underlying hu,hrm,hg,hck,hf,hs]
 | some i =>
  obtain ⟨hil,rfl⟩:=hp2;obtain ⟨y,hy1,hy2⟩:=findAt_spec hp1
  have hile:i<ents.size:=by have:ents.toList.length=es.length:=hlen; simp at this; omega
  have hge:ents[i]? = some ents[i]:=Array.getElem?_eq_getElem hile;obtain ⟨q,hq1,hq2⟩:=VL_get? (i:=i) (a:=y.1) hks (by simp [hy1]);simp only [List.getElem?_map,Array.getElem?_toList,hge,Option.map_some,Option.some.injEq] at hq1;subst hq1;obtain ⟨hkq,hsb⟩:=eqData_val hk hy2 ha hq2;rw [← hkq] at hsb;refine hdone (ents.modify i fun e=>{ e with key:=r k,val:=r x }) ck ?_ ?_ ?_
  ·have:(ents.modify i fun e=>{ e with key:=r k,val:=r x }).toList.map (·.key)=(ents.toList.map (·.key)).set i (r k):=by
    rw [Array.toList_modify];apply List.ext_getElem?;intro n;simp only [List.getElem?_map,List.getElem?_modify,List.getElem?_set,List.length_map,Array.length_toList]
    by_cases hn:i=n
    ·subst hn; simp [hile]
    ·simp [hn]
   rw [this,List.map_set];exact VL_set i hks ha
  ·have:(ents.modify i fun e=>{ e with key:=r k,val:=r x }).toList.map (·.val)=(ents.toList.map (·.val)).set i (r x):=by
    rw [Array.toList_modify];apply List.ext_getElem?;intro n;simp only [List.getElem?_map,List.getElem?_modify,List.getElem?_set,List.length_map,Array.length_toList]
    by_cases hn:i=n
    ·subst hn; simp [hile]
    ·simp [hn]
   rw [this,List.map_set];exact VL_set i hvs hb
  ·have hs:=run_setObj (P:=P) (B':=.map (ents.modify i fun e=>{ e with key:=r k,val:=r x }) ck) hw (by simp);simp only [Option.bind_some,Array.getElem?_toList,hge,Option.map_some] at hf
   have hkt:(Instr.keyThatStays ents[i].key (r k)).run P w=.ok (r k) w:=by
    unfold Instr.keyThatStays;rw [← hkq,hsb];simp
   simp [Instr.mapUpdate,run_underlying hu,hrm,hg,hck,hf,hge,hkt,hs]
theorem op_delete (H:Inv P Γ N g h w) {mt u kt et:TypeId} {m k:Operand} (ho:o.op=.call ⟨.builtin .delete,#[m,k],#[mt,u]⟩) (hu:P.underlying mt=some (.map kt et)) {e:EK} (hk:keyKind P kt=some e)
  {j:Nat} (hm:V g h (.mp j) (r m)) {es es':List (AV×AV)} {fl:Bool} (hj:h[j]? = some (.map es fl)) {a:AV} (ha:V g h a (r k)) (hkey:isKey e a=true) (hp:delIn e a es=some es') :
  OpR P Γ N r o w g h (h.set j (.map es' fl)) (some (.tup [])):=by
 simp only [V] at hm;obtain ⟨_,bk,sz,hρ,hrm⟩:=hm;obtain ⟨hfl,hob⟩:=H.ob j _ hj;obtain ⟨ents,ck,hw,hks,hvs⟩:=hob bk sz 0 hρ;have hkk:sameKind (.map es fl) (.map es' fl):=trivial;have hE:=Ext.set_kind (g:=g) hj hkk;obtain ⟨p,hp1,hp2⟩:=delIn_at hp;have hf:=run_findKey hk ha hks hp1 w
 have hck:=fun em=>run_checkKey hk hkey ha em w
 have hg:=run_getObj (P:=P) hw (by simp);have hlen:=VL_fst_len hks;have hbk:=(H.own j bk _ hρ).2
 have hdone:∀ (ents':Array MapEntry),(∀ e∈es',e∈es)→VL g h (es'.map (·.1)) (ents'.toList.map (·.key))→VL g h (es'.map (·.2)) (ents'.toList.map (·.val)) →
   (Builtin.delete_ #[mt,u] o.type #[r m,r k]).run P w=.ok (.tuple #[]) (setW w bk (.map ents' ck))→OpR P Γ N r o w g h (h.set j (.map es' fl)) (some (.tup [])):=by
  intro ents' hsub h1 h2 hrun;refine ⟨g,setW w bk (.map ents' ck),_,?_,Inv.setO H hj hρ hkk ⟨?_,?_⟩,hE,_,rfl,by simp only [V,VL]; exact ⟨[],rfl,rfl⟩⟩
  ·simp only [execOp,ho,resolve,invoke,builtin,Sem.run_bind,Sem.run_pure,Result.andThen_ok,List.map_toArray,List.map_cons,List.map_nil,hrun]
  ·intro hf';have h3:=belL_iff.1 (hfl hf');rw [belL_iff];intro y hy;obtain ⟨q,hq,rfl⟩:=List.mem_map.1 hy;exact h3 _ (List.mem_map.2 ⟨q,hsub q hq,rfl⟩)
  ·intro b' sz' st' hb';rw [hρ] at hb';simp only [Option.some.injEq,Prod.mk.injEq] at hb';obtain ⟨rfl,_⟩:=hb';exact ⟨ents',ck,setW_same _ hbk,VL_mono hE (VL_bel h1) h1,VL_mono hE (VL_bel h2) h2⟩
 cases p with
 | none =>
  simp only at hp2;subst hp2;have hs:=run_setObj (P:=P) (B':=.map ents ck) hw (by simp);refine hdone ents (fun _ h=>h) hks hvs ?_;simp only [Option.bind_none] at hf;simp [Builtin.delete_,run_underlying hu,hrm,hg,hck,hf,hs]
 | some i =>
  obtain ⟨hil,rfl⟩:=hp2
  have hile:i<ents.size:=by have:ents.toList.length=es.length:=hlen; simp at this; omega
  have hge:ents[i]? = some ents[i]:=Array.getElem?_eq_getElem hile;have hs:=run_setObj (P:=P) (B':=.map (ents.eraseIdxIfInBounds i) ck) hw (by simp)
  have hel:(ents.eraseIdxIfInBounds i).toList=ents.toList.eraseIdx i:=by
   rw [Array.eraseIdxIfInBounds,dif_pos hile,Array.toList_eraseIdx]
  refine hdone (ents.eraseIdxIfInBounds i) (fun _ h=>List.mem_of_mem_eraseIdx h) ?_ ?_ ?_
  ·rw [hel,map_eraseIdx',map_eraseIdx']; exact VL_eraseIdx i hks
  ·rw [hel,map_eraseIdx',map_eraseIdx']; exact VL_eraseIdx i hvs
  ·simp only [Option.bind_some,Array.getElem?_toList,hge,Option.map_some] at hf;simp [Builtin.delete_,run_underlying hu,hrm,hg,hck,hf,hs]
theorem op_lenMap (H:Inv P Γ N g h w) {x:Operand} {ty kt et:TypeId} (ho:o.op=.call ⟨.builtin .len,#[x],#[ty]⟩) (hu:P.underlying ty=some (.map kt et)) {a:AV} (hx:V g h a (r x)) {n:Nat}
  (ha:(a=.nilm∧n=0)∨(∃ ks vs,a=.kmp ks vs∧n=ks.length)∨∃ j es fl,a=.mp j∧h[j]? = some (.map es fl)∧n=es.length):OpR P Γ N r o w g h h (some (.int .i64 n)):=by
 rcases ha with ⟨rfl,rfl⟩ | ⟨ks,vs,rfl,rfl⟩ | ⟨j,es,fl,rfl,hj,rfl⟩
 ·simp only [V] at hx;exact op_len H ho (Or.inr (Or.inr (Or.inr ⟨_,_,hu,hx,rfl⟩)))
 ·simp only [V] at hx;obtain ⟨b,ents,ck,h1,h2,h3,h4⟩:=hx;have hg:=run_getObj (P:=P) (H.mm b ents ck h2).1 (by simp);have hl:=VL_length h3;refine OpR.same H (u:=.int .i64 ks.length) ?_ (by simp [V]);simp at hl;simp [execOp,ho,resolve,invoke,builtin,Builtin.len_,h1,run_underlying hu,goInt,hg,hl]
 ·simp only [V] at hx;obtain ⟨_,b,sz,hρ,h1⟩:=hx;obtain ⟨_,h2⟩:=H.ob j _ hj;obtain ⟨ents,ck,h3,h4,h5⟩:=h2 b sz 0 hρ;have hg:=run_getObj (P:=P) h3 (by simp);have hl:=VL_fst_len h4;refine OpR.same H (u:=.int .i64 es.length) ?_ (by simp [V]);simp at hl;simp [execOp,ho,resolve,invoke,builtin,Builtin.len_,h1,run_underlying hu,goInt,hg,hl]
end
theorem modify_eq_set {α:Type} {f:α→α}:∀ {l:List α} {i:Nat} {a:α},l[i]? = some a→l.modify i f=l.set i (f a)
 | [],i,a,h=>by simp at h
 | b::l,0,a,h=>by simp at h; subst h; simp
 | b::l,i+1,a,h=>by simp at h; simp [modify_eq_set h]
theorem modify_none {α:Type} {f:α→α} {l:List α} {i:Nat} (h:l[i]? = none):l.modify i f=l:=by
 apply List.ext_getElem?;intro n;rw [List.getElem?_modify]
 by_cases hn:i=n
 ·subst hn; simp [h]
 ·simp [hn]
def Cov (g':G) (h:List Ob) (w:World) (g:G) (i:Nat):Prop :=
 ∀ k E es gr fl sh,h[i]? = some (.row k E es gr fl sh)→∀ b sz st,g.ρ i=some (b,sz,st)→∀ o v,(gr.getD 0 - st)*k≤o→o<(es.length - st)*k→w.cell? ⟨b,o,none⟩=some v→g'.M b o=some v
section
variable {P : Program} {Γ : Nat → Option AV} {N : Env} {g : G} {h : List Ob} {w : World} {r : Operand → Value} {o : Oper} {t : List AV}
theorem Ext.more {g':G} {i k:Nat} {E:TypeId} {es:List AV} {gr:Option Nat} {fl sh:Bool} (hi:h[i]? = some (.row k E es gr fl sh)) (hρ:g'.ρ=g.ρ) (hMM:g'.MM=g.MM) (hM:∀ b o v,g.M b o=some v→g'.M b o=some v) :
  Ext h.length g h g' (h.set i (.row k E es gr fl true)):=by
 have h1:=Ext.set_row (g:=g) (E':=E) (es':=es) (gr':=gr) (fl':=fl) (sh':=true) (ρ':=g.ρ i) hi (Nat.le_refl _) (fun off m _ h1=>⟨h1,rfl,fun _ h=>h⟩);rw [upd_self] at h1;refine h1.trans ?_
 exact ⟨hM,fun b x hx=>by rw [hMM]; exact hx,fun j vs _ hj=>⟨⟨_,hj⟩,fun x hx=>by rw [hρ]; exact hx⟩,fun j es fl _ hj=>⟨⟨_,_,hj⟩,fun x hx=>by rw [hρ]; exact hx⟩,
  fun j es fl _ hj=>⟨⟨_,_,hj⟩,fun x hx=>by rw [hρ]; exact hx⟩,fun j st q fn t ps a b _ hj=>⟨⟨_,_,hj⟩,fun x hx=>by rw [hρ]; exact hx⟩,fun j l _ hj=>⟨⟨_,hj⟩,fun x hx=>by rw [hρ]; exact hx⟩,
  fun j k E es gr fl sh _ hj=>⟨_,_,_,_,_,hj,Nat.le_refl _,fun _ _ _ hk=>⟨hk,rfl,fun x hx=>by rw [hρ]; exact hx⟩⟩⟩
theorem share_one (H:Inv P Γ N g h w) (i:Nat):∃ g',g'.ρ=g.ρ∧g'.MM=g.MM∧(∀ b o v,g.M b o=some v→g'.M b o=some v)∧Inv P Γ N g' (h.modify i shareOne) w∧Ext h.length g h g' (h.modify i shareOne)∧Cov g' h w g i ∧
  ∀ (j:Nat) (k:Nat) (E:TypeId) (es:List AV) (gr:Option Nat) (fl sh:Bool),h[j]? = some (Ob.row k E es gr fl sh)→∃ sh',(h.modify i shareOne)[j]? = some (Ob.row k E es gr fl sh'):=by
 by_cases hrow:∃ k E es gr fl sh,h[i]? = some (.row k E es gr fl sh)
 ·obtain ⟨k,E,es,gr,fl,sh,hi⟩:=hrow;have hmod:h.modify i shareOne=h.set i (.row k E es gr fl true):=modify_eq_set hi;rw [hmod];have hil:=lt_of_get hi
  have hrows:∀ (j:Nat) (k':Nat) (E':TypeId) (es':List AV) (gr':Option Nat) (fl' sh':Bool),h[j]? = some (Ob.row k' E' es' gr' fl' sh')→∃ sh'',(h.set i (Ob.row k E es gr fl true))[j]? = some (Ob.row k' E' es' gr' fl' sh''):=by
   intro j k' E' es' gr' fl' sh' hj
   by_cases hji:j=i
   ·subst hji;rw [hi] at hj;simp only [Option.some.injEq,Ob.row.injEq] at hj;obtain ⟨rfl,rfl,rfl,rfl,rfl,rfl⟩:=hj;exact ⟨true,List.getElem?_set_self hil⟩
   ·exact ⟨sh',by rw [List.getElem?_set_ne (by omega)]; exact hj⟩
  cases hρ:g.ρ i with
  | none =>
   have hE:Ext h.length g h g (h.set i (.row k E es gr fl true)):=Ext.more hi rfl rfl (fun _ _ _ h=>h);refine ⟨g,rfl,rfl,fun _ _ _ h=>h,?_,hE,?_,hrows⟩
   ·have:=Inv.set (r:=none) (w':=w) H (o':=.row k E es gr fl true) hil (by rw [← hρ,upd_self]; exact hE) rfl rfl rfl (fun _ _ _=>rfl) (Nat.le_refl _) (by simp)
     (fun b y o v hy _=>by rw [hρ] at hy; cases hy) (by simp) (by
      rw [← hρ,upd_self];have:=OV_mono (w':=w) hE rfl (fun _ _ _=>rfl) (H.ob i _ hi)
      simpa only [OV] using this)
    rw [← hρ,upd_self] at this;exact this
   ·intro k' E' es' gr' fl' sh' _ b sz st hb
    rw [hρ] at hb; cases hb
  | some y =>
   obtain ⟨b,sz,st⟩:=y;have hob:=H.ob i _ hi;simp only [OV] at hob;rw [hρ] at hob;simp only at hob;obtain ⟨hk0,hK,hfl,hgl,hst,c,Eb,fz,vs,hw,hsz,hfree,hVE,hcells⟩:=hob
   let g':G:={ g with M:=fun b' o=>if b'=b∧(gr.getD 0 - st)*k≤o∧o<(es.length - st)*k then c[o]? else g.M b' o }
   have hMc:∀ o v,g.M b o=some v→c[o]? = some v:=fun o v hv=>by
    have:=H.mem b o v hv;rwa [cell_of_row w b o c Eb fz hw] at this
   have hM:∀ b' o v,g.M b' o=some v→g'.M b' o=some v:=by
    intro b' o v hv;simp only [g']
    split
    ·rename_i hc;rw [hc.1] at hv;exact hMc o v hv
    ·exact hv
   have hE:Ext h.length g h g' (h.set i (.row k E es gr fl true)):=Ext.more hi rfl rfl hM;refine ⟨g',rfl,rfl,hM,?_,hE,?_,hrows⟩
   ·refine ⟨H.os,H.tape,H.output,H.keep,H.own,H.inj,fun j hj=>H.dom j (by rwa [List.length_set] at hj),?_,H.mm,?_,?_,?_,?_,H.mmE⟩
    ·intro b' o v hv;simp only [g'] at hv
     split at hv
     ·rename_i hc;rw [hc.1,cell_of_row w b o c Eb fz hw];exact hv
     ·exact H.mem b' o v hv
    ·intro j b' sz' st' o v hj hv;have hj':g.ρ j=some (b',sz',st'):=hj
     have hold:g.M b' o=some v→∃ k' E' es' gr' fl',(h.set i (.row k E es gr fl true))[j]? = some (.row k' E' es' gr' fl' true)∧o<(es'.length - st')*k':=by
      intro hv';obtain ⟨k',E',es',gr',fl',h1,h2⟩:=H.mown j b' sz' st' o v hj' hv'
      by_cases hji:j=i
      ·subst hji;rw [hi] at h1;simp only [Option.some.injEq,Ob.row.injEq] at h1;obtain ⟨rfl,rfl,rfl,rfl,rfl,rfl⟩:=h1;exact ⟨_,_,_,_,_,List.getElem?_set_self hil,h2⟩
      ·exact ⟨k',E',es',gr',fl',by rw [List.getElem?_set_ne (by omega)]; exact h1,h2⟩
     simp only [g'] at hv
     split at hv
     ·rename_i hc;have hji:j=i:=H.inj j i b _ _ (by rw [← hc.1]; exact hj') hρ;subst hji;rw [hρ] at hj';simp only [Option.some.injEq,Prod.mk.injEq] at hj';obtain ⟨_,_,rfl⟩:=hj';exact ⟨_,_,_,_,_,List.getElem?_set_self hil,hc.2.2⟩
     ·exact hold hv
    ·intro j q hj
     by_cases hji:j=i
     ·subst hji;rw [List.getElem?_set_self hil] at hj
      cases hj
      have:=OV_mono (w':=w) hE rfl (fun _ _ _=>rfl) (H.ob j _ hi);simpa only [OV] using this
     ·rw [List.getElem?_set_ne (by omega)] at hj;exact OV_mono hE rfl (fun _ _ _=>rfl) (H.ob j q hj)
    ·intro n a hn;obtain ⟨h1,vs,h2,h3⟩:=H.glob n a hn;exact ⟨h1,vs,VL_mono hE (VL_bel h2) h2,fun j hj=>hM _ _ _ (h3 j hj)⟩
    ·intro b' o v B hv hB;simp only [g'] at hv
     split at hv
     ·rename_i hc;have:=(H.own i b _ hρ).1;rw [hc.1,this] at hB
      cases hB
     ·exact H.mK b' o v B hv hB
   ·intro k' E' es' gr' fl' sh' hi' b' sz' st' hb' o v h1 h2 h3;rw [hi] at hi';simp only [Option.some.injEq,Ob.row.injEq] at hi';obtain ⟨rfl,rfl,rfl,rfl,rfl,rfl⟩:=hi';rw [hρ] at hb';simp only [Option.some.injEq,Prod.mk.injEq] at hb';obtain ⟨rfl,rfl,rfl⟩:=hb';simp only [g'];rw [if_pos ⟨trivial,h1,h2⟩,← cell_of_row w b o c Eb fz hw];exact h3
 ·have hmod:h.modify i shareOne=h:=by
   cases hi:h[i]? with
   | none=>exact modify_none hi
   | some q =>
    rw [modify_eq_set hi]
    have:shareOne q=q:=by
     cases q <;> first | rfl | exact absurd ⟨_,_,_,_,_,_,hi⟩ hrow
    rw [this];apply List.ext_getElem?;intro n;rw [List.getElem?_set]
    by_cases hn:i=n
    ·subst hn; rw [if_pos rfl,if_pos (lt_of_get hi),hi]
    ·simp [hn]
  rw [hmod];refine ⟨g,rfl,rfl,fun _ _ _ h=>h,H,Ext.refl _ _ _,?_,fun j k E es gr fl sh hj=>⟨sh,hj⟩⟩;intro k E es gr fl sh hi;exact absurd ⟨_,_,_,_,_,_,hi⟩ hrow
theorem share_length:∀ (is:List Nat) (h:List Ob),(share is h).length=h.length
 | [],_=>rfl
 | i::is,h=>by simp [share,share_length is]
theorem share_sound:∀ (is:List Nat) {g:G} {h:List Ob},Inv P Γ N g h w→∃ g',g'.ρ=g.ρ∧g'.MM=g.MM∧(∀ b o v,g.M b o=some v→g'.M b o=some v)∧Inv P Γ N g' (share is h) w∧Ext h.length g h g' (share is h) ∧
  ∀ i∈is,Cov g' h w g i
 | [],g,h,H=>⟨g,rfl,rfl,fun _ _ _ h=>h,H,Ext.refl _ _ _,by simp⟩
 | i::is,g,h,H=>by
  obtain ⟨g1,hρ1,hMM1,hM1,H1,hE1,hC1,hr1⟩:=share_one H i;obtain ⟨g2,hρ2,hMM2,hM2,H2,hE2,hC2⟩:=share_sound is H1
  have hl:(h.modify i shareOne).length=h.length:=by simp
  rw [hl] at hE2;refine ⟨g2,hρ2.trans hρ1,hMM2.trans hMM1,fun b o v hv=>hM2 b o v (hM1 b o v hv),H2,hE1.trans hE2,?_⟩;intro j hj
  rcases List.mem_cons.1 hj with rfl | hj
  ·intro k E es gr fl sh hi b sz st hb o v h1 h2 h3;exact hM2 _ _ _ (hC1 k E es gr fl sh hi b sz st hb o v h1 h2 h3)
  ·intro k E es gr fl sh hi b sz st hb o v h1 h2 h3;obtain ⟨sh',hi'⟩:=hr1 j k E es gr fl sh hi;exact hC2 j hj k E es gr fl sh' hi' b sz st (by rw [hρ1]; exact hb) o v h1 h2 h3
theorem V_view_sl (H:Inv P Γ N g h w) {g':G} {h':List Ob} (x:Ext h.length g h g' h') {i off n:Nat} {u:Value} (hc:Cov g' h w g i) (hv:V g h (.sl i off n) u) {p:Nat×List AV} (ht:telems h (.sl i off n)=some p) :
  V g' h' (.list false p.1 p.2) u:=by
 simp only [telems] at ht
 split at ht
 ·rename_i k E es gr sh hi
  split at ht
  ·rename_i hok;simp only [Option.some.injEq] at ht;subst ht;have hrow:=row_cells H hv hi hok;obtain ⟨hK,a,cap,vs,rfl,hVE,hmem⟩:=hrow;have hob:=H.ob i _ hi;simp only [OV] at hob;obtain ⟨hk0,_,hfl,hgl,hb⟩:=hob
   have hle:off+n≤es.length:=by
    cases gr with
    | none=>simpa [okSl] using hok
    | some lo=>simp only [okSl,Bool.and_eq_true,decide_eq_true_eq,beq_iff_eq] at hok; omega
   have hln:((es.drop off).take n).length=n:=by simp; omega
   have hokl:okList ((es.drop off).take n) k=true:=okList_sub (hfl trivial) (fun e he=>List.mem_of_mem_drop (List.mem_of_mem_take he));simp only [V] at hv ⊢;obtain ⟨k2,E2,es2,gr2,fl2,sh2,hi2,_,a2,cap2,he2,hcap,_,hq⟩:=hv;rw [hi] at hi2;simp only [Option.some.injEq,Ob.row.injEq] at hi2;obtain ⟨rfl,rfl,rfl,rfl,rfl,rfl⟩:=hi2;simp only [Value.slice.injEq,true_and] at he2;obtain ⟨rfl,rfl⟩:=he2;refine ⟨hokl,a,cap,by rw [hln],by simp,by rw [hln]; exact hcap,?_⟩
   by_cases h0:n=0
   ·left; apply List.length_eq_zero_iff.1; omega
   ·right
    rcases (hq hok).2 with ⟨h1,_⟩ | ⟨b,sz,st,hρ,hst,rfl,hcs⟩
    ·exact absurd h1 h0
    ·rcases hmem with h1 | ⟨b',p',he,hm⟩
     ·exact absurd h1 h0
     ·simp only [Option.some.injEq,Addr.mk.injEq,and_true] at he;obtain ⟨rfl,rfl⟩:=he
      have hlo:gr.getD 0≤off:=by
       cases gr with
       | none=>simp
       | some lo=>simp only [okSl,Bool.and_eq_true,decide_eq_true_eq] at hok; simpa using hok.1
      have hst2:st≤gr.getD 0:=by rw [hρ] at hb; exact hb.1
      refine ⟨b,(off - st)*k,vs,rfl,VE_mono x (VE_bel hVE) hVE,fun j hj => ?_⟩;have hvl:=VE_length (okList_allK hokl) hVE;rw [hln] at hvl;refine hc k E es gr true sh hi b sz st hρ _ _ ?_ ?_ (hm j _ (List.getElem?_eq_getElem hj))
      ·exact Nat.le_trans (Nat.mul_le_mul_right _ (by omega)) (Nat.le_add_right _ _)
      ·have:(off - st)*k+n*k≤(es.length - st)*k:=by rw [← Nat.add_mul]; exact Nat.mul_le_mul_right _ (by omega)
       omega
  ·simp at ht
 ·simp at ht
mutual
theorem V_view (H:Inv P Γ N g h w) {g':G} {h':List Ob} (x:Ext h.length g h g' h'):∀ {a a':AV} {u:Value},(∀ i∈rowsOf a,Cov g' h w g i)→V g h a u→view h a=some a'→V g' h' a' u
 | .undef,a',u,_,hv,ha | .bool _,a',u,_,hv,ha | .int _ _,a',u,_,hv,ha | .str _,a',u,_,hv,ha | .nilp,a',u,_,hv,ha | .nilm,a',u,_,hv,ha | .nilf,a',u,_,hv,ha
 | .nili,a',u,_,hv,ha | .gptr _ _,a',u,_,hv,ha=>by
  simp only [view,Option.some.injEq] at ha;subst ha;exact V_mono x (V_bel hv) hv
 | .kmp ks us,a',u,_,hv,ha=>by
  simp only [view] at ha
  split at ha
  ·simp only [Option.some.injEq] at ha;subst ha;exact V_mono x (V_bel hv) hv
  ·simp at ha
 | .list f k es,a',u,_,hv,ha=>by
  simp only [view,Option.some.injEq] at ha;subst ha;have h1:=V_mono x (V_bel hv) hv;simp only [V] at h1 ⊢;obtain ⟨h2,a,cap,h3,_,h4,h5⟩:=h1;exact ⟨h2,a,cap,h3,by simp,h4,h5⟩
 | .sl i off n,a',u,hc,hv,ha=>by
  simp only [view,Option.map_eq_some_iff] at ha;obtain ⟨p,hp,rfl⟩:=ha;exact V_view_sl H x (hc i (by simp [rowsOf])) hv hp
 | .own _ _ _,_,_,_,hv,_=>by simp only [V] at hv
 | .ptr _ _,_,_,_,_,ha | .mp _,_,_,_,_,ha | .it _,_,_,_,_,ha | .yld _,_,_,_,_,ha | .eptr _ _ _ _,_,_,_,_,ha=>by simp [view] at ha
 | .agg cs,a',u,hc,hv,ha=>by
  simp only [view,Option.map_eq_some_iff] at ha;obtain ⟨cs',h1,rfl⟩:=ha;simp only [V] at hv ⊢;obtain ⟨vs,rfl,h2⟩:=hv;exact ⟨vs,rfl,VL_view H x (by simpa only [rowsOf] using hc) h2 h1⟩
 | .tup cs,a',u,hc,hv,ha=>by
  simp only [view,Option.map_eq_some_iff] at ha;obtain ⟨cs',h1,rfl⟩:=ha;simp only [V] at hv ⊢;obtain ⟨vs,rfl,h2⟩:=hv;exact ⟨vs,rfl,VL_view H x (by simpa only [rowsOf] using hc) h2 h1⟩
 | .fn f a b,a',u,hc,hv,ha=>by
  simp only [view] at ha
  split at ha
  ·rename_i a2 b2 h1 h2;simp only [Option.some.injEq] at ha;subst ha;simp only [V] at hv ⊢;obtain ⟨xs,ys,rfl,h3,h4⟩:=hv;simp only [rowsOf,List.mem_append] at hc;exact ⟨xs,ys,rfl,VL_view H x (fun i hi=>hc i (Or.inl hi)) h3 h1,VL_view H x (fun i hi=>hc i (Or.inr hi)) h4 h2⟩
  ·simp at ha
 | .ifc t a,a',u,hc,hv,ha=>by
  simp only [view,Option.map_eq_some_iff] at ha;obtain ⟨b,h1,rfl⟩:=ha;simp only [V] at hv ⊢;obtain ⟨y,rfl,h2⟩:=hv;exact ⟨y,rfl,V_view H x (by simpa only [rowsOf] using hc) h2 h1⟩
theorem VL_view (H:Inv P Γ N g h w) {g':G} {h':List Ob} (x:Ext h.length g h g' h'):∀ {as as':List AV} {us:List Value},(∀ i∈rowsOfL as,Cov g' h w g i)→VL g h as us→viewL h as=some as'→VL g' h' as' us
 | [],as',us,_,hv,ha=>by
  simp only [viewL,Option.some.injEq] at ha;subst ha;simpa only [VL] using hv
 | a::as,as',us,hc,hv,ha=>by
  simp only [viewL] at ha
  split at ha
  ·rename_i a2 as2 h1 h2;simp only [Option.some.injEq] at ha;subst ha;simp only [VL] at hv ⊢;obtain ⟨u,us',rfl,h3,h4⟩:=hv;simp only [rowsOfL,List.mem_append] at hc;exact ⟨u,us',rfl,V_view H x (fun i hi=>hc i (Or.inl hi)) h3 h1,VL_view H x (fun i hi=>hc i (Or.inr hi)) h4 h2⟩
  ·simp at ha
end
mutual
theorem view_bel (H:Inv P Γ N g h w):∀ {a a':AV} {u:Value},V g h a u→view h a=some a'→bel 0 a'=true
 | .undef,_,_,_,ha | .bool _,_,_,_,ha | .int _ _,_,_,_,ha | .str _,_,_,_,ha | .nilp,_,_,_,ha | .nilm,_,_,_,ha | .nilf,_,_,_,ha
 | .nili,_,_,_,ha | .gptr _ _,_,_,_,ha=>by
  simp only [view,Option.some.injEq] at ha;subst ha;rfl
 | .kmp ks us,_,_,_,ha=>by
  simp only [view] at ha
  split at ha
  ·rename_i hb;simp only [Option.some.injEq] at ha;subst ha;simpa only [bel] using hb
  ·simp at ha
 | .list f k es,_,_,hv,ha=>by
  simp only [view,Option.some.injEq] at ha;subst ha;simp only [V] at hv;simp only [bel];exact okList_bel hv.1
 | .sl i off n,_,_,hv,ha=>by
  simp only [view,Option.map_eq_some_iff] at ha;obtain ⟨p,hp,rfl⟩:=ha;simp only [telems] at hp
  split at hp
  ·rename_i k E es gr sh hi
   split at hp
   ·simp only [Option.some.injEq] at hp;subst hp;have hob:=H.ob i _ hi;simp only [OV] at hob;obtain ⟨_,_,hfl,_⟩:=hob;simp only [bel];exact okList_bel (okList_sub (hfl trivial) (fun e he=>List.mem_of_mem_drop (List.mem_of_mem_take he)))
   ·simp at hp
  ·simp at hp
 | .own _ _ _,_,_,hv,_=>by simp only [V] at hv
 | .ptr _ _,_,_,_,ha | .mp _,_,_,_,ha | .it _,_,_,_,ha | .yld _,_,_,_,ha | .eptr _ _ _ _,_,_,_,ha=>by simp [view] at ha
 | .agg cs,_,_,hv,ha=>by
  simp only [view,Option.map_eq_some_iff] at ha;obtain ⟨cs',h1,rfl⟩:=ha;simp only [V] at hv;obtain ⟨vs,rfl,h2⟩:=hv
  simp only [bel]; exact viewL_bel H h2 h1
 | .tup cs,_,_,hv,ha=>by
  simp only [view,Option.map_eq_some_iff] at ha;obtain ⟨cs',h1,rfl⟩:=ha;simp only [V] at hv;obtain ⟨vs,rfl,h2⟩:=hv
  simp only [bel]; exact viewL_bel H h2 h1
 | .fn f a b,_,_,hv,ha=>by
  simp only [view] at ha
  split at ha
  ·rename_i a2 b2 h1 h2;simp only [Option.some.injEq] at ha;subst ha;simp only [V] at hv;obtain ⟨xs,ys,rfl,h3,h4⟩:=hv
   simp only [bel,Bool.and_eq_true]; exact ⟨viewL_bel H h3 h1,viewL_bel H h4 h2⟩
  ·simp at ha
 | .ifc t a,_,_,hv,ha=>by
  simp only [view,Option.map_eq_some_iff] at ha;obtain ⟨b,h1,rfl⟩:=ha;simp only [V] at hv;obtain ⟨y,rfl,h2⟩:=hv
  simp only [bel]; exact view_bel H h2 h1
theorem viewL_bel (H:Inv P Γ N g h w):∀ {as as':List AV} {us:List Value},VL g h as us→viewL h as=some as'→belL 0 as'=true
 | [],_,_,_,ha=>by
  simp only [viewL,Option.some.injEq] at ha;subst ha;rfl
 | a::as,_,_,hv,ha=>by
  simp only [viewL] at ha
  split at ha
  ·rename_i a2 as2 h1 h2;simp only [Option.some.injEq] at ha;subst ha;simp only [VL] at hv;obtain ⟨u,us',rfl,h3,h4⟩:=hv
   simp only [belL,Bool.and_eq_true]; exact ⟨view_bel H h3 h1,viewL_bel H h4 h2⟩
  ·simp at ha
end
theorem F2_mono {α β:Type} {R S:α→β→Prop}:∀ {l:List α} {m:List β},F2 R l m→(∀ a b,R a b→S a b)→F2 S l m
 | _,_,.nil,_=>.nil
 | _,_,.cons h1 h2,hs=>.cons (hs _ _ h1) (F2_mono h2 hs)
theorem parts_sound:∀ {ps ps':List (Nat×AV)} {parts:List (Nat×Value)} {g:G} {h h':List Ob},Inv P Γ N g h w→F2 (fun (p:Nat×AV) (q:Nat×Value)=>p.1=q.1∧V g h p.2 q.2) ps parts→partsIn h ps=some (ps',h') →
  ∃ g',Inv P Γ N g' h' w∧h'.length=h.length∧Ext h.length g h g' h'∧F2 (fun (p:Nat×AV) (q:Nat×Value)=>p.1=q.1∧V g' h' p.2 q.2) ps' parts
 | [],ps',parts,g,h,h',H,hf,hp=>by
  cases hf
  simp only [partsIn,Option.some.injEq,Prod.mk.injEq] at hp;obtain ⟨rfl,rfl⟩:=hp;exact ⟨g,H,rfl,Ext.refl _ _ _,.nil⟩
 | (i,v)::ps,ps',parts,g,h,h',H,hf,hp=>by
  cases hf with
  | cons hq hf =>
   rename_i q parts;simp only [partsIn] at hp
   split at hp
   ·rename_i v' hv'
    split at hp
    ·rename_i ps2 h2 hp2;simp only [Option.some.injEq,Prod.mk.injEq] at hp;obtain ⟨rfl,rfl⟩:=hp;obtain ⟨g1,_,_,_,H1,hE1,hC1⟩:=share_sound (rowsOf v) H;have hv1:=V_view H hE1 hC1 hq.2 hv';obtain ⟨g2,H2,hl2,hE2,hF2⟩:=parts_sound H1 (F2_mono hf fun a b hab=>⟨hab.1,V_mono hE1 (V_bel hab.2) hab.2⟩) hp2;rw [share_length] at hl2 hE2;refine ⟨g2,H2,hl2,hE1.trans hE2,.cons ⟨hq.1,?_⟩ hF2⟩;have:=V_bel hv1;rw [share_length] at this;exact V_mono hE2 this hv1
    ·simp at hp
   ·simp at hp
theorem fillE_sound {k:Nat}:∀ {ps:List (Nat×AV)} {parts:List (Nat×Value)} {es es':List AV} {zs:Array Value},F2 (fun (p:Nat×AV) (q:Nat×Value)=>p.1=q.1∧V g h p.2 q.2) ps parts→fillE k es ps=some es' →
  AllK k es→VE g h es zs.toList→∃ us,Instr.fill (fun i=>some (i*k,k)) zs parts=some us∧VE g h es' us.toList∧AllK k es'∧es'.length=es.length
 | [],parts,es,es',zs,hf,hp,hk,hv=>by
  cases hf
  simp only [fillE,Option.some.injEq] at hp;subst hp;exact ⟨zs,rfl,hv,hk,rfl⟩
 | (i,v)::ps,parts,es,es',zs,hf,hp,hk,hv=>by
  cases hf with
  | cons hq hf =>
   rename_i q parts;obtain ⟨j,u⟩:=q;obtain ⟨hij,hu⟩:=hq;simp only at hij hu;subst hij;simp only [fillE] at hp
   split at hp
   ·rename_i hc;obtain ⟨hil,hvk,hvo⟩:=hc;have hcells:=V_cells (ok_of_allOne hvo) hu;have hul:=VL_length hcells
    have hu1:u.cells.toList.length=k:=by rw [hul,hvk]
    have hzl:=VE_length hk hv
    have hzs:zs.size=es.length*k:=by simpa using hzl
    have hik:i*k+k≤es.length*k:=by
     have:i*k+k=(i+1)*k:=by rw [Nat.add_mul,Nat.one_mul]
     rw [this]; exact Nat.mul_le_mul_right _ (by omega)
    have hset:=VE_set hk hv hil hu hu1;have hfold:=fold_over (i*k) u.cells.toList 0 zs (by rw [hzs]; omega)
    have hzip:u.cells.zipIdx.foldl (fun cs (x:Value×Nat)=>cs.setIfInBounds (i*k+x.2) x.1) zs=(u.cells.toList.zipIdx 0).foldl (fun cs (x:Value×Nat)=>cs.setIfInBounds (i*k+x.2) x.1) zs:=by
     rw [← Array.foldl_toList,Array.toList_zipIdx]
    obtain ⟨us,h1,h2,h3,h4⟩:=fillE_sound (zs:=u.cells.zipIdx.foldl (fun cs (x:Value×Nat)=>cs.setIfInBounds (i*k+x.2) x.1) zs) hf hp (by
      intro e he
      rcases List.mem_or_eq_of_mem_set he with he | rfl
      ·exact hk e he
      ·exact ⟨hvk,hvo⟩) (by
      rw [hzip,hfold,Nat.add_zero]
      exact hset)
    refine ⟨us,?_,h2,h3,by rw [h4,List.length_set]⟩;simp only [Instr.fill]
    have hus:u.cells.size=k:=by simpa using hu1
    rw [if_neg (by simp only [Bool.or_eq_true,decide_eq_true_eq,ne_eq,not_or,Decidable.not_not]; omega)];exact h1
   ·simp at hp
theorem Inv.imm (H:Inv P Γ N g h w) (c:Array Value) (E:TypeId):∃ g',g'.ρ=g.ρ∧g'.MM=g.MM∧(∀ b o v,g.M b o=some v→g'.M b o=some v)∧Inv P Γ N g' h (w.alloc (.cells c E))∧Ext h.length g h g' h ∧
  ∀ j v,c[j]? = some v→g'.M w.heap.size j=some v:=by
 let g':G:={ g with M:=fun b o=>if b=w.heap.size then c[o]? else g.M b o }
 have hM:∀ b o v,g.M b o=some v→g'.M b o=some v:=by
  intro b o v hv;have:b<w.heap.size:=Go.block_lt_of_cell (H.mem b o v hv);simp only [g'];rw [if_neg (by omega)];exact hv
 have hE:Ext h.length g h g' h:=⟨hM,fun b x hx=>hx,fun j vs _ hj=>⟨⟨_,hj⟩,fun x hx=>hx⟩,fun j es fl _ hj=>⟨⟨_,_,hj⟩,fun x hx=>hx⟩,
  fun j es fl _ hj=>⟨⟨_,_,hj⟩,fun x hx=>hx⟩,fun j st q fn t ps a b _ hj=>⟨⟨_,_,hj⟩,fun x hx=>hx⟩,fun j l _ hj=>⟨⟨_,hj⟩,fun x hx=>hx⟩,
  fun j k E es gr fl sh _ hj=>⟨_,_,_,_,_,hj,Nat.le_refl _,fun _ _ _ hk=>⟨hk,rfl,fun x hx=>hx⟩⟩⟩
 have hw:∀ b,b<w.heap.size→(w.alloc (.cells c E)).heap[b]? = w.heap[b]? := heap_old _ _
 have hltk:∀ {b B},w.heap[b]? = some B→b<w.heap.size:=fun {b B} hb=>(Array.getElem?_eq_some_iff.1 hb).1
 refine ⟨g',rfl,rfl,hM,?_,hE,?_⟩
 ·refine ⟨H.os,H.tape,H.output,fun b o hb=>by rw [hw b (hltk (H.keep b o hb))]; exact H.keep b o hb,fun i b x hi=>⟨(H.own i b x hi).1,by have:=(H.own i b x hi).2; simp; omega⟩,H.inj,H.dom,?_,?_,?_,?_,?_,?_,H.mmE⟩
  ·intro b o v hv;simp only [g'] at hv
   split at hv
   ·rename_i hb;subst hb;have:=cell_of_row (w.alloc (.cells c E)) w.heap.size o c E (0,0) (heap_new _ _)
    rw [this]; exact hv
   ·have h0:=H.mem b o v hv;rw [cell?_congr (hw b (Go.block_lt_of_cell h0))];exact h0
  ·intro b es ck hb;obtain ⟨h1,h2⟩:=H.mm b es ck hb;exact ⟨by rw [hw b (hltk h1)]; exact h1,h2⟩
  ·intro i b sz st o v hi hv;simp only [g'] at hv
   split at hv
   ·rename_i hb;have:=(H.own i b _ hi).2;omega
   ·exact H.mown i b sz st o v hi hv
  ·intro i q hi;exact OV_mono hE rfl (fun b y hb=>hw b (H.own i b y hb).2) (H.ob i q hi)
  ·intro n a hn;obtain ⟨h1,vs,h2,h3⟩:=H.glob n a hn;exact ⟨h1,vs,VL_mono hE (VL_bel h2) h2,fun j hj=>hM _ _ _ (h3 j hj)⟩
  ·intro b o v B hv hB;simp only [g'] at hv
   split at hv
   ·rename_i hb;have:=hltk (H.keep b B hB);omega
   ·exact H.mK b o v B hv hB
 ·intro j v hv;simp only [g',if_true];exact hv
theorem op_lit (H:Inv P Γ N g h w) {ty e:TypeId} {n:Nat} {ps:Array (Nat×Operand)} (ho:o.op=.buildSlice ty n ps) (hu:P.underlying ty=some (.slice e)) {k:Nat} (hk:tSize P e=some k) (hk0:0<k)
  {z:AV} (hz:tZero P e=some z) (hzo:zOk k z=true) (hnk:n*k≤2^24) (he:∀ x,V g h (ax t (cax x)) (r x)) {ps':List (Nat×AV)} {h':List Ob}
  (hp:partsIn h ((ps.toList.map fun q=>(q.1,cax q.2)).map fun q=>(q.1,ax t q.2))=some (ps',h')) {es:List AV} (hf:fillE k (List.replicate n z) ps'=some es) (hok:okList es k=true) :
  OpR P Γ N r o w g h h' (some (.list true k es)):=by
 obtain ⟨zv,hzr,rfl⟩:=run_zero' hz;simp only [zOk,Bool.and_eq_true,decide_eq_true_eq] at hzo;obtain ⟨⟨hzk,hz1⟩,hzb⟩:=hzo;have hzk':=ofVal_size hzk
 have hF:F2 (fun (p:Nat×AV) (q:Nat×Value)=>p.1=q.1∧V g h p.2 q.2) ((ps.toList.map fun q=>(q.1,cax q.2)).map fun q=>(q.1,ax t q.2)) (ps.map fun q=>(q.1,r q.2)).toList:=by
  rw [Array.toList_map,List.map_map];generalize ps.toList=l
  induction l with
  | nil=>exact .nil
  | cons q l ih=>exact .cons ⟨rfl,he q.2⟩ ih
 obtain ⟨g1,H1,hl1,hE1,hF1⟩:=parts_sound H hF hp;have hVE0:=VE_replicate (V_ofVal g1 h' zv) n;have hzl:=zeros_list hzk' n
 let zs:Array Value:=(Array.range (n*k)).map fun i=>(if n*k=0 then #[] else zv.cells)[i % (if n*k=0 then #[] else zv.cells).size]!
 have hzs:zs.toList=(List.replicate n zv.cells.toList).flatten:=by
  simp only [zs]
  by_cases hnk0:n*k=0
  ·have:n=0:=by
    rcases Nat.mul_eq_zero.1 hnk0 with h1 | h1
    ·exact h1
    ·omega
   simp [this]
  ·simp only [hnk0,if_false,hzk'];exact hzl
 obtain ⟨us,h1,h2,h3,h4⟩:=fillE_sound (zs:=zs) hF1 hf (okList_allK (okList_replicate hzk hz1 hzb n)) (by rw [hzs]; exact hVE0);obtain ⟨g2,hρ2,hMM2,hM2,H2,hE2,hN2⟩:=Inv.imm H1 us e;rw [hl1] at hE2
 have hlen:es.length=n:=by rw [h4,List.length_replicate]
 refine ⟨g2,_,_,?_,H2,hE1.trans hE2,.slice (some ⟨w.heap.size,0,none⟩) n n,rfl,?_⟩
 ·have hrun:(Instr.buildSlice ty n (ps.map fun q=>(q.1,r q.2))).run P w=.ok (.slice (some ⟨w.heap.size,0,none⟩) n n) (w.alloc (.cells us e)):=by
   simp only [Instr.buildSlice,Sem.run_bind,run_underlying hu,Result.andThen_ok,run_size hk];rw [if_neg (by omega)]
   by_cases hnk0:n*k=0
   ·have hzs0:zs=(Array.range (n*k)).map fun i=>(#[]:Array Value)[i % (#[]:Array Value).size]! := by simp only [zs,hnk0,if_true]
    rw [hzs0] at h1;rw [if_pos hnk0];simp only [Sem.run_bind,Sem.run_pure,Result.andThen_ok];rw [h1];simp [newRow]
   ·have hzs0:zs=(Array.range (n*k)).map fun i=>zv.cells[i % zv.cells.size]! := by simp only [zs,hnk0,if_false]
    rw [hzs0] at h1;rw [if_neg hnk0];simp only [Sem.run_bind,hzr,Sem.run_pure,Result.andThen_ok];rw [h1];simp [newRow]
  simp only [execOp,ho];rw [Sem.run_bind,hrun];rfl
 ·simp only [V];refine ⟨hok,some ⟨w.heap.size,0,none⟩,n,by rw [hlen],fun _=>hlen.symm,by omega,Or.inr ⟨w.heap.size,0,us.toList,rfl,VE_mono hE2 (by have:=VE_bel h2; rwa [hl1] at this) h2,fun j hj => ?_⟩⟩;rw [Nat.zero_add];apply hN2;rw [← Array.getElem?_toList,List.getElem?_eq_getElem hj]
theorem V_slice3 {f:Bool} {k:Nat} {es:List AV} {a:Option Addr} {n cap l u s:Nat} (hv:V g h (.list f k es) (.slice a n cap)) (hlu:l≤u) (hu:u≤es.length) (hk:k=s∨es=[]) :
  V g h (.list true k ((es.take u).drop l)) (.slice (if u=l then a else a.map (·.add (l*s))) (u - l) (u - l)):=by
 simp only [V] at hv ⊢;obtain ⟨hok,a',cap',he,hf,hcap,h3⟩:=hv;simp only [Value.slice.injEq] at he;obtain ⟨rfl,rfl,rfl⟩:=he
 have hln:((es.take u).drop l).length=u - l:=by simp; omega
 refine ⟨okList_sub hok (fun e he=>List.mem_of_mem_take (List.mem_of_mem_drop he)),(if u=l then a else a.map (·.add (l*s))),u - l,by rw [hln],fun _=>hln.symm,by omega,?_⟩
 by_cases hul:u=l
 ·left;apply List.length_eq_zero_iff.1;omega
 ·right
  have hne:es≠[]:=by rintro rfl; simp at hu; omega
  rcases h3 with h3 | ⟨b,p,vs,rfl,h4,h5⟩
  ·exact absurd h3 hne
  ·have hks:k=s:=hk.resolve_right hne;subst hks;have hK:=okList_allK hok;have h6:=VE_drop (fun e he=>hK e (List.mem_of_mem_take he)) (VE_take hK h4 u) l;refine ⟨b,p+l*k,_,?_,h6,?_⟩
   ·rw [if_neg hul]; simp [add_none]
   ·intro j hj;rw [List.getElem_drop,List.getElem_take,Nat.add_assoc];exact h5 _ _
theorem op_slice3 (H:Inv P Γ N g h w) {ty e:TypeId} {x hi mx:Operand} {lo:Option Operand} (ho:o.op=.slice ty x lo (some hi) (some mx)) (hu:P.underlying ty=some (.slice e)) {s:Nat} (hs:tSize P e=some s)
  {a:AV} (hx:V g h a (r x)) {f:Bool} {k:Nat} {es:List AV} (hv:view h a=some (.list f k es)) (he:∀ x,V g h (ax t (cax x)) (r x)) {l u:Nat} (hl:bound t 0 (lo.map cax)=some l)
  (hh:bound t 0 (some (cax hi))=some u) (hm:bound t 0 (some (cax mx))=some u) (hlu:l≤u∧u≤es.length∧(k=s∨es=[])) :
  OpR P Γ N r o w g h (share (rowsOf a) h) (some (.list true k ((es.take u).drop l))):=by
 obtain ⟨g1,_,_,_,H1,hE1,hC1⟩:=share_sound (rowsOf a) H;have hv1:=V_view H hE1 hC1 hx hv;have hv0:=hv1;simp only [V] at hv0;obtain ⟨_,ad,cap,hrx,_,hcap,_⟩:=hv0;rw [hrx] at hv1;refine ⟨g1,w,_,?_,H1,hE1,_,rfl,V_slice3 hv1 hlu.1 hlu.2.1 hlu.2.2⟩;have b1:=bound_spec (r:=r) (x:=lo) hl he;have b2:=bound_spec (r:=r) (x:=some hi) hh he;have b3:=bound_spec (r:=r) (x:=some mx) hm he;simp only [Option.map_some] at b2 b3;obtain ⟨k2,h2⟩:=b2;obtain ⟨k3,h3⟩:=b3
 have hb:(Instr.sliceBounds true es.length cap (lo.map r) (some (.int k2 u)) (some (.int k3 u))).run P w=.ok (l,u,u) w:=by
  cases lo with
  | none =>
   simp only [Option.map_none] at b1 ⊢;subst b1;simp only [Instr.sliceBounds,Sem.run_bind];rw [run_sliceBound w k3 u cap _ (by omega) (by omega)];simp only [Result.andThen_ok,Int.toNat_natCast];rw [run_sliceBound w k2 u u _ (by omega) (by omega)];simp
  | some lo =>
   simp only [Option.map_some] at b1 ⊢;obtain ⟨k1,h1⟩:=b1;rw [h1];simp only [Instr.sliceBounds,Sem.run_bind];rw [run_sliceBound w k3 u cap _ (by omega) (by omega)];simp only [Result.andThen_ok,Int.toNat_natCast];rw [run_sliceBound w k2 u u _ (by omega) (by omega)];simp only [Result.andThen_ok,Int.toNat_natCast];rw [run_sliceBound w k1 l u _ (by omega) (by omega)];simp
 simp [execOp,ho,hrx,h2,h3,Instr.sliceAt,Instr.slice,run_underlying hu,run_size hs,hb]
theorem set_get_self {α:Type} {l:List α} {i:Nat} {a:α} (hi:l[i]? = some a):l.set i a=l:=by
 apply List.ext_getElem?;intro n;rw [List.getElem?_set]
 by_cases hn:i=n
 ·subst hn; rw [if_pos rfl,if_pos (lt_of_get hi),hi]
 ·simp [hn]
theorem op_mark (H:Inv P Γ N g h w) {s d e:TypeId} {x:Operand} (ho:o.op=.convert s d x) (hsd:s=d) (hs:P.underlying s=some (.slice e)) (he:P.underlying e=some (.int .u8))
  {i n k:Nat} {E:TypeId} {es:List AV} {fl sh:Bool} (hi:h[i]? = some (.row k E es none fl sh)) (hne:n=es.length) (hx:V g h (.sl i 0 n) (r x)) (hn:n≠0):OpR P Γ N r o w g h h (some (.sl i 0 n)):=by
 subst hsd;have hx0:=hx;simp only [V] at hx;obtain ⟨k',E',es',gr,fl',sh',hi',hle,ad,cap,hrx,hcap,hbn,hq⟩:=hx;rw [hi] at hi';simp only [Option.some.injEq,Ob.row.injEq] at hi';obtain ⟨rfl,rfl,rfl,rfl,rfl,rfl⟩:=hi'
 rcases (hq (by simp [okSl,hne])).2 with ⟨h0,_⟩ | ⟨b,sz,st,hρ,hst,rfl,hcs⟩
 ·exact absurd h0 hn
 have hil:=lt_of_get hi;have hob:=H.ob i _ hi;simp only [OV] at hob;rw [hρ] at hob;simp only at hob;obtain ⟨hk0,hK,hfl,hgl,hst',c,Eb,fz,vs,hw,hsz,hfree,hVE,hcells⟩:=hob;have hlt:b<w.heap.size:=(H.own i b _ hρ).2
 have hblk:(w.freeze ⟨b,c.size,none⟩ 1).heap[b]? = some (.cells c Eb (if fz.1==fz.2 then (c.size,c.size+1) else (min fz.1 c.size,max fz.2 (c.size+1)))):=by
  simp only [World.freeze,Nat.one_ne_zero,if_false,Array.getElem?_modify,if_true,hw,Option.map_some]
 have hoth:∀ b',b'≠b→(w.freeze ⟨b,c.size,none⟩ 1).heap[b']? = w.heap[b']? := by
  intro b' hb';simp only [World.freeze,Nat.one_ne_zero,if_false,Array.getElem?_modify];rw [if_neg (by omega)]
 have hfree':Free c (if fz.1==fz.2 then (c.size,c.size+1) else (min fz.1 c.size,max fz.2 (c.size+1))):=by
  rcases hfree with hf | hf
  ·simp [hf]; exact Or.inr (Nat.le_refl _)
  ·split
   ·exact Or.inr (Nat.le_refl _)
   ·exact Or.inr (by simp; omega)
 have hsame:=set_get_self hi;refine ⟨g,w.freeze ⟨b,c.size,none⟩ 1,.value (r x),?_,?_,Ext.refl _ _ _,r x,rfl,hx0⟩
 ·have hshape:w.shape? b=some (Eb,c.size):=by simp [World.shape?,hw]
  simp [execOp,ho,hrx,convert,run_underlying hs,run_underlying he,markStringish,hshape]
 ·have:=Inv.set (r:=g.ρ i) (w':=w.freeze ⟨b,c.size,none⟩ 1) H (o':=.row k E es none fl sh) hil (by rw [upd_self,hsame]; exact Ext.refl _ _ _) rfl rfl rfl
   (fun b' _ hne=>hoth b' (fun e=>hne (sz,st) (by rw [e]; exact hρ))) (by simp [World.freeze]) (fun b' y hy=>⟨Or.inl ⟨y,hy⟩,by simp [World.freeze]; exact (H.own i b' y hy).2⟩)
   (by
    intro b' y q v hy hv;rw [hρ] at hy;simp only [Option.some.injEq,Prod.mk.injEq] at hy;obtain ⟨rfl,_⟩:=hy;have h0:=H.mem b q v hv;rw [cell_of_row w b q c Eb fz hw] at h0
    rw [cell_of_row _ b q c Eb _ hblk,h0])
   (by
    intro b' sz' st' q v hy hv;obtain ⟨k3,E3,es3,gr3,fl3,h5,h6⟩:=H.mown i b' sz' st' q v hy hv;rw [hi] at h5;simp only [Option.some.injEq,Ob.row.injEq] at h5;obtain ⟨rfl,rfl,rfl,rfl,rfl,rfl⟩:=h5
    exact ⟨_,_,_,_,_,rfl,h6⟩)
   (by
    rw [upd_self,hsame];simp only [OV];refine ⟨hk0,hK,hfl,hgl,?_⟩;rw [hρ]
    exact ⟨hst',c,Eb,_,vs,hblk,hsz,hfree',hVE,hcells⟩)
  rwa [upd_self,hsame] at this
end
def DR (g:G) (h:List Ob):ADef→Deferred→Prop
 | .call f args,d=>∃ cap,d.target=.fn (.func f) cap∧VL g h args (d.args++cap).toList
 | .mark i,d=>(∃ l,h[i]? = some (.dfr l))∧∃ b sz,g.ρ i=some (b,sz,0)∧d={ target:=.collected b,args:=#[] }
section
variable {P : Program} {Γ : Nat → Option AV} {N : Env} {g : G} {h : List Ob} {w : World} {a : Act} {o : Oper} {t : List AV}
theorem run_callFunc {f:FuncId} (hb:hasBody P f=true) (args:Array Value) (w:World):(callFunc f args).run P w=.ok (.enter f args) w:=by
 unfold hasBody at hb
 split at hb
 ·rename_i fn hf;simp only [Bool.and_eq_true,bne_iff_ne,ne_eq] at hb
  have h1:(fn.name == "runtime.NumGoroutine")=false:=by simpa using hb.2
  have h2:fn.body.isNone=false:=by cases hb2:fn.body <;> simp_all
  simp only [callFunc,Sem.run_bind,run_program,Result.andThen_ok,hf,h1,h2,Bool.false_eq_true,if_false];rfl
 ·simp at hb
theorem rcvOf_spec {ty:TypeId} {f f':FuncId} {ptr:Bool} {q:Option (Bool×Nat)} (hc:rcvOf P ty f ptr=some (f',q)):f'=f∧∃ d,P.underlying ty=some d∧(∀ ms,d≠.interface ms) ∧
  ((∃ e,d=.pointer e∧((ptr=true∧q=none)∨(ptr=false∧∃ a s,tAgg P e=some a∧tSize P e=some s∧q=some (a,s))))∨((∀ e,d≠.pointer e)∧ptr=false∧q=none)):=by
 unfold rcvOf at hc
 cases hu:P.underlying ty with
 | none=>simp [hu] at hc
 | some d =>
  rw [hu] at hc
  cases d <;> simp only [reduceCtorEq] at hc
  case pointer e =>
   cases ptr
   ·simp only [Bool.false_eq_true,if_false] at hc
    split at hc
    ·rename_i a s h1 h2;simp only [Option.some.injEq,Prod.mk.injEq] at hc;exact ⟨hc.1.symm,_,rfl,by simp,Or.inl ⟨e,rfl,Or.inr ⟨rfl,a,s,h1,h2,hc.2.symm⟩⟩⟩
    ·simp at hc
   ·simp only [if_true,Option.some.injEq,Prod.mk.injEq] at hc;exact ⟨hc.1.symm,_,rfl,by simp,Or.inl ⟨e,rfl,Or.inl ⟨rfl,hc.2.symm⟩⟩⟩
  all_goals
   cases ptr
   ·simp only [Bool.false_eq_true,if_false,Option.some.injEq,Prod.mk.injEq] at hc;exact ⟨hc.1.symm,_,rfl,by simp,Or.inr ⟨by simp,rfl,hc.2.symm⟩⟩
   ·simp at hc
theorem cmeth_spec {ty:TypeId} {name:String} {f:FuncId} {q:Option (Bool×Nat)} (hc:cmeth P ty name=some (f,q)):∃ i m ptr,P.info? ty=some i∧i.methods.find? (·.name==name)=some m∧m.func=some (f,ptr)∧m.path.toList=[] ∧
  rcvOf P ty f ptr=some (f,q):=by
 unfold cmeth at hc
 cases hi:P.info? ty with
 | none=>simp [hi] at hc
 | some i =>
  rw [hi] at hc;simp only at hc
  cases hm:i.methods.find? (·.name==name) with
  | none=>simp [hm] at hc
  | some m =>
   rw [hm] at hc;simp only at hc
   cases hf:m.func with
   | none=>simp [hf] at hc
   | some fp =>
    obtain ⟨f',ptr⟩:=fp;rw [hf] at hc;simp only at hc
    by_cases hp:m.path.isEmpty=true
    ·rw [if_pos hp] at hc;have hff:=(rcvOf_spec hc).1;subst hff;exact ⟨i,m,ptr,rfl,hm,hf,by simpa using hp,hc⟩
    ·rw [if_neg hp] at hc
     cases hc
theorem callM_spec {ty:TypeId} {name:String} {v:AV} {args:List AV} {res:R} (hc:callM P Γ h ty name v args=res):res=.bad∨∃ f q,cmeth P ty name=some (f,q) ∧
  ((q=none∧res=.call f (v::args))∨∃ agg sz i o x,q=some (agg,sz)∧v=.ptr i o∧loadA Γ h agg sz (.ptr i o)=some x∧res=.call f (x::args)):=by
 unfold callM at hc
 split at hc
 ·rename_i f h1;exact Or.inr ⟨f,none,h1,Or.inl ⟨rfl,hc.symm⟩⟩
 ·rename_i f agg sz h1
  split at hc
  ·rename_i i o
   split at hc
   ·rename_i x hx;exact Or.inr ⟨f,_,h1,Or.inr ⟨agg,sz,i,o,x,rfl,rfl,hx,hc.symm⟩⟩
   ·exact Or.inl hc.symm
  ·exact Or.inl hc.symm
 ·exact Or.inl hc.symm
theorem callM_sound (H:Inv P Γ N g h w) {ty:TypeId} {name:String} {v:AV} {args:List AV} {f:FuncId} {bs:List AV} (hc:callM P Γ h ty name v args=.call f bs) (hb:hasBody P f=true) {u:Value} {us:List Value} (hv:V g h v u) (ha:VL g h args us) :
  ∃ xs,(callMethod (.iface ty u) name us.toArray).run P w=.ok (.enter f xs.toArray) w∧VL g h bs xs:=by
 rcases callM_spec hc with h0 | ⟨f',q,hcm,hq⟩
 ·cases h0
 obtain ⟨i,m,ptr,hi,hm,hf,hp,hr⟩:=cmeth_spec hcm;obtain ⟨_,d,hu,_,hd⟩:=rcvOf_spec hr
 have hpe:m.path.isEmpty=true:=by simpa using hp
 have hfuel:P.types.size+Made.depth=(P.types.size+99)+1:=rfl
 have hdone:∀ (x:Value) (y:AV),(receiverAt ty (.val u) ptr (some ((name.splitOn ".").getLastD name))).run P w=.ok x w→f'=f→bs=y::args→V g h y x →
   ∃ xs,(callMethod (.iface ty u) name us.toArray).run P w=.ok (.enter f xs.toArray) w∧VL g h bs xs:=by
  intro x y hx hff hbs hy;subst hff;refine ⟨x::us,?_,?_⟩
  ·simp only [callMethod,Sem.run_bind,run_program,Result.andThen_ok];rw [hfuel,method];simp only [Sem.run_bind,typeInfo,run_program,Result.andThen_ok,hi,Sem.run_pure,hm,hp,follow,hf,hpe,if_true,hx];rw [run_callFunc hb];congr 2;apply Array.ext';simp
  ·rw [hbs]; simp only [VL]; exact ⟨x,us,rfl,hy,ha⟩
 rcases hd with ⟨e,rfl,hd | ⟨rfl,agg',s',hag,hsz,hqs⟩⟩ | ⟨hne,rfl,rfl⟩
 ·obtain ⟨rfl,rfl⟩:=hd
  rcases hq with ⟨_,hq⟩ | ⟨_,_,_,_,_,hq,_⟩
  ·simp only [R.call.injEq] at hq;refine hdone u v ?_ hq.1.symm hq.2 hv;simp [receiverAt,run_underlying hu,Place.get]
  ·cases hq
 ·rcases hq with ⟨hq,_⟩ | ⟨agg,sz,i',o',x,hq,rfl,hx,hq2⟩
  ·rw [hq] at hqs; cases hqs
  ·rw [hq] at hqs;simp only [Option.some.injEq,Prod.mk.injEq] at hqs;obtain ⟨rfl,rfl⟩:=hqs;simp only [R.call.injEq] at hq2;obtain ⟨ad,y,hu1,hu2,hu3⟩:=loadA_sound H hag hsz hv hx;refine hdone y x ?_ hq2.1.symm hq2.2 hu3;subst hu1;have hss:(Builtin.ssaWrapNilChk_ #[ty] ty #[.pointer (some ad),strVal "",strVal ((name.splitOn ".").getLastD name)]).run P w=.ok (.pointer (some ad)) w:=rfl;have has:(asAddr (.pointer (some ad))).run P w=.ok ad w:=rfl;simp only [receiverAt,Sem.run_bind,run_underlying hu,Place.get,Sem.run_pure,Result.andThen_ok];simp only [hss,Result.andThen_ok,has,hu2]
 ·rcases hq with ⟨_,hq⟩ | ⟨_,_,_,_,_,hq,_⟩
  ·simp only [R.call.injEq] at hq;refine hdone u v ?_ hq.1.symm hq.2 hv
   cases d <;> first
    | exact absurd rfl (hne _)
    | simp [receiverAt,run_underlying hu,Place.get]
  ·cases hq
def Snd (P:Program) (Γ:Nat→Option AV) (N:Env) (g:G) (h:List Ob) (w:World) (r:Operand→Value) (o:Oper):R→Prop
 | .val v h'=>OpR P Γ N r o w g h h' (some v)
 | .skip h'=>OpR P Γ N r o w g h h' none
 | .pan v=>∃ u,(execOp r o).run P w=.halt (.panic u) w∧V g h v u
 | .call f args=>hasBody P f=true→∃ us,(execOp r o).run P w=.ok (.enter f us.toArray) w∧VL g h args us
 | .rcv=>(execOp r o).run P w=.ok .recover w
 | .dfr f args=>∃ d,(execOp r o).run P w=.ok (.defer d) w∧DR g h (.call f args) d
 | .yield l args=>∃ b us,(execOp r o).run P w=(Instr.yield b us.toArray).run P w∧V g h (.yld l) (.func (.yield b) #[] #[])∧VL g h args us
 | .either=>∃ c:Bool,OpR P Γ N r o w g h h (some (.bool c))
 | .bad=>True
theorem VL_cax (he:∀ x,V g h (ax t (cax x)) (a.eval x)) (xs:Array Operand):VL g h ((xs.toList.map cax).map (ax t)) (xs.toList.map a.eval):=by
 rw [List.map_map]; exact VL_map he _
theorem call_sound (H:Inv P Γ N g h w) (he:∀ x,V g h (ax t (cax x)) (a.eval x)) {f:Operand} {xs:Array Operand} {ts:Array TypeId} (ho:o.op=.call ⟨.value f,xs,ts⟩) :
  Snd P Γ N g h w a.eval o (aop P Γ t h (.call (cax f) (xs.toList.map cax))):=by
 have hf:=he f;have hxs:=VL_cax he xs;simp only [aop]
 split
 ·
  rename_i n fs cs hv;rw [hv] at hf;simp only [V] at hf;obtain ⟨us,vs,hfe,h1,h2⟩:=hf;intro hb;refine ⟨us++xs.toList.map a.eval++vs,?_,VL_append (VL_append h1 hxs) h2⟩;simp only [execOp,ho,resolve,Sem.run_bind,hfe,Deferred.ofValue,Sem.run_pure,Result.andThen_ok,invoke,run_callFunc hb];congr 2;apply Array.ext';simp
 ·
  rename_i ty name fs cs hv;rw [hv] at hf;simp only [V] at hf;obtain ⟨us,vs,hfe,h1,h2⟩:=hf
  split
  ·rename_i rcv as hsp;have h3:=VL_append h1 hxs;rw [hsp] at h3;simp only [VL] at h3;obtain ⟨u,us',h4,h5,h6⟩:=h3
   cases hcm:callM P Γ h ty name rcv as <;> simp only [Snd]
   case call f' bs =>
    intro hb;obtain ⟨ys,h7,h8⟩:=callM_sound H hcm hb h5 h6;refine ⟨ys,?_,h8⟩
    have hd:∃ d,P.underlying ty=some d∧∀ ms,d≠.interface ms:=by
     rcases callM_spec hcm with h0 | ⟨f2,q,hcm2,_⟩
     ·cases h0
     obtain ⟨_,_,_,_,_,_,_,hr⟩:=cmeth_spec hcm2;obtain ⟨_,d,hu,hne,_⟩:=rcvOf_spec hr;exact ⟨d,hu,hne⟩
    obtain ⟨d,hd,hne⟩:=hd
    have hargs:us.toArray++xs.map a.eval=(u::us').toArray:=by
     apply Array.ext'; simpa using h4
    simp only [execOp,ho,resolve,Sem.run_bind,hfe,Deferred.ofValue,Sem.run_pure,Result.andThen_ok,invoke,hargs,List.getElem?_toArray,List.getElem?_cons_zero,run_underlying hd]
    have hex:(u::us').toArray.extract 1 (u::us').toArray.size=us'.toArray:=by apply Array.ext'; simp
    rw [hex]
    cases d <;> first
     | exact absurd rfl (hne _)
     | exact h7
   all_goals (rcases callM_spec hcm with h0 | ⟨_,_,_,⟨_,h0⟩ | ⟨_,_,_,_,_,_,_,_,h0⟩⟩ <;> first | cases h0 | trivial)
  ·trivial
 ·rename_i l hv;rw [hv] at hf;have hf0:=hf;simp only [V] at hf;obtain ⟨hl,b,sz,hρ,hfe⟩:=hf;refine ⟨b,xs.toList.map a.eval,?_,by rw [hfe] at hf0; exact hf0,hxs⟩;simp only [execOp,ho,resolve,Sem.run_bind,hfe,Deferred.ofValue,Sem.run_pure,Result.andThen_ok,invoke];congr 2;apply Array.ext';simp
 ·trivial
theorem invoke_sound (H:Inv P Γ N g h w) (he:∀ x,V g h (ax t (cax x)) (a.eval x)) {x:Operand} {name:String} {xs:Array Operand} {ts:Array TypeId} (ho:o.op=.call ⟨.invoke x name,xs,ts⟩) :
  Snd P Γ N g h w a.eval o (aop P Γ t h (.invoke (cax x) name (xs.toList.map cax))):=by
 have hx:=he x;have hxs:=VL_cax he xs;simp only [aop]
 split
 ·rename_i ty v hv;rw [hv] at hx;simp only [V] at hx;obtain ⟨u,hxe,hvu⟩:=hx
  cases hcm:callM P Γ h ty name v ((xs.toList.map cax).map (ax t)) <;> simp only [Snd]
  case call f' bs =>
   intro hb;obtain ⟨ys,h7,h8⟩:=callM_sound H hcm hb hvu hxs;refine ⟨ys,?_,h8⟩
   have hargs:#[a.eval x]++xs.map a.eval=(a.eval x::xs.toList.map a.eval).toArray:=by
    apply Array.ext'; simp
   have hex:(a.eval x::xs.toList.map a.eval).toArray.extract 1 (a.eval x::xs.toList.map a.eval).toArray.size=(xs.toList.map a.eval).toArray:=by apply Array.ext'; simp; rw [List.take_of_length_le (by simp)]
   simp only [execOp,ho,resolve,Sem.run_bind,Sem.run_pure,Result.andThen_ok,invoke,hargs,List.getElem?_toArray,List.getElem?_cons_zero,hex];rw [hxe];exact h7
  all_goals (rcases callM_spec hcm with h0 | ⟨_,_,_,⟨_,h0⟩ | ⟨_,_,_,_,_,_,_,_,h0⟩⟩ <;> first | cases h0 | trivial)
 ·trivial
end
section
variable {P : Program} {Γ : Nat → Option AV} {N : Env} {g : G} {h : List Ob} {w : World} {a : Act} {o : Oper} {t : List AV}
theorem zOk_iff {k:Nat} {z:AV} (h:zOk k z=true):z.cells.length=k∧allOne z.cells=true∧belL 0 z.cells=true:=by
 simp only [zOk,Bool.and_eq_true,decide_eq_true_eq] at h;exact ⟨h.1.1,h.1.2,h.2⟩
theorem tElem_iff {t e:TypeId} (h:tElem P t=some e):P.underlying t=some (.slice e):=by
 unfold tElem at h
 split at h
 ·rename_i e' hu; simp only [Option.some.injEq] at h; subst h; exact hu
 ·simp at h
theorem appendA_cases {k b:Nat} {E:TypeId} {x:AV} {ys:List AV} {fl:Bool} {res:R} (hres:appendA h k E b x ys fl=res):res=.bad∨∃ v h',res=.val v h':=by
 unfold appendA at hres
 cases x <;> try (exact Or.inl hres.symm)
 case list f k' es =>
  cases f
  ·exact Or.inl hres.symm
  ·simp only at hres
   split at hres
   ·cases ys
    ·exact Or.inr ⟨_,_,hres.symm⟩
    ·exact Or.inr ⟨_,_,hres.symm⟩
   ·exact Or.inl hres.symm
 case sl i off n =>
  simp only at hres
  split at hres
  ·split at hres
   ·split at hres
    ·exact Or.inr ⟨_,_,hres.symm⟩
    ·split at hres
     ·exact Or.inr ⟨_,_,hres.symm⟩
     ·exact Or.inl hres.symm
   ·exact Or.inl hres.symm
  ·exact Or.inl hres.symm
theorem clear_Snd (H:Inv P Γ N g h w) (he:∀ x,V g h (ax t (cax x)) (a.eval x)) {x:Operand} {sT:TypeId} (ho:o.op=.call ⟨.builtin .clear,#[x],#[sT]⟩) {ao:AO}
  (hc:ccall P ⟨.builtin .clear,#[x],#[sT]⟩=some ao):Snd P Γ N g h w a.eval o (aop P Γ t h ao):=by
 simp only [ccall] at hc
 cases hE:tElem P sT with
 | none=>simp [hE] at hc
 | some e =>
  cases hK:tSize P e with
  | none=>simp [hE,hK] at hc
  | some k =>
   cases hZ:tZero P e with
   | none=>simp [hE,hK,hZ] at hc
   | some z =>
    by_cases h0:k=0∨zOk k z=false
    ·simp [hE,hK,hZ,h0] at hc
    ·simp only [not_or,Bool.not_eq_false] at h0;obtain ⟨hk0,hzo⟩:=h0;obtain ⟨hz1,hz2,hz3⟩:=zOk_iff hzo;have ht:=tElem_iff hE;simp [hE,hK,hZ,hk0,hzo] at hc;subst hc;have hx:=he x;simp only [aop]
     split
     ·rename_i i off n hxe
      split
      ·rename_i k' E es fl hi
       split
       ·rename_i hcc;obtain ⟨rfl,hle⟩:=hcc;rw [hxe] at hx;exact op_clear H ho ht hK (by omega) hZ hz1 hz2 hz3 hx hi hle
       ·trivial
      ·trivial
     ·trivial
theorem append_Snd (H:Inv P Γ N g h w) (he:∀ x,V g h (ax t (cax x)) (a.eval x)) {x y:Operand} {sT u:TypeId} (ho:o.op=.call ⟨.builtin .append,#[x,y],#[sT,u]⟩) {ao:AO}
  (hc:ccall P ⟨.builtin .append,#[x,y],#[sT,u]⟩=some ao):Snd P Γ N g h w a.eval o (aop P Γ t h ao):=by
 simp only [ccall] at hc
 cases hE:tElem P sT with
 | none=>simp [hE] at hc
 | some e =>
  cases hK:tSize P e with
  | none=>simp [hE,hK] at hc
  | some k =>
   cases hB:tBytes P e with
   | none=>simp [hE,hK,hB] at hc
   | some b =>
    cases hZ:tZero P e with
    | none=>simp [hE,hK,hB,hZ] at hc
    | some z =>
     by_cases h0:k=0∨b=0∨zOk k z=false
     ·simp [hE,hK,hB,hZ,h0] at hc
     ·simp only [not_or,Bool.not_eq_false] at h0;obtain ⟨hk0,hb0,hzo⟩:=h0;obtain ⟨hz1,hz2,hz3⟩:=zOk_iff hzo;have ht:=tElem_iff hE
      cases hU:P.underlying u with
      | none=>simp [hE,hU] at hc
      | some d =>
       by_cases hd:∃ j,d=.int j
       ·obtain ⟨j,rfl⟩:=hd;simp [hE,hK,hB,hZ,hk0,hb0,hzo,hU] at hc;subst hc;simp only [aop]
        split
        ·rename_i i m hm
         split
         ·rename_i hmm;have hy:=he y;rw [hm] at hy
          have hr:∀ {res:R},appendA h k e b (ax t (cax x)) (List.replicate m.toNat z) true=res→Snd P Γ N g h w a.eval o res:=by
           intro res hres
           rcases appendA_cases hres with rfl | ⟨v,h',rfl⟩
           ·trivial
           have hmB:m*b≤2^48:=by
            have h2:(m.toNat*b:Nat)≤2^47:=by
             unfold appendA at hres
             split at hres
             ·split at hres
              ·rename_i hc2;have:=hc2.1;rw [List.length_replicate] at this;exact Nat.le_trans (Nat.mul_le_mul_right _ (Nat.le_add_left _ _)) this
              ·cases hres
             ·split at hres
              ·split at hres
               ·rename_i hc2;have:=hc2.2.2.2;rw [List.length_replicate] at this;exact Nat.le_trans (Nat.mul_le_mul_right _ (Nat.le_add_left _ _)) this
               ·cases hres
              ·cases hres
             ·cases hres
            have h3:m=(m.toNat:Int):=by omega
            rw [h3];have h4:((m.toNat*b:Nat):Int)≤((2^47:Nat):Int):=Int.ofNat_le.2 h2;simp only [Int.natCast_mul] at h4
            have h5:((2^47:Nat):Int)≤2^48:=by decide
            omega
           exact op_appendZ H ho ht hK (by omega) hB hb0 hZ hz1 hz2 hz3 hU (he x) (V_int hy) hmm.1 hmm.2 hmB hres
          exact hr rfl
         ·trivial
        ·trivial
       ·have hd':∀ j,d≠.int j:=fun j hj=>hd ⟨j,hj⟩
        have hao:ao=.append k e b (cax x) (cax y):=by
         cases d <;> first
          | exact absurd rfl (hd' _)
          | (simp [hE,hK,hB,hZ,hk0,hb0,hzo,hU] at hc; exact hc.symm)
        subst hao
        have hr:∀ {ys:List AV} {fl:Bool} {res:R} {k2:Nat},appendA h k2 e b (ax t (cax x)) ys fl=res→(∀ v h',res=.val v h'→OpR P Γ N a.eval o w g h h' (some v))→Snd P Γ N g h w a.eval o res:=by
         intro ys fl res k2 hres hv
         rcases appendA_cases hres with rfl | ⟨v,h',rfl⟩
         ·trivial
         ·exact hv _ _ rfl
        have hy:=he y;simp only [aop]
        split
        ·rename_i f k' es hes
         split
         ·rename_i hkk;rw [hes] at hy
          exact hr rfl fun v h' hres=>op_append H ho ht hK (by omega) hB hb0 hZ hz1 hU hd' (he x) hy (Or.inl ⟨f,k',es,rfl,hkk,hres⟩)
         ·trivial
        ·rename_i i q n hes;rw [hes] at hy
         split
         ·rename_i k' es kr Er esr grr flr shr hte hi
          split
          ·rename_i hkk;subst hkk
           have hkr:kr=k':=by
            simp only [telems',hi] at hte
            split at hte
            ·simp only [Option.some.injEq,Prod.mk.injEq] at hte; exact hte.1
            ·simp at hte
           subst hkr
           exact hr rfl fun v h' hres=>op_append H ho ht hK (by omega) hB hb0 hZ hz1 hU hd' (he x) hy (Or.inr (Or.inl ⟨i,q,n,es,_,_,_,_,_,rfl,hte,hi,hres⟩))
          ·trivial
         ·trivial
        ·rename_i s hes;rw [hes] at hy
         split
         ·rename_i hk1;subst hk1
          exact hr rfl fun v h' hres=>op_append H ho ht hK (by omega) hB hb0 hZ hz1 hU hd' (he x) hy (Or.inr (Or.inr ⟨s,rfl,rfl,hres⟩))
         ·trivial
        ·trivial
theorem run_equalIn_snil (d:Nat) (t e:TypeId) (a:Option Addr) (l c:Nat) (h:P.underlying t=some (.slice e)) (w:World):(Op.equalIn (d+1) t (.slice a l c) (.slice none 0 0)).run P w=.ok a.isNone w:=by
 cases a <;> simp [Op.equalIn,run_underlying h]
theorem run_equal_snil (t e:TypeId) (a:Option Addr) (l c:Nat) (h:P.underlying t=some (.slice e)) (w:World):(Op.equal t (.slice a l c) (.slice none 0 0)).run P w=.ok a.isNone w:=run_equalIn_snil 9999 t e a l c h w
theorem isnil_Snd (H:Inv P Γ N g h w) (he:∀ x,V g h (ax t (cax x)) (a.eval x)) {x:Operand} {ty ty' e:TypeId} {neg:Bool} (ho:o.op=.binOp (if neg then .neq else .eql) ty x (.const (.slice none 0 0)) ty')
  (hu:P.underlying ty=some (.slice e)):Snd P Γ N g h w a.eval o (aop P Γ t h (.isnil neg (cax x))):=by
 have hx:=he x
 have hcase:∀ {n:Nat},slen (ax t (cax x))=some n→∃ ad cap,a.eval x=.slice ad n cap∧(0<n→∃ b p,ad=some ⟨b,p,none⟩):=by
  intro n hn
  cases hv:ax t (cax x) <;> simp only [hv,slen,Option.some.injEq,reduceCtorEq] at hn
  ·rw [hv] at hx;simp only [V] at hx;obtain ⟨_,ad,cap,h1,_,_,h3⟩:=hx;subst hn;refine ⟨ad,cap,h1,fun hpos => ?_⟩
   rcases h3 with rfl | ⟨b,p,_,rfl,_⟩
   ·simp at hpos
   ·exact ⟨b,p,rfl⟩
  ·rw [hv] at hx;simp only [V] at hx;obtain ⟨_,_,_,_,_,_,_,_,ad,cap,h1,_,h3,_⟩:=hx;subst hn;exact ⟨ad,cap,h1,h3⟩
 have hrun:∀ {ad:Option Addr} {n cap:Nat},a.eval x=.slice ad n cap→(execOp a.eval o).run P w=.ok (.value (.bool (if neg then !ad.isNone else ad.isNone))) w:=by
  intro ad n cap hxe;have hc0:a.eval (.const (.slice none 0 0))=.slice none 0 0:=rfl;have hq:=run_equal_snil (P:=P) ty e ad n cap hu w;simp only [execOp,ho,hc0,hxe]
  cases neg
  ·simp only [Bool.false_eq_true,if_false];rw [Sem.run_bind,Sem.run_bind,run_eqGuard_off (by simp) (by simp)];simp only [Result.andThen_ok];rw [run_eql_of (by rfl) hq];rfl
  ·simp only [if_true];rw [Sem.run_bind,Sem.run_bind,run_eqGuard_off (by simp) (by simp)];simp only [Result.andThen_ok];rw [run_neq_of (by rfl) hq];rfl
 simp only [aop]
 split
 ·rename_i n hn;obtain ⟨ad,cap,h1,h2⟩:=hcase hn;obtain ⟨b,p,rfl⟩:=h2 (by omega);refine OpR.same H (hrun h1) ?_
  cases neg <;> simp [V]
 ·rename_i hn;obtain ⟨ad,cap,h1,_⟩:=hcase hn;exact ⟨_,OpR.same H (hrun h1) (by simp only [V]; rfl)⟩
 ·trivial
theorem len_Snd (H:Inv P Γ N g h w) (he:∀ x,V g h (ax t (cax x)) (a.eval x)) {x:Operand} {ty:TypeId} (ho:o.op=.call ⟨.builtin .len,#[x],#[ty]⟩) {ao:AO} (hc:ccall P ⟨.builtin .len,#[x],#[ty]⟩=some ao) :
  Snd P Γ N g h w a.eval o (aop P Γ t h ao):=by
 have hx:=he x;simp only [ccall] at hc
 split at hc
 ·rename_i hu;simp only [Option.some.injEq] at hc;subst hc;simp only [aop]
  split
  ·rename_i s hs; rw [hs] at hx; exact op_len H ho (Or.inl ⟨s,hu,V_str hx,rfl⟩)
  ·trivial
 ·rename_i e hu;simp only [Option.some.injEq] at hc;subst hc;simp only [aop]
  split
  ·rename_i f k es hs;rw [hs] at hx;simp only [V] at hx;obtain ⟨_,ad,cap,h1,_⟩:=hx;exact op_len H ho (Or.inr (Or.inl ⟨e,ad,cap,hu,h1⟩))
  ·rename_i i q n hs;rw [hs] at hx;simp only [V] at hx;obtain ⟨_,_,_,_,_,_,_,_,ad,cap,h1,_⟩:=hx;exact op_len H ho (Or.inr (Or.inl ⟨e,ad,cap,hu,h1⟩))
  ·trivial
 ·rename_i n e hu;simp only [Option.some.injEq] at hc;subst hc;exact op_len H ho (Or.inr (Or.inr (Or.inl ⟨e,hu⟩)))
 ·rename_i k e hu;simp only [Option.some.injEq] at hc;subst hc;simp only [aop]
  split
  ·rename_i hs; exact op_lenMap H ho hu hx (Or.inl ⟨hs,rfl⟩)
  ·rename_i ks vs hs; exact op_lenMap H ho hu hx (Or.inr (Or.inl ⟨ks,vs,hs,rfl⟩))
  ·rename_i j hs
   split
   ·rename_i es fl hj; exact op_lenMap H ho hu hx (Or.inr (Or.inr ⟨j,es,fl,hs,hj,rfl⟩))
   ·trivial
  ·trivial
 ·simp at hc
theorem call_list {c:Call} {b:Builtin} (hb:c.callee=.builtin b) {xs:List Operand} {ts:List TypeId} (hx:c.args.toList=xs) (ht:c.argTypes.toList=ts):c=⟨.builtin b,xs.toArray,ts.toArray⟩:=by
 cases c
 simp only at hb hx ht;subst hb;congr 1
 ·apply Array.ext'; simpa using hx
 ·apply Array.ext'; simpa using ht
theorem builtin_Snd (H:Inv P Γ N g h w) (he:∀ x,V g h (ax t (cax x)) (a.eval x)) {c:Call} (ho:o.op=.call c) {b:Builtin} (hb:c.callee=.builtin b) {ao:AO} (hc:ccall P c=some ao) :
  Snd P Γ N g h w a.eval o (aop P Γ t h ao):=by
 have hc0:=hc;simp only [ccall,hb] at hc
 split at hc
 ·
  rename_i x ty hx ht;have hcc:=call_list hb hx ht;rw [hcc] at ho hc0;exact len_Snd H he ho hc0
 ·
  rename_i x ty hx ht;have hcc:=call_list hb hx ht;rw [hcc] at ho
  split at hc
  ·rename_i e hu;simp only [Option.some.injEq] at hc;subst hc;have hv:=he x;simp only [aop]
   split
   ·rename_i k es hs;rw [hs] at hv;simp only [V] at hv;obtain ⟨_,ad,cap,h1,h2,_⟩:=hv;have:=op_cap H ho hu h1;rwa [h2 trivial] at this
   ·trivial
  ·simp at hc
 ·
  rename_i x y ty u hx ht;have hcc:=call_list hb hx ht;rw [hcc] at ho hc0;exact append_Snd H he ho hc0
 ·
  rename_i m k ty u hx ht;have hcc:=call_list hb hx ht;rw [hcc] at ho
  split at hc
  ·rename_i key et hu;simp only [Option.map_eq_some_iff] at hc;obtain ⟨e,hk,rfl⟩:=hc;have hm:=he m;have hkk:=he k;simp only [aop]
   split
   ·rename_i j hj
    split
    ·rename_i es fl hjo
     split
     ·trivial
     ·rename_i hkey
      split
      ·rename_i es' hd;rw [hj] at hm;exact op_delete H ho hu hk hm hjo hkk (by simpa using hkey) hd
      ·trivial
    ·trivial
   ·trivial
  ·simp at hc
 ·
  rename_i x ty hx ht;have hcc:=call_list hb hx ht;rw [hcc] at ho hc0;exact clear_Snd H he ho hc0
 ·
  rename_i xs _;simp only [Option.some.injEq] at hc;subst hc
  have hcc:c=⟨.builtin .min,c.args,c.argTypes⟩:=by cases c; simp only at hb; subst hb; rfl
  rw [hcc] at ho;simp only [aop]
  split
  ·rename_i v vs hvs
   split
   ·rename_i u hu; exact op_min H ho he hvs hu
   ·trivial
  ·trivial
 ·
  rename_i xs _;simp only [Option.some.injEq] at hc;subst hc
  have hcc:c=⟨.builtin .max,c.args,c.argTypes⟩:=by cases c; simp only at hb; subst hb; rfl
  rw [hcc] at ho;simp only [aop]
  split
  ·rename_i v vs hvs
   split
   ·rename_i u hu; exact op_max H ho he hvs hu
   ·trivial
  ·trivial
 ·
  rename_i hx;simp only [Option.some.injEq] at hc;subst hc;simp only [aop,Snd]
  have hcc:c=⟨.builtin .recover,c.args,c.argTypes⟩:=by cases c; simp only at hb; subst hb; rfl
  rw [hcc] at ho;simp [execOp,ho,resolve,invoke,builtin]
 ·simp at hc
end
section
variable {P : Program} {Γ : Nat → Option AV} {N : Env} {g : G} {h : List Ob} {w : World} {a : Act} {o : Oper} {t : List AV}
theorem ptr_of {p:AV} {v:Value} (hv:V g h p v) (hp:match p with | .ptr _ _ | .eptr _ _ _ _ | .gptr _ _=>True | _=>False):∃ b m,v=.pointer (some ⟨b,m,none⟩) ∧
  ∀ n,V g h (match p with | .ptr i q=>.ptr i (q+n) | .eptr x k i q=>.eptr x k i (q+n) | .gptr i q=>.gptr i (q+n) | x=>x) (.pointer (some ⟨b,m+n,none⟩)):=by
 match p,hv,hp with
 | .ptr i q,hv,_ =>
  simp only [V] at hv;obtain ⟨h1,b,sz,hρ,rfl⟩:=hv;exact ⟨b,q,rfl,fun n=>by simp only [V]; exact ⟨h1,b,sz,hρ,rfl⟩⟩
 | .eptr x k i q,hv,_ =>
  simp only [V] at hv;obtain ⟨u,b,m,h1,h2,h3,rfl⟩:=hv;exact ⟨b,m+i*k+q,rfl,fun n=>by simp only [V]; exact ⟨u,b,m,h1,h2,h3,by rw [Nat.add_assoc]⟩⟩
 | .gptr i q,hv,_ =>
  simp only [V] at hv;subst hv;exact ⟨i,q,rfl,fun n=>by simp only [V]⟩
def cmpR (ck:CK) (q:Option Bool) (h:List Ob):R :=
 match ck with
 | .eql=>match q with
  | some b=>.val (.bool b) h
  | none=>.bad
 | .neq=>match q with
  | some b=>.val (.bool !b) h
  | none=>.bad
 | _=>.bad
theorem binOp_Snd (H:Inv P Γ N g h w) (he:∀ x,V g h (ax t (cax x)) (a.eval x)) {op:BinOp} {ty ty':TypeId} {x y:Operand} (ho:o.op=.binOp op ty x y ty') {ao:AO} (hc:cop P o=some ao) :
  Snd P Γ N g h w a.eval o (aop P Γ t h ao):=by
 have hx:=he x;have hy:=he y;simp only [cop,ho] at hc
 have hcmp:∀ {ck:CK} {e:EK},ckOf op=some ck→eqKind P ty=some e→e≠.sc .int→Snd P Γ N g h w a.eval o (aop P Γ t h (.cmp ck e (cax x) (cax y))):=by
  intro ck e h1 h2 h3
  have heq:∀ {b:Bool},ck=.eql→eqData e (ax t (cax x)) (ax t (cax y))=some b→OpR P Γ N a.eval o w g h h (some (.bool b)):=by
   intro b hck hb;subst hck
   have hop:op=.eql:=by cases op <;> simp only [ckOf,Option.some.injEq,reduceCtorEq] at h1; rfl
   subst hop;exact op_eql H ho h2 hb hx hy
  have hne:∀ {b:Bool},ck=.neq→eqData e (ax t (cax x)) (ax t (cax y))=some b→OpR P Γ N a.eval o w g h h (some (.bool !b)):=by
   intro b hck hb;subst hck
   have hop:op=.neq:=by cases op <;> simp only [ckOf,Option.some.injEq,reduceCtorEq] at h1; rfl
   subst hop;exact op_neq H ho h2 hb hx hy
  have hao:aop P Γ t h (.cmp ck e (cax x) (cax y))=cmpR ck (eqData e (ax t (cax x)) (ax t (cax y))) h:=by
   rcases e with (s | ss | _ | _)
   ·cases s
    ·exact absurd rfl h3
    ·cases ck <;> rfl
    ·cases ck <;> rfl
   ·cases ck <;> rfl
   ·cases ck <;> rfl
   ·cases ck <;> rfl
  rw [hao]
  cases hq:eqData e (ax t (cax x)) (ax t (cax y)) with
  | none=>cases ck <;> trivial
  | some b =>
   cases ck
   ·exact heq rfl hq
   ·exact hne rfl hq
   all_goals trivial
 split at hc
 ·
  rename_i k hu
  split at hc
  ·rename_i ck hck;simp only [Option.some.injEq] at hc;subst hc;simp only [aop]
   split
   ·rename_i k1 p k2 q h1 h2;rw [h1] at hx;rw [h2] at hy
    split
    ·rename_i hkk;subst hkk;exact op_cmpi H ho hck (V_int hx) (V_int hy)
    ·trivial
   ·trivial
  ·rename_i hck;simp only [Option.map_eq_some_iff] at hc;obtain ⟨ib,hib,rfl⟩:=hc;simp only [aop]
   split
   ·rename_i k1 p k2 q h1 h2;rw [h1] at hx;rw [h2] at hy
    split
    ·rename_i hkk
     split
     ·rename_i n hn;exact op_ibin H ho hib (V_int hx) (V_int hy) hkk hn
     ·trivial
    ·trivial
   ·trivial
 ·
  rename_i hu
  split at hc
  ·rename_i hadd;subst hadd;simp only [Option.some.injEq] at hc;subst hc;simp only [aop]
   split
   ·rename_i p q h1 h2;rw [h1] at hx;rw [h2] at hy
    split
    ·rename_i hl;exact op_concat H ho (V_str hx) (V_str hy) hl
    ·trivial
   ·trivial
  ·split at hc
   ·rename_i ck e hck hek;simp only [Option.some.injEq] at hc;subst hc;refine hcmp hck hek ?_
    rintro rfl
    unfold eqKind at hek
    split at hek
    ·rename_i s hs;simp only [Option.some.injEq,EK.sc.injEq] at hek;subst hek;obtain ⟨_,h1⟩:=scalarK_cases hs;obtain ⟨k,hk⟩:=h1;rw [hu] at hk
     cases hk
    ·split at hek <;> try (simp at hek)
     all_goals (split at hek <;> simp at hek)
   ·simp at hc
 ·
  rename_i e hu
  split at hc
  ·simp only [Option.some.injEq] at hc;subst hc;exact isnil_Snd H he (neg:=false) ho hu
  ·simp only [Option.some.injEq] at hc;subst hc;exact isnil_Snd H he (neg:=true) ho hu
  ·simp at hc
 ·rename_i hni hns hnl
  split at hc
  ·rename_i ck e hck hek;simp only [Option.some.injEq] at hc;subst hc;refine hcmp hck hek ?_
   rintro rfl
   unfold eqKind at hek
   split at hek
   ·rename_i s hs;simp only [Option.some.injEq,EK.sc.injEq] at hek;subst hek;obtain ⟨_,h1⟩:=scalarK_cases hs;obtain ⟨k,hk⟩:=h1;exact hni k hk
   ·split at hek <;> try (simp at hek)
    all_goals (split at hek <;> simp at hek)
  ·simp at hc
theorem convert_Snd (H:Inv P Γ N g h w) (he:∀ x,V g h (ax t (cax x)) (a.eval x)) {s d:TypeId} {x:Operand} (ho:o.op=.convert s d x) {ao:AO} (hc:cop P o=some ao) :
  Snd P Γ N g h w a.eval o (aop P Γ t h ao):=by
 have hx:=he x;simp only [cop,ho] at hc
 split at hc
 ·rename_i j k hs hd;simp only [Option.some.injEq] at hc;subst hc;simp only [aop]
  split
  ·rename_i k' n h1;rw [h1] at hx;exact op_conv H ho hs hd (V_int hx)
  ·trivial
 ·rename_i hs hd;simp only [Option.some.injEq] at hc;subst hc;simp only [aop]
  split
  ·rename_i l h1;rw [h1] at hx;exact op_same H ho hs hd (V_str hx)
  ·trivial
 ·rename_i e hs hd
  split at hc
  ·rename_i hee
   split at hc
   ·simp only [Option.some.injEq] at hc;subst hc;simp only [aop]
    split
    ·rename_i l h1;rw [h1] at hx
     split
     ·exact op_toBytes H ho hs hd hee (V_str hx) e
     ·trivial
    ·trivial
   ·simp at hc
  ·simp at hc
 ·rename_i e' e hs hd
  split at hc
  ·rename_i hee
   split at hc
   ·rename_i hsd;simp only [Option.some.injEq] at hc;subst hc;simp only [aop]
    split
    ·rename_i i q n h1;rw [h1] at hx
     split
     ·rename_i E es fl sh hi
      split
      ·trivial
      ·rename_i hcond;simp only [not_or,Decidable.not_not] at hcond;obtain ⟨h2,h3,h4⟩:=hcond;subst h3;subst hsd;exact op_mark H ho rfl hd hee hi h4 hx h2
     ·trivial
    ·trivial
   ·simp at hc
  ·simp at hc
 ·rename_i e hs hd
  split at hc
  ·rename_i hee;simp only [Option.some.injEq] at hc;subst hc;simp only [aop]
   split
   ·rename_i es hes
    split
    ·rename_i l hl;exact op_toStr H ho hs hee hd hx hes hl
    ·trivial
   ·trivial
  ·simp at hc
 ·simp at hc
theorem slice_Snd (H:Inv P Γ N g h w) (he:∀ x,V g h (ax t (cax x)) (a.eval x)) {ty:TypeId} {x:Operand} {lo hi mx:Option Operand} (ho:o.op=.slice ty x lo hi mx) {ao:AO} (hc:cop P o=some ao) :
  Snd P Γ N g h w a.eval o (aop P Γ t h ao):=by
 have hx:=he x
 cases mx with
 | none =>
  simp only [cop,ho] at hc
  split at hc
  ·rename_i hu;simp only [Option.some.injEq] at hc;subst hc;simp only [aop]
   split
   ·rename_i s h1;rw [h1] at hx
    split
    ·rename_i l u hl hh
     split
     ·rename_i hlu;exact op_sliceStr H ho hu (V_str hx) he hl hh hlu
     ·trivial
    ·trivial
   ·trivial
  ·rename_i e hu
   split at hc
   ·rename_i k hk;simp only [Option.some.injEq] at hc;subst hc;simp only [aop]
    split
    ·rename_i f k' es h1;rw [h1] at hx
     split
     ·rename_i l u hl hh
      split
      ·rename_i hlu;exact op_slice_list H ho hu hk hx he hl hh hlu
      ·trivial
     ·trivial
    ·rename_i i q n h1;rw [h1] at hx
     split
     ·rename_i l u hl hh
      split
      ·rename_i hlu
       split
       ·rename_i k' E es gr fl sh hi'
        split
        ·rename_i hkk;obtain ⟨rfl,hok⟩:=hkk;exact op_slice_sl H ho hu hk hx he hl hh hlu hi' hok
        ·trivial
       ·trivial
      ·trivial
     ·trivial
    ·trivial
   ·simp at hc
  ·simp at hc
 | some mx =>
  cases hi with
  | none=>simp [cop,ho] at hc
  | some hi =>
   simp only [cop,ho] at hc
   split at hc
   ·rename_i e hu
    split at hc
    ·rename_i k hk;simp only [Option.some.injEq] at hc;subst hc;simp only [aop]
     split
     ·rename_i f k' es h1
      split
      ·rename_i l u m hl hh hm
       split
       ·rename_i hlu;obtain ⟨h2,h3,rfl,h4⟩:=hlu;exact op_slice3 H ho hu hk hx h1 he hl hh hm ⟨h2,h3,h4⟩
       ·trivial
      ·trivial
     ·trivial
    ·simp at hc
   ·simp at hc
end
section
variable {P : Program} {Γ : Nat → Option AV} {N : Env} {g : G} {h : List Ob} {w : World} {a : Act} {o : Oper} {t : List AV}
theorem index_Snd (H:Inv P Γ N g h w) (he:∀ x,V g h (ax t (cax x)) (a.eval x)) {ty:TypeId} {x i:Operand} (ho:o.op=.indexAddr ty x i∨o.op=.index ty x i) {ao:AO} (hc:cop P o=some ao) :
  Snd P Γ N g h w a.eval o (aop P Γ t h ao):=by
 have hx:=he x;have hi:=he i
 rcases ho with ho | ho
 ·simp only [cop,ho] at hc
  split at hc
  ·rename_i e hu
   split at hc
   ·rename_i k hk;simp only [Option.some.injEq] at hc;subst hc;simp only [aop]
    split
    ·rename_i m q n hm hn;rw [hn] at hi
     split
     ·rename_i hq;exact op_ixAddr H ho hu hk hx hm (V_int hi) hq
     ·trivial
    ·trivial
   ·simp at hc
  ·rename_i n e hu
   split at hc
   ·rename_i k hk;simp only [Option.some.injEq] at hc;subst hc;simp only [aop]
    split
    ·rename_i q n' hn;rw [hn] at hi
     split
     ·rename_i hq
      split
      ·rename_i j m hp;rw [hp] at hx;obtain ⟨b,mm,hxe,hadd⟩:=ptr_of hx trivial;exact op_arrAddr H ho hu hk hxe (V_int hi) hq (hadd _)
      ·rename_i u k' j m hp;rw [hp] at hx;obtain ⟨b,mm,hxe,hadd⟩:=ptr_of hx trivial;exact op_arrAddr H ho hu hk hxe (V_int hi) hq (hadd _)
      ·rename_i j m hp;rw [hp] at hx;obtain ⟨b,mm,hxe,hadd⟩:=ptr_of hx trivial;exact op_arrAddr H ho hu hk hxe (V_int hi) hq (hadd _)
      ·trivial
     ·trivial
    ·trivial
   ·simp at hc
  ·simp at hc
 ·simp only [cop,ho] at hc
  split at hc
  ·rename_i hu;simp only [Option.some.injEq] at hc;subst hc;simp only [aop]
   split
   ·rename_i s q n hs hn;rw [hs] at hx;rw [hn] at hi
    split
    ·rename_i h0
     split
     ·rename_i b hb;exact op_ixStr H ho hu (V_str hx) (V_int hi) h0 hb
     ·trivial
    ·trivial
   ·trivial
  ·rename_i n e hu
   cases hA:tAgg P e with
   | none=>simp [hA] at hc
   | some agg =>
    cases hS:tSize P e with
    | none=>simp [hA,hS] at hc
    | some sz =>
     simp [hA,hS] at hc;subst hc;simp only [aop]
     split
     ·rename_i cs q m hs hn;rw [hs] at hx;rw [hn] at hi
      split
      ·rename_i hq
       split
       ·rename_i v hv;exact op_ixArr H ho hu hA hS hx (V_int hi) hq hv
       ·trivial
      ·trivial
     ·trivial
  ·simp at hc
theorem field_Snd (H:Inv P Γ N g h w) (he:∀ x,V g h (ax t (cax x)) (a.eval x)) {ty:TypeId} {x:Operand} {i:Nat} (ho:o.op=.fieldAddr ty x i∨o.op=.field ty x i) {ao:AO} (hc:cop P o=some ao) :
  Snd P Γ N g h w a.eval o (aop P Γ t h ao):=by
 have hx:=he x
 rcases ho with ho | ho
 ·simp only [cop,ho] at hc
  split at hc
  ·rename_i fs hu
   split at hc
   ·rename_i f hf
    split at hc
    ·rename_i k hk;simp only [Option.some.injEq] at hc;subst hc;simp only [aop]
     split
     ·rename_i j m hp;rw [hp] at hx;obtain ⟨b,mm,hxe,hadd⟩:=ptr_of hx trivial;exact op_off H ho hu hf hk hxe (hadd _)
     ·rename_i u k' j m hp;rw [hp] at hx;obtain ⟨b,mm,hxe,hadd⟩:=ptr_of hx trivial;exact op_off H ho hu hf hk hxe (hadd _)
     ·rename_i j m hp;rw [hp] at hx;obtain ⟨b,mm,hxe,hadd⟩:=ptr_of hx trivial;exact op_off H ho hu hf hk hxe (hadd _)
     ·trivial
    ·simp at hc
   ·simp at hc
  ·simp at hc
 ·simp only [cop,ho] at hc
  split at hc
  ·rename_i fs hu
   split at hc
   ·rename_i f hf
    cases hA:tAgg P f.type with
    | none=>simp [hA] at hc
    | some agg =>
     cases hS:tSize P f.type with
     | none=>simp [hA,hS] at hc
     | some sz =>
      simp [hA,hS] at hc;subst hc;simp only [aop]
      split
      ·rename_i cs hs;rw [hs] at hx
       split
       ·rename_i v hv;exact op_fld H ho hu hf hA hS hx hv
       ·trivial
      ·trivial
   ·simp at hc
  ·simp at hc
theorem map_Snd (H:Inv P Γ N g h w) (he:∀ x,V g h (ax t (cax x)) (a.eval x)) {ty:TypeId} {m k x:Operand} (ho:o.op=.mapUpdate ty m k x∨o.op=.insert ty m k x) {ao:AO} (hc:cop P o=some ao) :
  Snd P Γ N g h w a.eval o (aop P Γ t h ao):=by
 have hm:=he m;have hk:=he k;have hx:=he x
 have hc':∃ key et e,P.underlying ty=some (.map key et)∧keyKind P key=some e∧ao=.upd e (cax m) (cax k) (cax x):=by
  rcases ho with ho | ho
  all_goals
   simp only [cop,ho] at hc
   split at hc
   ·rename_i key et hu;simp only [Option.map_eq_some_iff] at hc;obtain ⟨e,hke,rfl⟩:=hc;exact ⟨key,et,e,hu,hke,rfl⟩
   ·simp at hc
 obtain ⟨key,et,e,hu,hke,rfl⟩:=hc';simp only [aop]
 split
 ·rename_i j hj;rw [hj] at hm
  split
  ·rename_i es fl hjo
   split
   ·trivial
   ·rename_i hkey
    split
    ·rename_i es' hp;exact op_upd H ho hu hke hm hjo hk (by simpa using hkey) hx hp
    ·trivial
  ·trivial
 ·trivial
theorem lookup_Snd (H:Inv P Γ N g h w) (he:∀ x,V g h (ax t (cax x)) (a.eval x)) {ty:TypeId} {x i:Operand} {ok:Bool} (ho:o.op=.lookup ty x i ok) {ao:AO} (hc:cop P o=some ao) :
  Snd P Γ N g h w a.eval o (aop P Γ t h ao):=by
 have hx:=he x;have hi:=he i;simp only [cop,ho] at hc
 split at hc
 ·rename_i key et hu
  cases hK:keyKind P key with
  | none=>simp [hK] at hc
  | some e =>
   cases hZ:tZero P et with
   | none=>simp [hK,hZ] at hc
   | some z =>
    simp [hK,hZ] at hc;subst hc
    have hgo:∀ {es:List (AV×AV)},((ax t (cax x)=.nilm∧es=[])∨(∃ ks vs,ax t (cax x)=.kmp ks vs∧es=ks.zip vs)∨∃ j fl,ax t (cax x)=.mp j∧h[j]? = some (.map es fl)) →
      Snd P Γ N g h w a.eval o (if isKey e (ax t (cax i))=false then .bad else match findIn e (ax t (cax i)) es with
       | some (some v)=>.val (if ok then .tup [v,.bool true] else v) h
       | some none=>.val (if ok then .tup [z,.bool false] else z) h
       | none=>.bad):=by
     intro es hes
     split
     ·trivial
     ·rename_i hkey
      split
      ·rename_i v hf;exact op_lookup H ho hu hK hZ hi (by simpa using hkey) hx hes hf rfl
      ·rename_i hf;exact op_lookup H ho hu hK hZ hi (by simpa using hkey) hx hes hf rfl
      ·trivial
    simp only [aop]
    cases hv:ax t (cax x) <;> simp only [hv] at hgo ⊢ <;> first
     | trivial
     | skip
    ·exact hgo (Or.inl ⟨trivial,rfl⟩)
    ·rename_i j
     cases hj:h[j]? with
     | none=>trivial
     | some q =>
      cases q <;> first
       | trivial
       | exact hgo (Or.inr (Or.inr ⟨j,_,rfl,hj⟩))
    ·exact hgo (Or.inr (Or.inl ⟨_,_,rfl,rfl⟩))
 ·simp at hc
theorem aop_sound (H:Inv P Γ N g h w) (ht:VL g h t a.tmps.toList) {ao:AO} (hc:cop P o=some ao):Snd P Γ N g h w a.eval o (aop P Γ t h ao):=by
 have he:∀ x,V g h (ax t (cax x)) (a.eval x):=fun x=>V_ax ht x
 have hc0:=hc
 cases ho:o.op with
 | move x =>
  simp only [cop,ho,Option.some.injEq] at hc;subst hc;exact op_mv H (Or.inl ho) (he x)
 | assign x =>
  simp only [cop,ho] at hc
  split at hc
  ·cases hE:tElem P o.type with
   | none=>simp [hE] at hc
   | some e =>
    cases hS:tSize P e with
    | none=>simp [hE,hS] at hc
    | some k =>
     by_cases hk:k=0
     ·simp [hE,hS,hk] at hc
     ·simp [hE,hS,hk] at hc;subst hc;exact op_nilrow H ho rfl (by omega) e
  ·simp only [Option.some.injEq] at hc;subst hc;exact op_mv H (Or.inr ho) (he x)
 | pick c x y =>
  simp only [cop,ho,Option.some.injEq] at hc;subst hc;have h1:=he c;simp only [aop]
  split
  ·rename_i hb; rw [hb] at h1; exact op_pick H ho (V_bool h1) (he x)
  ·rename_i hb; rw [hb] at h1; exact op_pick H ho (V_bool h1) (he y)
  ·trivial
 | alloc ty =>
  simp only [cop,ho] at hc
  cases hZ:(P.info? ty).bind (·.zero) with
  | none=>simp [hZ] at hc
  | some zv =>
   cases hC:zcells P 8 ty with
   | none=>simp [hZ,hC] at hc
   | some as =>
    cases hF:zfin as zv.cells.toList with
    | none=>simp [hZ,hC,hF] at hc
    | some z =>
     simp [hZ,hC,hF] at hc;subst hc;exact op_alloc H ho hZ hF
 | box ty x =>
  simp only [cop,ho] at hc
  cases hS:tSize P ty with
  | none=>simp [hS] at hc
  | some n =>
   simp [hS] at hc;subst hc;simp only [aop]
   split
   ·rename_i h1; exact op_box H ho (he x) h1.2
   ·trivial
 | build ty ps =>
  simp only [cop,ho] at hc
  cases hZ:tZero P ty with
  | none=>simp [hZ] at hc
  | some z =>
   by_cases hpl:placesOk P ty=true
   ·cases hP:cparts P ty ps.toList with
    | none=>simp [hZ,hpl,hP] at hc
    | some aps =>
     simp [hZ,hpl,hP] at hc;subst hc;simp only [aop]
     split
     ·rename_i cs hf; exact op_build H ho hZ hpl hP he hf
     ·trivial
   ·simp [hZ,hpl] at hc
 | buildSlice ty n ps =>
  simp only [cop,ho] at hc
  cases hE:tElem P ty with
  | none=>simp [hE] at hc
  | some e =>
   cases hS:tSize P e with
   | none=>simp [hE,hS] at hc
   | some k =>
    cases hZ:tZero P e with
    | none=>simp [hE,hS,hZ] at hc
    | some z =>
     by_cases h0:k=0∨n*k>2^24∨zOk k z=false
     ·simp [hE,hS,hZ,h0] at hc
     ·simp only [not_or,Bool.not_eq_false] at h0;obtain ⟨hk0,hnk,hzo⟩:=h0
      have hc2:ao=.lit k (List.replicate n z) (ps.toList.map fun q=>(q.1,cax q.2)):=by
       simp only [hE,hS,hZ,Option.bind_eq_bind,Option.bind_some] at hc;rw [if_neg (by simp only [not_or,Bool.not_eq_false]; exact ⟨hk0,hnk,hzo⟩)] at hc;simp only [Option.some.injEq] at hc;exact hc.symm
      subst hc2;simp only [aop]
      split
      ·rename_i ps' h' hp
       split
       ·rename_i es hf
        split
        ·rename_i hok;exact op_lit H ho (tElem_iff hE) hS (by omega) hZ hzo (by omega) he hp hf hok
        ·trivial
       ·trivial
      ·trivial
 | insert ty m k x=>exact map_Snd H he (Or.inr ho) hc
 | load ty x =>
  simp only [cop,ho] at hc
  cases hA:tAgg P ty with
  | none=>simp [hA] at hc
  | some agg =>
   cases hS:tSize P ty with
   | none=>simp [hA,hS] at hc
   | some sz =>
    simp [hA,hS] at hc;subst hc;simp only [aop]
    split
    ·rename_i v hv; exact op_load H ho hA hS (he x) hv
    ·trivial
 | store ty p x =>
  simp only [cop,ho] at hc
  cases hS:tSize P ty with
  | none=>simp [hS] at hc
  | some sz =>
   simp [hS] at hc;subst hc;simp only [aop]
   split
   ·rename_i h' hs; exact op_store H ho hS (he p) (he x) hs
   ·trivial
 | nilCheck x =>
  simp only [cop,ho,Option.some.injEq] at hc;subst hc;have hx:=he x;simp only [aop]
  split
  ·rename_i hv; rw [hv] at hx; exact op_nilck H ho hx trivial
  ·rename_i hv; rw [hv] at hx; exact op_nilck H ho hx trivial
  ·rename_i hv; rw [hv] at hx; exact op_nilck H ho hx trivial
  ·rename_i hv; rw [hv] at hx; exact op_nilck H ho hx trivial
  ·rename_i hv; rw [hv] at hx; exact op_nilck H ho hx trivial
  ·trivial
 | binOp op ty x y ty'=>exact binOp_Snd H he ho hc
 | unOp op ty x =>
  have hx:=he x;simp only [cop,ho] at hc
  cases op <;> simp only [Option.some.injEq,reduceCtorEq] at hc
  all_goals
   subst hc;simp only [aop]
   split
  ·rename_i hv; rw [hv] at hx; exact op_neg H ho (V_int hx)
  ·trivial
  ·rename_i hv; rw [hv] at hx; exact op_compl H ho (V_int hx)
  ·trivial
  ·rename_i hv; rw [hv] at hx; exact op_not H ho (V_bool hx)
  ·trivial
 | convert s d x=>exact convert_Snd H he ho hc
 | makeInterface ty x =>
  simp only [cop,ho] at hc
  split at hc
  ·simp at hc
  ·simp at hc
  ·rename_i d hd hd';simp only [Option.some.injEq] at hc;subst hc
   cases hu:P.underlying ty with
   | none=>exact absurd hu hd'
   | some d=>exact op_mkIface H ho hu (fun ms hms=>hd ms (by rw [hu,hms])) (he x)
 | makeFunc f xs ys =>
  simp only [cop,ho,Option.some.injEq] at hc;subst hc;exact op_mkFunc H ho he
 | makeMap ty r =>
  cases r with
  | some r=>simp [cop,ho] at hc
  | none =>
   simp only [cop,ho] at hc
   split at hc
   ·simp only [Option.some.injEq] at hc;subst hc;exact op_mkMap H ho
   ·simp at hc
 | makeSlice ty x y =>
  simp only [cop,ho] at hc
  cases hE:tElem P ty with
  | none=>simp [hE] at hc
  | some e =>
   cases hS:tSize P e with
   | none=>simp [hE,hS] at hc
   | some k =>
    cases hZ:tZero P e with
    | none=>simp [hE,hS,hZ] at hc
    | some z =>
     cases hB:tBytes P e with
     | none =>
      simp [hE,hS,hZ,hB] at hc
     | some b =>
      by_cases h0:k=0∨zOk k z=false
      ·simp [hE,hS,hZ,h0] at hc
      ·have hc2:ao=.mkSlice k e b z (cax x) (cax y):=by
        simp only [hE,hS,hZ,hB,Option.bind_eq_bind,Option.bind_some] at hc;rw [if_neg h0] at hc;simp only [Option.some.injEq] at hc;exact hc.symm
       simp only [not_or,Bool.not_eq_false] at h0;obtain ⟨hk0,hzo⟩:=h0;obtain ⟨hz1,hz2,hz3⟩:=zOk_iff hzo;subst hc2;have hx:=he x;have hy:=he y;simp only [aop]
       split
       ·rename_i i n j c hn hm;rw [hn] at hx;rw [hm] at hy
        split
        ·rename_i hcc;obtain ⟨h1,rfl,h3,h4⟩:=hcc;exact op_mkSlice H ho (tElem_iff hE) hS (by omega) hB hZ hz1 hz2 hz3 (V_int hx) (V_int hy) h1 h4 h3 e
        ·trivial
       ·trivial
 | slice ty x lo hi mx=>exact slice_Snd H he ho hc
 | fieldAddr ty x i=>exact field_Snd H he (Or.inl ho) hc
 | field ty x i=>exact field_Snd H he (Or.inr ho) hc
 | indexAddr ty x i=>exact index_Snd H he (Or.inl ho) hc
 | index ty x i=>exact index_Snd H he (Or.inr ho) hc
 | lookup ty x i ok=>exact lookup_Snd H he ho hc
 | mapUpdate ty m k x=>exact map_Snd H he (Or.inl ho) hc
 | range ty x =>
  simp only [cop,ho] at hc
  split at hc
  ·rename_i hu;simp only [Option.some.injEq] at hc;subst hc;have hx:=he x;simp only [aop]
   split
   ·rename_i s hs; rw [hs] at hx; exact op_range H ho hu (V_str hx)
   ·trivial
  ·simp at hc
 | next x isStr =>
  cases isStr
  ·simp [cop,ho] at hc
  ·simp only [cop,ho,Option.some.injEq] at hc;subst hc;have hx:=he x;simp only [aop]
   split
   ·rename_i i hv;rw [hv] at hx
    split
    ·rename_i s pos hi;have:=op_next H ho hx hi
     split
     ·rename_i hlt; exact this.1 hlt
     ·rename_i hlt; exact this.2 hlt
    ·trivial
   ·trivial
 | typeAssert x ty' ty ok =>
  simp only [cop,ho] at hc
  split at hc
  ·simp at hc
  ·simp at hc
  ·rename_i hd hd'
   cases hZ:tZero P ty with
   | none=>simp [hZ] at hc
   | some z =>
    simp [hZ] at hc;subst hc
    cases hu:P.underlying ty with
    | none=>exact absurd hu hd'
    | some d =>
     have hne:∀ ms,d≠.interface ms:=fun ms hms=>hd ms (by rw [hu,hms])
     have hx:=he x;simp only [aop]
     split
     ·rename_i u v hv;rw [hv] at hx
      split
      ·rename_i huv;exact op_tassert H ho hu hne hZ hx (Or.inl ⟨u,v,rfl,Or.inl ⟨huv,rfl⟩⟩)
      ·rename_i huv
       split
       ·rename_i hok;exact op_tassert H ho hu hne hZ hx (Or.inl ⟨u,v,rfl,Or.inr ⟨huv,hok,rfl⟩⟩)
       ·trivial
     ·rename_i hv;rw [hv] at hx
      split
      ·rename_i hok;exact op_tassert H ho hu hne hZ hx (Or.inr ⟨rfl,hok,rfl⟩)
      ·trivial
     ·trivial
 | extract x i =>
  simp only [cop,ho,Option.some.injEq] at hc;subst hc;have hx:=he x;simp only [aop]
  split
  ·rename_i vs hv;rw [hv] at hx
   split
   ·rename_i v hi; exact op_extract H ho hx hi
   ·trivial
  ·trivial
 | call c =>
  simp only [cop,ho] at hc;obtain ⟨callee,xs,ts⟩:=c
  cases callee with
  | value f =>
   simp only [ccall,Option.some.injEq] at hc;subst hc;exact call_sound H he ho
  | invoke x name =>
   simp only [ccall,Option.some.injEq] at hc;subst hc;exact invoke_sound H he ho
  | builtin b=>exact builtin_Snd H he ho rfl hc
 | defer c =>
  simp only [cop,ho] at hc;obtain ⟨callee,xs,ts⟩:=c
  cases callee with
  | value f =>
   simp only [Option.some.injEq] at hc;subst hc;have hf:=he f;have hxs:=VL_cax he xs;simp only [aop]
   split
   ·rename_i n fs cs hv;rw [hv] at hf;simp only [V] at hf;obtain ⟨us,vs,hfe,h1,h2⟩:=hf;refine ⟨{ target:=.fn (.func n) vs.toArray,args:=us.toArray++xs.map a.eval },?_,vs.toArray,rfl,?_⟩
    ·simp [execOp,ho,resolve,hfe,Deferred.ofValue]
    ·have:=VL_append (VL_append h1 hxs) h2;simpa using this
   ·trivial
  | invoke x name=>simp at hc
  | builtin b=>simp at hc
 | panic x =>
  simp only [cop,ho,Option.some.injEq] at hc;subst hc;have hx:=he x;simp only [aop]
  split
  ·rename_i ty v hv;rw [hv] at hx;refine ⟨a.eval x,?_,hx⟩;simp only [V] at hx;obtain ⟨y,hxe,_⟩:=hx;simp [execOp,ho,hxe,Instr.panic]
  ·trivial
 | _=>simp [cop,ho] at hc
end
section
variable {P : Program} {w w' : World} {cs : List Frame} {fn : FuncId} {tmps : Array Value} {k : List Item} {ds : List Deferred} {kd : CallKind} {ro : Option Nat}
def mkF (fn:FuncId) (tmps:Array Value) (todo:List Item) (ds:List Deferred) (kd:CallKind) (ro:Option Nat) (md:FrameMode:=.run):Frame :=
 { fn,tmps,todo,defers:=ds,mode:=md,kind:=kd,roundOf:=ro }
theorem st_skip:step P (lone (mkF fn tmps (.code .skip::k) ds kd ro) cs w)=.next (lone (mkF fn tmps k ds kd ro) cs w) :=
 step_lone_go (by simp [stepG,stepG.exec,mkF])
theorem st_label {l:Nat}:step P (lone (mkF fn tmps (.code (.label l)::k) ds kd ro) cs w)=.next (lone (mkF fn tmps k ds kd ro) cs w) :=
 step_lone_go (by simp [stepG,stepG.exec,mkF])
theorem st_inBlock {id:Nat}:step P (lone (mkF fn tmps (.inBlock id::k) ds kd ro) cs w)=.next (lone (mkF fn tmps k ds kd ro) cs w) :=
 step_lone_go (by simp [stepG,stepG.exec,mkF])
theorem st_seq {x y:Code}:step P (lone (mkF fn tmps (.code (.seq x y)::k) ds kd ro) cs w)=.next (lone (mkF fn tmps (.code x::.code y::k) ds kd ro) cs w) :=
 step_lone_go (by simp [stepG,stepG.exec,mkF])
theorem eval_mkF {todo:List Item} {md:FrameMode}:(mkF fn tmps todo ds kd ro md).eval=(⟨tmps,ds⟩:Act).eval:=by
 funext x; cases x <;> rfl
theorem st_cond {c:Operand} {x y:Code} {b:Bool} (h:(⟨tmps,ds⟩:Act).eval c=.bool b) :
  step P (lone (mkF fn tmps (.code (.cond c x y)::k) ds kd ro) cs w)=.next (lone (mkF fn tmps (.code (if b then x else y)::k) ds kd ro) cs w) :=
 step_lone_go (by
  have:=congrFun (eval_mkF (fn:=fn) (tmps:=tmps) (ds:=ds) (kd:=kd) (ro:=ro) (todo:=.code (.cond c x y)::k) (md:=.run)) c;simp only [mkF] at this
  simp [stepG,stepG.exec,mkF,this,h])
theorem st_block {id:Nat} {c:Code}:step P (lone (mkF fn tmps (.code (.block id c)::k) ds kd ro) cs w)=.next (lone (mkF fn tmps (.code c::.inBlock id::k) ds kd ro) cs w) :=
 step_lone_go (by simp [stepG,stepG.exec,mkF])
theorem st_loop {c:Code}:step P (lone (mkF fn tmps (.code (.loop c)::k) ds kd ro) cs w)=.next (lone (mkF fn tmps (.code c::.inLoop c::k) ds kd ro) cs w) :=
 step_lone_go (by simp [stepG,stepG.exec,mkF])
theorem st_inLoop {c:Code}:step P (lone (mkF fn tmps (.inLoop c::k) ds kd ro) cs w)=.next (lone (mkF fn tmps (.code c::.inLoop c::k) ds kd ro) cs w) :=
 step_lone_go (by simp [stepG,stepG.exec,mkF])
theorem st_exit {id:Nat} {k':List Item} (h:exitTo id k=some k'):step P (lone (mkF fn tmps (.code (.exit id)::k) ds kd ro) cs w)=.next (lone (mkF fn tmps k' ds kd ro) cs w) :=
 step_lone_go (by simp [stepG,stepG.exec,mkF,h])
theorem st_ret:step P (lone (mkF fn tmps (.code .ret::k) ds kd none) cs w)=.next (lone (mkF fn tmps (.code .ret::k) ds kd none .returning) cs w) :=
 step_lone_go (by simp [stepG,stepG.exec,mkF])
theorem st_end:step P (lone (mkF fn tmps [] ds kd none) cs w)=.next (lone (mkF fn tmps [] ds kd none .returning) cs w) :=
 step_lone_go (by simp [stepG,stepG.exec,mkF])
theorem st_region {id:Nat} {ops:Array Oper}:step P (lone (mkF fn tmps (.code (.region id ops false)::k) ds kd ro) cs w)=.next (lone (mkF fn tmps (.inRegion ops (List.range ops.size)::k) ds kd ro) cs w) :=
 step_lone_go (by simp [stepG,stepG.exec,mkF])
theorem st_draw {id:Nat} {ops:Array Oper}:step P (lone (mkF fn tmps (.code (.region id ops true)::k) ds kd ro) cs w) =
  .next (lone (mkF fn tmps (.inRegion ops (Region.schedule (P.follows .mixedOrders) ops (w.tape w.drawn (.order fn id)))::k) ds kd ro) cs w.drew) :=
 step_lone_go (by simp [stepG,stepG.exec,mkF,choose,Sem.run,Question.forced,Question.cut])
theorem st_regionEnd {ops:Array Oper}:step P (lone (mkF fn tmps (.inRegion ops []::k) ds kd ro) cs w)=.next (lone (mkF fn tmps k ds kd ro) cs w) :=
 step_lone_go (by simp [stepG,stepG.exec,mkF])
def put' (tmps:Array Value) (d:Option Tmp) (v:Value):Array Value :=
 match d with
 | some d=>tmps.setIfInBounds d v
 | none=>tmps
theorem finish_ops {ops:Array Oper} {i:Nat} {rest:List Nat} (v:Value):(mkF fn tmps (.inRegion ops (i::rest)::k) ds kd ro).finish v=mkF fn (put' tmps ((ops[i]?).bind (·.dst)) v) (.inRegion ops rest::k) ds kd ro:=by
 simp only [Frame.finish,mkF,put']
 cases (ops[i]?).bind (·.dst) <;> rfl
theorem st_opSkip {ops:Array Oper} {i:Nat} {rest:List Nat} {o:Oper} (ho:ops[i]? = some o) (h:Region.wanted o (yielded ops tmps)=false) :
  step P (lone (mkF fn tmps (.inRegion ops (i::rest)::k) ds kd ro) cs w)=.next (lone (mkF fn (put' tmps o.dst undef) (.inRegion ops rest::k) ds kd ro) cs w):=by
 have:=finish_ops (fn:=fn) (tmps:=tmps) (k:=k) (ds:=ds) (kd:=kd) (ro:=ro) (ops:=ops) (i:=i) (rest:=rest) undef;rw [ho,Option.bind_some] at this;rw [← this];refine step_lone_go ?_;simp only [mkF] at *;simp [stepG,stepG.exec,ho,h]
theorem st_op {ops:Array Oper} {i:Nat} {rest:List Nat} {o:Oper} (ho:ops[i]? = some o) (hw:Region.wanted o (yielded ops tmps)=true) (hd:ro=none∨∀ c,o.op≠.defer c) :
  stepG P true { frame:=mkF fn tmps (.inRegion ops (i::rest)::k) ds kd ro,callers:=cs,status:=.running,dying:=none } w =
   stepG.apply P true (mkF fn tmps (.inRegion ops (i::rest)::k) ds kd ro) cs none (execOp (⟨tmps,ds⟩:Act).eval o) w:=by
 have he:=eval_mkF (fn:=fn) (tmps:=tmps) (ds:=ds) (kd:=kd) (ro:=ro) (todo:=.inRegion ops (i::rest)::k) (md:=.run);simp only [mkF] at he
 cases ro with
 | none=>simp [stepG,stepG.exec,stepG.oper,Frame.oper?,mkF,ho,hw,he]
 | some l =>
  have hd:=hd.resolve_left (by simp);simp only [stepG,stepG.exec,stepG.oper,Frame.oper?,mkF,ho,hw,Option.map_some,Option.getD_some,if_true]
  cases hop:o.op <;> simp only [he]
  exact absurd hop (hd _)
theorem st_value {ops:Array Oper} {i:Nat} {rest:List Nat} {o:Oper} (ho:ops[i]? = some o) (hw:Region.wanted o (yielded ops tmps)=true) (hd:ro=none∨∀ c,o.op≠.defer c) {v:Value}
  (hr:(execOp (⟨tmps,ds⟩:Act).eval o).run P w=.ok (.value v) w') :
  step P (lone (mkF fn tmps (.inRegion ops (i::rest)::k) ds kd ro) cs w)=.next (lone (mkF fn (put' tmps o.dst v) (.inRegion ops rest::k) ds kd ro) cs w'):=by
 have:=finish_ops (fn:=fn) (tmps:=tmps) (k:=k) (ds:=ds) (kd:=kd) (ro:=ro) (ops:=ops) (i:=i) (rest:=rest) v;rw [ho,Option.bind_some] at this;rw [← this];refine step_lone_go ?_;rw [st_op ho hw hd];simp [stepG.apply,hr]
theorem st_skipped {ops:Array Oper} {i:Nat} {rest:List Nat} {o:Oper} (ho:ops[i]? = some o) (hw:Region.wanted o (yielded ops tmps)=true) (hd:ro=none∨∀ c,o.op≠.defer c)
  (hr:(execOp (⟨tmps,ds⟩:Act).eval o).run P w=.ok .skip w') :
  step P (lone (mkF fn tmps (.inRegion ops (i::rest)::k) ds kd ro) cs w)=.next (lone (mkF fn (put' tmps o.dst undef) (.inRegion ops rest::k) ds kd ro) cs w'):=by
 have:=finish_ops (fn:=fn) (tmps:=tmps) (k:=k) (ds:=ds) (kd:=kd) (ro:=ro) (ops:=ops) (i:=i) (rest:=rest) undef;rw [ho,Option.bind_some] at this;rw [← this];refine step_lone_go ?_;rw [st_op ho hw hd];simp [stepG.apply,hr]
theorem st_enter {ops:Array Oper} {i:Nat} {rest:List Nat} {o:Oper} (ho:ops[i]? = some o) (hw:Region.wanted o (yielded ops tmps)=true) (hd:ro=none∨∀ c,o.op≠.defer c) {f:FuncId} {args:Array Value}
  (hr:(execOp (⟨tmps,ds⟩:Act).eval o).run P w=.ok (.enter f args) w') :
  step P (lone (mkF fn tmps (.inRegion ops (i::rest)::k) ds kd ro) cs w)=.next (lone (Frame.enter P f args .normal) (mkF fn tmps (.inRegion ops (i::rest)::k) ds kd ro::cs) w'):=by
 refine step_lone_go ?_;rw [st_op ho hw hd];simp [stepG.apply,hr,mkF]
theorem st_round {ops:Array Oper} {i:Nat} {rest:List Nat} {o:Oper} (ho:ops[i]? = some o) (hw:Region.wanted o (yielded ops tmps)=true) (hd:ro=none∨∀ c,o.op≠.defer c) {l:Nat} {f:FuncId} {ts:Array Value} {x y:Code}
  (hr:(execOp (⟨tmps,ds⟩:Act).eval o).run P w=.ok (.round l f ts x y) w') :
  step P (lone (mkF fn tmps (.inRegion ops (i::rest)::k) ds kd ro) cs w)=.next (lone (mkF f ts [.code x,.beginRound,.code y] [] .normal (some l)) (mkF fn tmps (.inRegion ops (i::rest)::k) ds kd ro::cs) w'):=by
 refine step_lone_go ?_;rw [st_op ho hw hd];simp [stepG.apply,hr,mkF,Frame.round]
theorem st_panic {ops:Array Oper} {i:Nat} {rest:List Nat} {o:Oper} (ho:ops[i]? = some o) (hw:Region.wanted o (yielded ops tmps)=true) (hd:ro=none∨∀ c,o.op≠.defer c) {v:Value}
  (hr:(execOp (⟨tmps,ds⟩:Act).eval o).run P w=.halt (.panic v) w') :
  step P (lone (mkF fn tmps (.inRegion ops (i::rest)::k) ds kd ro) cs w)=.next (lone (mkF fn tmps (.inRegion ops (i::rest)::k) ds kd ro (.panicking [{ v,recovered:=false }])) cs w'):=by
 refine step_lone_go ?_;rw [st_op ho hw hd];simp [stepG.apply,hr,mkF,Frame.raise]
theorem st_defer {ops:Array Oper} {i:Nat} {rest:List Nat} {o:Oper} (ho:ops[i]? = some o) (hw:Region.wanted o (yielded ops tmps)=true) {d:Deferred}
  (hr:(execOp (⟨tmps,ds⟩:Act).eval o).run P w=.ok (.defer d) w') :
  step P (lone (mkF fn tmps (.inRegion ops (i::rest)::k) ds kd none) cs w)=.next (lone (mkF fn (put' tmps o.dst undef) (.inRegion ops rest::k) (d::ds) kd none) cs w'):=by
 have:=finish_ops (fn:=fn) (tmps:=tmps) (k:=k) (ds:=d::ds) (kd:=kd) (ro:=none) (ops:=ops) (i:=i) (rest:=rest) undef;rw [ho,Option.bind_some] at this;rw [← this];refine step_lone_go ?_;rw [st_op ho hw (Or.inl rfl)];simp [stepG.apply,hr,mkF]
theorem st_recover {ops:Array Oper} {i:Nat} {rest:List Nat} {o:Oper} (ho:ops[i]? = some o) (hw:Region.wanted o (yielded ops tmps)=true)
  (hr:(execOp (⟨tmps,ds⟩:Act).eval o).run P w=.ok .recover w') {v:Value} {cs':List Frame}
  (ht:tryRecover (mkF fn tmps (.inRegion ops (i::rest)::k) ds kd none) cs=some (v,cs')∨(tryRecover (mkF fn tmps (.inRegion ops (i::rest)::k) ds kd none) cs=none∧v=.nilIface∧cs'=cs)) :
  step P (lone (mkF fn tmps (.inRegion ops (i::rest)::k) ds kd none) cs w)=.next (lone (mkF fn (put' tmps o.dst v) (.inRegion ops rest::k) ds kd none) cs' w'):=by
 have:=finish_ops (fn:=fn) (tmps:=tmps) (k:=k) (ds:=ds) (kd:=kd) (ro:=none) (ops:=ops) (i:=i) (rest:=rest) v;rw [ho,Option.bind_some] at this;rw [← this];refine step_lone_go ?_;rw [st_op ho hw (Or.inl rfl)]
 rcases ht with ht | ⟨ht,rfl,rfl⟩
 ·have hro:(mkF fn tmps (.inRegion ops (i::rest)::k) ds kd none).roundOf=none:=rfl;simp [stepG.apply,hr,hro,ht]
 ·have hro:(mkF fn tmps (.inRegion ops (i::rest)::k) ds kd none).roundOf=none:=rfl;simp [stepG.apply,hr,hro,ht]
theorem st_range {f:Operand} {ps:Array Tmp} {x y:Code} {l:Nat} {mark:List Deferred} {w1:World} {g:FuncId} {args:Array Value}
  (h1:(Instr.enterLoop fn tmps ps x y ro).run P w=.ok (l,mark) w1)
  (h2:((do let d ← resolve (⟨tmps,ds⟩:Act).eval { callee:=.value f,args:=#[.const (.func (.yield l) #[] #[])],argTypes:=#[] } 0; invoke d.target d.args):Sem Next).run P w1=.ok (.enter g args) w') :
  step P (lone (mkF fn tmps (.code (.rangeFunc f ps x y)::k) ds kd ro) cs w)=.next (lone (Frame.enter P g args .normal) (mkF fn tmps (.inRangeFunc l::k) (mark++ds) kd ro::cs) w'):=by
 have he:({ fn:=fn,tmps:=tmps,todo:=.inRangeFunc l::k,defers:=mark++ds,mode:=.run,kind:=kd,roundOf:=ro }:Frame).eval=(⟨tmps,ds⟩:Act).eval:=by
  funext z; cases z <;> rfl
 refine step_lone_go ?_;simp only [stepG,stepG.exec,mkF,Sem.runT_eq,h1,GStep.bare_after];simp only [stepG.apply,Sem.runT_eq,if_true,GStep.bare_after,he,h2];rfl
theorem st_beginRound {b:Nat} (hr:(Instr.beginRound b).run P w=.ok () w'):step P (lone (mkF fn tmps (.beginRound::k) ds kd (some b)) cs w)=.next (lone (mkF fn tmps k ds kd (some b)) cs w'):=by
 refine step_lone_go ?_;simp [stepG,stepG.exec,mkF,stepG.apply,hr,Frame.finish]
theorem st_endRange {l:Nat} {j:Option Code} (hr:(Instr.endLoop l).run P w=.ok j w'):step P (lone (mkF fn tmps (.endRangeFunc l::k) ds kd ro) cs w)=.next (lone (mkF fn tmps ((j.map Item.code).toList++k) ds kd ro) cs w'):=by
 refine step_lone_go ?_;simp [stepG,stepG.exec,mkF,hr]
theorem st_leaveRound {b:Nat} {j:Option Code} {todo:List Item} (hj:(todo=[]∧j=none)∨(∃ k,todo=.code .ret::k∧j=some .ret)∨(∃ id k,todo=.code (.exit id)::k∧exitTo id k=none∧j=some (.exit id))) {c:Frame} {v:Value}
  (hr:(Instr.endRound b j).run P w=.ok v w'):step P (lone (mkF fn tmps todo ds .normal (some b)) (c::cs) w)=.next (lone (c.finish v) cs w'):=by
 refine step_lone_go ?_
 rcases hj with ⟨rfl,rfl⟩ | ⟨k,rfl,rfl⟩ | ⟨id,k,rfl,he,rfl⟩
 ·simp [stepG,stepG.exec,mkF,hr,doReturn]
 ·simp [stepG,stepG.exec,mkF,hr,doReturn]
 ·simp [stepG,stepG.exec,mkF,hr,doReturn,he]
theorem st_mark {b:Nat} {md:FrameMode} (hmd:md≠.run) {todo:List Item} {calls:List Deferred} (hr:(Instr.takeDeferred b).run P w=.ok calls w') :
  step P (lone (mkF fn tmps todo ({ target:=.collected b,args:=#[] }::ds) kd ro md) cs w)=.next (lone (mkF fn tmps todo (calls++ds) kd ro md) cs w'):=by
 refine step_lone_go ?_
 cases md <;> first
  | exact absurd rfl hmd
  | simp [stepG,mkF,unwind,hr]
theorem st_call {md:FrameMode} (hmd:md≠.run) {todo:List Item} {d:Deferred} (hn:d.target≠.nil) (hc:∀ b,d.target≠.collected b) {f:FuncId} {args:Array Value} (hr:(invoke d.target d.args).run P w=.ok (.enter f args) w') :
  step P (lone (mkF fn tmps todo (d::ds) kd ro md) cs w)=.next (lone (Frame.enter P f args .deferred) (mkF fn tmps todo ds kd ro md::cs) w'):=by
 refine step_lone_go ?_;obtain ⟨target,dargs⟩:=d;simp only at hn hc hr
 have hnn:((match target with | .nil=>true | _=>false):Bool)=false:=by cases target <;> first | rfl | exact absurd rfl hn
 cases md <;> first
  | exact absurd rfl hmd
  | (cases target <;> first
    | exact absurd rfl hn
    | exact absurd rfl (hc _)
    | simp [stepG,mkF,unwind,callDeferred,hr])
theorem st_popRet {todo:List Item} {F:Func} (hF:P.funcs[fn]? = some F) {v:Value} (hr:(results F tmps).run P w=.ok v w) {c:Frame} :
  step P (lone (mkF fn tmps todo [] .normal ro .returning) (c::cs) w)=.next (lone (c.finish v) cs w):=by
 refine step_lone_go ?_;simp [stepG,mkF,unwind,hF,hr,doReturn]
theorem st_popDfr {todo:List Item} {F:Func} (hF:P.funcs[fn]? = some F) {v:Value} (hr:(results F tmps).run P w=.ok v w) {c c':Frame}
  (hc:(∃ u,c.mode=.panicking [{ v:=u,recovered:=true }]∧c'={ c with mode:=.returning })∨((c.mode=.returning∨∃ u,c.mode=.panicking [{ v:=u,recovered:=false }])∧c'=c)) :
  step P (lone (mkF fn tmps todo [] .deferred ro .returning) (c::cs) w)=.next (lone c' cs w):=by
 refine step_lone_go ?_
 rcases hc with ⟨u,hm,rfl⟩ | ⟨hm | ⟨u,hm⟩,rfl⟩
 ·simp [stepG,mkF,unwind,hF,hr,doReturn,hm]
 ·simp [stepG,mkF,unwind,hF,hr,doReturn,hm]
 ·simp [stepG,mkF,unwind,hF,hr,doReturn,hm]
theorem st_popPan {todo:List Item} {F:Func} (hF:P.funcs[fn]? = some F) {ch:List PanicEntry} {c:Frame} :
  step P (lone (mkF fn tmps todo [] kd ro (.panicking ch)) (c::cs) w)=.next (lone (c.raise ch) cs w):=by
 refine step_lone_go ?_;simp [stepG,mkF,unwind,Frame.catches,hF]
end
def OpsR (P:Program) (ops:Array Oper) (gs:List AG) (todo:List Nat):Prop:=F2 (fun (g:AG) (i:Nat)=>∃ o,ops[i]? = some o∧cag P ops.toList o=some g) gs todo
def LR (g:G) (h:List Ob) (l b:Nat):Prop:=isLoop h l∧∃ sz,g.ρ l=some (b,sz,0)
def IR (P:Program) (g:G) (h:List Ob):List It→List Item→Prop
 | [],[]=>True
 | .code a::k,.code c::k'=>CR P c a∧IR P g h k k'
 | .inBlock i _::k,.inBlock j::k'=>i=j∧IR P g h k k'
 | .inLoop _ a::k,.inLoop c::k'=>CR P c a∧IR P g h k k'
 | .ops gs::k,.inRegion ops todo::k'=>OpsR P ops gs todo∧IR P g h k k'
 | .inRange l::k,.inRangeFunc b::k'=>LR g h l b∧IR P g h k k'
 | .endRange l::k,.endRangeFunc b::k'=>LR g h l b∧IR P g h k k'
 | .beginRound::k,.beginRound::k'=>IR P g h k k'
 | _,_=>False
def MR (g:G) (h:List Ob):Md→FrameMode→Prop
 | .run,m=>m=.run
 | .ret,m=>m=.returning
 | .pan v rc,m=>∃ u,m=.panicking [{ v:=u,recovered:=rc }]∧V g h v u
def KR (g:G) (h:List Ob):FK→CallKind→Option Nat→Prop
 | .norm,k,ro=>k=.normal∧ro=none
 | .dfr,k,ro=>k=.deferred∧ro=none
 | .round l,k,ro=>k=.normal∧∃ b,ro=some b∧LR g h l b
structure FRel (P:Program) (g:G) (h:List Ob) (f:Fr) (fr:Frame):Prop where
 md:MR g h f.md fr.mode
 fn:fr.fn=f.fn
 its:IR P g h f.its fr.todo
 t:VL g h f.t fr.tmps.toList
 ds:F2 (DR g h) f.ds fr.defers
 kind:KR g h f.kind fr.kind fr.roundOf
 is:∃ fn,P.funcs[f.fn]? = some fn
def belK (n:Nat):FK→Bool
 | .round l=>decide (l<n)
 | _=>true
def belMd (n:Nat):Md→Bool
 | .pan v _=>bel n v
 | _=>true
def belF (n:Nat) (f:Fr):Bool:=belL n f.t&&belD n f.ds&&belI n f.its&&belK n f.kind&&belMd n f.md
def SR (P:Program) (g:G) (h:List Ob) (f0:FuncId):Nat→List Fr→List Frame→Prop
 | _,[],fs=>fs=[]
 | n,f::up,fs=>∃ fr fs',fs=fr::fs'∧FRel P g h f fr∧belF n f=true∧f.base≤n∧(up=[]→f.fn=f0∧f.kind=.norm)∧SR P g h f0 f.base up fs'
def Sim (P:Program) (Γ:Nat→Option AV) (N:Env) (g0:G) (f0:FuncId) (cs0:List Frame):Cfg→Machine→Prop
 | .fr f up h,m=>∃ g w fr fs,m=lone fr (fs++cs0) w∧Inv P Γ N g h w∧(∀ b o v,g0.M b o=some v→g.M b o=some v)∧SR P g h f0 h.length (f::up) (fr::fs)
 | .cl c args up h,m=>∃ g w vs fs,m=lone (Frame.enter P c vs .normal) (fs++cs0) w∧Inv P Γ N g h w∧(∀ b o v,g0.M b o=some v→g.M b o=some v)∧VL g h args vs.toList∧hasBody P c=true ∧
   SR P g h f0 h.length up fs∧(up=[]→c=f0)
 | .back (c::up) v h,m=>∃ g w u fr fs,m=lone (fr.finish u) (fs++cs0) w∧Inv P Γ N g h w∧(∀ b o v,g0.M b o=some v→g.M b o=some v)∧V g h v u∧SR P g h f0 h.length (c::up) (fr::fs)
 | .back [] v h,m=>∃ g w u fr,m=lone fr cs0 w∧Inv P Γ N g h w∧(∀ b o v,g0.M b o=some v→g.M b o=some v)∧V g h v u∧fr.fn=f0∧fr.leaving P w (.returned u)
 | .die (c::up) v h,m=>∃ g w u fr fs,m=lone (fr.raise [{ v:=u,recovered:=false }]) (fs++cs0) w∧Inv P Γ N g h w∧(∀ b o v,g0.M b o=some v→g.M b o=some v)∧V g h v u∧SR P g h f0 h.length (c::up) (fr::fs)
 | .die [] v h,m=>∃ g w u fr,m=lone fr cs0 w∧Inv P Γ N g h w∧(∀ b o v,g0.M b o=some v→g.M b o=some v)∧V g h v u∧fr.fn=f0∧fr.leaving P w (.panicked [{ v:=u,recovered:=false }])
 | .bad,_=>True
section
variable {P : Program} {Γ : Nat → Option AV} {N : Env} {g g' : G} {h h' : List Ob} {w : World}
theorem LR_mono {n:Nat} (x:Ext n g h g' h') {l b:Nat} (hl:l<n) (h1:LR g h l b):LR g' h' l b:=by
 obtain ⟨⟨st,j,fn,t,ps,p,q,hi⟩,sz,hρ⟩:=h1;obtain ⟨⟨st',j',h1⟩,h2⟩:=x.loop l st j fn t ps p q hl hi;exact ⟨⟨_,_,_,_,_,_,_,h1⟩,sz,h2 _ hρ⟩
theorem IR_mono {n:Nat} (x:Ext n g h g' h'):∀ {k:List It} {k':List Item},belI n k=true→IR P g h k k'→IR P g' h' k k'
 | [],[],_,_=>trivial
 | [],_::_,_,h1=>by simp only [IR] at h1
 | it::k,[],_,h1=>by cases it <;> simp only [IR] at h1
 | it::k,im::k',hb,h1=>by
  cases it <;> cases im <;> simp only [IR] at h1 ⊢
  ·exact ⟨h1.1,IR_mono x (by simpa only [belI] using hb) h1.2⟩
  ·exact ⟨h1.1,IR_mono x (by simpa only [belI] using hb) h1.2⟩
  ·exact ⟨h1.1,IR_mono x (by simpa only [belI] using hb) h1.2⟩
  ·exact ⟨h1.1,IR_mono x (by simpa only [belI] using hb) h1.2⟩
  ·simp only [belI,Bool.and_eq_true,decide_eq_true_eq] at hb;exact ⟨LR_mono x hb.1 h1.1,IR_mono x hb.2 h1.2⟩
  ·simp only [belI,Bool.and_eq_true,decide_eq_true_eq] at hb;exact ⟨LR_mono x hb.1 h1.1,IR_mono x hb.2 h1.2⟩
  ·exact IR_mono x (by simpa only [belI] using hb) h1
theorem DR_mono {n:Nat} (x:Ext n g h g' h') {d:ADef} {d':Deferred} (hb:(match d with | .call _ args=>belL n args | .mark i=>decide (i<n))=true) (h1:DR g h d d'):DR g' h' d d':=by
 cases d with
 | call f args =>
  obtain ⟨cap,h2,h3⟩:=h1;exact ⟨cap,h2,VL_mono x hb h3⟩
 | mark i =>
  obtain ⟨⟨l,hi⟩,b,sz,hρ,h2⟩:=h1;simp only [decide_eq_true_eq] at hb;obtain ⟨h3,h4⟩:=x.dfr i l hb hi;exact ⟨h3,b,sz,h4 _ hρ,h2⟩
theorem DRs_mono {n:Nat} (x:Ext n g h g' h'):∀ {ds:List ADef} {ds':List Deferred},belD n ds=true→F2 (DR g h) ds ds'→F2 (DR g' h') ds ds'
 | _,_,_,.nil=>.nil
 | .call f args::ds,_,hb,.cons h1 h2=>by
  simp only [belD,Bool.and_eq_true] at hb;exact .cons (DR_mono x hb.1 h1) (DRs_mono x hb.2 h2)
 | .mark i::ds,_,hb,.cons h1 h2=>by
  simp only [belD,Bool.and_eq_true] at hb;exact .cons (DR_mono x hb.1 h1) (DRs_mono x hb.2 h2)
theorem MR_mono {n:Nat} (x:Ext n g h g' h') {m:Md} {m':FrameMode} (hb:belMd n m=true) (h1:MR g h m m'):MR g' h' m m':=by
 cases m with
 | run=>exact h1
 | ret=>exact h1
 | pan v rc=>obtain ⟨u,h2,h3⟩:=h1; exact ⟨u,h2,V_mono x hb h3⟩
theorem KR_mono {n:Nat} (x:Ext n g h g' h') {k:FK} {c:CallKind} {ro:Option Nat} (hb:belK n k=true) (h1:KR g h k c ro):KR g' h' k c ro:=by
 cases k with
 | norm=>exact h1
 | dfr=>exact h1
 | round l =>
  obtain ⟨h2,b,h3,h4⟩:=h1;simp only [belK,decide_eq_true_eq] at hb;exact ⟨h2,b,h3,LR_mono x hb h4⟩
theorem FRel_mono {n:Nat} (x:Ext n g h g' h') {f:Fr} {fr:Frame} (hb:belF n f=true) (h1:FRel P g h f fr):FRel P g' h' f fr:=by
 simp only [belF,Bool.and_eq_true] at hb;obtain ⟨⟨⟨⟨b1,b2⟩,b3⟩,b4⟩,b5⟩:=hb;exact ⟨MR_mono x b5 h1.md,h1.fn,IR_mono x b3 h1.its,VL_mono x b1 h1.t,DRs_mono x b2 h1.ds,KR_mono x b4 h1.kind,h1.is⟩
theorem belD_mono {n m:Nat} (h:n≤m):∀ {ds:List ADef},belD n ds=true→belD m ds=true
 | [],_=>rfl
 | .call _ _::ds,hb=>by simp only [belD,Bool.and_eq_true] at hb ⊢; exact ⟨belL_mono h hb.1,belD_mono h hb.2⟩
 | .mark _::ds,hb=>by simp only [belD,Bool.and_eq_true,decide_eq_true_eq] at hb ⊢; exact ⟨by omega,belD_mono h hb.2⟩
theorem belI_mono {n m:Nat} (h:n≤m):∀ {k:List It},belI n k=true→belI m k=true
 | [],_=>rfl
 | it::k,hb=>by
  cases it <;> simp only [belI,Bool.and_eq_true,decide_eq_true_eq] at hb ⊢ <;> first
   | exact belI_mono h hb
   | exact ⟨by omega,belI_mono h hb.2⟩
theorem belF_mono {n m:Nat} (h:n≤m) {f:Fr} (hb:belF n f=true):belF m f=true:=by
 simp only [belF,Bool.and_eq_true] at hb ⊢;obtain ⟨⟨⟨⟨b1,b2⟩,b3⟩,b4⟩,b5⟩:=hb;refine ⟨⟨⟨⟨belL_mono h b1,belD_mono h b2⟩,belI_mono h b3⟩,?_⟩,?_⟩
 ·cases hk:f.kind <;> simp only [hk,belK,decide_eq_true_eq] at b4 ⊢; omega
 ·cases hm:f.md <;> simp only [hm,belMd] at b5 ⊢; exact bel_mono h b5
theorem SR_mono {f0:FuncId}:∀ {n m:Nat} {l:List Fr} {fs:List Frame},Ext n g h g' h'→n≤m→SR P g h f0 n l fs→SR P g' h' f0 m l fs
 | _,_,[],_,_,_,h1=>h1
 | n,m,f::up,fs,x,hnm,h1=>by
  obtain ⟨fr,fs',h2,h3,h4,h5,h6,h7⟩:=h1;exact ⟨fr,fs',h2,FRel_mono x h4 h3,belF_mono hnm h4,by omega,h6,SR_mono (x.mono h5) (Nat.le_refl _) h7⟩
theorem IR_bel:∀ {k:List It} {k':List Item},IR P g h k k'→belI h.length k=true
 | [],_,_=>rfl
 | it::k,[],h1=>by cases it <;> simp only [IR] at h1
 | it::k,im::k',h1=>by
  cases it <;> cases im <;> simp only [IR] at h1 <;> simp only [belI]
  ·exact IR_bel h1.2
  ·exact IR_bel h1.2
  ·exact IR_bel h1.2
  ·exact IR_bel h1.2
  ·simp only [Bool.and_eq_true,decide_eq_true_eq]; exact ⟨lt_of_get h1.1.1.choose_spec.choose_spec.choose_spec.choose_spec.choose_spec.choose_spec.choose_spec,IR_bel h1.2⟩
  ·simp only [Bool.and_eq_true,decide_eq_true_eq]; exact ⟨lt_of_get h1.1.1.choose_spec.choose_spec.choose_spec.choose_spec.choose_spec.choose_spec.choose_spec,IR_bel h1.2⟩
  ·exact IR_bel h1
theorem DRs_bel:∀ {ds:List ADef} {ds':List Deferred},F2 (DR g h) ds ds'→belD h.length ds=true
 | _,_,.nil=>rfl
 | _,_,.cons (a:=a) h1 h2=>by
  cases a <;> simp only [belD,Bool.and_eq_true,decide_eq_true_eq]
  ·obtain ⟨_,_,h3⟩:=h1; exact ⟨VL_bel h3,DRs_bel h2⟩
  ·obtain ⟨⟨_,h3⟩,_⟩:=h1; exact ⟨lt_of_get h3,DRs_bel h2⟩
theorem FRel_bel {f:Fr} {fr:Frame} (h1:FRel P g h f fr):belF h.length f=true:=by
 simp only [belF,Bool.and_eq_true];refine ⟨⟨⟨⟨VL_bel h1.t,DRs_bel h1.ds⟩,IR_bel h1.its⟩,?_⟩,?_⟩
 ·have:=h1.kind
  cases hk:f.kind <;> simp only [hk,KR,belK,decide_eq_true_eq] at this ⊢
  obtain ⟨_,b,_,⟨_,_,_,_,_,_,_,h3⟩,_⟩:=this;exact lt_of_get h3
 ·have:=h1.md
  cases hm:f.md <;> simp only [hm,MR,belMd] at this ⊢
  obtain ⟨u,_,h2⟩:=this;exact V_bel h2
theorem exit_sound {id:Nat}:∀ {k:List It} {k':List Item},IR P g h k k'→match exitA id k with | some (q,_)=>∃ q',exitTo id k'=some q'∧IR P g h q q' | none=>exitTo id k'=none
 | [],[],_=>rfl
 | [],_::_,h1=>by simp only [IR] at h1
 | it::k,[],h1=>by cases it <;> simp only [IR] at h1
 | it::k,im::k',h1=>by
  cases it <;> cases im <;> simp only [IR] at h1 <;> simp only [exitA,exitTo]
  ·exact exit_sound h1.2
  ·rename_i i m j;obtain ⟨rfl,h2⟩:=h1
   by_cases hij:i=id
   ·simp only [hij,if_true,beq_self_eq_true];exact ⟨k',rfl,h2⟩
   ·have:(i==id)=false:=by simp [hij]
    simp only [hij,if_false,this,Bool.false_eq_true];exact exit_sound h2
  ·exact exit_sound h1.2
  ·exact exit_sound h1.2
  ·exact exit_sound h1.2
  ·exact exit_sound h1.2
  ·exact exit_sound h1
theorem put_VL {t:List AV} {tmps:Array Value} (ht:VL g h t tmps.toList) {d:Option Nat} {a:AV} {v:Value} (ha:V g h a v):VL g h (setD t d a) (put' tmps d v).toList:=by
 cases d with
 | none=>exact ht
 | some d=>simp only [setD,put',Array.toList_setIfInBounds]; exact VL_set d ht ha
theorem wanted_sound {ops:Array Oper} {o:Oper} {ag:AG} (hc:cag P ops.toList o=some ag) {t:List AV} {tmps:Array Value} (ht:VL g h t tmps.toList) {b:Bool} (hw:wantedA t ag.guard=some b) :
  Region.wanted o (yielded ops tmps)=b∧cop P o=some ag.op∧ag.dst=o.dst:=by
 unfold cag at hc
 cases hg:cguard ops.toList o with
 | none=>simp [hg] at hc
 | some gd =>
  cases hcop:cop P o with
  | none=>simp [hg,hcop] at hc
  | some ao =>
   simp [hg,hcop] at hc;subst hc;refine ⟨?_,rfl,rfl⟩;simp only at hw;unfold cguard at hg;unfold Region.wanted
   split at hg
   ·rename_i hgn;simp only [Option.some.injEq] at hg;subst hg;simp only [wantedA,Option.some.injEq] at hw;rw [hgn];exact hw
   ·rename_i j bb hgn
    split at hg
    ·rename_i d hd;simp only [Option.some.injEq] at hg;subst hg;rw [hgn];simp only
     have hd':ops[j]?.bind (·.dst)=some d:=by simpa using hd
     have hv:=VL_get d ht;simp only [wantedA] at hw;unfold yielded;rw [hd'];simp only [Option.bind_some]
     split at hw
     ·rename_i x hx;rw [hx] at hv;simp only [Option.some.injEq] at hw;have hv2:=V_bool hv
      have hv3:tmps[d]? = some (.bool x):=by
       rw [List.getD_eq_getElem?_getD] at hv2
       cases hq:tmps.toList[d]? with
       | none=>rw [hq] at hv2; simp [undef] at hv2
       | some q=>rw [hq] at hv2; simp at hv2; subst hv2; simpa using hq
      rw [hv3];simp only;rw [← hw]
      cases x <;> cases bb <;> rfl
     ·rename_i hx;rw [hx] at hv;simp only [Option.some.injEq] at hw;subst hw;simp only [V,VL] at hv;obtain ⟨vs,hv2,rfl⟩:=hv
      have hv3:∀ x,tmps[d]? ≠ some (.bool x):=by
       intro x hx2;rw [List.getD_eq_getElem?_getD] at hv2
       have:tmps.toList[d]? = some (.bool x):=by simpa using hx2
       rw [this] at hv2;simp at hv2
      split
      ·rename_i x hx2; exact absurd hx2 (hv3 x)
      ·rfl
     ·simp at hw
    ·simp at hg
end
theorem F2_of {α β:Type} {R:α→β→Prop}:∀ {as:List α} {bs:List β},as.length=bs.length→(∀ (i:Nat) (a:α) (b:β),as[i]? = some a→bs[i]? = some b→R a b)→F2 R as bs
 | [],[],_,_=>.nil
 | a::as,b::bs,hl,hr=>.cons (hr 0 a b rfl rfl) (F2_of (by simpa using hl) fun i a b ha hb=>hr (i+1) a b (by simpa using ha) (by simpa using hb))
 | [],_::_,hl,_=>by simp at hl
 | _::_,[],hl,_=>by simp at hl
theorem mapM_get {α β:Type} {f:α→Option β}:∀ {l:List α} {r:List β},l.mapM f=some r→r.length=l.length∧∀ (i:Nat) (b:β),r[i]? = some b→∃ a,l[i]? = some a∧f a=some b
 | [],r,h=>by simp at h; subst h; simp
 | a::l,r,h=>by
  rw [List.mapM_cons] at h
  cases ha:f a with
  | none=>simp [ha] at h
  | some b =>
   cases hl:l.mapM f with
   | none=>simp [ha,hl] at h
   | some bs =>
    simp [ha,hl] at h;subst h;obtain ⟨h1,h2⟩:=mapM_get hl;refine ⟨by simp [h1],fun i c hc => ?_⟩
    cases i with
    | zero=>simp at hc; subst hc; exact ⟨a,rfl,ha⟩
    | succ i=>simpa using h2 i c (by simpa using hc)
theorem ops_all {P:Program} {ops:Array Oper} {gs:List AG} (h:ops.toList.mapM (cag P ops.toList)=some gs):OpsR P ops gs (List.range ops.size):=by
 obtain ⟨h1,h2⟩:=mapM_get h
 refine F2_of (by simp [h1]) fun i g j hg hj => ?_
 obtain ⟨o,ho,hc⟩:=h2 i g hg
 have hij:i=j:=by
  have h3:=List.getElem?_eq_some_iff.1 hj;obtain ⟨_,h3⟩:=h3;simpa using h3
 subst hij;exact ⟨o,by simpa using ho,hc⟩
structure St (P:Program) (Γ:Nat→Option AV) (N:Env) (g0:G) (f0:FuncId) (g:G) (h:List Ob) (w:World) (f:Fr) (up:List Fr) (tmps:Array Value) (todo:List Item) (ds:List Deferred) (kd:CallKind) (ro:Option Nat) (fs:List Frame):Prop where
 H:Inv P Γ N g h w
 M:∀ b o v,g0.M b o=some v→g.M b o=some v
 its:IR P g h f.its todo
 t:VL g h f.t tmps.toList
 ds:F2 (DR g h) f.ds ds
 kind:KR g h f.kind kd ro
 is:∃ fn,P.funcs[f.fn]? = some fn
 b:f.base≤h.length
 z:up=[]→f.fn=f0∧f.kind=.norm
 s:SR P g h f0 f.base up fs
section
variable {P : Program} {Γ : Nat → Option AV} {N : Env} {g0 : G} {f0 : FuncId} {cs0 : List Frame} {g : G} {h : List Ob} {w : World} {f : Fr} {up : List Fr} {tmps : Array Value} {todo : List Item} {ds : List Deferred} {kd : CallKind} {ro : Option Nat} {fs : List Frame}
theorem St.rel (S:St P Γ N g0 f0 g h w f up tmps todo ds kd ro fs) {md:FrameMode} (hm:MR g h f.md md):FRel P g h f (mkF f.fn tmps todo ds kd ro md):=⟨hm,rfl,S.its,S.t,S.ds,S.kind,S.is⟩
theorem St.sr (S:St P Γ N g0 f0 g h w f up tmps todo ds kd ro fs) {md:FrameMode} (hm:MR g h f.md md):SR P g h f0 h.length (f::up) (mkF f.fn tmps todo ds kd ro md::fs) :=
 ⟨_,_,rfl,S.rel hm,FRel_bel (S.rel hm),S.b,S.z,S.s⟩
theorem St.sim (S:St P Γ N g0 f0 g h w f up tmps todo ds kd ro fs) {md:FrameMode} (hm:MR g h f.md md):Sim P Γ N g0 f0 cs0 (.fr f up h) (lone (mkF f.fn tmps todo ds kd ro md) (fs++cs0) w) :=
 ⟨g,w,_,fs,rfl,S.H,S.M,S.sr hm⟩
theorem KR_bel {k:FK} {c:CallKind} {ro:Option Nat} (h1:KR g h k c ro):belK h.length k=true:=by
 cases k with
 | norm | dfr=>rfl
 | round l =>
  obtain ⟨_,b,_,⟨_,_,_,_,_,_,_,h3⟩,_⟩:=h1;simp only [belK,decide_eq_true_eq];exact lt_of_get h3
theorem St.mono (S:St P Γ N g0 f0 g h w f up tmps todo ds kd ro fs) {g':G} {h':List Ob} {w':World} (H':Inv P Γ N g' h' w') (x:Ext h.length g h g' h') (hl:h.length≤h'.length):St P Γ N g0 f0 g' h' w' f up tmps todo ds kd ro fs :=
 ⟨H',fun b o v hv=>x.M _ _ _ (S.M b o v hv),IR_mono x (IR_bel S.its) S.its,VL_mono x (VL_bel S.t) S.t,DRs_mono x (DRs_bel S.ds) S.ds,
  KR_mono x (KR_bel S.kind) S.kind,
  S.is,Nat.le_trans S.b hl,S.z,SR_mono (x.mono S.b) (Nat.le_refl _) S.s⟩
theorem Sim.inv {m:Machine} (h1:Sim P Γ N g0 f0 cs0 (.fr f up h) m):∃ g w tmps todo ds kd ro md fs,m=lone (mkF f.fn tmps todo ds kd ro md) (fs++cs0) w∧St P Γ N g0 f0 g h w f up tmps todo ds kd ro fs∧MR g h f.md md:=by
 obtain ⟨g,w,fr,fs,rfl,H,hM,fr',fs',heq,hr,hbl,hb,h0,hs⟩:=h1
 cases heq
 obtain ⟨fn,tmps,todo,ds,md,kd,ro⟩:=fr;obtain ⟨r1,r2,r3,r4,r5,r6,r7⟩:=hr;simp only at r1 r2 r3 r4 r5 r6 r7;subst r2;exact ⟨g,w,tmps,todo,ds,kd,ro,md,fs,rfl,⟨H,hM,r3,r4,r5,r6,r7,hb,h0,hs⟩,r1⟩
theorem loop_at (H:Inv P Γ N g h w) {l b sz:Nat} (hρ:g.ρ l=some (b,sz,0)) {st:LoopState} {j:Jump} {fn:FuncId} {t:List AV} {ps:List Nat} {p q:ACode} (hi:h[l]? = some (.loop st j fn t ps p q)) :
  ∃ L:Loop,w.heap[b]? = some (.loop L)∧L.state=st∧JR j L.pending∧L.fn=fn∧VL g h t L.tmps.toList∧L.params.toList=ps∧CR P L.assign p∧CR P L.body q∧(∃ F,P.funcs[fn]? = some F) ∧
   ∀ st' j' c',JR j' c'→Inv P Γ N g (h.set l (.loop st' j' fn t ps p q)) (w.putObj b (.loop { L with state:=st',pending:=c' }))∧Ext h.length g h g (h.set l (.loop st' j' fn t ps p q)):=by
 obtain ⟨L,h1,h2,h3,h4,h5,h6,h7,h8,h9⟩:=H.ob l _ hi b sz 0 hρ;refine ⟨L,h1,h2,h3,h4,h5,h6,h7,h8,h9,fun st' j' c' hj => ?_⟩;have hk:sameKind (.loop st j fn t ps p q) (.loop st' j' fn t ps p q):=⟨rfl,rfl,rfl,rfl,rfl⟩;have hE:=Ext.set_kind (g:=g) hi hk;refine ⟨Inv.setO H hi hρ hk ?_,hE⟩;intro b' sz' st'' hb';rw [hρ] at hb';simp only [Option.some.injEq,Prod.mk.injEq] at hb';obtain ⟨rfl,_⟩:=hb';exact ⟨_,setW_same _ (H.own l b _ hρ).2,rfl,hj,h4,VL_mono hE (VL_bel h5) h5,h6,h7,h8,h9⟩
theorem Inv.pushO (H:Inv P Γ N g h w) {o':Ob} {B:Obj} (hob:OV P (g.upd h.length (some (w.heap.size,0,0))) (h++[o']) (w.alloc B) h.length o') :
  Inv P Γ N (g.upd h.length (some (w.heap.size,0,0))) (h++[o']) (w.alloc B) :=
 H.push rfl rfl rfl (heap_old w B) (by simp) (by
  intro b' x hx;simp only [Option.some.injEq,Prod.mk.injEq] at hx;obtain ⟨rfl,_⟩:=hx
  simp) hob (by simp)
theorem push_loop (H:Inv P Γ N g h w) {fn:FuncId} {t:List AV} {tmps:Array Value} {ps:Array Tmp} {c d:Code} {p q:ACode} (k:Nat) (ht:VL g h t tmps.toList) (hp:CR P c p) (hq:CR P d q) (hf:∃ F,P.funcs[fn]? = some F) :
  ∃ g',Inv P Γ N g' (h++[.loop .ready .none fn t ps.toList p q]) (w.alloc (.loop { state:=.ready,pending:=none,fn,tmps,params:=ps,assign:=c,body:=d,defers:=k }))∧Ext h.length g h g' (h++[.loop .ready .none fn t ps.toList p q]) ∧
   LR g' (h++[.loop .ready .none fn t ps.toList p q]) h.length w.heap.size:=by
 have hE:=Ext.push (g:=g) (h:=h) [.loop .ready .none fn t ps.toList p q] (some (w.heap.size,0,0));refine ⟨_,H.pushO ?_,hE,⟨_,_,_,_,_,_,_,get_last _ _ _⟩,0,upd_same _ _ _⟩;intro b sz st hb;rw [upd_same] at hb;simp only [Option.some.injEq,Prod.mk.injEq] at hb;obtain ⟨rfl,_⟩:=hb;exact ⟨_,heap_new _ _,rfl,rfl,rfl,VL_mono hE (VL_bel ht) ht,rfl,hp,hq,hf⟩
theorem push_dfr (H:Inv P Γ N g h w) :
  ∃ g',Inv P Γ N g' (h++[.dfr true]) (w.alloc (.deferred (some [])))∧Ext h.length g h g' (h++[.dfr true])∧DR g' (h++[.dfr true]) (.mark h.length) { target:=.collected w.heap.size,args:=#[] }:=by
 have hE:=Ext.push (g:=g) (h:=h) [.dfr true] (some (w.heap.size,0,0));refine ⟨_,H.pushO ?_,hE,⟨_,get_last _ _ _⟩,_,_,upd_same _ _ _,rfl⟩;intro b sz st hb;rw [upd_same] at hb;simp only [Option.some.injEq,Prod.mk.injEq] at hb;obtain ⟨rfl,_⟩:=hb;exact heap_new _ _
theorem LR_V {l b:Nat} (h1:LR g h l b):V g h (.yld l) (.func (.yield b) #[] #[]):=by
 obtain ⟨h2,sz,h3⟩:=h1
 simp only [V]; exact ⟨h2,b,sz,h3,rfl⟩
def JT:Jump→List Item→Prop
 | .none,t=>t=[]
 | .ret,t=>∃ k,t=.code .ret::k
 | .exit id,t=>∃ k,t=.code (.exit id)::k∧exitTo id k=none
theorem back_sim {c:Fr} {v:AV} {u:Value} {fr:Frame} (H:Inv P Γ N g h w) (hM:∀ b o v,g0.M b o=some v→g.M b o=some v) (hv:V g h v u) (hs:SR P g h f0 h.length (c::up) (fr::fs)) :
  Sim P Γ N g0 f0 cs0 (.back (c::up) v h) (lone (fr.finish u) (fs++cs0) w):=⟨g,w,u,fr,fs,rfl,H,hM,hv,hs⟩
theorem leave_sound (S:St P Γ N g0 f0 g h w f up tmps todo ds kd ro fs) {j:Jump} (hj:JT j todo) :
  ∃ m',Steps P (lone (mkF f.fn tmps todo ds kd ro) (fs++cs0) w) m'∧Sim P Γ N g0 f0 cs0 (leave f up h j) m':=by
 have hk:=S.kind;obtain ⟨fmd,ffn,fits,ft,fds,fk,fb⟩:=f;unfold leave
 cases fk with
 | round l =>
  obtain ⟨rfl,b,rfl,hL⟩:=hk;obtain ⟨⟨st,pj,fn,t,ps,p,q,hi⟩,sz,hρ⟩:=hL;simp only [hi]
  cases up with
  | nil=>have:=(S.z rfl).2; cases this
  | cons c up =>
   have hs:=S.s;obtain ⟨fr,fs',rfl,h1,h2,h3,h4,h5⟩:=hs;obtain ⟨L,hL1,hL2,hL3,hL4,hL5,hL6,hL7,hL8,_,hset⟩:=loop_at S.H hρ hi
   obtain ⟨c',hc',hjc⟩:∃ c':Option Code,JR j c'∧((todo=[]∧c'=none)∨(∃ k,todo=.code .ret::k∧c'=some .ret)∨(∃ id k,todo=.code (.exit id)::k∧exitTo id k=none∧c'=some (.exit id))):=by
    cases j with
    | none=>exact ⟨none,rfl,Or.inl ⟨hj,rfl⟩⟩
    | ret=>obtain ⟨k,hk⟩:=hj; exact ⟨_,rfl,Or.inr (Or.inl ⟨k,hk,rfl⟩)⟩
    | exit id=>obtain ⟨k,hk,he⟩:=hj; exact ⟨_,rfl,Or.inr (Or.inr ⟨id,k,hk,he,rfl⟩)⟩
   have hjn:c'.isNone=decide (j=Jump.none):=by
    cases j <;> simp only [JR] at hc' <;> subst hc' <;> rfl
   obtain ⟨H',x⟩:=hset (if c'.isNone then .ready else .done) j c' hc';refine ⟨_,.one (st_leaveRound hjc (run_endRound c' hL1)),?_⟩;rw [show (if j=Jump.none then LoopState.ready else LoopState.done)=(if c'.isNone then .ready else .done) by rw [hjn]; simp,show (j==Jump.none)=c'.isNone by rw [hjn]; rfl];exact back_sim H' (fun b o v hv=>x.M _ _ _ (S.M b o v hv)) (by simp [V]) (SR_mono (x.mono S.b) (by rw [List.length_set]; exact S.b) S.s)
 | norm | dfr =>
  obtain ⟨_,rfl⟩:=hk
  cases j with
  | none =>
   cases hj
   exact ⟨_,.one st_end,St.sim (f:=⟨.ret,_,_,_,_,_,_⟩) ⟨S.H,S.M,S.its,S.t,S.ds,S.kind,S.is,S.b,S.z,S.s⟩ rfl⟩
  | ret =>
   obtain ⟨k,rfl⟩:=hj;exact ⟨_,.one st_ret,St.sim (f:=⟨.ret,_,_,_,_,_,_⟩) ⟨S.H,S.M,S.its,S.t,S.ds,S.kind,S.is,S.b,S.z,S.s⟩ rfl⟩
  | exit id=>exact ⟨_,.refl _ _,by trivial⟩
end
end Go.AM
