/- The abstract machine: append, copy, new slices. -/
import Derived.Test.YtihmomicdpkabaaGreatDoorAMa
import Derived.RangeFuncRecord
import Derived.RangeFuncNested
set_option linter.unusedSimpArgs false
set_option linter.unusedVariables false
namespace Go.AM
open Go.RowKit
def mO(e:TypeId)(size:Nat)(base:Option Addr)(sLen sCap n:Nat)(zeros:Bool)(s x:Value)(appended:Sem (Array Value)):Sem Value:=do
 let need:=sLen+n
 if need<=sCap then
  let new<-appended
  if let some a:=base then storeCells (a.add (sLen*size)) new.toList
  pure (.slice base need sCap)
 else
  if(need:Int)>IntKind.i64.max/\(zeros\/(<-typeInfo e).bytes=0)then runtimePanic (.error "growslice: len out of range")
  if Builtin.nextslicecap need sCap*(<-typeInfo e).bytes>2^48 then(if zeros then runtimePanic (.error "growslice: len out of range")else do
   if !(<-Builtin.mayShare size sLen n base x)then mark .noRoom
   unsupported (.resourceLimit "append: a slice or a string whose bytes no memory bears"))
  let newCap<-choose (.appendCap need sCap e)
  askRoom (newCap*(<-typeInfo e).bytes)
  let kS<-Builtin.firstCells size sLen s
  let new<-appended
  let rest:=Builtin.zeroCells (<-zeroValue e).cells (newCap-need)
  pure (.slice (some (<-newRow e (kS++new++rest))) need newCap)
section
variable{P:Program}{w:World}
theorem Dr{sT u ty e:TypeId}{k:Nat}(ht:P.underlying sT=some (.slice e))(hk:bu P e=some k){d:TypeDesc}(hu:P.underlying u=some d)(hd:∀j,d≠.int j){base:Option Addr}{sLen sCap n:Nat}{x:Value}
 (hn:(Builtin.lenOf x).run P w=.ok n w):
 (Builtin.append_ #[sT,u] ty #[.slice base sLen sCap,x]).run P w=(mO e k base sLen sCap n false (.slice base sLen sCap) x (Builtin.firstCells k n x)).run P w:=by
 unfold Builtin.append_;simp only[oi,pK,mB]
 cases d<;>first
  |exact absurd rfl (hd _)
  |(simp only[Sem.run_bind,run_underlying ht,Result.andThen_ok,iu hk,run_underlying hu,Sem.run_pure,eb,c9,hn,mO,vc,cq]
    rfl)
theorem Uy{sT u ty e:TypeId}{k B:Nat}(ht:P.underlying sT=some (.slice e))(hk:bu P e=some k)(hB:lu P e=some B){j:IntKind}(hu:P.underlying u=some (.int j)){base:Option Addr}{sLen sCap:Nat}
 {i:IntKind}{m:Int}(h0:0<=m)(hm:m<=2^47)(hmB:m*B<=2^48):
 (Builtin.append_ #[sT,u] ty #[.slice base sLen sCap,.int i m]).run P w=(mO e k base sLen sCap m.toNat true (.slice base sLen sCap) (.int i m)
  (if m.toNat*k=0 then pure #[]else do pure (Builtin.zeroCells (<-zeroValue e).cells m.toNat))).run P w:=by
 have hwr:IntKind.i64.wrap m=m:=IntWalk.i64_in _ (by omega)
 have hti:∃i,P.info? e=some i/\i.bytes=B:=by
  unfold lu at hB
  cases hi:P.info? e with
  |none=>simp[hi]at hB
  |some i=>simp[hi]at hB;exact⟨i,rfl,hB⟩
 obtain⟨ti,hti,hbt⟩:=hti
 have hty:(typeInfo e).run P w=.ok ti w:=by simp[typeInfo,hti]
 unfold Builtin.append_;simp only[oi,pK,mB];simp only[Sem.run_bind,run_underlying ht,Result.andThen_ok,iu hk,run_underlying hu,Sem.run_pure];simp only[cq,Sem.run_bind,asInt,asIntOf,Sem.run_pure,Result.andThen_ok,hwr];rw[if_neg (by omega)];simp only[Sem.run_bind,hty,Result.andThen_ok,hbt];rw[if_neg (by omega)];simp only[mO,pI,eb,c9];rfl
theorem JI{e:TypeId}{k sLen sCap n:Nat}{z:Bool}{s x:Value}{ap:Sem (Array Value)}{news:Array Value}(hap:ap.run P w=.ok news w){b p:Nat}{c:Array Value}{E:TypeId}{fz:Nat×Nat}
 (hb:w.heap[b]? =some (.cells c E fz))(hf:mj c fz)(hl:p+sLen*k+news.size<=c.size)(h1:∀v∈news.toList,v.oneCell'=true)(hn:sLen+n<=sCap):
 (mO e k (some ⟨b,p,none⟩) sLen sCap n z s x ap).run P w=.ok (.slice (some ⟨b,p,none⟩) (sLen+n) sCap) (w.setRow b (dX c.toList (p+sLen*k) news.toList).toArray):=by
 have h3:=zm P b (p+sLen*k) E fz news.toList 0 c w hb hf (by simpa using hl) h1;rw[gW]at h3;simp only[mO];rw[if_pos hn];simp only[Sem.run_bind,hap,Result.andThen_ok,kh,h3,Sem.run_pure];rfl
theorem UH{e:TypeId}{k sLen sCap:Nat}{z:Bool}{s x:Value}{base:Option Addr}{ap:Sem (Array Value)}(hap:ap.run P w=.ok #[] w)(hn:sLen<=sCap):
 (mO e k base sLen sCap 0 z s x ap).run P w=.ok (.slice base sLen sCap) w:=by
 simp only[mO,gW];rw[if_pos hn];simp only[Sem.run_bind,hap,Result.andThen_ok]
 cases base with
 |none=>simp
 |some a=>simp[storeCells]
theorem Uv{e:TypeId}{k B sLen sCap n:Nat}{z:Bool}{s x:Value}{base:Option Addr}{ap:Sem (Array Value)}{olds news:Array Value}{zv:Value}(hap:ap.run P w.drew=.ok news w.drew)(hB:lu P e=some B)(hB0:B≠0)
 (hzr:∀w,(zeroValue e).run P w=.ok zv w)(hn:sCap<sLen+n)(hnB:(sLen+n)*B<=2^47)(hold:(Builtin.firstCells k sLen s).run P w.drew=.ok olds w.drew):
 ∃cap,sLen+n<=cap/\(mO e k base sLen sCap n z s x ap).run P w=
  .ok (.slice (some ⟨w.heap.size,0,none⟩) (sLen+n) cap) (w.drew.alloc (.cells (olds++news++Builtin.zeroCells zv.cells (cap-(sLen+n))) e)):=by
 have hti:∃i,P.info? e=some i/\i.bytes=B:=by
  unfold lu at hB
  cases hi:P.info? e with
  |none=>simp[hi]at hB
  |some i=>simp[hi]at hB;exact⟨i,rfl,hB⟩
 obtain⟨ti,hti,hbt⟩:=hti
 have hty:∀w,(typeInfo e).run P w=.ok ti w:=fun w=>by simp[typeInfo,hti]
 have hnn:sLen+n<=2^47:=by
  have:(sLen+n)*1<=(sLen+n)*B:=Nat.mul_le_mul_left _ (by omega);omega
 refine⟨grownCap w (sLen+n) sCap e,?_,?_⟩
 ·simp[grownCap,Question.cut]
 ·have h1:¬(((sLen+n:Nat):Int)>IntKind.i64.max/\(z=true\/ti.bytes=0)):=by
   rw[IntKind.max_i64];rintro⟨h,_⟩;omega
  have h2:¬(Builtin.nextslicecap (sLen+n) sCap*ti.bytes>2^48):=by
   rw[hbt];have:=growslice_fits hn (bytes:=B) (by simpa using hnB);omega
  simp only[mO];rw[if_neg (by omega)];simp only[Sem.run_bind,hty,Result.andThen_ok];rw[if_neg h1];simp only[Sem.run_bind,hty,Result.andThen_ok];rw[if_neg h2];simp only[Sem.run_bind,run_choose,Question.forced,eb,c9,World.drew_eq,Result.andThen_ok,hty,run_askRoom,hold,hap,hzr,newRow,run_newObj,Sem.run_pure];rfl
end
section
variable{P:Program}{Γ:Nat->Option AV}{N:Env}{g:G}{h:List Ob}{w:World}{r:Operand->Value}{o:Oper}{t:List AV}
theorem D4{k:Nat}:∀{es:List AV}{vs:List Value},dM k es->VE g h es vs->∀v∈vs,v.oneCell'=true
 |[],vs,_,hv=>by simp only[VE]at hv;subst hv;simp
 |e::es,vs,hk,hv=>by
  simp only[VE]at hv;obtain⟨v,vs',h1,rfl,hr⟩:=hv;have he:=hk e (by simp);intro u hu
  rcases bl.1 hu with hu|hu
  ·exact Dp he.2 (oR (pV he.2) h1) u hu
  ·exact D4 (fun x hx=>hk x (by simp[hx])) hr u hu
theorem Inv.drew(H:Inv P Γ N g h w):Inv P Γ N g h w.drew:=H.world rfl rfl rfl rfl
theorem L6(H:Inv P Γ N g h w){a:AV}{base:Option Addr}{n cap k:Nat}(hv:V g h a (.slice base n cap)){es:List AV}(he:jP h a=some (k,es)):
 es.length=n/\∃olds:Array Value,(Builtin.firstCells k n (.slice base n cap)).run P w=.ok olds w/\VE g h es olds.toList:=by
 obtain⟨hK,ad,cap',vs,hs,h1,h2⟩:=vS H hv he;simp only[Value.slice.injEq]at hs;obtain⟨rfl,rfl,rfl⟩:=hs;refine⟨rfl,vs.toArray,?_,by simpa using h1⟩;have hl:=gY hK h1
 rcases h2 with rfl|⟨b,p,rfl,h3⟩
 ·simp only[VE]at h1;subst h1
  cases base with
  |none=>simp[run_firstCells_none]
  |some b=>exact run_firstCells_some w k 0 b 0 cap [] (by simp) (by simp)
 ·exact run_firstCells_some w k es.length ⟨b,p,none⟩ es.length cap vs hl (fun j v hj=>by rw[kh];exact h3 j v hj)
theorem zA(H:Inv P Γ N g h w){e:TypeId}{k B:Nat}(hk:0<k)(hB:lu P e=some B)(hB0:B≠0){zv:Value}(hzr:∀w,(zeroValue e).run P w=.ok zv w)(hzk:zv.cells.size=k)
 {z:Bool}{s x:Value}{ap:Sem (Array Value)}{news:Array Value}{ys:List AV}{fY:Bool}
 (hop:∀base sLen sCap,s=.slice base sLen sCap->(execOp r o).run P w=((mO e k base sLen sCap ys.length z s x ap).run P w).andThen fun v w=>.ok (.value v) w)
 (hap:∀w':World,w'.heap=w.heap->ap.run P w'=.ok news w')(hys:VE g h ys news.toList)(hyk:dM k ys)(hyf:fY=true->cg ys k=true)
 {a v:AV}{h':List Ob}{E:TypeId}(ha:V g h a s)(hA:gI h k E B a ys fY=.val v h'):aJ P Γ N r o w g h h' (some v):=by
 have hnl:news.size=ys.length*k:=by have:=gY hyk hys;simpa using this
 have hnone:=D4 hyk hys
 have hgrow:∀(base:Option Addr)(sLen sCap:Nat)(es:List AV)(olds:Array Value),s=.slice base sLen sCap->sCap<sLen+ys.length->(sLen+ys.length)*B<=2^47->
  (Builtin.firstCells k sLen s).run P w.drew=.ok olds w.drew->VE g h es olds.toList->dM k es->es.length=sLen->
  ∃cap rest,sLen+ys.length<=cap/\(execOp r o).run P w=.ok (.value (.slice (some ⟨w.heap.size,0,none⟩) (sLen+ys.length) cap)) (w.drew.alloc (.cells ((olds.toList++news.toList)++rest).toArray e))/\
   cap*k<=((olds.toList++news.toList)++rest).length:=by
  intro base sLen sCap es olds hs hlt hb hold hE hK hl;obtain⟨cap,hc,hrun⟩:=Uv (x:=x) (z:=z) (base:=base) (hap w.drew rfl) hB hB0 hzr hlt hb hold;have hol:=gY hK hE;refine⟨cap,(Builtin.zeroCells zv.cells (cap-(sLen+ys.length))).toList,hc,?_,?_⟩
  ·rw[hop base sLen sCap hs,hrun];simp only[Result.andThen_ok];congr 3;apply gV;simp
  ·have:(Builtin.zeroCells zv.cells (cap-(sLen+ys.length))).size=(cap-(sLen+ys.length))*k:=by simp[Builtin.zeroCells,hzk]
   simp only[bR,ve,this,hnl];simp at hol;rw[hol,hl,<-fC,<-fC];exact kX _ (by omega)
 have hsame:∀base sLen sCap,s=.slice base sLen sCap->sLen<=sCap->ys=[]->(execOp r o).run P w=.ok (.value s) w:=by
  intro base sLen sCap hs hle hy;subst hy
  have hn0:news=#[]:=by apply gV;simp only[VE]at hys;simpa using hys
  rw[hop base sLen sCap hs,dh,UH (by rw[hap w rfl,hn0]) hle,hs];rfl
 cases a<;>simp only[gI,reduceCtorEq]at hA
 case list f k' es=>
  cases f<;>simp only[reduceCtorEq]at hA
  split at hA
  ·rename_i hc;obtain⟨hcb,hkk⟩:=hc;have ha0:=ha;simp only[V]at ha0;obtain⟨hok,base,cap,hs,hcap,_,_⟩:=ha0;have hcap:=hcap trivial
   split at hA
   ·simp only[R.val.injEq]at hA;obtain⟨rfl,rfl⟩:=hA;exact aJ.same H (hsame base _ _ hs (by omega) rfl) ha
   ·rename_i y ys';simp only[R.val.injEq]at hA;obtain⟨rfl,rfl⟩:=hA
    have hK:dM k es:=by
     rcases hkk with rfl|rfl
     ·exact jM hok
     ·intro e he;simp at he
    have hokk:cg es k=true:=by
     rcases hkk with rfl|rfl
     ·exact hok
     ·rfl
    have hte:jP h (.list true k' es)=some (k',es):=rfl
    have hold:∃olds:Array Value,(Builtin.firstCells k es.length s).run P w.drew=.ok olds w.drew/\VE g h es olds.toList:=by
     rcases hkk with rfl|rfl
     ·rw[hs]at ha⊢;exact(L6 H.drew ha hte).2
     ·rw[hs];refine⟨#[],?_,by simp[VE]⟩
      cases base with
      |none=>simp[run_firstCells_none]
      |some b=>simpa using run_firstCells_some (P:=P) w.drew k 0 b 0 cap [] (by simp) (by simp)
    obtain⟨olds,hold,hEo⟩:=hold;obtain⟨cap',rest,h1,h2,h3⟩:=hgrow base es.length cap es olds hs (by simp;omega) hcb hold hEo hK rfl;have hVE:=oH hEo hys
    have hKK:dM k (es++y::ys'):=by
     intro e he
     rcases bl.1 he with he|he
     ·exact hK e he
     ·exact hyk e he
    refine aJ.make (w':=w.drew) H rfl rfl rfl rfl (sz:=((olds.toList++news.toList)++rest).length) h2 ?_ (by simp) ?_
    ·exact AP (P:=P) hk hKK (fun hf=>tg.2 ⟨hokk,hyf hf⟩) (cW _ _ _) (ld w.drew _) rfl (tV _) (fF (Ext.push _ _) (jU hVE) hVE)
    ·have:=Ah (h:=h) (g':=g.bG h.length (some (w.heap.size,((olds.toList++news.toList)++rest).length,0))) (k:=k) (E:=E) (es:=es++y::ys') (os:=[]) (fl:=fY) (sh:=false) (cW _ _ _) (cap:=cap') (by simpa using h1) h3;simpa using this
  ·simp at hA
 case sl i off n=>
  split at hA
  ·rename_i k' E' es gr fl sh hi
   split at hA
   ·rename_i hc;obtain⟨rfl,rfl,hok,hcb⟩:=hc;have hil:=aV hi;have ha0:=ha;simp only[V]at ha0;obtain⟨k2,E2,es2,gr2,fl2,sh2,hi2,hle,base,cap,hs,hcap,hbn,hq⟩:=ha0;rw[hi]at hi2;simp only[aj,Ob.row.injEq]at hi2;obtain⟨rfl,rfl,rfl,rfl,rfl,rfl⟩:=hi2;obtain⟨hlc,hq⟩:=hq hok;have hob:=H.ob i _ hi;simp only[OV]at hob;obtain⟨_,hK,hfl,hgl,hb⟩:=hob
    have hlo:gr.getD 0<=off:=by
     cases gr with
     |none=>simp
     |some lo=>simp only[cF,av,a_]at hok;simpa using hok.1
    split at hA
    ·rename_i hend;simp only[R.val.injEq]at hA;obtain⟨rfl,rfl⟩:=hA
     by_cases hy0:ys=[]
     ·subst hy0;simp only[fZ,List.isEmpty_nil,cq,dh,gW];have hset:h.set i (.row k' E' es gr (fl&&fY) sh)=h.set i (.row k' E' es gr (fl&&fY) sh):=rfl
      have hE:Ext h.length g h g (h.set i (.row k' E' es gr (fl&&fY) sh)):=by
       have:=Ext.oO (g:=g) (E':=E') (es':=es) (gr':=gr) (fl':=fl&&fY) (sh':=sh) (ρ':=g.ρ i) hi (aU _) (fun off' m _ h1=>⟨h1,rfl,fun _ h=>h⟩);rwa[cX]at this
      refine⟨g,w,_,hsame base n cap hs hcap rfl,?_,hE,_,rfl,fJ hE (kC ha) ha⟩
      have:=Inv.set (r:=g.ρ i) (w':=w) H hil (by rw[cX];exact hE) rfl rfl rfl (fun _ _ _=>rfl) (aU _) (fun b' y hy=>⟨Or.inl ⟨y,hy⟩,(H.own i b' y hy).2⟩)
       (fun b y o v _ hv=>H.mem b o v hv) (by
        intro b sz st o v hy hv;obtain⟨k3,E3,es3,gr3,fl3,h5,h6⟩:=H.ek i b sz st o v hy hv;rw[hi]at h5;simp only[aj,Ob.row.injEq]at h5;obtain⟨rfl,rfl,rfl,rfl,rfl,rfl⟩:=h5
        exact⟨_,_,_,_,_,rfl,h6⟩)
       (by
        rw[cX];have:=mN (w':=w) hE rfl (fun _ _ _=>rfl) (H.ob i _ hi);simp only[OV]at this⊢
        exact⟨this.1,this.2.1,fun hf=>this.2.2.1 (by simp only[av]at hf;exact hf.1),this.2.2.2⟩)
      rwa[cX]at this
     ·have hyl:0<ys.length:=qU.2 hy0
      have hemp:ys.isEmpty=false:=by cases ys<;>simp at hy0⊢
      rw[hemp];simp only[eb,c9]
      have hKK:dM k' (es++ys):=by
       intro e he
       rcases bl.1 he with he|he
       ·exact hK e he
       ·exact hyk e he
      have hflf:(fl&&fY)=true->cg (es++ys) k'=true:=fun hf=>by
       simp only[av]at hf;exact tg.2 ⟨hfl hf.1,hyf hf.2⟩
      by_cases hfit:n+ys.length<=cap
      ·
       rcases hq with⟨h0,h00⟩|⟨b,sz,st,hρ,hst,rfl,hcs⟩
       ·omega
       rw[hρ]at hb;simp only at hb;obtain⟨hst',c,Eb,fz,vs,hw,hsz,hfree,hVE,hcells⟩:=hb
       have hm:(off-st)*k'+n*k'+news.size<=c.size:=by
        rw[hnl,hsz,<-fC,<-fC];exact qO (kX _ (by omega)) hcs
       have hrun:=JI (e:=e) (k:=k') (sLen:=n) (sCap:=cap) (n:=ys.length) (z:=z) (s:=s) (x:=x) (hap w rfl) (p:=(off-st)*k') hw hfree hm hnone hfit
       have hE:Ext h.length g h g (h.set i (.row k' E' (es++ys) (some off) (fl&&fY) sh)):=by
        have:=Ext.oO (g:=g) (E':=E') (es':=es++ys) (gr':=some off) (fl':=fl&&fY) (sh':=sh) (ρ':=g.ρ i) hi (by simp) (by
         intro off' m hom h1;simp only[cF,av,lK,bR]at h1
         omega)
        rwa[cX]at this
       have hm2:(off-st)*k'+n*k'+news.toList.length<=c.toList.length:=by simpa using hm
       have hsl:=pU hm2;refine⟨g,_,_,by rw[hop _ _ _ hs,hrun];rfl,Inv.write H hil hρ hw hE ?_ ?_ ?_,hE,_,rfl,?_⟩
       ·intro o v hv;obtain⟨k3,E3,es3,gr3,fl3,h5,h6⟩:=H.ek i b sz st o v hρ hv;rw[hi]at h5;simp only[aj,Ob.row.injEq]at h5;obtain⟨rfl,rfl,rfl,rfl,rfl,rfl⟩:=h5
        have e1:(off-st)*k'+n*k'=(es.length-st)*k':=by rw[<-fC];congr 1;omega
        rw[oi,mJ hm2,if_pos (by omega)];simp
       ·intro sz' st' o v hy hv;obtain⟨k3,E3,es3,gr3,fl3,h5,h6⟩:=H.ek i b sz' st' o v hy hv;rw[hi]at h5;simp only[aj,Ob.row.injEq]at h5;obtain⟨rfl,rfl,rfl,rfl,rfl,rfl⟩:=h5;refine⟨_,_,_,_,_,rfl,gD h6 (kX _ (by simp;omega))⟩
       ·simp only[OV];refine⟨hk,hKK,hflf,by simp;omega,?_⟩;rw[hρ];simp only[jj]
        have hdrop:(es++ys).drop off=es.drop off++ys:=by rw[List.drop_append_of_le_length (by omega)]
        have hKd:dM k' (es.drop (gr.getD 0)):=fun x hx=>hK x (jh hx)
        have hV1:=t_ hKd hVE (off-gr.getD 0);rw[List.drop_drop,show gr.getD 0+(off-gr.getD 0)=off by omega]at hV1;have hV2:=oH hV1 hys;refine⟨hst,(dX c.toList ((off-st)*k'+n*k') news.toList).toArray,Eb,fz,vs.drop ((off-gr.getD 0)*k')++news.toList,setRow_heap w b c _ Eb fz hw,?_,tI hfree ?_,?_,?_⟩
        ·simp only[pJ];rw[hsl];simpa using hsz
        ·simp only[pJ];rw[hsl];simp
        ·rw[hdrop];exact fF hE (jU hV2) hV2
        ·intro j hj;have hvl:=gY hKd hVE
         have hvl2:vs.length=(es.length-gr.getD 0)*k':=by rw[hvl];simp
         have e2:vs.length-(off-gr.getD 0)*k'=n*k':=by
          rw[hvl2,<-Nat.sub_mul];congr 1;omega
         rw[oi,mJ hm2]
         by_cases hjn:j<n*k'
         ·rw[if_pos (by omega),C0 (by simp;omega),List.getElem_drop];have h5:=hcells ((off-gr.getD 0)*k'+j) (by omega);rw[<-h5]
          have e3:(gr.getD 0-st)*k'+(off-gr.getD 0)*k'=(off-st)*k':=by rw[<-fC];congr 1;omega
          rw[vf];congr 1;omega
         ·rw[if_neg (by omega)];simp only[bR,CX,e2]at hj;rw[if_pos (by omega),C1 (by simp;omega)];rw[bg (by omega)];congr 1;simp only[CX,e2];congr 1;omega
       ·simp only[V];refine⟨k',E',es++ys,some off,fl&&fY,sh,er hil,by simp;omega,_,cap,rfl,hfit,fun _=>⟨_,_,rfl⟩,fun _=>⟨by simp;omega,Or.inr ⟨b,sz,st,hρ,hst,rfl,hcs⟩⟩⟩
      ·
       have hte:jP h (.sl i off n)=some (k',(es.drop off).take n):=by simp only[jP,hi,hok,cq]
       have htl:(es.drop off).take n=es.drop off:=by rw[cS (by simp;omega)]
       rw[htl]at hte;rw[hs]at ha;obtain⟨hl5,olds,hold,hEo⟩:=L6 H.drew ha hte
       have hKd:dM k' (es.drop off):=fun x hx=>hK x (jh hx)
       obtain⟨cap',rest,h1,h2,h3⟩:=hgrow base n cap (es.drop off) olds hs (by omega) hcb (by rw[hs];exact hold) hEo hKd hl5;have hVE:=oH hEo hys
       have hE:Ext h.length g h (g.bG i (some (w.heap.size,((olds.toList++news.toList)++rest).length,off))) (h.set i (.row k' E' (es++ys) (some off) (fl&&fY) sh)):=
        Ext.oO hi (by simp) (by
         intro off' m hom h1;simp only[cF,av,lK,bR]at h1
         omega)
       refine⟨_,_,_,h2,Inv.set H hil hE rfl rfl rfl (fun b hb _=>by rw[wx _ _ _ (by simpa using hb)];rfl) (by simp) ?_ ?_ ?_ ?_,hE,_,rfl,?_⟩
       ·intro b x hx;simp only[aj,bL]at hx;obtain⟨rfl,_⟩:=hx;exact⟨Or.inr (aU _),by simp⟩
       ·intro b y o v hy hv;rw[tn (wx _ _ _ (by simpa using(H.own i b y hy).2))];exact H.mem b o v hv
       ·intro b sz st o v hx hv;simp only[aj,bL]at hx;obtain⟨rfl,_⟩:=hx;have:w.heap.size<w.heap.size:=u5 (H.mem _ o v hv);omega
       ·simp only[OV];refine⟨hk,hKK,hflf,by simp;omega,?_⟩;rw[cW];simp only[jj];refine⟨aU _,_,e,(0,0),olds.toList++news.toList,ld w.drew _,by simp,tV _,?_,?_⟩
        ·rw[List.drop_append_of_le_length (by omega)];exact fF hE (jU hVE) hVE
        ·intro j hj;rw[C2,u7,iM,oi,cR hj,bg hj]
       ·simp only[V]
        refine⟨k',E',es++ys,some off,fl&&fY,sh,er hil,by simp;omega,_,cap',rfl,h1,fun _=>⟨_,_,rfl⟩,
         fun _=>⟨by simp;omega,Or.inr ⟨w.heap.size,_,off,cW _ _ _,aU _,by simp,by simpa using h3⟩⟩⟩
    ·rename_i hend
     split at hA
     ·rename_i hc2;obtain⟨hfit2,rfl⟩:=hc2;simp only[R.val.injEq]at hA;obtain⟨rfl,rfl⟩:=hA
      rcases hq with⟨h0,h00⟩|⟨b,sz,st,hρ,hst,rfl,hcs⟩
      ·omega
      rw[hρ]at hb;simp only at hb;obtain⟨hst',c,Eb,fz,vs,hw,hsz,hfree,hVE,hcells⟩:=hb
      have hfit:n+ys.length<=cap:=by omega
      have hm:(off-st)*k'+n*k'+news.size<=c.size:=by
       rw[hnl,hsz,<-fC,<-fC];exact qO (kX _ (by omega)) hcs
      have hrun:=JI (e:=e) (k:=k') (sLen:=n) (sCap:=cap) (n:=ys.length) (z:=z) (s:=s) (x:=x) (hap w rfl) (p:=(off-st)*k') hw hfree hm hnone hfit
      have hnewlen:(es.take (off+n)++ys++es.drop (off+n+ys.length)).length=es.length:=by simp;omega
      have hgrn:gr=none:=by
       cases gr with
       |none=>rfl
       |some lo=>simp only[cF,av,lK]at hok;omega
      subst hgrn;simp only[sK,Nat.zero_sub,u7,iM,iq,Nat.le_zero_eq]at*;subst hst'
      have hE:Ext h.length g h g (h.set i (.row k' E' (es.take (off+n)++ys++es.drop (off+n+ys.length)) none (fl&&fY) false)):=by
       have:=Ext.oO (g:=g) (E':=E') (es':=es.take (off+n)++ys++es.drop (off+n+ys.length)) (gr':=none) (fl':=fl&&fY) (sh':=false) (ρ':=g.ρ i) hi (by omega) (by
        intro off' m hom h1
        refine⟨by simpa[cF]using hom,hnewlen,fun _ h=>h⟩)
       rwa[cX]at this
      have hm2:(off-0)*k'+n*k'+news.toList.length<=c.toList.length:=by simpa using hm
      have hsl:=pU hm2
      have hnoM:∀o v,g.M b o=some v->False:=by
       intro o v hv;obtain⟨_,_,_,_,_,h5,_⟩:=H.ek i b sz 0 o v hρ hv;rw[hi]at h5;simp at h5
      have hKn:dM k' (es.take (off+n)++ys++es.drop (off+n+ys.length)):=by
       intro e he;simp only[bl]at he
       rcases he with(he|he)|he
       ·exact hK e (j5 he)
       ·exact hyk e he
       ·exact hK e (jh he)
      refine⟨g,_,_,by rw[hop _ _ _ hs,hrun];rfl,Inv.write H hil hρ hw hE (fun o v hv=>(hnoM o v hv).elim) (fun sz' st' o v _ hv=>(hnoM o v hv).elim) ?_,hE,_,rfl,?_⟩
      ·simp only[OV];refine⟨hk,hKn,?_,by simp,?_⟩
       ·intro hf;simp only[av]at hf;rw[tg,tg];exact⟨⟨oD (hfl hf.1) (fun e he=>j5 he),hyf hf.2⟩,oD (hfl hf.1) (fun e he=>jh he)⟩
       ·rw[hρ];simp only[sK,Nat.zero_sub,u7,iM,iq];have hV2:=oH (oH (wL hK hVE (off+n)) hys) (t_ hK hVE (off+n+ys.length));have hvl:=gY hK hVE;refine⟨aU _,(dX c.toList ((off-0)*k'+n*k') news.toList).toArray,Eb,fz,_,setRow_heap w b c _ Eb fz hw,?_,tI hfree ?_,fF hE (jU hV2) hV2,?_⟩
        ·simp only[pJ];rw[hsl];simpa using hsz
        ·simp only[pJ];rw[hsl];simp
        ·intro j hj
         have e1:(off+n)*k'=(off-0)*k'+n*k':=by rw[fC];simp
         have e2:(off+n+ys.length)*k'=(off-0)*k'+n*k'+news.toList.length:=by rw[fC,e1];simp[hnl]
         have hvm:(off-0)*k'+n*k'+news.toList.length<=vs.length:=by
          rw[<-e2,hvl];exact kX _ (by omega)
         have hsp:vs.take ((off+n)*k')++news.toList++vs.drop ((off+n+ys.length)*k')=dX vs ((off-0)*k'+n*k') news.toList:=by
          rw[e1,e2];rfl
         have hj2:=mJ hvm j
         have hj3:j<vs.length:=by
          have:j<(dX vs ((off-0)*k'+n*k') news.toList).length:=by rw[<-hsp];exact hj
          rwa[pU hvm]at this
         rw[oi,mJ hm2,<-bg hj,hsp,hj2]
         by_cases h7:j<(off-0)*k'+n*k'
         ·rw[if_pos h7,if_pos h7,bg hj3,<-hcells j hj3];simp
         ·rw[if_neg h7,if_neg h7]
          by_cases h8:j<(off-0)*k'+n*k'+news.toList.length
          ·rw[if_pos h8,if_pos h8]
          ·rw[if_neg h8,if_neg h8,bg hj3,<-hcells j hj3];simp
      ·simp only[V];refine⟨k',E',_,none,fl&&fY,false,er hil,by omega,_,cap,rfl,hfit,fun _=>⟨_,_,rfl⟩,fun _=>⟨by omega,Or.inr ⟨b,sz,0,hρ,hst,rfl,hcs⟩⟩⟩
     ·simp at hA
   ·simp at hA
  ·simp at hA
end
section
variable{P:Program}{Γ:Nat->Option AV}{N:Env}{g:G}{h:List Ob}{w:World}{r:Operand->Value}{o:Oper}{t:List AV}
theorem J'{x y:Operand}{sT u:TypeId}(ho:o.op=.call ⟨.builtin .append,#[x,y],#[sT,u]⟩):
 (execOp r o).run P w=((Builtin.append_ #[sT,u] o.type #[r x,r y]).run P w).andThen fun v w=>.ok (.value v) w:=by
 simp[execOp,ho,resolve,invoke,builtin]
theorem acg(b:UInt8):V g h (eT b) (.int .u8 b.toNat):=by simp[eT,V]
theorem Ap:∀s:List UInt8,VE g h (s.map eT) (s.map fun b=>Value.int .u8 b.toNat)
 |[]=>by simp[VE]
 |b::s=>by
  simp only[b9,VE];exact⟨_,s.map fun b=>Value.int .u8 b.toNat,acg b,rfl,Ap s⟩
theorem vN:∀s:List UInt8,cg (s.map eT) 1=true
 |[]=>rfl
 |b::s=>by simp[cg,eT,AV.cells,bV,AV.one,aK,aG,vN s]
theorem tw{zv:Value}{k:Nat}(h1:(fP zv).cells.length=k):zv.cells.size=k:=by
 have:=fD (DY (⟨fun _=>none,fun _ _=>none,fun _=>none⟩:G) [] zv);simp at this;omega
theorem tB{t:TypeId}{z:AV}(h:dL P t=some z):∃v,(∀w,(zeroValue t).run P w=.ok v w)/\z=fP v:=by
 unfold dL at h
 cases hi:P.info? t with
 |none=>simp[hi]at h
 |some i=>
  cases hz:i.zero with
  |none=>simp[hi,hz]at h
  |some v=>simp[hi,hz]at h;exact⟨v,fun w=>by simp[zeroValue,typeInfo,hi,hz],h.symm⟩
theorem EO(H:Inv P Γ N g h w){x y:Operand}{sT u e:TypeId}(ho:o.op=.call ⟨.builtin .append,#[x,y],#[sT,u]⟩)(ht:P.underlying sT=some (.slice e)){k B:Nat}(hk:bu P e=some k)(hk0:0<k)
 (hB:lu P e=some B)(hB0:B≠0){z:AV}(hz:dL P e=some z)(hzk:z.cells.length=k){d:TypeDesc}(hu:P.underlying u=some d)(hd:∀j,d≠.int j)
 {a b v:AV}{h':List Ob}(hx:V g h a (r x))(hy:V g h b (r y)){E:TypeId}
 (hA:(∃f k' es,b=.list f k' es/\(k'=k\/es=[])/\gI h k E B a es true=.val v h')\/
  (∃i q n es E' es' gr fl sh,b=.sl i q n/\jP h b=some (k,es)/\h[i]? =some (.row k E' es' gr fl sh)/\gI h k E B a es fl=.val v h')\/
  (∃s:List UInt8,b=.str s/\k=1/\gI h 1 E B a (s.map eT) true=.val v h')):aJ P Γ N r o w g h h' (some v):=by
 obtain⟨zv,hzr,rfl⟩:=tB hz;have hzk':=tw hzk;have hex:=J' (P:=P) (w:=w) (r:=r) ho
 rcases hA with⟨f,k',es,rfl,hkk,hA⟩|⟨i,q,n,es,E',es',gr,fl,sh,rfl,hte,hi,hA⟩|⟨s,rfl,rfl,hA⟩
 ·have hok:cg es k=true:=by
   have hy0:=hy;simp only[V]at hy0
   rcases hkk with rfl|rfl
   ·exact hy0.1
   ·rfl
  have hte:jP h (.list f k' es)=some (k',es):=rfl;have hy0:=hy;simp only[V]at hy0;obtain⟨_,ad,cap,hs,_,_,_⟩:=hy0
  have hnews:∃news:Array Value,VE g h es news.toList/\∀w':World,w'.heap=w.heap->(Builtin.firstCells k es.length (r y)).run P w'=.ok news w':=by
   rcases hkk with rfl|rfl
   ·obtain⟨hK,ad2,cap2,vs,hs2,h1,h2⟩:=vS H hy hte;refine⟨vs.toArray,by simpa using h1,fun w' hw'=>?_⟩;rw[hs2];have hl:=gY hK h1
    rcases h2 with rfl|⟨b,p,rfl,h3⟩
    ·simp only[VE]at h1;subst h1
     cases ad2 with
     |none=>simp[run_firstCells_none]
     |some b=>simpa using run_firstCells_some (P:=P) w' k' 0 b 0 cap2 [] (by simp) (by simp)
    ·exact run_firstCells_some w' k' es.length ⟨b,p,none⟩ es.length cap2 vs hl (fun j v hj=>by rw[kh];have:=h3 j v hj;simpa only [World.cell?,hw']using this)
   ·refine⟨#[],by simp[VE],fun w' _=>?_⟩;rw[hs]
    cases ad with
    |none=>simp[run_firstCells_none]
    |some b=>simpa using run_firstCells_some (P:=P) w' k 0 b 0 cap [] (by simp) (by simp)
  obtain⟨news,hE,hap⟩:=hnews;refine zA H hk0 hB hB0 hzr hzk' (z:=false) (x:=r y) ?_ hap hE (jM hok) (fun _=>hok) hx hA;intro base sLen sCap hsx;rw[hex,hsx,Dr ht hk hu hd (n:=es.length) (by rw[hs];simp[Builtin.lenOf])]
 ·obtain⟨hK,ad2,cap2,vs,hs2,h1,h2⟩:=vS H hy hte;have hob:=H.ob i _ hi;simp only[OV]at hob;obtain⟨_,hK',hfl,_⟩:=hob
  have hsub:∀e∈es,e∈es':=by
   simp only[jP,hi]at hte
   split at hte
   ·simp only[aj,bL,u_]at hte;subst hte
    exact fun e he=>jh (j5 he)
   ·simp at hte
  have hl:=gY hK h1;refine zA H hk0 hB hB0 hzr hzk' (z:=false) (x:=r y) (news:=vs.toArray) (ap:=Builtin.firstCells k es.length (r y)) ?_ ?_ (by simpa using h1) hK (fun hf=>oD (hfl hf) hsub) hx hA
  ·intro base sLen sCap hsx;rw[hex,hsx,Dr ht hk hu hd (n:=es.length) (by rw[hs2];simp[Builtin.lenOf])]
  ·intro w' hw';rw[hs2]
   rcases h2 with rfl|⟨b,p,rfl,h3⟩
   ·simp only[VE]at h1;subst h1
    cases ad2 with
    |none=>simp[run_firstCells_none]
    |some b=>simpa using run_firstCells_some (P:=P) w' k 0 b 0 cap2 [] (by simp) (by simp)
   ·exact run_firstCells_some w' k es.length ⟨b,p,none⟩ es.length cap2 vs hl (fun j v hj=>by rw[kh];have:=h3 j v hj;simpa only [World.cell?,hw']using this)
 ·rw[iW hy]at hex
  refine zA H hk0 hB hB0 hzr hzk' (z:=false) (x:=.string ⟨s.toArray⟩) (news:=(s.map fun b=>Value.int .u8 b.toNat).toArray) (ap:=Builtin.firstCells 1 (s.map eT).length (.string ⟨s.toArray⟩)) ?_ ?_
   (by simpa using Ap s) (jM (vN s)) (fun _=>vN s) hx hA
  ·intro base sLen sCap hsx;rw[hex,hsx,Dr ht hk hu hd (n:=(s.map eT).length) (by simp[Builtin.lenOf,tO])]
  ·intro w' _;simp only[Builtin.firstCells,il,J5,List.take_length,iq,Sem.run_pure];congr 1;apply gV;simp
theorem tt{zc:Array Value}{k:Nat}(hk:zc.size=k):∀n:Nat,((Array.range (n*k)).map fun i=>zc[i%k]!).toList=(List.replicate n zc.toList).flatten
 |0=>by simp
 |n+1=>by
  have ih:=tt hk n;simp only[Array.toList_map,Array.toList_range]at ih⊢;rw[List.replicate_succ',List.flatten_append,<-ih,fC,Nat.one_mul,List.range_add,kZ,ij];congr 1;simp only[List.flatten_cons,List.flatten_nil,fZ];apply List.ext_getElem
  ·simp[hk]
  ·intro i h1 h2;simp only[il,xT]at h1;simp only[List.getElem_map,List.getElem_range,Function.comp_apply,Array.getElem_toList];rw[xS,Nat.add_mul_mod_self_right,Nat.mod_eq_of_lt h1,getElem!_pos _ _ (by omega)]
theorem Xo(H:Inv P Γ N g h w){x y:Operand}{sT u e:TypeId}(ho:o.op=.call ⟨.builtin .append,#[x,y],#[sT,u]⟩)(ht:P.underlying sT=some (.slice e)){k B:Nat}(hk:bu P e=some k)(hk0:0<k)
 (hB:lu P e=some B)(hB0:B≠0){z:AV}(hz:dL P e=some z)(hzk:z.cells.length=k)(hz1:bV z.cells=true)(hzb:aK 0 z.cells=true){j:IntKind}(hu:P.underlying u=some (.int j))
 {a v:AV}{h':List Ob}(hx:V g h a (r x)){i:IntKind}{m:Int}(hy:r y=.int i m)(h0:0<=m)(hm:m<=2^47)(hmB:m*B<=2^48){E:TypeId}
 (hA:gI h k E B a (List.replicate m.toNat z) true=.val v h'):aJ P Γ N r o w g h h' (some v):=by
 obtain⟨zv,hzr,rfl⟩:=tB hz;have hzk':=tw hzk;have hex:=J' (P:=P) (w:=w) (r:=r) ho;have hVE:=th (mP g h zv) m.toNat;have hok:=sZ hzk hz1 hzb m.toNat
 refine zA H hk0 hB hB0 hzr hzk' (z:=true) (x:=.int i m) (news:=(List.replicate m.toNat zv.cells.toList).flatten.toArray)
  (ap:=if m.toNat*k=0 then pure #[]else do pure (Builtin.zeroCells (<-zeroValue e).cells m.toNat)) ?_ ?_ (by simpa using hVE) (jM hok) (fun _=>hok) hx hA
 ·intro base sLen sCap hsx;rw[hex,hsx,hy,Uy ht hk hB hu h0 hm hmB,oj]
 ·intro w' _
  by_cases hmk:m.toNat*k=0
  ·rw[if_pos hmk]
   have:m.toNat=0:=by
    rcases Ja.1 hmk with h1|h1
    ·exact h1
    ·omega
   simp[this]
  ·rw[if_neg hmk];simp only[Sem.run_bind,hzr,Result.andThen_ok,Sem.run_pure];congr 1;apply gV;have:=tt hzk' m.toNat;simpa[Builtin.zeroCells,hzk']using this
theorem ZL(H:Inv P Γ N g h w){x:Operand}{sT e:TypeId}(ho:o.op=.call ⟨.builtin .clear,#[x],#[sT]⟩)(ht:P.underlying sT=some (.slice e)){k:Nat}(hk:bu P e=some k)(hk0:0<k)
 {z:AV}(hz:dL P e=some z)(hzk:z.cells.length=k)(hz1:bV z.cells=true)(hzb:aK 0 z.cells=true){i off n:Nat}(hx:V g h (.sl i off n) (r x)){E:TypeId}{es:List AV}{fl:Bool}
 (hi:h[i]? =some (.row k E es none fl false))(hle:off+n<=es.length):aJ P Γ N r o w g h (h.set i (.row k E (es.take off++List.replicate n z++es.drop (off+n)) none fl false)) (some (.aH [])):=by
 obtain⟨zv,hzr,rfl⟩:=tB hz;have hzk':=tw hzk;have hys:=th (mP g h zv) n;have hyok:=sZ hzk hz1 hzb n;have hyk:=jM hyok;have hil:=aV hi;have hx0:=hx;simp only[V]at hx0;obtain⟨k2,E2,es2,gr2,fl2,sh2,hi2,hle2,base,cap,hs,hcap,hbn,hq⟩:=hx0;rw[hi]at hi2;simp only[aj,Ob.row.injEq]at hi2;obtain⟨rfl,rfl,rfl,rfl,rfl,rfl⟩:=hi2;obtain⟨hlc,hq⟩:=hq (by simpa[cF]using hle);have hob:=H.ob i _ hi;simp only[OV]at hob;obtain⟨_,hK,hfl,hgl,hb⟩:=hob
 have hnewlen:(es.take off++List.replicate n (fP zv)++es.drop (off+n)).length=es.length:=by simp;omega
 have hE:Ext h.length g h g (h.set i (.row k E (es.take off++List.replicate n (fP zv)++es.drop (off+n)) none fl false)):=by
  have:=Ext.oO (g:=g) (E':=E) (es':=es.take off++List.replicate n (fP zv)++es.drop (off+n)) (gr':=none) (fl':=fl) (sh':=false) (ρ':=g.ρ i) hi (by omega) (by
   intro off' m hom h1
   refine⟨by simpa[cF]using hom,hnewlen,fun _ h=>h⟩)
  rwa[cX]at this
 have hKn:dM k (es.take off++List.replicate n (fP zv)++es.drop (off+n)):=by
  intro e he;simp only[bl]at he
  rcases he with(he|he)|he
  ·exact hK e (j5 he)
  ·exact hyk e he
  ·exact hK e (jh he)
 have hfln:fl=true->cg (es.take off++List.replicate n (fP zv)++es.drop (off+n)) k=true:=by
  intro hf;rw[tg,tg];exact⟨⟨oD (hfl hf) (fun e he=>j5 he),hyok⟩,oD (hfl hf) (fun e he=>jh he)⟩
 have hex:∀base cap,r x=.slice base n cap->(execOp r o).run P w=((Builtin.clear_ #[sT] o.type #[r x]).run P w).andThen fun v w=>.ok (.value v) w:=by
  intro base cap _;simp only[execOp,ho,resolve,invoke,builtin,Sem.run_bind,Sem.run_pure,Result.andThen_ok,List.map_toArray,b9,mC]
 rcases hq with⟨h0,h00⟩|⟨b,sz,st,hρ,hst,rfl,hcs⟩
 ·subst h0
  have hsame:h.set i (.row k E (es.take off++List.replicate 0 (fP zv)++es.drop (off+0)) none fl false)=h:=by
   apply ji;intro m
   by_cases hm:i=m
   ·subst hm;rw[er hil,hi];simp
   ·rw[dB hm]
  rw[hsame];refine aJ.same H (u:=.tuple #[]) ?_ (by simp only[V,VL];exact⟨[],rfl,rfl⟩);rw[hex _ _ hs,hs];simp[Builtin.clear_,run_underlying ht]
  cases base<;>simp
 ·by_cases hn0:n=0
  ·subst hn0
   have hsame:h.set i (.row k E (es.take off++List.replicate 0 (fP zv)++es.drop (off+0)) none fl false)=h:=by
    apply ji;intro m
    by_cases hm:i=m
    ·subst hm;rw[er hil,hi];simp
    ·rw[dB hm]
   rw[hsame];refine aJ.same H (u:=.tuple #[]) ?_ (by simp only[V,VL];exact⟨[],rfl,rfl⟩);rw[hex _ _ hs,hs];simp[Builtin.clear_,run_underlying ht]
  ·rw[hρ]at hb;simp only at hb;obtain⟨hst',c,Eb,fz,vs,hw,hsz,hfree,hVE,hcells⟩:=hb;simp only[sK,Nat.zero_sub,u7,iM,iq,Nat.le_zero_eq]at*;subst hst'
   have hnl:(List.replicate n zv.cells.toList).flatten.length=n*k:=by
    have:=gY hyk hys;simpa using this
   have hm:off*k+(List.replicate n zv.cells.toList).flatten.length<=c.size:=by
    rw[hnl,hsz,<-fC]
    have h1:(off+cap)*k<=sz:=by simpa using hcs
    exact qO (kX _ (by omega)) h1
   have h3:=zm P b ((off-0)*k) Eb fz (List.replicate n zv.cells.toList).flatten 0 c w hw hfree (by simpa using hm) (D4 hyk hys)
   have hzl:(Builtin.zeroCells zv.cells n).toList=(List.replicate n zv.cells.toList).flatten:=by
    have:=tt hzk' n;simpa[Builtin.zeroCells,hzk']using this
   have hrun:(execOp r o).run P w=.ok (.value (.tuple #[])) (w.setRow b (dX c.toList (off*k) (List.replicate n zv.cells.toList).flatten).toArray):=by
    rw[hex _ _ hs,hs];have hn1:∃m,n=m+1:=⟨n-1,by omega⟩;obtain⟨m,rfl⟩:=hn1;rw[gW]at h3;simp only[Builtin.clear_,oi,pK,Sem.run_bind,run_underlying ht,Result.andThen_ok,hzr,hzl,h3,Sem.run_pure];simp[dX]
   have hm2:off*k+(List.replicate n zv.cells.toList).flatten.length<=c.toList.length:=by simpa using hm
   have hsl:=pU hm2
   have hnoM:∀o v,g.M b o=some v->False:=by
    intro o v hv;obtain⟨_,_,_,_,_,h5,_⟩:=H.ek i b sz 0 o v hρ hv;rw[hi]at h5;simp at h5
   refine⟨g,_,_,hrun,Inv.write H hil hρ hw hE (fun o v hv=>(hnoM o v hv).elim) (fun sz' st' o v _ hv=>(hnoM o v hv).elim) ?_,hE,_,rfl,by simp only[V,VL];exact⟨[],rfl,rfl⟩⟩;simp only[OV];refine⟨hk0,hKn,hfln,by simp,?_⟩;rw[hρ];simp only[sK,Nat.zero_sub,u7,iM,iq];have hV2:=oH (oH (wL hK hVE off) hys) (t_ hK hVE (off+n));have hvl:=gY hK hVE;refine⟨aU _,(dX c.toList (off*k) (List.replicate n zv.cells.toList).flatten).toArray,Eb,fz,_,setRow_heap w b c _ Eb fz hw,?_,tI hfree ?_,fF hE (jU hV2) hV2,?_⟩
   ·simp only[pJ];rw[hsl];simpa using hsz
   ·simp only[pJ];rw[hsl];simp
   ·intro j hj
    have e2:(off+n)*k=off*k+(List.replicate n zv.cells.toList).flatten.length:=by rw[fC,hnl]
    have hvm:off*k+(List.replicate n zv.cells.toList).flatten.length<=vs.length:=by
     rw[<-e2,hvl];exact kX _ (by omega)
    have hsp:vs.take (off*k)++(List.replicate n zv.cells.toList).flatten++vs.drop ((off+n)*k)=dX vs (off*k) (List.replicate n zv.cells.toList).flatten:=by
     rw[e2];rfl
    have hj2:=mJ hvm j
    have hj3:j<vs.length:=by
     have:j<(dX vs (off*k) (List.replicate n zv.cells.toList).flatten).length:=by rw[<-hsp];exact hj
     rwa[pU hvm]at this
    rw[oi,mJ hm2,<-bg hj,hsp,hj2]
    by_cases h7:j<off*k
    ·rw[if_pos h7,if_pos h7,bg hj3,<-hcells j hj3];simp
    ·rw[if_neg h7,if_neg h7]
     by_cases h8:j<off*k+(List.replicate n zv.cells.toList).flatten.length
     ·rw[if_pos h8,if_pos h8]
     ·rw[if_neg h8,if_neg h8,bg hj3,<-hcells j hj3];simp
theorem X0(H:Inv P Γ N g h w){x y:Operand}{ty e:TypeId}(ho:o.op=.makeSlice ty x y)(ht:P.underlying ty=some (.slice e)){k B:Nat}(hk:bu P e=some k)(hk0:0<k)
 (hB:lu P e=some B){z:AV}(hz:dL P e=some z)(hzk:z.cells.length=k)(hz1:bV z.cells=true)(hzb:aK 0 z.cells=true){i j:IntKind}{n:Int}
 (hx:r x=.int i n)(hy:r y=.int j n)(h0:0<=n)(hn:n<=2^47)(hnB:n*B<=2^47)(E:TypeId):
 aJ P Γ N r o w g h (h++[.row k E (List.replicate n.toNat z) none true false]) (some (.sl h.length 0 n.toNat)):=by
 obtain⟨zv,hzr,rfl⟩:=tB hz;have hzk':=tw hzk
 have hti:∃i,P.info? e=some i/\i.bytes=B:=by
  unfold lu at hB
  cases hi:P.info? e with
  |none=>simp[hi]at hB
  |some i=>simp[hi]at hB;exact⟨i,rfl,hB⟩
 obtain⟨ti,hti,hbt⟩:=hti
 have hty:∀w,(typeInfo e).run P w=.ok ti w:=fun w=>by simp[typeInfo,hti]
 have hwr:IntKind.i64.wrap n=n:=IntWalk.i64_in _ (by omega);have hok:=sZ hzk hz1 hzb n.toNat;have hVE:=th (mP g h zv) n.toNat;have hzl:=tt hzk' n.toNat
 have hBn:(ti.bytes:Int)*n<=2^47:=by rw[hbt,Int.mul_comm];exact hnB
 have hrun:(Instr.makeSlice ty (r x) (r y)).run P w=.ok (.slice (some ⟨w.heap.size,0,none⟩) n.toNat n.toNat) (w.alloc (.cells ((List.replicate n.toNat zv.cells.toList).flatten++[]).toArray e)):=by
  simp only[Instr.makeSlice,Sem.run_bind,run_underlying ht,Result.andThen_ok,hx,hy,asInt,asIntOf,Sem.run_pure,hty,hwr]
  have h1:(decide (n<0)||decide ((ti.bytes:Int)*n>2^48))=false:=by
   simp only[jK,iO];omega
  have h2:(decide (n<0)||decide ((ti.bytes:Int)*n>2^48)||decide (n<0)||decide (n>n))=false:=by
   rw[h1];simp;omega
  rw[if_neg (by rw[h2];simp)];simp only[Sem.run_bind,run_askRoom,Result.andThen_ok,iu hk]
  by_cases hmk:n.toNat*k=0
  ·have hn0:n.toNat=0:=by
    rcases Ja.1 hmk with h1|h1
    ·exact h1
    ·omega
   rw[if_pos hmk]
   have e0:Array.map (fun _:Nat=>(default:Value)) (Array.range 0)=#[]:=by apply gV;simp
   simp[newRow,hn0,e0]
  ·rw[if_neg hmk];simp only[Sem.run_bind,hzr,Result.andThen_ok,newRow,run_newObj,Sem.run_pure,hzk'];congr 4;apply gV;rw[hzl];simp
 have hsz:((List.replicate n.toNat zv.cells.toList).flatten++[]).length=n.toNat*k:=by simp[hzk']
 refine aJ.make (w':=w) H rfl rfl rfl rfl (sz:=n.toNat*k) (by simp only[execOp,ho];rw[Sem.run_bind,hrun];rfl) ?_ (by simp) ?_
 ·exact AP (P:=P) hk0 (jM hok) (fun _=>hok) (cW _ _ _) (ld w _) hsz.symm (tV _) (fF (Ext.push _ _) (jU hVE) hVE)
 ·have:=Ah (h:=h) (g':=g.bG h.length (some (w.heap.size,n.toNat*k,0))) (k:=k) (E:=E) (es:=List.replicate n.toNat (fP zv)) (os:=[]) (fl:=true) (sh:=false) (cW _ _ _) (cap:=n.toNat) (by simp) (aU _);simpa using this
theorem W_(w:World)(c:Array Value)(E:TypeId):(w.alloc (.cells c E)).freeze ⟨w.heap.size,c.size,none⟩ 1=w.alloc (.cells c E (c.size,c.size+1)):=by
 simp only[World.freeze,World.alloc];simp only[Nat.one_ne_zero,c9];congr 1;apply Array.ext
 ·simp
 ·intro i h1 h2;simp only[Array.getElem_modify,Array.getElem_push];simp at h2
  by_cases hi:i<w.heap.size
  ·have:¬w.heap.size=i:=by omega
   simp[hi,this]
  ·have:i=w.heap.size:=by omega
   subst this;simp
theorem Xh(H:Inv P Γ N g h w){s d e:TypeId}{x:Operand}(ho:o.op=.convert s d x)(hs:P.underlying s=some .string)(hd:P.underlying d=some (.slice e))(he:P.underlying e=some (.int .u8))
 {l:List UInt8}(hx:r x=.string ⟨l.toArray⟩)(E:TypeId):aJ P Γ N r o w g h (h++[.row 1 E (l.map eT) none true false]) (some (.sl h.length 0 l.length)):=by
 have hcap:∃cap,l.length<=cap/\(Question.appendCap l.length 0 e).cut (w.tape w.drawn (.appendCap l.length 0 e))=cap:=⟨_,by simp[Question.cut],rfl⟩;obtain⟨cap,hcap,hcut⟩:=hcap
 have hrun:(convert s d (r x)).run P w=.ok (.slice (some ⟨w.heap.size,0,none⟩) l.length cap)
  (w.drew.alloc (.cells ((l.map fun b:UInt8=>Value.int .u8 b.toNat)++List.replicate (cap-l.length) (Value.int .u8 0)).toArray e (cap,cap+1))):=by
  have hsize:((l.map fun b:UInt8=>Value.int .u8 b.toNat)++List.replicate (cap-l.length) (Value.int .u8 0)).toArray.size=cap:=by simp;omega
  have hshape:(w.drew.alloc (.cells ((l.map fun b:UInt8=>Value.int .u8 b.toNat)++List.replicate (cap-l.length) (Value.int .u8 0)).toArray e)).shape? w.heap.size=some (e,cap):=by
   have:=ld w.drew (.cells ((l.map fun b:UInt8=>Value.int .u8 b.toNat)++List.replicate (cap-l.length) (Value.int .u8 0)).toArray e);simp only[World.shape?];rw[show w.heap.size=w.drew.heap.size from rfl,this];simp only[hsize]
  have hfr:=W_ w.drew ((l.map fun b:UInt8=>Value.int .u8 b.toNat)++List.replicate (cap-l.length) (Value.int .u8 0)).toArray e;rw[hsize]at hfr;simp only[convert,Sem.run_bind,run_underlying hs,run_underlying hd,Result.andThen_ok,hx,run_underlying he];simp only[Conv.stringToBytes,Sem.run_bind,run_choose,Question.forced,eb,c9,tO,hcut,Result.andThen_ok,newRow,run_newObj,Sem.run_pure,World.drew_eq,World.alloc_eq]
  have harr:(Array.map (fun b:UInt8=>Value.int .u8 b.toNat) l.toArray++Array.replicate (cap-l.length) (Value.int .u8 0))=((l.map fun b:UInt8=>Value.int .u8 b.toNat)++List.replicate (cap-l.length) (Value.int .u8 0)).toArray:=by
   apply gV;simp
  rw[harr];simp only[markStringish,Sem.run_bind,run_shape,World.size_drew,hshape,Result.andThen_ok,run_freeze];rw[show(⟨w.heap.size,cap,none⟩:Addr)=⟨w.drew.heap.size,cap,none⟩from rfl,hfr]
 refine aJ.make (w':=w.drew) H rfl rfl rfl rfl (sz:=cap) (by simp only[execOp,ho];rw[Sem.run_bind,hrun];rfl) ?_ (by simp) ?_
 ·exact AP (P:=P) (Nat.zero_lt_one) (jM (vN l)) (fun _=>vN l) (cW _ _ _) (ld w.drew _) (by simp;omega) (Or.inr (by simp;omega)) (fF (Ext.push _ _) (jU (Ap (g:=g) l)) (Ap l))
 ·have:=Ah (h:=h) (g':=g.bG h.length (some (w.heap.size,cap,0))) (k:=1) (E:=E) (es:=l.map eT) (os:=[]) (fl:=true) (sh:=false) (cW _ _ _) (cap:=cap) (by simpa using hcap) (by simp);simpa using this
end
def sameKind:Ob->Ob->Prop
 |.cells _,.cells _=>True
 |.map _ _,.map _ _=>True
 |.gK _ _,.gK _ _=>True
 |.loop _ _ fn t ps a b,.loop _ _ fn' t' ps' a' b'=>fn=fn'/\t=t'/\ps=ps'/\a=a'/\b=b'
 |.bx _,.bx _=>True
 |_,_=>False
def jE(w:World)(b:Nat)(o:Obj):World:={w with heap:=w.heap.setIfInBounds b o}
theorem Ze(w:World)(b:Nat)(o:Obj):(jE w b o).heap.size=w.heap.size:=by simp[jE]
theorem wb{w:World}{b:Nat}(o:Obj)(h:b<w.heap.size):(jE w b o).heap[b]? =some o:=by simp[jE,h]
theorem XB(w:World){b b':Nat}(o:Obj)(h:b'≠b):(jE w b o).heap[b']? =w.heap[b']? :=by
 simp only[jE];rw[sL];rw[if_neg (by omega)]
section
variable{P:Program}{Γ:Nat->Option AV}{N:Env}{g:G}{h:List Ob}{w:World}{r:Operand->Value}{o:Oper}{t:List AV}
theorem Ext.tS{i:Nat}{o o':Ob}(hi:h[i]? =some o)(hk:sameKind o o'):Ext h.length g h g (h.set i o'):=by
 have hil:=aV hi;have hs:=er (l:=h) (i:=i) (a:=o') hil
 have ho:∀{j x},j≠i->h[j]? =some x->(h.set i o')[j]? =some x:=fun{j x} hj hx=>by rw[dB (by omega)];exact hx
 refine⟨fun _ _ _ x=>x,fun _ _ x=>x,?_,?_,?_,?_,?_,?_⟩
 ·intro j us _ hj
  by_cases hji:j=i
  ·subst hji
   rw[hi]at hj;cases hj
   cases o'<;>simp only[sameKind]at hk
   exact⟨⟨_,hs⟩,fun _ x=>x⟩
  ·exact⟨⟨us,ho hji hj⟩,fun _ x=>x⟩
 ·intro j es fl _ hj
  by_cases hji:j=i
  ·subst hji
   rw[hi]at hj;cases hj
   cases o'<;>simp only[sameKind]at hk
   exact⟨⟨_,_,hs⟩,fun _ x=>x⟩
  ·exact⟨⟨_,_,ho hji hj⟩,fun _ x=>x⟩
 ·intro j s p _ hj
  by_cases hji:j=i
  ·subst hji
   rw[hi]at hj;cases hj
   cases o'<;>simp only[sameKind]at hk
   exact⟨⟨_,_,hs⟩,fun _ x=>x⟩
  ·exact⟨⟨_,_,ho hji hj⟩,fun _ x=>x⟩
 ·intro j st q fn t ps a b _ hj
  by_cases hji:j=i
  ·subst hji
   rw[hi]at hj;cases hj
   cases o'<;>simp only[sameKind]at hk
   obtain⟨rfl,rfl,rfl,rfl,rfl⟩:=hk;exact⟨⟨_,_,hs⟩,fun _ x=>x⟩
  ·exact⟨⟨_,_,ho hji hj⟩,fun _ x=>x⟩
 ·intro j l _ hj
  by_cases hji:j=i
  ·subst hji
   rw[hi]at hj;cases hj
   cases o'<;>simp only[sameKind]at hk
   exact⟨⟨_,hs⟩,fun _ x=>x⟩
  ·exact⟨⟨_,ho hji hj⟩,fun _ x=>x⟩
 ·intro j k E es gr fl sh _ hj
  have hji:j≠i:=by
   rintro rfl;rw[hi]at hj;cases hj
   cases o'<;>simp only[sameKind]at hk
  exact⟨_,_,_,_,_,ho hji hj,aU _,fun _ _ _ hk=>⟨hk,rfl,fun _ x=>x⟩⟩
theorem Inv.xf{i b:Nat}{x:Nat×Nat}{o o':Ob}{B:Obj}(H:Inv P Γ N g h w)(hi:h[i]? =some o)(hρ:g.ρ i=some (b,x))(hk:sameKind o o')(hob:OV P g (h.set i o') (jE w b B) i o'):
 Inv P Γ N g (h.set i o') (jE w b B):=by
 have hlt:b<w.heap.size:=(H.own i b x hρ).2;have hE:=Ext.tS (g:=g) hi hk
 have hnoM:∀o v,g.M b o=some v->False:=by
  intro q v hv;obtain⟨sz,st⟩:=x;obtain⟨_,_,_,_,_,h5,_⟩:=H.ek i b sz st q v hρ hv;rw[hi]at h5
  cases h5
  simp only[sameKind]at hk
 have:=Inv.set (r:=g.ρ i) (w':=jE w b B) H (aV hi) (by rw[cX];exact hE) rfl rfl rfl (fun b' _ hne=>XB w B (fun e=>hne x (by rw[e];exact hρ))) (by simp[jE])
  (fun b' y hy=>⟨Or.inl ⟨y,hy⟩,by rw[Ze];exact(H.own i b' y hy).2⟩) (by
   intro b' y q v hy hv;rw[hρ]at hy;simp only[aj,bL]at hy;obtain⟨rfl,_⟩:=hy
   exact(hnoM q v hv).elim)
  (by
   intro b' sz st q v hy hv;rw[hρ]at hy
   have hbb:b'=b:=by simp only[aj,bL]at hy;exact hy.1.symm
   subst hbb
   exact(hnoM q v hv).elim)
  (by rw[cX];exact hob)
 rwa[cX]at this
theorem v7{b:Nat}{B:Obj}(h:w.heap[b]? =some B)(hc:∀c e f,B≠.cells c e f):(getObj b).run P w=.ok B w:=by
 simp only[getObj,Sem.run,h]
theorem vW{b:Nat}{B B':Obj}(h:w.heap[b]? =some B)(hc:∀c e f,B≠.cells c e f):(setObj b B').run P w=.ok () (jE w b B'):=by
 simp only[setObj,Sem.run,h]
 cases B<;>first|rfl|exact absurd rfl (hc _ _ _)
theorem acw(H:Inv P Γ N g h w){x:Operand}(ho:o.op=.next x true){i:Nat}(hx:V g h (.it i) (r x)){s:List UInt8}{pos:Nat}(hi:h[i]? =some (.gK s pos)):
 (pos<s.length->aJ P Γ N r o w g h (h.set i (.gK s (pos+(Utf8.decode ⟨s.toArray⟩ pos).2))) (some (.aH [.bool true,.int .i64 pos,.int .i32 (Utf8.decode ⟨s.toArray⟩ pos).1])))/\
 (¬pos<s.length->aJ P Γ N r o w g h h (some (.aH [.bool false]))):=by
 simp only[V]at hx;obtain⟨_,b,sz,hρ,hrx⟩:=hx;have hb:w.heap[b]? =some (.stringIter ⟨s.toArray⟩ pos):=H.ob i _ hi b sz 0 hρ;have hg:=v7 (P:=P) hb (by simp);constructor
 ·intro hlt;have hk:sameKind (.gK s pos) (.gK s (pos+(Utf8.decode ⟨s.toArray⟩ pos).2)):=trivial;refine⟨g,jE w b (.stringIter ⟨s.toArray⟩ (pos+(Utf8.decode ⟨s.toArray⟩ pos).2)),.value (.tuple #[.bool true,goInt pos,.int .i32 (Utf8.decode ⟨s.toArray⟩ pos).1]),?_,Inv.xf H hi hρ hk ?_,Ext.tS hi hk,.tuple #[.bool true,goInt pos,.int .i32 (Utf8.decode ⟨s.toArray⟩ pos).1],rfl,?_⟩
  ·have hst:=vW (P:=P) (B':=.stringIter ⟨s.toArray⟩ (pos+(Utf8.decode ⟨s.toArray⟩ pos).2)) hb (by simp);simp[execOp,ho,hrx,Instr.next,hg,tO,hlt,hst]
  ·intro b' sz' st' hb';rw[hρ]at hb';simp only[aj,bL]at hb';obtain⟨rfl,_⟩:=hb';exact wb _ (H.own i b _ hρ).2
  ·simp only[V,VL];exact⟨[.bool true,goInt pos,.int .i32 (Utf8.decode ⟨s.toArray⟩ pos).1],rfl,_,_,rfl,rfl,_,_,rfl,rfl,_,_,rfl,rfl,rfl⟩
 ·intro hlt;refine aJ.same H (u:=.tuple #[.bool false]) ?_ (by simp only[V,VL];exact⟨[.bool false],rfl,_,_,rfl,rfl,rfl⟩);simp[execOp,ho,hrx,Instr.next,hg,tO,hlt]
theorem L3{s:SK}{a b:AV}(h1:eI s a b=some true){x y:Value}(hx:V g h a x)(hy:V g h b y):x=y/\∀n,Instr.sameBits n x y=true:=by
 cases s<;>cases a<;>cases b<;>simp only[eI,reduceCtorEq,aj]at h1
 ·split at h1
  ·rename_i hk;subst hk;simp only[aj,lK]at h1;subst h1;rw[dS hx,dS hy];exact⟨rfl,fun n=>by cases n<;>simp[Instr.sameBits]⟩
  ·simp at h1
 ·simp only[lK]at h1;subst h1;rw[iW hx,iW hy];exact⟨rfl,fun n=>by cases n<;>simp[Instr.sameBits,K_]⟩
 ·simp only[lK]at h1;subst h1;rw[lj hx,lj hy];exact⟨rfl,fun n=>by cases n<;>simp[Instr.sameBits]⟩
theorem Lz:∀{ss:List SK}{as bs:List AV}{xs ys:List Value},gn ss as bs=some true->VL g h as xs->VL g h bs ys->xs=ys/\∀n,(xs.zip ys).all (fun(x,y)=>Instr.sameBits n x y)=true
 |[],[],[],xs,ys,_,hx,hy=>by simp only[VL]at hx hy;subst hx;subst hy;exact⟨rfl,fun _=>rfl⟩
 |[],_::_,_,_,_,h1,_,_=>by simp[gn]at h1
 |[],[],_::_,_,_,h1,_,_=>by simp[gn]at h1
 |_::_,[],_,_,_,h1,_,_=>by simp[gn]at h1
 |_::_,_::_,[],_,_,h1,_,_=>by simp[gn]at h1
 |s::ss,a::as,b::bs,xs,ys,h1,hx,hy=>by
  simp only[VL]at hx hy;obtain⟨x,xs',rfl,hx1,hx2⟩:=hx;obtain⟨y,ys',rfl,hy1,hy2⟩:=hy;simp only[gn]at h1
  split at h1
  ·rename_i he;obtain⟨rfl,h2⟩:=L3 he hx1 hy1;obtain⟨rfl,h3⟩:=Lz h1 hx2 hy2;exact⟨rfl,fun n=>by simp[h2];simpa using h3 n⟩
  ·simp at h1
  ·simp at h1
theorem XS{P:Program}{ty:TypeId}{e:EK}(hk:iv P ty=some e){a b:AV}(h1:b_ e a b=some true){x y:Value}(hx:V g h a x)(hy:V g h b y):x=y/\Instr.sameBits 10000 x y=true:=by
 unfold iv at hk
 split at hk
 ·simp only[aj]at hk;subst hk;obtain⟨h2,h3⟩:=L3 h1 hx hy;exact⟨h2,h3 _⟩
 ·simp only[bS]at hk;obtain⟨ss,_,rfl⟩:=hk
  cases a<;>cases b<;>simp only[b_,reduceCtorEq]at h1
  split at h1
  ·simp only[V]at hx hy;obtain⟨xs,rfl,hx⟩:=hx;obtain⟨ys,rfl,hy⟩:=hy;obtain⟨rfl,h2⟩:=Lz h1 hx hy;refine⟨rfl,?_⟩;have:=h2 9999
   show((xs.toArray.size==xs.toArray.size)&&(xs.toArray.toList.zip xs.toArray.toList).all fun(x,y)=>Instr.sameBits 9999 x y)=true
   simpa using this
  ·simp at h1
theorem Kh{e:EK}{k:AV}:∀{es:List (AV×AV)}{i:Nat},findAt e k es=some (some i)->∃x,es[i]? =some x/\b_ e k x.1=some true
 |[],i,h1=>by simp[findAt]at h1
 |(a,v)::es,i,h1=>by
  simp only[findAt]at h1
  split at h1
  ·rename_i he;simp only[aj]at h1;subst h1;exact⟨(a,v),rfl,he⟩
  ·simp only[bS]at h1;obtain⟨p,hp,h2⟩:=h1;obtain⟨j,rfl,rfl⟩:=h2;obtain⟨x,h3,h4⟩:=Kh hp;exact⟨x,by simpa using h3,h4⟩
  ·simp at h1
theorem DF:∀{as:List AV}{vs:List Value}(i:Nat),VL g h as vs->VL g h (as.eraseIdx i) (vs.eraseIdx i)
 |[],vs,i,hv=>by simp only[VL]at hv;subst hv;simp[VL]
 |a::as,vs,i,hv=>by
  simp only[VL]at hv;obtain⟨v,vs',rfl,h1,h2⟩:=hv
  cases i with
  |zero=>simpa using h2
  |succ i=>simp only[List.eraseIdx_cons_succ,VL];exact⟨v,_,rfl,h1,DF i h2⟩
theorem vI{α β:Type}(f:α->β):∀(l:List α)(i:Nat),(l.eraseIdx i).map f=(l.map f).eraseIdx i
 |[],i=>by simp
 |a::l,0=>by simp
 |a::l,i+1=>by simp[vI f l i]
theorem wE{n:Nat}:∀{l:List AV},aK n l=true↔∀a∈l,aG n a=true
 |[]=>by simp[aK]
 |a::l=>by simp[aK,wE (l:=l)]
theorem adb(H:Inv P Γ N g h w){ty kt et:TypeId}{m k x:Operand}(ho:o.op=.mapUpdate ty m k x\/o.op=.insert ty m k x)(hu:P.underlying ty=some (.map kt et)){e:EK}(hk:iv P kt=some e)
 {j:Nat}(hm:V g h (.mp j) (r m)){es es':List (AV×AV)}{fl:Bool}(hj:h[j]? =some (.map es fl)){a b:AV}(ha:V g h a (r k))(hkey:isKey e a=true)(hb:V g h b (r x))(hp:h_ e a b es=some es'):
 aJ P Γ N r o w g h (h.set j (.map es' (fl&&aG 0 b))) none:=by
 simp only[V]at hm;obtain⟨_,bk,sz,hρ,hrm⟩:=hm;obtain⟨hfl,hob⟩:=H.ob j _ hj;obtain⟨ba,ck,hw,hks,hvs⟩:=hob bk sz 0 hρ;have hkk:sameKind (.map es fl) (.map es' (fl&&aG 0 b)):=trivial;have hE:=Ext.tS (g:=g) hj hkk;obtain⟨p,hp1,hp2⟩:=MA hp;have hf:=run_findKey hk ha hks hp1 w;have hck:=run_checkKey hk hkey ha false w;have hg:=v7 (P:=P) hw (by simp);have hlen:=D6 hks;have hbk:=(H.own j bk _ hρ).2
 have hfl':(fl&&aG 0 b)=true->aK 0 (es'.map (·.2))=true:=by
  intro h1;simp only[av]at h1;have h2:=wE.1 (hfl h1.1);rw[wE];intro y hy
  cases p with
  |none=>
   simp only at hp2;subst hp2;simp only[kZ,b9,mC,bl,dC]at hy
   rcases hy with hy|rfl
   ·exact h2 y hy
   ·exact h1.2
  |some i=>
   obtain⟨_,rfl⟩:=hp2;rw[pL]at hy
   rcases oh hy with hy|rfl
   ·exact h2 y hy
   ·exact h1.2
 have hdone:∀(ents':Array MapEntry)(ck':Nat),VL g h (es'.map (·.1)) (ents'.toList.map (·.key))->VL g h (es'.map (·.2)) (ents'.toList.map (·.val))->
  (Instr.mapUpdate ty (r m) (r k) (r x)).run P w=.ok () (jE w bk (.map ents' ck'))->aJ P Γ N r o w g h (h.set j (.map es' (fl&&aG 0 b))) none:=by
  intro ents' ck' h1 h2 hrun;refine⟨g,jE w bk (.map ents' ck'),_,?_,Inv.xf H hj hρ hkk ⟨hfl',?_⟩,hE,rfl⟩
  ·rcases ho with ho|ho<;>simp[execOp,ho,hrun]
  ·intro b' sz' st' hb';rw[hρ]at hb';simp only[aj,bL]at hb';obtain⟨rfl,_⟩:=hb';exact⟨ents',ck',wb _ hbk,cw hE (dk h1) h1,cw hE (dk h2) h2⟩
 cases p with
 |none=>
  simp only at hp2;subst hp2;refine hdone (ba.push {key:=r k,val:=r x,born:=ck}) (ck+1) ?_ ?_ ?_
  ·simp only[kZ,b9,mC,Array.toList_push];exact kf hks (by simp only[VL];exact⟨_,_,rfl,ha,rfl⟩)
  ·simp only[kZ,b9,mC,Array.toList_push];exact kf hvs (by simp only[VL];exact⟨_,_,rfl,hb,rfl⟩)
  ·simp only[Option.bind_none]at hf;have hs:=vW (P:=P) (B':=.map (ba.push {key:=r k,val:=r x,born:=ck}) (ck+1)) hw (by simp);simp[Instr.mapUpdate,run_underlying hu,hrm,hg,hck,hf,hs]
 |some i=>
  obtain⟨hil,rfl⟩:=hp2;obtain⟨y,hy1,hy2⟩:=Kh hp1
  have hile:i<ba.size:=by have:ba.toList.length=es.length:=hlen;simp at this;omega
  have hge:ba[i]? =some ba[i]:=jk hile;obtain⟨q,hq1,hq2⟩:=qa (i:=i) (a:=y.1) hks (by simp[hy1]);simp only[vd,vf,hge,dt,aj]at hq1;subst hq1;obtain⟨hkq,hsb⟩:=XS hk hy2 ha hq2;rw[<-hkq]at hsb;refine hdone (ba.modify i fun e=>{e with key:=r k,val:=r x}) ck ?_ ?_ ?_
  ·have:(ba.modify i fun e=>{e with key:=r k,val:=r x}).toList.map (·.key)=(ba.toList.map (·.key)).set i (r k):=by
    rw[Array.toList_modify];apply ji;intro n;simp only[vd,xU,nj,il,ve]
    by_cases hn:i=n
    ·subst hn;simp[hile]
    ·simp[hn]
   rw[this,pL];exact oV i hks ha
  ·have:(ba.modify i fun e=>{e with key:=r k,val:=r x}).toList.map (·.val)=(ba.toList.map (·.val)).set i (r x):=by
    rw[Array.toList_modify];apply ji;intro n;simp only[vd,xU,nj,il,ve]
    by_cases hn:i=n
    ·subst hn;simp[hile]
    ·simp[hn]
   rw[this,pL];exact oV i hvs hb
  ·have hs:=vW (P:=P) (B':=.map (ba.modify i fun e=>{e with key:=r k,val:=r x}) ck) hw (by simp);simp only[j6,vf,hge,dt]at hf
   have hkt:(Instr.keyThatStays ba[i].key (r k)).run P w=.ok (r k) w:=by
    unfold Instr.keyThatStays;rw[<-hkq,hsb];simp
   simp[Instr.mapUpdate,run_underlying hu,hrm,hg,hck,hf,hge,hkt,hs]
theorem Yj(H:Inv P Γ N g h w){mt u kt et:TypeId}{m k:Operand}(ho:o.op=.call ⟨.builtin .delete,#[m,k],#[mt,u]⟩)(hu:P.underlying mt=some (.map kt et)){e:EK}(hk:iv P kt=some e)
 {j:Nat}(hm:V g h (.mp j) (r m)){es es':List (AV×AV)}{fl:Bool}(hj:h[j]? =some (.map es fl)){a:AV}(ha:V g h a (r k))(hkey:isKey e a=true)(hp:ma e a es=some es'):
 aJ P Γ N r o w g h (h.set j (.map es' fl)) (some (.aH [])):=by
 simp only[V]at hm;obtain⟨_,bk,sz,hρ,hrm⟩:=hm;obtain⟨hfl,hob⟩:=H.ob j _ hj;obtain⟨ba,ck,hw,hks,hvs⟩:=hob bk sz 0 hρ;have hkk:sameKind (.map es fl) (.map es' fl):=trivial;have hE:=Ext.tS (g:=g) hj hkk;obtain⟨p,hp1,hp2⟩:=M8 hp;have hf:=run_findKey hk ha hks hp1 w
 have hck:=fun em=>run_checkKey hk hkey ha em w
 have hg:=v7 (P:=P) hw (by simp);have hlen:=D6 hks;have hbk:=(H.own j bk _ hρ).2
 have hdone:∀(ents':Array MapEntry),(∀e∈es',e∈es)->VL g h (es'.map (·.1)) (ents'.toList.map (·.key))->VL g h (es'.map (·.2)) (ents'.toList.map (·.val))->
  (Builtin.delete_ #[mt,u] o.type #[r m,r k]).run P w=.ok (.tuple #[]) (jE w bk (.map ents' ck))->aJ P Γ N r o w g h (h.set j (.map es' fl)) (some (.aH [])):=by
  intro ents' hsub h1 h2 hrun;refine⟨g,jE w bk (.map ents' ck),_,?_,Inv.xf H hj hρ hkk ⟨?_,?_⟩,hE,_,rfl,by simp only[V,VL];exact⟨[],rfl,rfl⟩⟩
  ·simp only[execOp,ho,resolve,invoke,builtin,Sem.run_bind,Sem.run_pure,Result.andThen_ok,List.map_toArray,b9,mC,hrun]
  ·intro hf';have h3:=wE.1 (hfl hf');rw[wE];intro y hy;obtain⟨q,hq,rfl⟩:=cC.1 hy;exact h3 _ (cC.2 ⟨q,hsub q hq,rfl⟩)
  ·intro b' sz' st' hb';rw[hρ]at hb';simp only[aj,bL]at hb';obtain⟨rfl,_⟩:=hb';exact⟨ents',ck,wb _ hbk,cw hE (dk h1) h1,cw hE (dk h2) h2⟩
 cases p with
 |none=>
  simp only at hp2;subst hp2;have hs:=vW (P:=P) (B':=.map ba ck) hw (by simp);refine hdone ba (fun _ h=>h) hks hvs ?_;simp only[Option.bind_none]at hf;simp[Builtin.delete_,run_underlying hu,hrm,hg,hck,hf,hs]
 |some i=>
  obtain⟨hil,rfl⟩:=hp2
  have hile:i<ba.size:=by have:ba.toList.length=es.length:=hlen;simp at this;omega
  have hge:ba[i]? =some ba[i]:=jk hile;have hs:=vW (P:=P) (B':=.map (ba.eraseIdxIfInBounds i) ck) hw (by simp)
  have hel:(ba.eraseIdxIfInBounds i).toList=ba.toList.eraseIdx i:=by
   rw[Array.eraseIdxIfInBounds,dif_pos hile,Array.toList_eraseIdx]
  refine hdone (ba.eraseIdxIfInBounds i) (fun _ h=>List.mem_of_mem_eraseIdx h) ?_ ?_ ?_
  ·rw[hel,vI,vI];exact DF i hks
  ·rw[hel,vI,vI];exact DF i hvs
  ·simp only[j6,vf,hge,dt]at hf;simp[Builtin.delete_,run_underlying hu,hrm,hg,hck,hf,hs]
theorem Ev(H:Inv P Γ N g h w){x:Operand}{ty kt et:TypeId}(ho:o.op=.call ⟨.builtin .len,#[x],#[ty]⟩)(hu:P.underlying ty=some (.map kt et)){a:AV}(hx:V g h a (r x)){n:Nat}
 (ha:(a=.c_/\n=0)\/(∃ks vs,a=.db ks vs/\n=ks.length)\/∃j es fl,a=.mp j/\h[j]? =some (.map es fl)/\n=es.length):aJ P Γ N r o w g h h (some (.int .i64 n)):=by
 rcases ha with⟨rfl,rfl⟩|⟨ks,vs,rfl,rfl⟩|⟨j,es,fl,rfl,hj,rfl⟩
 ·simp only[V]at hx;exact wV H ho (Or.inr (Or.inr (Or.inr ⟨_,_,hu,hx,rfl⟩)))
 ·simp only[V]at hx;obtain⟨b,ba,ck,h1,h2,h3,h4⟩:=hx;have hg:=v7 (P:=P) (H.mm b ba ck h2).1 (by simp);have hl:=fD h3;refine aJ.same H (u:=.int .i64 ks.length) ?_ (by simp[V]);simp at hl;simp[execOp,ho,resolve,invoke,builtin,Builtin.len_,h1,run_underlying hu,goInt,hg,hl]
 ·simp only[V]at hx;obtain⟨_,b,sz,hρ,h1⟩:=hx;obtain⟨_,h2⟩:=H.ob j _ hj;obtain⟨ba,ck,h3,h4,h5⟩:=h2 b sz 0 hρ;have hg:=v7 (P:=P) h3 (by simp);have hl:=D6 h4;refine aJ.same H (u:=.int .i64 es.length) ?_ (by simp[V]);simp at hl;simp[execOp,ho,resolve,invoke,builtin,Builtin.len_,h1,run_underlying hu,goInt,hg,hl]
end
theorem modify_eq_set{α:Type}{f:α->α}:∀{l:List α}{i:Nat}{a:α},l[i]? =some a->l.modify i f=l.set i (f a)
 |[],i,a,h=>by simp at h
 |b::l,0,a,h=>by simp at h;subst h;simp
 |b::l,i+1,a,h=>by simp at h;simp[modify_eq_set h]
theorem WA{α:Type}{f:α->α}{l:List α}{i:Nat}(h:l[i]? =none):l.modify i f=l:=by
 apply ji;intro n;rw[xU]
 by_cases hn:i=n
 ·subst hn;simp[h]
 ·simp[hn]
def px(g':G)(h:List Ob)(w:World)(g:G)(i:Nat):Prop:=
 ∀k E es gr fl sh,h[i]? =some (.row k E es gr fl sh)->∀b sz st,g.ρ i=some (b,sz,st)->∀o v,(gr.getD 0-st)*k<=o->o<(es.length-st)*k->w.cell? ⟨b,o,none⟩=some v->g'.M b o=some v
section
variable{P:Program}{Γ:Nat->Option AV}{N:Env}{g:G}{h:List Ob}{w:World}{r:Operand->Value}{o:Oper}{t:List AV}
theorem Ext.more{g':G}{i k:Nat}{E:TypeId}{es:List AV}{gr:Option Nat}{fl sh:Bool}(hi:h[i]? =some (.row k E es gr fl sh))(hρ:g'.ρ=g.ρ)(hMM:g'.MM=g.MM)(hM:∀b o v,g.M b o=some v->g'.M b o=some v):
 Ext h.length g h g' (h.set i (.row k E es gr fl true)):=by
 have h1:=Ext.oO (g:=g) (E':=E) (es':=es) (gr':=gr) (fl':=fl) (sh':=true) (ρ':=g.ρ i) hi (aU _) (fun off m _ h1=>⟨h1,rfl,fun _ h=>h⟩);rw[cX]at h1;refine h1.trans ?_
 exact⟨hM,fun b x hx=>by rw[hMM];exact hx,fun j vs _ hj=>⟨⟨_,hj⟩,fun x hx=>by rw[hρ];exact hx⟩,fun j es fl _ hj=>⟨⟨_,_,hj⟩,fun x hx=>by rw[hρ];exact hx⟩,
  fun j es fl _ hj=>⟨⟨_,_,hj⟩,fun x hx=>by rw[hρ];exact hx⟩,fun j st q fn t ps a b _ hj=>⟨⟨_,_,hj⟩,fun x hx=>by rw[hρ];exact hx⟩,fun j l _ hj=>⟨⟨_,hj⟩,fun x hx=>by rw[hρ];exact hx⟩,
  fun j k E es gr fl sh _ hj=>⟨_,_,_,_,_,hj,aU _,fun _ _ _ hk=>⟨hk,rfl,fun x hx=>by rw[hρ];exact hx⟩⟩⟩
theorem Y6(H:Inv P Γ N g h w)(i:Nat):∃g',g'.ρ=g.ρ/\g'.MM=g.MM/\(∀b o v,g.M b o=some v->g'.M b o=some v)/\Inv P Γ N g' (h.modify i iR) w/\Ext h.length g h g' (h.modify i iR)/\px g' h w g i/\
 ∀(j:Nat)(k:Nat)(E:TypeId)(es:List AV)(gr:Option Nat)(fl sh:Bool),h[j]? =some (Ob.row k E es gr fl sh)->∃sh',(h.modify i iR)[j]? =some (Ob.row k E es gr fl sh'):=by
 by_cases hrow:∃k E es gr fl sh,h[i]? =some (.row k E es gr fl sh)
 ·obtain⟨k,E,es,gr,fl,sh,hi⟩:=hrow;have hmod:h.modify i iR=h.set i (.row k E es gr fl true):=modify_eq_set hi;rw[hmod];have hil:=aV hi
  have hrows:∀(j:Nat)(k':Nat)(E':TypeId)(es':List AV)(gr':Option Nat)(fl' sh':Bool),h[j]? =some (Ob.row k' E' es' gr' fl' sh')->∃sh'',(h.set i (Ob.row k E es gr fl true))[j]? =some (Ob.row k' E' es' gr' fl' sh''):=by
   intro j k' E' es' gr' fl' sh' hj
   by_cases hji:j=i
   ·subst hji;rw[hi]at hj;simp only[aj,Ob.row.injEq]at hj;obtain⟨rfl,rfl,rfl,rfl,rfl,rfl⟩:=hj;exact⟨true,er hil⟩
   ·exact⟨sh',by rw[dB (by omega)];exact hj⟩
  cases hρ:g.ρ i with
  |none=>
   have hE:Ext h.length g h g (h.set i (.row k E es gr fl true)):=Ext.more hi rfl rfl (fun _ _ _ h=>h);refine⟨g,rfl,rfl,fun _ _ _ h=>h,?_,hE,?_,hrows⟩
   ·have:=Inv.set (r:=none) (w':=w) H (o':=.row k E es gr fl true) hil (by rw[<-hρ,cX];exact hE) rfl rfl rfl (fun _ _ _=>rfl) (aU _) (by simp)
     (fun b y o v hy _=>by rw[hρ]at hy;cases hy) (by simp) (by
      rw[<-hρ,cX];have:=mN (w':=w) hE rfl (fun _ _ _=>rfl) (H.ob i _ hi)
      simpa only [OV]using this)
    rw[<-hρ,cX]at this;exact this
   ·intro k' E' es' gr' fl' sh' _ b sz st hb
    rw[hρ]at hb;cases hb
  |some y=>
   obtain⟨b,sz,st⟩:=y;have hob:=H.ob i _ hi;simp only[OV]at hob;rw[hρ]at hob;simp only at hob;obtain⟨hk0,hK,hfl,hgl,hst,c,Eb,fz,vs,hw,hsz,hfree,hVE,hcells⟩:=hob
   let g':G:={g with M:=fun b' o=>if b'=b/\(gr.getD 0-st)*k<=o/\o<(es.length-st)*k then c[o]? else g.M b' o}
   have hMc:∀o v,g.M b o=some v->c[o]? =some v:=fun o v hv=>by
    have:=H.mem b o v hv;rwa[cell_of_row w b o c Eb fz hw]at this
   have hM:∀b' o v,g.M b' o=some v->g'.M b' o=some v:=by
    intro b' o v hv;simp only[g']
    split
    ·rename_i hc;rw[hc.1]at hv;exact hMc o v hv
    ·exact hv
   have hE:Ext h.length g h g' (h.set i (.row k E es gr fl true)):=Ext.more hi rfl rfl hM;refine⟨g',rfl,rfl,hM,?_,hE,?_,hrows⟩
   ·refine⟨H.os,H.tape,H.output,H.gu,H.own,H.inj,fun j hj=>H.oc j (by rwa[jg]at hj),?_,H.mm,?_,?_,?_,?_,H.ja⟩
    ·intro b' o v hv;simp only[g']at hv
     split at hv
     ·rename_i hc;rw[hc.1,cell_of_row w b o c Eb fz hw];exact hv
     ·exact H.mem b' o v hv
    ·intro j b' sz' st' o v hj hv;have hj':g.ρ j=some (b',sz',st'):=hj
     have hold:g.M b' o=some v->∃k' E' es' gr' fl',(h.set i (.row k E es gr fl true))[j]? =some (.row k' E' es' gr' fl' true)/\o<(es'.length-st')*k':=by
      intro hv';obtain⟨k',E',es',gr',fl',h1,h2⟩:=H.ek j b' sz' st' o v hj' hv'
      by_cases hji:j=i
      ·subst hji;rw[hi]at h1;simp only[aj,Ob.row.injEq]at h1;obtain⟨rfl,rfl,rfl,rfl,rfl,rfl⟩:=h1;exact⟨_,_,_,_,_,er hil,h2⟩
      ·exact⟨k',E',es',gr',fl',by rw[dB (by omega)];exact h1,h2⟩
     simp only[g']at hv
     split at hv
     ·rename_i hc;have hji:j=i:=H.inj j i b _ _ (by rw[<-hc.1];exact hj') hρ;subst hji;rw[hρ]at hj';simp only[aj,bL]at hj';obtain⟨_,_,rfl⟩:=hj';exact⟨_,_,_,_,_,er hil,hc.2.2⟩
     ·exact hold hv
    ·intro j q hj
     by_cases hji:j=i
     ·subst hji;rw[er hil]at hj
      cases hj
      have:=mN (w':=w) hE rfl (fun _ _ _=>rfl) (H.ob j _ hi);simpa only [OV]using this
     ·rw[dB (by omega)]at hj;exact mN hE rfl (fun _ _ _=>rfl) (H.ob j q hj)
    ·intro n a hn;obtain⟨h1,vs,h2,h3⟩:=H.kH n a hn;exact⟨h1,vs,cw hE (dk h2) h2,fun j hj=>hM _ _ _ (h3 j hj)⟩
    ·intro b' o v B hv hB;simp only[g']at hv
     split at hv
     ·rename_i hc;have:=(H.own i b _ hρ).1;rw[hc.1,this]at hB
      cases hB
     ·exact H.mK b' o v B hv hB
   ·intro k' E' es' gr' fl' sh' hi' b' sz' st' hb' o v h1 h2 h3;rw[hi]at hi';simp only[aj,Ob.row.injEq]at hi';obtain⟨rfl,rfl,rfl,rfl,rfl,rfl⟩:=hi';rw[hρ]at hb';simp only[aj,bL]at hb';obtain⟨rfl,rfl,rfl⟩:=hb';simp only[g'];rw[if_pos ⟨trivial,h1,h2⟩,<-cell_of_row w b o c Eb fz hw];exact h3
 ·have hmod:h.modify i iR=h:=by
   cases hi:h[i]? with
   |none=>exact WA hi
   |some q=>
    rw[modify_eq_set hi]
    have:iR q=q:=by
     cases q<;>first|rfl|exact absurd ⟨_,_,_,_,_,_,hi⟩ hrow
    rw[this];apply ji;intro n;rw[nj]
    by_cases hn:i=n
    ·subst hn;rw[if_pos rfl,if_pos (aV hi),hi]
    ·simp[hn]
  rw[hmod];refine⟨g,rfl,rfl,fun _ _ _ h=>h,H,Ext.refl _ _ _,?_,fun j k E es gr fl sh hj=>⟨sh,hj⟩⟩;intro k E es gr fl sh hi;exact absurd ⟨_,_,_,_,_,_,hi⟩ hrow
theorem j_:∀(is:List Nat)(h:List Ob),(share is h).length=h.length
 |[],_=>rfl
 |i::is,h=>by simp[share,j_ is]
theorem ny:∀(is:List Nat){g:G}{h:List Ob},Inv P Γ N g h w->∃g',g'.ρ=g.ρ/\g'.MM=g.MM/\(∀b o v,g.M b o=some v->g'.M b o=some v)/\Inv P Γ N g' (share is h) w/\Ext h.length g h g' (share is h)/\
 ∀i∈is,px g' h w g i
 |[],g,h,H=>⟨g,rfl,rfl,fun _ _ _ h=>h,H,Ext.refl _ _ _,by simp⟩
 |i::is,g,h,H=>by
  obtain⟨g1,hρ1,hMM1,hM1,H1,hE1,hC1,hr1⟩:=Y6 H i;obtain⟨g2,hρ2,hMM2,hM2,H2,hE2,hC2⟩:=ny is H1
  have hl:(h.modify i iR).length=h.length:=by simp
  rw[hl]at hE2;refine⟨g2,hρ2.trans hρ1,hMM2.trans hMM1,fun b o v hv=>hM2 b o v (hM1 b o v hv),H2,hE1.trans hE2,?_⟩;intro j hj
  rcases bt.1 hj with rfl|hj
  ·intro k E es gr fl sh hi b sz st hb o v h1 h2 h3;exact hM2 _ _ _ (hC1 k E es gr fl sh hi b sz st hb o v h1 h2 h3)
  ·intro k E es gr fl sh hi b sz st hb o v h1 h2 h3;obtain⟨sh',hi'⟩:=hr1 j k E es gr fl sh hi;exact hC2 j hj k E es gr fl sh' hi' b sz st (by rw[hρ1];exact hb) o v h1 h2 h3
theorem Zx(H:Inv P Γ N g h w){g':G}{h':List Ob}(x:Ext h.length g h g' h'){i off n:Nat}{u:Value}(hc:px g' h w g i)(hv:V g h (.sl i off n) u){p:Nat×List AV}(ht:ux h (.sl i off n)=some p):
 V g' h' (.list false p.1 p.2) u:=by
 simp only[ux]at ht
 split at ht
 ·rename_i k E es gr sh hi
  split at ht
  ·rename_i hok;simp only[aj]at ht;subst ht;have hrow:=L2 H hv hi hok;obtain⟨hK,a,cap,vs,rfl,hVE,hmem⟩:=hrow;have hob:=H.ob i _ hi;simp only[OV]at hob;obtain⟨hk0,_,hfl,hgl,hb⟩:=hob
   have hle:off+n<=es.length:=by
    cases gr with
    |none=>simpa[cF]using hok
    |some lo=>simp only[cF,av,a_,lK]at hok;omega
   have hln:((es.drop off).take n).length=n:=by simp;omega
   have hokl:cg ((es.drop off).take n) k=true:=oD (hfl trivial) (fun e he=>jh (j5 he));simp only[V]at hv⊢;obtain⟨k2,E2,es2,gr2,fl2,sh2,hi2,_,a2,cap2,he2,hcap,_,hq⟩:=hv;rw[hi]at hi2;simp only[aj,Ob.row.injEq]at hi2;obtain⟨rfl,rfl,rfl,rfl,rfl,rfl⟩:=hi2;simp only[Value.slice.injEq,u_]at he2;obtain⟨rfl,rfl⟩:=he2;refine⟨hokl,a,cap,by rw[hln],by simp,by rw[hln];exact hcap,?_⟩
   by_cases h0:n=0
   ·left;apply kU.1;omega
   ·right
    rcases(hq hok).2 with⟨h1,_⟩|⟨b,sz,st,hρ,hst,rfl,hcs⟩
    ·exact absurd h1 h0
    ·rcases hmem with h1|⟨b',p',he,hm⟩
     ·exact absurd h1 h0
     ·simp only[aj,Addr.mk.injEq,oe]at he;obtain⟨rfl,rfl⟩:=he
      have hlo:gr.getD 0<=off:=by
       cases gr with
       |none=>simp
       |some lo=>simp only[cF,av,a_]at hok;simpa using hok.1
      have hst2:st<=gr.getD 0:=by rw[hρ]at hb;exact hb.1
      refine⟨b,(off-st)*k,vs,rfl,fF x (jU hVE) hVE,fun j hj=>?_⟩;have hvl:=gY (jM hokl) hVE;rw[hln]at hvl;refine hc k E es gr true sh hi b sz st hρ _ _ ?_ ?_ (hm j _ (bg hj))
      ·exact qO (kX _ (by omega)) (Nat.le_add_right _ _)
      ·have:(off-st)*k+n*k<=(es.length-st)*k:=by rw[<-fC];exact kX _ (by omega)
       omega
  ·simp at ht
 ·simp at ht
mutual
theorem rV(H:Inv P Γ N g h w){g':G}{h':List Ob}(x:Ext h.length g h g' h'):∀{a a':AV}{u:Value},(∀i∈rowsOf a,px g' h w g i)->V g h a u->view h a=some a'->V g' h' a' u
 |.undef,a',u,_,hv,ha|.bool _,a',u,_,hv,ha|.int _ _,a',u,_,hv,ha|.str _,a',u,_,hv,ha|.i_,a',u,_,hv,ha|.c_,a',u,_,hv,ha|.df,a',u,_,hv,ha
 |.eh,a',u,_,hv,ha|.dU _ _,a',u,_,hv,ha=>by
  simp only[view,aj]at ha;subst ha;exact fJ x (kC hv) hv
 |.db ks us,a',u,_,hv,ha=>by
  simp only[view]at ha
  split at ha
  ·simp only[aj]at ha;subst ha;exact fJ x (kC hv) hv
  ·simp at ha
 |.list f k es,a',u,_,hv,ha=>by
  simp only[view,aj]at ha;subst ha;have h1:=fJ x (kC hv) hv;simp only[V]at h1⊢;obtain⟨h2,a,cap,h3,_,h4,h5⟩:=h1;exact⟨h2,a,cap,h3,by simp,h4,h5⟩
 |.sl i off n,a',u,hc,hv,ha=>by
  simp only[view,bS]at ha;obtain⟨p,hp,rfl⟩:=ha;exact Zx H x (hc i (by simp[rowsOf])) hv hp
 |.own _ _ _,_,_,_,hv,_=>by simp only[V]at hv
 |.ptr _ _,_,_,_,_,ha|.mp _,_,_,_,_,ha|.it _,_,_,_,_,ha|.cV _,_,_,_,_,ha|.cZ _ _ _ _,_,_,_,_,ha=>by simp[view]at ha
 |.agg cs,a',u,hc,hv,ha=>by
  simp only[view,bS]at ha;obtain⟨cs',h1,rfl⟩:=ha;simp only[V]at hv⊢;obtain⟨vs,rfl,h2⟩:=hv;exact⟨vs,rfl,rO H x (by simpa only [rowsOf]using hc) h2 h1⟩
 |.aH cs,a',u,hc,hv,ha=>by
  simp only[view,bS]at ha;obtain⟨cs',h1,rfl⟩:=ha;simp only[V]at hv⊢;obtain⟨vs,rfl,h2⟩:=hv;exact⟨vs,rfl,rO H x (by simpa only [rowsOf]using hc) h2 h1⟩
 |.fn f a b,a',u,hc,hv,ha=>by
  simp only[view]at ha
  split at ha
  ·rename_i a2 b2 h1 h2;simp only[aj]at ha;subst ha;simp only[V]at hv⊢;obtain⟨xs,ys,rfl,h3,h4⟩:=hv;simp only[rowsOf,bl]at hc;exact⟨xs,ys,rfl,rO H x (fun i hi=>hc i (Or.inl hi)) h3 h1,rO H x (fun i hi=>hc i (Or.inr hi)) h4 h2⟩
  ·simp at ha
 |.bW t a,a',u,hc,hv,ha=>by
  simp only[view,bS]at ha;obtain⟨b,h1,rfl⟩:=ha;simp only[V]at hv⊢;obtain⟨y,rfl,h2⟩:=hv;exact⟨y,rfl,rV H x (by simpa only [rowsOf]using hc) h2 h1⟩
theorem rO(H:Inv P Γ N g h w){g':G}{h':List Ob}(x:Ext h.length g h g' h'):∀{as as':List AV}{us:List Value},(∀i∈bN as,px g' h w g i)->VL g h as us->bU h as=some as'->VL g' h' as' us
 |[],as',us,_,hv,ha=>by
  simp only[bU,aj]at ha;subst ha;simpa only [VL]using hv
 |a::as,as',us,hc,hv,ha=>by
  simp only[bU]at ha
  split at ha
  ·rename_i a2 as2 h1 h2;simp only[aj]at ha;subst ha;simp only[VL]at hv⊢;obtain⟨u,us',rfl,h3,h4⟩:=hv;simp only[bN,bl]at hc;exact⟨u,us',rfl,rV H x (fun i hi=>hc i (Or.inl hi)) h3 h1,rO H x (fun i hi=>hc i (Or.inr hi)) h4 h2⟩
  ·simp at ha
end
mutual
theorem AH(H:Inv P Γ N g h w):∀{a a':AV}{u:Value},V g h a u->view h a=some a'->aG 0 a'=true
 |.undef,_,_,_,ha|.bool _,_,_,_,ha|.int _ _,_,_,_,ha|.str _,_,_,_,ha|.i_,_,_,_,ha|.c_,_,_,_,ha|.df,_,_,_,ha
 |.eh,_,_,_,ha|.dU _ _,_,_,_,ha=>by
  simp only[view,aj]at ha;subst ha;rfl
 |.db ks us,_,_,_,ha=>by
  simp only[view]at ha
  split at ha
  ·rename_i hb;simp only[aj]at ha;subst ha;simpa only [aG]using hb
  ·simp at ha
 |.list f k es,_,_,hv,ha=>by
  simp only[view,aj]at ha;subst ha;simp only[V]at hv;simp only[aG];exact iQ hv.1
 |.sl i off n,_,_,hv,ha=>by
  simp only[view,bS]at ha;obtain⟨p,hp,rfl⟩:=ha;simp only[ux]at hp
  split at hp
  ·rename_i k E es gr sh hi
   split at hp
   ·simp only[aj]at hp;subst hp;have hob:=H.ob i _ hi;simp only[OV]at hob;obtain⟨_,_,hfl,_⟩:=hob;simp only[aG];exact iQ (oD (hfl trivial) (fun e he=>jh (j5 he)))
   ·simp at hp
  ·simp at hp
 |.own _ _ _,_,_,hv,_=>by simp only[V]at hv
 |.ptr _ _,_,_,_,ha|.mp _,_,_,_,ha|.it _,_,_,_,ha|.cV _,_,_,_,ha|.cZ _ _ _ _,_,_,_,ha=>by simp[view]at ha
 |.agg cs,_,_,hv,ha=>by
  simp only[view,bS]at ha;obtain⟨cs',h1,rfl⟩:=ha;simp only[V]at hv;obtain⟨vs,rfl,h2⟩:=hv
  simp only[aG];exact rD H h2 h1
 |.aH cs,_,_,hv,ha=>by
  simp only[view,bS]at ha;obtain⟨cs',h1,rfl⟩:=ha;simp only[V]at hv;obtain⟨vs,rfl,h2⟩:=hv
  simp only[aG];exact rD H h2 h1
 |.fn f a b,_,_,hv,ha=>by
  simp only[view]at ha
  split at ha
  ·rename_i a2 b2 h1 h2;simp only[aj]at ha;subst ha;simp only[V]at hv;obtain⟨xs,ys,rfl,h3,h4⟩:=hv
   simp only[aG,av];exact⟨rD H h3 h1,rD H h4 h2⟩
  ·simp at ha
 |.bW t a,_,_,hv,ha=>by
  simp only[view,bS]at ha;obtain⟨b,h1,rfl⟩:=ha;simp only[V]at hv;obtain⟨y,rfl,h2⟩:=hv
  simp only[aG];exact AH H h2 h1
theorem rD(H:Inv P Γ N g h w):∀{as as':List AV}{us:List Value},VL g h as us->bU h as=some as'->aK 0 as'=true
 |[],_,_,_,ha=>by
  simp only[bU,aj]at ha;subst ha;rfl
 |a::as,_,_,hv,ha=>by
  simp only[bU]at ha
  split at ha
  ·rename_i a2 as2 h1 h2;simp only[aj]at ha;subst ha;simp only[VL]at hv;obtain⟨u,us',rfl,h3,h4⟩:=hv
   simp only[aK,av];exact⟨AH H h3 h1,rD H h4 h2⟩
  ·simp at ha
end
theorem AK{α β:Type}{R S:α->β->Prop}:∀{l:List α}{m:List β},F2 R l m->(∀a b,R a b->S a b)->F2 S l m
 |_,_,.nil,_=>.nil
 |_,_,.cons h1 h2,hs=>.cons (hs _ _ h1) (AK h2 hs)
theorem Kc:∀{ps ps':List (Nat×AV)}{parts:List (Nat×Value)}{g:G}{h h':List Ob},Inv P Γ N g h w->F2 (fun(p:Nat×AV) (q:Nat×Value)=>p.1=q.1/\V g h p.2 q.2) ps parts->nD h ps=some (ps',h')->
 ∃g',Inv P Γ N g' h' w/\h'.length=h.length/\Ext h.length g h g' h'/\F2 (fun(p:Nat×AV) (q:Nat×Value)=>p.1=q.1/\V g' h' p.2 q.2) ps' parts
 |[],ps',parts,g,h,h',H,hf,hp=>by
  cases hf
  simp only[nD,aj,bL]at hp;obtain⟨rfl,rfl⟩:=hp;exact⟨g,H,rfl,Ext.refl _ _ _,.nil⟩
 |(i,v)::ps,ps',parts,g,h,h',H,hf,hp=>by
  cases hf with
  |cons hq hf=>
   rename_i q parts;simp only[nD]at hp
   split at hp
   ·rename_i v' hv'
    split at hp
    ·rename_i ps2 h2 hp2;simp only[aj,bL]at hp;obtain⟨rfl,rfl⟩:=hp;obtain⟨g1,_,_,_,H1,hE1,hC1⟩:=ny (rowsOf v) H;have hv1:=rV H hE1 hC1 hq.2 hv';obtain⟨g2,H2,hl2,hE2,hF2⟩:=Kc H1 (AK hf fun a b hab=>⟨hab.1,fJ hE1 (kC hab.2) hab.2⟩) hp2;rw[j_]at hl2 hE2;refine⟨g2,H2,hl2,hE1.trans hE2,.cons ⟨hq.1,?_⟩ hF2⟩;have:=kC hv1;rw[j_]at this;exact fJ hE2 this hv1
    ·simp at hp
   ·simp at hp
theorem DO{k:Nat}:∀{ps:List (Nat×AV)}{parts:List (Nat×Value)}{es es':List AV}{zs:Array Value},F2 (fun(p:Nat×AV) (q:Nat×Value)=>p.1=q.1/\V g h p.2 q.2) ps parts->mZ k es ps=some es'->
 dM k es->VE g h es zs.toList->∃us,Instr.fill (fun i=>some (i*k,k)) zs parts=some us/\VE g h es' us.toList/\dM k es'/\es'.length=es.length
 |[],parts,es,es',zs,hf,hp,hk,hv=>by
  cases hf
  simp only[mZ,aj]at hp;subst hp;exact⟨zs,rfl,hv,hk,rfl⟩
 |(i,v)::ps,parts,es,es',zs,hf,hp,hk,hv=>by
  cases hf with
  |cons hq hf=>
   rename_i q parts;obtain⟨j,u⟩:=q;obtain⟨hij,hu⟩:=hq;simp only at hij hu;subst hij;simp only[mZ]at hp
   split at hp
   ·rename_i hc;obtain⟨hil,hvk,hvo⟩:=hc;have hcells:=oR (pV hvo) hu;have hul:=fD hcells
    have hu1:u.cells.toList.length=k:=by rw[hul,hvk]
    have hzl:=gY hk hv
    have hzs:zs.size=es.length*k:=by simpa using hzl
    have hik:i*k+k<=es.length*k:=by
     have:i*k+k=(i+1)*k:=by rw[fC,Nat.one_mul]
     rw[this];exact kX _ (by omega)
    have hset:=Gp hk hv hil hu hu1;have hfold:=Ez (i*k) u.cells.toList 0 zs (by rw[hzs];omega)
    have hzip:u.cells.zipIdx.foldl (fun cs (x:Value×Nat)=>cs.setIfInBounds (i*k+x.2) x.1) zs=(u.cells.toList.zipIdx 0).foldl (fun cs (x:Value×Nat)=>cs.setIfInBounds (i*k+x.2) x.1) zs:=by
     rw[<-CY,Array.toList_zipIdx]
    obtain⟨us,h1,h2,h3,h4⟩:=DO (zs:=u.cells.zipIdx.foldl (fun cs (x:Value×Nat)=>cs.setIfInBounds (i*k+x.2) x.1) zs) hf hp (by
     intro e he
     rcases oh he with he|rfl
     ·exact hk e he
     ·exact⟨hvk,hvo⟩) (by
     rw[hzip,hfold,gW]
     exact hset)
    refine⟨us,?_,h2,h3,by rw[h4,jg]⟩;simp only[Instr.fill]
    have hus:u.cells.size=k:=by simpa using hu1
    rw[if_neg (by simp only[eY,a_,ne_eq,not_or,I_];omega)];exact h1
   ·simp at hp
theorem Inv.imm(H:Inv P Γ N g h w)(c:Array Value)(E:TypeId):∃g',g'.ρ=g.ρ/\g'.MM=g.MM/\(∀b o v,g.M b o=some v->g'.M b o=some v)/\Inv P Γ N g' h (w.alloc (.cells c E))/\Ext h.length g h g' h/\
 ∀j v,c[j]? =some v->g'.M w.heap.size j=some v:=by
 let g':G:={g with M:=fun b o=>if b=w.heap.size then c[o]? else g.M b o}
 have hM:∀b o v,g.M b o=some v->g'.M b o=some v:=by
  intro b o v hv;have:b<w.heap.size:=u5 (H.mem b o v hv);simp only[g'];rw[if_neg (by omega)];exact hv
 have hE:Ext h.length g h g' h:=⟨hM,fun b x hx=>hx,fun j vs _ hj=>⟨⟨_,hj⟩,fun x hx=>hx⟩,fun j es fl _ hj=>⟨⟨_,_,hj⟩,fun x hx=>hx⟩,
  fun j es fl _ hj=>⟨⟨_,_,hj⟩,fun x hx=>hx⟩,fun j st q fn t ps a b _ hj=>⟨⟨_,_,hj⟩,fun x hx=>hx⟩,fun j l _ hj=>⟨⟨_,hj⟩,fun x hx=>hx⟩,
  fun j k E es gr fl sh _ hj=>⟨_,_,_,_,_,hj,aU _,fun _ _ _ hk=>⟨hk,rfl,fun x hx=>hx⟩⟩⟩
 have hw:∀b,b<w.heap.size->(w.alloc (.cells c E)).heap[b]? =w.heap[b]? :=wx _ _
 have hltk:∀{b B},w.heap[b]? =some B->b<w.heap.size:=fun{b B} hb=>(Array.getElem?_eq_some_iff.1 hb).1
 refine⟨g',rfl,rfl,hM,?_,hE,?_⟩
 ·refine⟨H.os,H.tape,H.output,fun b o hb=>by rw[hw b (hltk (H.gu b o hb))];exact H.gu b o hb,fun i b x hi=>⟨(H.own i b x hi).1,by have:=(H.own i b x hi).2;simp;omega⟩,H.inj,H.oc,?_,?_,?_,?_,?_,?_,H.ja⟩
  ·intro b o v hv;simp only[g']at hv
   split at hv
   ·rename_i hb;subst hb;have:=cell_of_row (w.alloc (.cells c E)) w.heap.size o c E (0,0) (ld _ _)
    rw[this];exact hv
   ·have h0:=H.mem b o v hv;rw[tn (hw b (u5 h0))];exact h0
  ·intro b es ck hb;obtain⟨h1,h2⟩:=H.mm b es ck hb;exact⟨by rw[hw b (hltk h1)];exact h1,h2⟩
  ·intro i b sz st o v hi hv;simp only[g']at hv
   split at hv
   ·rename_i hb;have:=(H.own i b _ hi).2;omega
   ·exact H.ek i b sz st o v hi hv
  ·intro i q hi;exact mN hE rfl (fun b y hb=>hw b (H.own i b y hb).2) (H.ob i q hi)
  ·intro n a hn;obtain⟨h1,vs,h2,h3⟩:=H.kH n a hn;exact⟨h1,vs,cw hE (dk h2) h2,fun j hj=>hM _ _ _ (h3 j hj)⟩
  ·intro b o v B hv hB;simp only[g']at hv
   split at hv
   ·rename_i hb;have:=hltk (H.gu b B hB);omega
   ·exact H.mK b o v B hv hB
 ·intro j v hv;simp only[g',cq];exact hv
theorem ad9(H:Inv P Γ N g h w){ty e:TypeId}{n:Nat}{ps:Array (Nat×Operand)}(ho:o.op=.buildSlice ty n ps)(hu:P.underlying ty=some (.slice e)){k:Nat}(hk:bu P e=some k)(hk0:0<k)
 {z:AV}(hz:dL P e=some z)(hzo:j3 k z=true)(hnk:n*k<=2^24)(he:∀x,V g h (ax t (au x)) (r x)){ps':List (Nat×AV)}{h':List Ob}
 (hp:nD h ((ps.toList.map fun q=>(q.1,au q.2)).map fun q=>(q.1,ax t q.2))=some (ps',h')){es:List AV}(hf:mZ k (List.replicate n z) ps'=some es)(hok:cg es k=true):
 aJ P Γ N r o w g h h' (some (.list true k es)):=by
 obtain⟨zv,hzr,rfl⟩:=tB hz;simp only[j3,av,a_]at hzo;obtain⟨⟨hzk,hz1⟩,hzb⟩:=hzo;have hzk':=tw hzk
 have hF:F2 (fun(p:Nat×AV) (q:Nat×Value)=>p.1=q.1/\V g h p.2 q.2) ((ps.toList.map fun q=>(q.1,au q.2)).map fun q=>(q.1,ax t q.2)) (ps.map fun q=>(q.1,r q.2)).toList:=by
  rw[Array.toList_map,ij];generalize ps.toList=l
  induction l with
  |nil=>exact .nil
  |cons q l ih=>exact .cons ⟨rfl,he q.2⟩ ih
 obtain⟨g1,H1,hl1,hE1,hF1⟩:=Kc H hF hp;have hVE0:=th (mP g1 h' zv) n;have hzl:=tt hzk' n
 let zs:Array Value:=(Array.range (n*k)).map fun i=>(if n*k=0 then#[]else zv.cells)[i%(if n*k=0 then#[]else zv.cells).size]!
 have hzs:zs.toList=(List.replicate n zv.cells.toList).flatten:=by
  simp only[zs]
  by_cases hnk0:n*k=0
  ·have:n=0:=by
    rcases Ja.1 hnk0 with h1|h1
    ·exact h1
    ·omega
   simp[this]
  ·simp only[hnk0,c9,hzk'];exact hzl
 obtain⟨us,h1,h2,h3,h4⟩:=DO (zs:=zs) hF1 hf (jM (sZ hzk hz1 hzb n)) (by rw[hzs];exact hVE0);obtain⟨g2,hρ2,hMM2,hM2,H2,hE2,hN2⟩:=Inv.imm H1 us e;rw[hl1]at hE2
 have hlen:es.length=n:=by rw[h4,oj]
 refine⟨g2,_,_,?_,H2,hE1.trans hE2,.slice (some ⟨w.heap.size,0,none⟩) n n,rfl,?_⟩
 ·have hrun:(Instr.buildSlice ty n (ps.map fun q=>(q.1,r q.2))).run P w=.ok (.slice (some ⟨w.heap.size,0,none⟩) n n) (w.alloc (.cells us e)):=by
   simp only[Instr.buildSlice,Sem.run_bind,run_underlying hu,Result.andThen_ok,iu hk];rw[if_neg (by omega)]
   by_cases hnk0:n*k=0
   ·have hzs0:zs=(Array.range (n*k)).map fun i=>(#[]:Array Value)[i%(#[]:Array Value).size]! :=by simp only[zs,hnk0,cq]
    rw[hzs0]at h1;rw[if_pos hnk0];simp only[Sem.run_bind,Sem.run_pure,Result.andThen_ok];rw[h1];simp[newRow]
   ·have hzs0:zs=(Array.range (n*k)).map fun i=>zv.cells[i%zv.cells.size]! :=by simp only[zs,hnk0,c9]
    rw[hzs0]at h1;rw[if_neg hnk0];simp only[Sem.run_bind,hzr,Sem.run_pure,Result.andThen_ok];rw[h1];simp[newRow]
  simp only[execOp,ho];rw[Sem.run_bind,hrun];rfl
 ·simp only[V];refine⟨hok,some ⟨w.heap.size,0,none⟩,n,by rw[hlen],fun _=>hlen.symm,by omega,Or.inr ⟨w.heap.size,0,us.toList,rfl,fF hE2 (by have:=jU h2;rwa[hl1]at this) h2,fun j hj=>?_⟩⟩;rw[iM];apply hN2;rw[<-vf,bg hj]
theorem aaL{f:Bool}{k:Nat}{es:List AV}{a:Option Addr}{n cap l u s:Nat}(hv:V g h (.list f k es) (.slice a n cap))(hlu:l<=u)(hu:u<=es.length)(hk:k=s\/es=[]):
 V g h (.list true k ((es.take u).drop l)) (.slice (if u=l then a else a.map (·.add (l*s))) (u-l) (u-l)):=by
 simp only[V]at hv⊢;obtain⟨hok,a',cap',he,hf,hcap,h3⟩:=hv;simp only[Value.slice.injEq]at he;obtain⟨rfl,rfl,rfl⟩:=he
 have hln:((es.take u).drop l).length=u-l:=by simp;omega
 refine⟨oD hok (fun e he=>j5 (jh he)),(if u=l then a else a.map (·.add (l*s))),u-l,by rw[hln],fun _=>hln.symm,by omega,?_⟩
 by_cases hul:u=l
 ·left;apply kU.1;omega
 ·right
  have hne:es≠[]:=by rintro rfl;simp at hu;omega
  rcases h3 with h3|⟨b,p,vs,rfl,h4,h5⟩
  ·exact absurd h3 hne
  ·have hks:k=s:=hk.resolve_right hne;subst hks;have hK:=jM hok;have h6:=t_ (fun e he=>hK e (j5 he)) (wL hK h4 u) l;refine⟨b,p+l*k,_,?_,h6,?_⟩
   ·rw[if_neg hul];simp[kh]
   ·intro j hj;rw[List.getElem_drop,qQ,nh];exact h5 _ _
theorem YZ(H:Inv P Γ N g h w){ty e:TypeId}{x hi mx:Operand}{lo:Option Operand}(ho:o.op=.slice ty x lo (some hi) (some mx))(hu:P.underlying ty=some (.slice e)){s:Nat}(hs:bu P e=some s)
 {a:AV}(hx:V g h a (r x)){f:Bool}{k:Nat}{es:List AV}(hv:view h a=some (.list f k es))(he:∀x,V g h (ax t (au x)) (r x)){l u:Nat}(hl:bound t 0 (lo.map au)=some l)
 (hh:bound t 0 (some (au hi))=some u)(hm:bound t 0 (some (au mx))=some u)(hlu:l<=u/\u<=es.length/\(k=s\/es=[])):
 aJ P Γ N r o w g h (share (rowsOf a) h) (some (.list true k ((es.take u).drop l))):=by
 obtain⟨g1,_,_,_,H1,hE1,hC1⟩:=ny (rowsOf a) H;have hv1:=rV H hE1 hC1 hx hv;have hv0:=hv1;simp only[V]at hv0;obtain⟨_,ad,cap,hrx,_,hcap,_⟩:=hv0;rw[hrx]at hv1;refine⟨g1,w,_,?_,H1,hE1,_,rfl,aaL hv1 hlu.1 hlu.2.1 hlu.2.2⟩;have b1:=oE (r:=r) (x:=lo) hl he;have b2:=oE (r:=r) (x:=some hi) hh he;have b3:=oE (r:=r) (x:=some mx) hm he;simp only[dt]at b2 b3;obtain⟨k2,h2⟩:=b2;obtain⟨k3,h3⟩:=b3
 have hb:(Instr.sliceBounds true es.length cap (lo.map r) (some (.int k2 u)) (some (.int k3 u))).run P w=.ok (l,u,u) w:=by
  cases lo with
  |none=>
   simp only[sH]at b1⊢;subst b1;simp only[Instr.sliceBounds,Sem.run_bind];rw[run_sliceBound w k3 u cap _ (by omega) (by omega)];simp only[Result.andThen_ok,fB];rw[run_sliceBound w k2 u u _ (by omega) (by omega)];simp
  |some lo=>
   simp only[dt]at b1⊢;obtain⟨k1,h1⟩:=b1;rw[h1];simp only[Instr.sliceBounds,Sem.run_bind];rw[run_sliceBound w k3 u cap _ (by omega) (by omega)];simp only[Result.andThen_ok,fB];rw[run_sliceBound w k2 u u _ (by omega) (by omega)];simp only[Result.andThen_ok,fB];rw[run_sliceBound w k1 l u _ (by omega) (by omega)];simp
 simp[execOp,ho,hrx,h2,h3,Instr.sliceAt,Instr.slice,run_underlying hu,iu hs,hb]
theorem V2{α:Type}{l:List α}{i:Nat}{a:α}(hi:l[i]? =some a):l.set i a=l:=by
 apply ji;intro n;rw[nj]
 by_cases hn:i=n
 ·subst hn;rw[if_pos rfl,if_pos (aV hi),hi]
 ·simp[hn]
theorem abO(H:Inv P Γ N g h w){s d e:TypeId}{x:Operand}(ho:o.op=.convert s d x)(hsd:s=d)(hs:P.underlying s=some (.slice e))(he:P.underlying e=some (.int .u8))
 {i n k:Nat}{E:TypeId}{es:List AV}{fl sh:Bool}(hi:h[i]? =some (.row k E es none fl sh))(hne:n=es.length)(hx:V g h (.sl i 0 n) (r x))(hn:n≠0):aJ P Γ N r o w g h h (some (.sl i 0 n)):=by
 subst hsd;have hx0:=hx;simp only[V]at hx;obtain⟨k',E',es',gr,fl',sh',hi',hle,ad,cap,hrx,hcap,hbn,hq⟩:=hx;rw[hi]at hi';simp only[aj,Ob.row.injEq]at hi';obtain⟨rfl,rfl,rfl,rfl,rfl,rfl⟩:=hi'
 rcases(hq (by simp[cF,hne])).2 with⟨h0,_⟩|⟨b,sz,st,hρ,hst,rfl,hcs⟩
 ·exact absurd h0 hn
 have hil:=aV hi;have hob:=H.ob i _ hi;simp only[OV]at hob;rw[hρ]at hob;simp only at hob;obtain⟨hk0,hK,hfl,hgl,hst',c,Eb,fz,vs,hw,hsz,hfree,hVE,hcells⟩:=hob;have hlt:b<w.heap.size:=(H.own i b _ hρ).2
 have hblk:(w.freeze ⟨b,c.size,none⟩ 1).heap[b]? =some (.cells c Eb (if fz.1==fz.2 then(c.size,c.size+1)else(min fz.1 c.size,max fz.2 (c.size+1)))):=by
  simp only[World.freeze,Nat.one_ne_zero,c9,Array.getElem?_modify,cq,hw,dt]
 have hoth:∀b',b'≠b->(w.freeze ⟨b,c.size,none⟩ 1).heap[b']? =w.heap[b']? :=by
  intro b' hb';simp only[World.freeze,Nat.one_ne_zero,c9,Array.getElem?_modify];rw[if_neg (by omega)]
 have hfree':mj c (if fz.1==fz.2 then(c.size,c.size+1)else(min fz.1 c.size,max fz.2 (c.size+1))):=by
  rcases hfree with hf|hf
  ·simp[hf];exact Or.inr (aU _)
  ·split
   ·exact Or.inr (aU _)
   ·exact Or.inr (by simp;omega)
 have hsame:=V2 hi;refine⟨g,w.freeze ⟨b,c.size,none⟩ 1,.value (r x),?_,?_,Ext.refl _ _ _,r x,rfl,hx0⟩
 ·have hshape:w.shape? b=some (Eb,c.size):=by simp[World.shape?,hw]
  simp[execOp,ho,hrx,convert,run_underlying hs,run_underlying he,markStringish,hshape]
 ·have:=Inv.set (r:=g.ρ i) (w':=w.freeze ⟨b,c.size,none⟩ 1) H (o':=.row k E es none fl sh) hil (by rw[cX,hsame];exact Ext.refl _ _ _) rfl rfl rfl
   (fun b' _ hne=>hoth b' (fun e=>hne (sz,st) (by rw[e];exact hρ))) (by simp[World.freeze]) (fun b' y hy=>⟨Or.inl ⟨y,hy⟩,by simp[World.freeze];exact(H.own i b' y hy).2⟩)
   (by
    intro b' y q v hy hv;rw[hρ]at hy;simp only[aj,bL]at hy;obtain⟨rfl,_⟩:=hy;have h0:=H.mem b q v hv;rw[cell_of_row w b q c Eb fz hw]at h0
    rw[cell_of_row _ b q c Eb _ hblk,h0])
   (by
    intro b' sz' st' q v hy hv;obtain⟨k3,E3,es3,gr3,fl3,h5,h6⟩:=H.ek i b' sz' st' q v hy hv;rw[hi]at h5;simp only[aj,Ob.row.injEq]at h5;obtain⟨rfl,rfl,rfl,rfl,rfl,rfl⟩:=h5
    exact⟨_,_,_,_,_,rfl,h6⟩)
   (by
    rw[cX,hsame];simp only[OV];refine⟨hk0,hK,hfl,hgl,?_⟩;rw[hρ]
    exact⟨hst',c,Eb,_,vs,hblk,hsz,hfree',hVE,hcells⟩)
  rwa[cX,hsame]at this
end
def DR(g:G)(h:List Ob):dn->Deferred->Prop
 |.call f args,d=>∃cap,d.target=.fn (.func f) cap/\VL g h args (d.args++cap).toList
 |.mark i,d=>(∃l,h[i]? =some (.bx l))/\∃b sz,g.ρ i=some (b,sz,0)/\d={target:=.collected b,args:=#[]}
section
variable{P:Program}{Γ:Nat->Option AV}{N:Env}{g:G}{h:List Ob}{w:World}{a:Act}{o:Oper}{t:List AV}
theorem zC{f:FuncId}(hb:ar P f=true)(args:Array Value)(w:World):(callFunc f args).run P w=.ok (.enter f args) w:=by
 unfold ar at hb
 split at hb
 ·rename_i fn hf;simp only[av,bne_iff_ne,ne_eq]at hb
  have h1:(fn.name== "runtime.NumGoroutine")=false:=by simpa using hb.2
  have h2:fn.body.isNone=false:=by cases hb2:fn.body<;>simp_all
  simp only[callFunc,Sem.run_bind,run_program,Result.andThen_ok,hf,h1,h2,eb,c9];rfl
 ·simp at hb
theorem Eo{ty:TypeId}{f f':FuncId}{ptr:Bool}{q:Option (Bool×Nat)}(hc:Bt P ty f ptr=some (f',q)):f'=f/\∃d,P.underlying ty=some d/\(∀ms,d≠.interface ms)/\
 ((∃e,d=.pointer e/\((ptr=true/\q=none)\/(ptr=false/\∃a s,fU P e=some a/\bu P e=some s/\q=some (a,s))))\/((∀e,d≠.pointer e)/\ptr=false/\q=none)):=by
 unfold Bt at hc
 cases hu:P.underlying ty with
 |none=>simp[hu]at hc
 |some d=>
  rw[hu]at hc
  cases d<;>simp only[reduceCtorEq]at hc
  case pointer e=>
   cases ptr
   ·simp only[eb,c9]at hc
    split at hc
    ·rename_i a s h1 h2;simp only[aj,bL]at hc;exact⟨hc.1.symm,_,rfl,by simp,Or.inl ⟨e,rfl,Or.inr ⟨rfl,a,s,h1,h2,hc.2.symm⟩⟩⟩
    ·simp at hc
   ·simp only[cq,aj,bL]at hc;exact⟨hc.1.symm,_,rfl,by simp,Or.inl ⟨e,rfl,Or.inl ⟨rfl,hc.2.symm⟩⟩⟩
  all_goals
   cases ptr
   ·simp only[eb,c9,aj,bL]at hc;exact⟨hc.1.symm,_,rfl,by simp,Or.inr ⟨by simp,rfl,hc.2.symm⟩⟩
   ·simp at hc
theorem KJ{ty:TypeId}{name:String}{f:FuncId}{q:Option (Bool×Nat)}(hc:lX P ty name=some (f,q)):∃i m ptr,P.info? ty=some i/\i.methods.find? (·.name==name)=some m/\m.func=some (f,ptr)/\m.path.toList=[]/\
 Bt P ty f ptr=some (f,q):=by
 unfold lX at hc
 cases hi:P.info? ty with
 |none=>simp[hi]at hc
 |some i=>
  rw[hi]at hc;simp only at hc
  cases hm:i.methods.find? (·.name==name)with
  |none=>simp[hm]at hc
  |some m=>
   rw[hm]at hc;simp only at hc
   cases hf:m.func with
   |none=>simp[hf]at hc
   |some fp=>
    obtain⟨f',ptr⟩:=fp;rw[hf]at hc;simp only at hc
    by_cases hp:m.path.isEmpty=true
    ·rw[if_pos hp]at hc;have hff:=(Eo hc).1;subst hff;exact⟨i,m,ptr,rfl,hm,hf,by simpa using hp,hc⟩
    ·rw[if_neg hp]at hc
     cases hc
theorem zN{ty:TypeId}{name:String}{v:AV}{args:List AV}{res:R}(hc:m4 P Γ h ty name v args=res):res=.bad\/∃f q,lX P ty name=some (f,q)/\
 ((q=none/\res=.call f (v::args))\/∃agg sz i o x,q=some (agg,sz)/\v=.ptr i o/\o_ Γ h agg sz (.ptr i o)=some x/\res=.call f (x::args)):=by
 unfold m4 at hc
 split at hc
 ·rename_i f h1;exact Or.inr ⟨f,none,h1,Or.inl ⟨rfl,hc.symm⟩⟩
 ·rename_i f agg sz h1
  split at hc
  ·rename_i i o
   split at hc
   ·rename_i x hx;exact Or.inr ⟨f,_,h1,Or.inr ⟨agg,sz,i,o,x,rfl,rfl,hx,hc.symm⟩⟩
   ·exact Or.inl hc.symm
  ·exact Or.inl hc.symm
 ·exact Or.inl hc.symm
theorem Ki(H:Inv P Γ N g h w){ty:TypeId}{name:String}{v:AV}{args:List AV}{f:FuncId}{bs:List AV}(hc:m4 P Γ h ty name v args=.call f bs)(hb:ar P f=true){u:Value}{us:List Value}(hv:V g h v u)(ha:VL g h args us):
 ∃xs,(callMethod (.iface ty u) name us.toArray).run P w=.ok (.enter f xs.toArray) w/\VL g h bs xs:=by
 rcases zN hc with h0|⟨f',q,hcm,hq⟩
 ·cases h0
 obtain⟨i,m,ptr,hi,hm,hf,hp,hr⟩:=KJ hcm;obtain⟨_,d,hu,_,hd⟩:=Eo hr
 have hpe:m.path.isEmpty=true:=by simpa using hp
 have hfuel:P.types.size+Made.depth=(P.types.size+99)+1:=rfl
 have hdone:∀(x:Value)(y:AV),(receiverAt ty (.val u) ptr (some ((name.splitOn ".").getLastD name))).run P w=.ok x w->f'=f->bs=y::args->V g h y x->
  ∃xs,(callMethod (.iface ty u) name us.toArray).run P w=.ok (.enter f xs.toArray) w/\VL g h bs xs:=by
  intro x y hx hff hbs hy;subst hff;refine⟨x::us,?_,?_⟩
  ·simp only[callMethod,Sem.run_bind,run_program,Result.andThen_ok];rw[hfuel,method];simp only[Sem.run_bind,typeInfo,run_program,Result.andThen_ok,hi,Sem.run_pure,hm,hp,follow,hf,hpe,cq,hx];rw[zC hb];congr 2;apply gV;simp
  ·rw[hbs];simp only[VL];exact⟨x,us,rfl,hy,ha⟩
 rcases hd with⟨e,rfl,hd|⟨rfl,agg',s',hag,hsz,hqs⟩⟩|⟨hne,rfl,rfl⟩
 ·obtain⟨rfl,rfl⟩:=hd
  rcases hq with⟨_,hq⟩|⟨_,_,_,_,_,hq,_⟩
  ·simp only[R.call.injEq]at hq;refine hdone u v ?_ hq.1.symm hq.2 hv;simp[receiverAt,run_underlying hu,Place.get]
  ·cases hq
 ·rcases hq with⟨hq,_⟩|⟨agg,sz,i',o',x,hq,rfl,hx,hq2⟩
  ·rw[hq]at hqs;cases hqs
  ·rw[hq]at hqs;simp only[aj,bL]at hqs;obtain⟨rfl,rfl⟩:=hqs;simp only[R.call.injEq]at hq2;obtain⟨ad,y,hu1,hu2,hu3⟩:=D2 H hag hsz hv hx;refine hdone y x ?_ hq2.1.symm hq2.2 hu3;subst hu1;have hss:(Builtin.ssaWrapNilChk_ #[ty] ty #[.pointer (some ad),strVal "",strVal ((name.splitOn ".").getLastD name)]).run P w=.ok (.pointer (some ad)) w:=rfl;have has:(asAddr (.pointer (some ad))).run P w=.ok ad w:=rfl;simp only[receiverAt,Sem.run_bind,run_underlying hu,Place.get,Sem.run_pure,Result.andThen_ok];simp only[hss,Result.andThen_ok,has,hu2]
 ·rcases hq with⟨_,hq⟩|⟨_,_,_,_,_,hq,_⟩
  ·simp only[R.call.injEq]at hq;refine hdone u v ?_ hq.1.symm hq.2 hv
   cases d<;>first
    |exact absurd rfl (hne _)
    |simp[receiverAt,run_underlying hu,Place.get]
  ·cases hq
def eX(P:Program)(Γ:Nat->Option AV)(N:Env)(g:G)(h:List Ob)(w:World)(r:Operand->Value)(o:Oper):R->Prop
 |.val v h'=>aJ P Γ N r o w g h h' (some v)
 |.skip h'=>aJ P Γ N r o w g h h' none
 |.c8 v=>∃u,(execOp r o).run P w=.halt (.panic u) w/\V g h v u
 |.call f args=>ar P f=true->∃us,(execOp r o).run P w=.ok (.enter f us.toArray) w/\VL g h args us
 |.qH=>(execOp r o).run P w=.ok .recover w
 |.bx f args=>∃d,(execOp r o).run P w=.ok (.defer d) w/\DR g h (.call f args) d
 |.yield l args=>∃b us,(execOp r o).run P w=(Instr.yield b us.toArray).run P w/\V g h (.cV l) (.func (.yield b) #[] #[])/\VL g h args us
 |.either=>∃c:Bool,aJ P Γ N r o w g h h (some (.bool c))
 |.bad=>True
theorem Gf(he:∀x,V g h (ax t (au x)) (a.eval x))(xs:Array Operand):VL g h ((xs.toList.map au).map (ax t)) (xs.toList.map a.eval):=by
 rw[ij];exact oX he _
theorem XZ(H:Inv P Γ N g h w)(he:∀x,V g h (ax t (au x)) (a.eval x)){f:Operand}{xs:Array Operand}{ts:Array TypeId}(ho:o.op=.call ⟨.value f,xs,ts⟩):
 eX P Γ N g h w a.eval o (aw P Γ t h (.call (au f) (xs.toList.map au))):=by
 have hf:=he f;have hxs:=Gf he xs;simp only[aw]
 split
 ·
  rename_i n fs cs hv;rw[hv]at hf;simp only[V]at hf;obtain⟨us,vs,hfe,h1,h2⟩:=hf;intro hb;refine⟨us++xs.toList.map a.eval++vs,?_,kf (kf h1 hxs) h2⟩;simp only[execOp,ho,resolve,Sem.run_bind,hfe,Deferred.ofValue,Sem.run_pure,Result.andThen_ok,invoke,zC hb];congr 2;apply gV;simp
 ·
  rename_i ty name fs cs hv;rw[hv]at hf;simp only[V]at hf;obtain⟨us,vs,hfe,h1,h2⟩:=hf
  split
  ·rename_i qH as hsp;have h3:=kf h1 hxs;rw[hsp]at h3;simp only[VL]at h3;obtain⟨u,us',h4,h5,h6⟩:=h3
   cases hcm:m4 P Γ h ty name qH as<;>simp only[eX]
   case call f' bs=>
    intro hb;obtain⟨ys,h7,h8⟩:=Ki H hcm hb h5 h6;refine⟨ys,?_,h8⟩
    have hd:∃d,P.underlying ty=some d/\∀ms,d≠.interface ms:=by
     rcases zN hcm with h0|⟨f2,q,hcm2,_⟩
     ·cases h0
     obtain⟨_,_,_,_,_,_,_,hr⟩:=KJ hcm2;obtain⟨_,d,hu,hne,_⟩:=Eo hr;exact⟨d,hu,hne⟩
    obtain⟨d,hd,hne⟩:=hd
    have hargs:us.toArray++xs.map a.eval=(u::us').toArray:=by
     apply gV;simpa using h4
    simp only[execOp,ho,resolve,Sem.run_bind,hfe,Deferred.ofValue,Sem.run_pure,Result.andThen_ok,invoke,hargs,oi,pK,run_underlying hd]
    have hex:(u::us').toArray.extract 1 (u::us').toArray.size=us'.toArray:=by apply gV;simp
    rw[hex]
    cases d<;>first
     |exact absurd rfl (hne _)
     |exact h7
   all_goals (rcases zN hcm with h0|⟨_,_,_,⟨_,h0⟩|⟨_,_,_,_,_,_,_,_,h0⟩⟩<;>first|cases h0|trivial)
  ·trivial
 ·rename_i l hv;rw[hv]at hf;have hf0:=hf;simp only[V]at hf;obtain⟨hl,b,sz,hρ,hfe⟩:=hf;refine⟨b,xs.toList.map a.eval,?_,by rw[hfe]at hf0;exact hf0,hxs⟩;simp only[execOp,ho,resolve,Sem.run_bind,hfe,Deferred.ofValue,Sem.run_pure,Result.andThen_ok,invoke];congr 2;apply gV;simp
 ·trivial
theorem V1(H:Inv P Γ N g h w)(he:∀x,V g h (ax t (au x)) (a.eval x)){x:Operand}{name:String}{xs:Array Operand}{ts:Array TypeId}(ho:o.op=.call ⟨.invoke x name,xs,ts⟩):
 eX P Γ N g h w a.eval o (aw P Γ t h (.invoke (au x) name (xs.toList.map au))):=by
 have hx:=he x;have hxs:=Gf he xs;simp only[aw]
 split
 ·rename_i ty v hv;rw[hv]at hx;simp only[V]at hx;obtain⟨u,hxe,hvu⟩:=hx
  cases hcm:m4 P Γ h ty name v ((xs.toList.map au).map (ax t))<;>simp only[eX]
  case call f' bs=>
   intro hb;obtain⟨ys,h7,h8⟩:=Ki H hcm hb hvu hxs;refine⟨ys,?_,h8⟩
   have hargs:#[a.eval x]++xs.map a.eval=(a.eval x::xs.toList.map a.eval).toArray:=by
    apply gV;simp
   have hex:(a.eval x::xs.toList.map a.eval).toArray.extract 1 (a.eval x::xs.toList.map a.eval).toArray.size=(xs.toList.map a.eval).toArray:=by apply gV;simp;rw[cS (by simp)]
   simp only[execOp,ho,resolve,Sem.run_bind,Sem.run_pure,Result.andThen_ok,invoke,hargs,oi,pK,hex];rw[hxe];exact h7
  all_goals (rcases zN hcm with h0|⟨_,_,_,⟨_,h0⟩|⟨_,_,_,_,_,_,_,_,h0⟩⟩<;>first|cases h0|trivial)
 ·trivial
end
section
variable{P:Program}{Γ:Nat->Option AV}{N:Env}{g:G}{h:List Ob}{w:World}{a:Act}{o:Oper}{t:List AV}
theorem FW{k:Nat}{z:AV}(h:j3 k z=true):z.cells.length=k/\bV z.cells=true/\aK 0 z.cells=true:=by
 simp only[j3,av,a_]at h;exact⟨h.1.1,h.1.2,h.2⟩
theorem Ae{t e:TypeId}(h:kE P t=some e):P.underlying t=some (.slice e):=by
 unfold kE at h
 split at h
 ·rename_i e' hu;simp only[aj]at h;subst h;exact hu
 ·simp at h
theorem JL{k b:Nat}{E:TypeId}{x:AV}{ys:List AV}{fl:Bool}{res:R}(hres:gI h k E b x ys fl=res):res=.bad\/∃v h',res=.val v h':=by
 unfold gI at hres
 cases x<;>try (exact Or.inl hres.symm)
 case list f k' es=>
  cases f
  ·exact Or.inl hres.symm
  ·simp only at hres
   split at hres
   ·cases ys
    ·exact Or.inr ⟨_,_,hres.symm⟩
    ·exact Or.inr ⟨_,_,hres.symm⟩
   ·exact Or.inl hres.symm
 case sl i off n=>
  simp only at hres
  split at hres
  ·split at hres
   ·split at hres
    ·exact Or.inr ⟨_,_,hres.symm⟩
    ·split at hres
     ·exact Or.inr ⟨_,_,hres.symm⟩
     ·exact Or.inl hres.symm
   ·exact Or.inl hres.symm
  ·exact Or.inl hres.symm
theorem Y7(H:Inv P Γ N g h w)(he:∀x,V g h (ax t (au x)) (a.eval x)){x:Operand}{sT:TypeId}(ho:o.op=.call ⟨.builtin .clear,#[x],#[sT]⟩){ao:AO}
 (hc:l5 P ⟨.builtin .clear,#[x],#[sT]⟩=some ao):eX P Γ N g h w a.eval o (aw P Γ t h ao):=by
 simp only[l5]at hc
 cases hE:kE P sT with
 |none=>simp[hE]at hc
 |some e=>
  cases hK:bu P e with
  |none=>simp[hE,hK]at hc
  |some k=>
   cases hZ:dL P e with
   |none=>simp[hE,hK,hZ]at hc
   |some z=>
    by_cases h0:k=0\/j3 k z=false
    ·simp[hE,hK,hZ,h0]at hc
    ·simp only[not_or,xV]at h0;obtain⟨hk0,hzo⟩:=h0;obtain⟨hz1,hz2,hz3⟩:=FW hzo;have ht:=Ae hE;simp[hE,hK,hZ,hk0,hzo]at hc;subst hc;have hx:=he x;simp only[aw]
     split
     ·rename_i i off n hxe
      split
      ·rename_i k' E es fl hi
       split
       ·rename_i hcc;obtain⟨rfl,hle⟩:=hcc;rw[hxe]at hx;exact ZL H ho ht hK (by omega) hZ hz1 hz2 hz3 hx hi hle
       ·trivial
      ·trivial
     ·trivial
theorem XV(H:Inv P Γ N g h w)(he:∀x,V g h (ax t (au x)) (a.eval x)){x y:Operand}{sT u:TypeId}(ho:o.op=.call ⟨.builtin .append,#[x,y],#[sT,u]⟩){ao:AO}
 (hc:l5 P ⟨.builtin .append,#[x,y],#[sT,u]⟩=some ao):eX P Γ N g h w a.eval o (aw P Γ t h ao):=by
 simp only[l5]at hc
 cases hE:kE P sT with
 |none=>simp[hE]at hc
 |some e=>
  cases hK:bu P e with
  |none=>simp[hE,hK]at hc
  |some k=>
   cases hB:lu P e with
   |none=>simp[hE,hK,hB]at hc
   |some b=>
    cases hZ:dL P e with
    |none=>simp[hE,hK,hB,hZ]at hc
    |some z=>
     by_cases h0:k=0\/b=0\/j3 k z=false
     ·simp[hE,hK,hB,hZ,h0]at hc
     ·simp only[not_or,xV]at h0;obtain⟨hk0,hb0,hzo⟩:=h0;obtain⟨hz1,hz2,hz3⟩:=FW hzo;have ht:=Ae hE
      cases hU:P.underlying u with
      |none=>simp[hE,hU]at hc
      |some d=>
       by_cases hd:∃j,d=.int j
       ·obtain⟨j,rfl⟩:=hd;simp[hE,hK,hB,hZ,hk0,hb0,hzo,hU]at hc;subst hc;simp only[aw]
        split
        ·rename_i i m hm
         split
         ·rename_i hmm;have hy:=he y;rw[hm]at hy
          have hr:∀{res:R},gI h k e b (ax t (au x)) (List.replicate m.toNat z) true=res->eX P Γ N g h w a.eval o res:=by
           intro res hres
           rcases JL hres with rfl|⟨v,h',rfl⟩
           ·trivial
           have hmB:m*b<=2^48:=by
            have h2:(m.toNat*b:Nat)<=2^47:=by
             unfold gI at hres
             split at hres
             ·split at hres
              ·rename_i hc2;have:=hc2.1;rw[oj]at this;exact qO (kX _ (Nat.le_add_left _ _)) this
              ·cases hres
             ·split at hres
              ·split at hres
               ·rename_i hc2;have:=hc2.2.2.2;rw[oj]at this;exact qO (kX _ (Nat.le_add_left _ _)) this
               ·cases hres
              ·cases hres
             ·cases hres
            have h3:m=(m.toNat:Int):=by omega
            rw[h3];have h4:((m.toNat*b:Nat):Int)<=((2^47:Nat):Int):=Int.ofNat_le.2 h2;simp only[Int.natCast_mul]at h4
            have h5:((2^47:Nat):Int)<=2^48:=by decide
            omega
           exact Xo H ho ht hK (by omega) hB hb0 hZ hz1 hz2 hz3 hU (he x) (dS hy) hmm.1 hmm.2 hmB hres
          exact hr rfl
         ·trivial
        ·trivial
       ·have hd':∀j,d≠.int j:=fun j hj=>hd ⟨j,hj⟩
        have hao:ao=.append k e b (au x) (au y):=by
         cases d<;>first
          |exact absurd rfl (hd' _)
          |(simp[hE,hK,hB,hZ,hk0,hb0,hzo,hU]at hc;exact hc.symm)
        subst hao
        have hr:∀{ys:List AV}{fl:Bool}{res:R}{k2:Nat},gI h k2 e b (ax t (au x)) ys fl=res->(∀v h',res=.val v h'->aJ P Γ N a.eval o w g h h' (some v))->eX P Γ N g h w a.eval o res:=by
         intro ys fl res k2 hres hv
         rcases JL hres with rfl|⟨v,h',rfl⟩
         ·trivial
         ·exact hv _ _ rfl
        have hy:=he y;simp only[aw]
        split
        ·rename_i f k' es hes
         split
         ·rename_i hkk;rw[hes]at hy
          exact hr rfl fun v h' hres=>EO H ho ht hK (by omega) hB hb0 hZ hz1 hU hd' (he x) hy (Or.inl ⟨f,k',es,rfl,hkk,hres⟩)
         ·trivial
        ·rename_i i q n hes;rw[hes]at hy
         split
         ·rename_i k' es kr Er esr grr flr shr hte hi
          split
          ·rename_i hkk;subst hkk
           have hkr:kr=k':=by
            simp only[jP,hi]at hte
            split at hte
            ·simp only[aj,bL]at hte;exact hte.1
            ·simp at hte
           subst hkr
           exact hr rfl fun v h' hres=>EO H ho ht hK (by omega) hB hb0 hZ hz1 hU hd' (he x) hy (Or.inr (Or.inl ⟨i,q,n,es,_,_,_,_,_,rfl,hte,hi,hres⟩))
          ·trivial
         ·trivial
        ·rename_i s hes;rw[hes]at hy
         split
         ·rename_i hk1;subst hk1
          exact hr rfl fun v h' hres=>EO H ho ht hK (by omega) hB hb0 hZ hz1 hU hd' (he x) hy (Or.inr (Or.inr ⟨s,rfl,rfl,hres⟩))
         ·trivial
        ·trivial
theorem UA(d:Nat)(t e:TypeId)(a:Option Addr)(l c:Nat)(h:P.underlying t=some (.slice e))(w:World):(Op.equalIn (d+1) t (.slice a l c) (.slice none 0 0)).run P w=.ok a.isNone w:=by
 cases a<;>simp[Op.equalIn,run_underlying h]
theorem U1(t e:TypeId)(a:Option Addr)(l c:Nat)(h:P.underlying t=some (.slice e))(w:World):(Op.equal t (.slice a l c) (.slice none 0 0)).run P w=.ok a.isNone w:=UA 9999 t e a l c h w
theorem Lm(H:Inv P Γ N g h w)(he:∀x,V g h (ax t (au x)) (a.eval x)){x:Operand}{ty ty' e:TypeId}{neg:Bool}(ho:o.op=.binOp (if neg then .neq else .eql) ty x (.const (.slice none 0 0)) ty')
 (hu:P.underlying ty=some (.slice e)):eX P Γ N g h w a.eval o (aw P Γ t h (.jq neg (au x))):=by
 have hx:=he x
 have hcase:∀{n:Nat},nR (ax t (au x))=some n->∃ad cap,a.eval x=.slice ad n cap/\(0<n->∃b p,ad=some ⟨b,p,none⟩):=by
  intro n hn
  cases hv:ax t (au x)<;>simp only[hv,nR,aj,reduceCtorEq]at hn
  ·rw[hv]at hx;simp only[V]at hx;obtain⟨_,ad,cap,h1,_,_,h3⟩:=hx;subst hn;refine⟨ad,cap,h1,fun hpos=>?_⟩
   rcases h3 with rfl|⟨b,p,_,rfl,_⟩
   ·simp at hpos
   ·exact⟨b,p,rfl⟩
  ·rw[hv]at hx;simp only[V]at hx;obtain⟨_,_,_,_,_,_,_,_,ad,cap,h1,_,h3,_⟩:=hx;subst hn;exact⟨ad,cap,h1,h3⟩
 have hrun:∀{ad:Option Addr}{n cap:Nat},a.eval x=.slice ad n cap->(execOp a.eval o).run P w=.ok (.value (.bool (if neg then !ad.isNone else ad.isNone))) w:=by
  intro ad n cap hxe;have hc0:a.eval (.const (.slice none 0 0))=.slice none 0 0:=rfl;have hq:=U1 (P:=P) ty e ad n cap hu w;simp only[execOp,ho,hc0,hxe]
  cases neg
  ·simp only[eb,c9];rw[Sem.run_bind,Sem.run_bind,f_ (by simp) (by simp)];simp only[Result.andThen_ok];rw[rz (by rfl) hq];rfl
  ·simp only[cq];rw[Sem.run_bind,Sem.run_bind,f_ (by simp) (by simp)];simp only[Result.andThen_ok];rw[rA (by rfl) hq];rfl
 simp only[aw]
 split
 ·rename_i n hn;obtain⟨ad,cap,h1,h2⟩:=hcase hn;obtain⟨b,p,rfl⟩:=h2 (by omega);refine aJ.same H (hrun h1) ?_
  cases neg<;>simp[V]
 ·rename_i hn;obtain⟨ad,cap,h1,_⟩:=hcase hn;exact⟨_,aJ.same H (hrun h1) (by simp only[V];rfl)⟩
 ·trivial
theorem abK(H:Inv P Γ N g h w)(he:∀x,V g h (ax t (au x)) (a.eval x)){x:Operand}{ty:TypeId}(ho:o.op=.call ⟨.builtin .len,#[x],#[ty]⟩){ao:AO}(hc:l5 P ⟨.builtin .len,#[x],#[ty]⟩=some ao):
 eX P Γ N g h w a.eval o (aw P Γ t h ao):=by
 have hx:=he x;simp only[l5]at hc
 split at hc
 ·rename_i hu;simp only[aj]at hc;subst hc;simp only[aw]
  split
  ·rename_i s hs;rw[hs]at hx;exact wV H ho (Or.inl ⟨s,hu,iW hx,rfl⟩)
  ·trivial
 ·rename_i e hu;simp only[aj]at hc;subst hc;simp only[aw]
  split
  ·rename_i f k es hs;rw[hs]at hx;simp only[V]at hx;obtain⟨_,ad,cap,h1,_⟩:=hx;exact wV H ho (Or.inr (Or.inl ⟨e,ad,cap,hu,h1⟩))
  ·rename_i i q n hs;rw[hs]at hx;simp only[V]at hx;obtain⟨_,_,_,_,_,_,_,_,ad,cap,h1,_⟩:=hx;exact wV H ho (Or.inr (Or.inl ⟨e,ad,cap,hu,h1⟩))
  ·trivial
 ·rename_i n e hu;simp only[aj]at hc;subst hc;exact wV H ho (Or.inr (Or.inr (Or.inl ⟨e,hu⟩)))
 ·rename_i k e hu;simp only[aj]at hc;subst hc;simp only[aw]
  split
  ·rename_i hs;exact Ev H ho hu hx (Or.inl ⟨hs,rfl⟩)
  ·rename_i ks vs hs;exact Ev H ho hu hx (Or.inr (Or.inl ⟨ks,vs,hs,rfl⟩))
  ·rename_i j hs
   split
   ·rename_i es fl hj;exact Ev H ho hu hx (Or.inr (Or.inr ⟨j,es,fl,hs,hj,rfl⟩))
   ·trivial
  ·trivial
 ·simp at hc
theorem wg{c:Call}{b:Builtin}(hb:c.callee=.builtin b){xs:List Operand}{ts:List TypeId}(hx:c.args.toList=xs)(ht:c.argTypes.toList=ts):c=⟨.builtin b,xs.toArray,ts.toArray⟩:=by
 cases c
 simp only at hb hx ht;subst hb;congr 1
 ·apply gV;simpa using hx
 ·apply gV;simpa using ht
theorem WN(H:Inv P Γ N g h w)(he:∀x,V g h (ax t (au x)) (a.eval x)){c:Call}(ho:o.op=.call c){b:Builtin}(hb:c.callee=.builtin b){ao:AO}(hc:l5 P c=some ao):
 eX P Γ N g h w a.eval o (aw P Γ t h ao):=by
 have hc0:=hc;simp only[l5,hb]at hc
 split at hc
 ·
  rename_i x ty hx ht;have hcc:=wg hb hx ht;rw[hcc]at ho hc0;exact abK H he ho hc0
 ·
  rename_i x ty hx ht;have hcc:=wg hb hx ht;rw[hcc]at ho
  split at hc
  ·rename_i e hu;simp only[aj]at hc;subst hc;have hv:=he x;simp only[aw]
   split
   ·rename_i k es hs;rw[hs]at hv;simp only[V]at hv;obtain⟨_,ad,cap,h1,h2,_⟩:=hv;have:=adg H ho hu h1;rwa[h2 trivial]at this
   ·trivial
  ·simp at hc
 ·
  rename_i x y ty u hx ht;have hcc:=wg hb hx ht;rw[hcc]at ho hc0;exact XV H he ho hc0
 ·
  rename_i m k ty u hx ht;have hcc:=wg hb hx ht;rw[hcc]at ho
  split at hc
  ·rename_i key et hu;simp only[bS]at hc;obtain⟨e,hk,rfl⟩:=hc;have hm:=he m;have hkk:=he k;simp only[aw]
   split
   ·rename_i j hj
    split
    ·rename_i es fl hjo
     split
     ·trivial
     ·rename_i hkey
      split
      ·rename_i es' hd;rw[hj]at hm;exact Yj H ho hu hk hm hjo hkk (by simpa using hkey) hd
      ·trivial
    ·trivial
   ·trivial
  ·simp at hc
 ·
  rename_i x ty hx ht;have hcc:=wg hb hx ht;rw[hcc]at ho hc0;exact Y7 H he ho hc0
 ·
  rename_i xs _;simp only[aj]at hc;subst hc
  have hcc:c=⟨.builtin .min,c.args,c.argTypes⟩:=by cases c;simp only at hb;subst hb;rfl
  rw[hcc]at ho;simp only[aw]
  split
  ·rename_i v vs hvs
   split
   ·rename_i u hu;exact adE H ho he hvs hu
   ·trivial
  ·trivial
 ·
  rename_i xs _;simp only[aj]at hc;subst hc
  have hcc:c=⟨.builtin .max,c.args,c.argTypes⟩:=by cases c;simp only at hb;subst hb;rfl
  rw[hcc]at ho;simp only[aw]
  split
  ·rename_i v vs hvs
   split
   ·rename_i u hu;exact adq H ho he hvs hu
   ·trivial
  ·trivial
 ·
  rename_i hx;simp only[aj]at hc;subst hc;simp only[aw,eX]
  have hcc:c=⟨.builtin .recover,c.args,c.argTypes⟩:=by cases c;simp only at hb;subst hb;rfl
  rw[hcc]at ho;simp[execOp,ho,resolve,invoke,builtin]
 ·simp at hc
end
section
variable{P:Program}{Γ:Nat->Option AV}{N:Env}{g:G}{h:List Ob}{w:World}{a:Act}{o:Oper}{t:List AV}
theorem uu{p:AV}{v:Value}(hv:V g h p v)(hp:match p with|.ptr _ _|.cZ _ _ _ _|.dU _ _=>True|_=>False):∃b m,v=.pointer (some ⟨b,m,none⟩)/\
 ∀n,V g h (match p with|.ptr i q=>.ptr i (q+n)|.cZ x k i q=>.cZ x k i (q+n)|.dU i q=>.dU i (q+n)|x=>x) (.pointer (some ⟨b,m+n,none⟩)):=by
 match p,hv,hp with
 |.ptr i q,hv,_=>
  simp only[V]at hv;obtain⟨h1,b,sz,hρ,rfl⟩:=hv;exact⟨b,q,rfl,fun n=>by simp only[V];exact⟨h1,b,sz,hρ,rfl⟩⟩
 |.cZ x k i q,hv,_=>
  simp only[V]at hv;obtain⟨u,b,m,h1,h2,h3,rfl⟩:=hv;exact⟨b,m+i*k+q,rfl,fun n=>by simp only[V];exact⟨u,b,m,h1,h2,h3,by rw[nh]⟩⟩
 |.dU i q,hv,_=>
  simp only[V]at hv;subst hv;exact⟨i,q,rfl,fun n=>by simp only[V]⟩
def ae8(ck:CK)(q:Option Bool)(h:List Ob):R:=
 match ck with
 |.eql=>match q with
  |some b=>.val (.bool b) h
  |none=>.bad
 |.neq=>match q with
  |some b=>.val (.bool !b) h
  |none=>.bad
 |_=>.bad
theorem X3(H:Inv P Γ N g h w)(he:∀x,V g h (ax t (au x)) (a.eval x)){op:BinOp}{ty ty':TypeId}{x y:Operand}(ho:o.op=.binOp op ty x y ty'){ao:AO}(hc:bO P o=some ao):
 eX P Γ N g h w a.eval o (aw P Γ t h ao):=by
 have hx:=he x;have hy:=he y;simp only[bO,ho]at hc
 have hcmp:∀{ck:CK}{e:EK},qA op=some ck->oT P ty=some e->e≠.sc .int->eX P Γ N g h w a.eval o (aw P Γ t h (.cmp ck e (au x) (au y))):=by
  intro ck e h1 h2 h3
  have heq:∀{b:Bool},ck=.eql->b_ e (ax t (au x)) (ax t (au y))=some b->aJ P Γ N a.eval o w g h h (some (.bool b)):=by
   intro b hck hb;subst hck
   have hop:op=.eql:=by cases op<;>simp only[qA,aj,reduceCtorEq]at h1;rfl
   subst hop;exact ade H ho h2 hb hx hy
  have hne:∀{b:Bool},ck=.neq->b_ e (ax t (au x)) (ax t (au y))=some b->aJ P Γ N a.eval o w g h h (some (.bool !b)):=by
   intro b hck hb;subst hck
   have hop:op=.neq:=by cases op<;>simp only[qA,aj,reduceCtorEq]at h1;rfl
   subst hop;exact adV H ho h2 hb hx hy
  have hao:aw P Γ t h (.cmp ck e (au x) (au y))=ae8 ck (b_ e (ax t (au x)) (ax t (au y))) h:=by
   rcases e with(s|ss|_|_)
   ·cases s
    ·exact absurd rfl h3
    ·cases ck<;>rfl
    ·cases ck<;>rfl
   ·cases ck<;>rfl
   ·cases ck<;>rfl
   ·cases ck<;>rfl
  rw[hao]
  cases hq:b_ e (ax t (au x)) (ax t (au y))with
  |none=>cases ck<;>trivial
  |some b=>
   cases ck
   ·exact heq rfl hq
   ·exact hne rfl hq
   all_goals trivial
 split at hc
 ·
  rename_i k hu
  split at hc
  ·rename_i ck hck;simp only[aj]at hc;subst hc;simp only[aw]
   split
   ·rename_i k1 p k2 q h1 h2;rw[h1]at hx;rw[h2]at hy
    split
    ·rename_i hkk;subst hkk;exact abq H ho hck (dS hx) (dS hy)
    ·trivial
   ·trivial
  ·rename_i hck;simp only[bS]at hc;obtain⟨ib,hib,rfl⟩:=hc;simp only[aw]
   split
   ·rename_i k1 p k2 q h1 h2;rw[h1]at hx;rw[h2]at hy
    split
    ·rename_i hkk
     split
     ·rename_i n hn;exact abr H ho hib (dS hx) (dS hy) hkk hn
     ·trivial
    ·trivial
   ·trivial
 ·
  rename_i hu
  split at hc
  ·rename_i hadd;subst hadd;simp only[aj]at hc;subst hc;simp only[aw]
   split
   ·rename_i p q h1 h2;rw[h1]at hx;rw[h2]at hy
    split
    ·rename_i hl;exact Yd H ho (iW hx) (iW hy) hl
    ·trivial
   ·trivial
  ·split at hc
   ·rename_i ck e hck hek;simp only[aj]at hc;subst hc;refine hcmp hck hek ?_
    rintro rfl
    unfold oT at hek
    split at hek
    ·rename_i s hs;simp only[aj,EK.sc.injEq]at hek;subst hek;obtain⟨_,h1⟩:=ow hs;obtain⟨k,hk⟩:=h1;rw[hu]at hk
     cases hk
    ·split at hek<;>try (simp at hek)
     all_goals (split at hek<;>simp at hek)
   ·simp at hc
 ·
  rename_i e hu
  split at hc
  ·simp only[aj]at hc;subst hc;exact Lm H he (neg:=false) ho hu
  ·simp only[aj]at hc;subst hc;exact Lm H he (neg:=true) ho hu
  ·simp at hc
 ·rename_i hni hns hnl
  split at hc
  ·rename_i ck e hck hek;simp only[aj]at hc;subst hc;refine hcmp hck hek ?_
   rintro rfl
   unfold oT at hek
   split at hek
   ·rename_i s hs;simp only[aj,EK.sc.injEq]at hek;subst hek;obtain⟨_,h1⟩:=ow hs;obtain⟨k,hk⟩:=h1;exact hni k hk
   ·split at hek<;>try (simp at hek)
    all_goals (split at hek<;>simp at hek)
  ·simp at hc
theorem WQ(H:Inv P Γ N g h w)(he:∀x,V g h (ax t (au x)) (a.eval x)){s d:TypeId}{x:Operand}(ho:o.op=.convert s d x){ao:AO}(hc:bO P o=some ao):
 eX P Γ N g h w a.eval o (aw P Γ t h ao):=by
 have hx:=he x;simp only[bO,ho]at hc
 split at hc
 ·rename_i j k hs hd;simp only[aj]at hc;subst hc;simp only[aw]
  split
  ·rename_i k' n h1;rw[h1]at hx;exact acz H ho hs hd (dS hx)
  ·trivial
 ·rename_i hs hd;simp only[aj]at hc;subst hc;simp only[aw]
  split
  ·rename_i l h1;rw[h1]at hx;exact ab2 H ho hs hd (iW hx)
  ·trivial
 ·rename_i e hs hd
  split at hc
  ·rename_i hee
   split at hc
   ·simp only[aj]at hc;subst hc;simp only[aw]
    split
    ·rename_i l h1;rw[h1]at hx
     split
     ·exact Xh H ho hs hd hee (iW hx) e
     ·trivial
    ·trivial
   ·simp at hc
  ·simp at hc
 ·rename_i e' e hs hd
  split at hc
  ·rename_i hee
   split at hc
   ·rename_i hsd;simp only[aj]at hc;subst hc;simp only[aw]
    split
    ·rename_i i q n h1;rw[h1]at hx
     split
     ·rename_i E es fl sh hi
      split
      ·trivial
      ·rename_i hcond;simp only[not_or,I_]at hcond;obtain⟨h2,h3,h4⟩:=hcond;subst h3;subst hsd;exact abO H ho rfl hd hee hi h4 hx h2
     ·trivial
    ·trivial
   ·simp at hc
  ·simp at hc
 ·rename_i e hs hd
  split at hc
  ·rename_i hee;simp only[aj]at hc;subst hc;simp only[aw]
   split
   ·rename_i es hes
    split
    ·rename_i l hl;exact Z_ H ho hs hee hd hx hes hl
    ·trivial
   ·trivial
  ·simp at hc
 ·simp at hc
theorem Zu(H:Inv P Γ N g h w)(he:∀x,V g h (ax t (au x)) (a.eval x)){ty:TypeId}{x:Operand}{lo hi mx:Option Operand}(ho:o.op=.slice ty x lo hi mx){ao:AO}(hc:bO P o=some ao):
 eX P Γ N g h w a.eval o (aw P Γ t h ao):=by
 have hx:=he x
 cases mx with
 |none=>
  simp only[bO,ho]at hc
  split at hc
  ·rename_i hu;simp only[aj]at hc;subst hc;simp only[aw]
   split
   ·rename_i s h1;rw[h1]at hx
    split
    ·rename_i l u hl hh
     split
     ·rename_i hlu;exact Wt H ho hu (iW hx) he hl hh hlu
     ·trivial
    ·trivial
   ·trivial
  ·rename_i e hu
   split at hc
   ·rename_i k hk;simp only[aj]at hc;subst hc;simp only[aw]
    split
    ·rename_i f k' es h1;rw[h1]at hx
     split
     ·rename_i l u hl hh
      split
      ·rename_i hlu;exact Vb H ho hu hk hx he hl hh hlu
      ·trivial
     ·trivial
    ·rename_i i q n h1;rw[h1]at hx
     split
     ·rename_i l u hl hh
      split
      ·rename_i hlu
       split
       ·rename_i k' E es gr fl sh hi'
        split
        ·rename_i hkk;obtain⟨rfl,hok⟩:=hkk;exact WV H ho hu hk hx he hl hh hlu hi' hok
        ·trivial
       ·trivial
      ·trivial
     ·trivial
    ·trivial
   ·simp at hc
  ·simp at hc
 |some mx=>
  cases hi with
  |none=>simp[bO,ho]at hc
  |some hi=>
   simp only[bO,ho]at hc
   split at hc
   ·rename_i e hu
    split at hc
    ·rename_i k hk;simp only[aj]at hc;subst hc;simp only[aw]
     split
     ·rename_i f k' es h1
      split
      ·rename_i l u m hl hh hm
       split
       ·rename_i hlu;obtain⟨h2,h3,rfl,h4⟩:=hlu;exact YZ H ho hu hk hx h1 he hl hh hm ⟨h2,h3,h4⟩
       ·trivial
      ·trivial
     ·trivial
    ·simp at hc
   ·simp at hc
end
section
variable{P:Program}{Γ:Nat->Option AV}{N:Env}{g:G}{h:List Ob}{w:World}{a:Act}{o:Oper}{t:List AV}
theorem Lf(H:Inv P Γ N g h w)(he:∀x,V g h (ax t (au x)) (a.eval x)){ty:TypeId}{x i:Operand}(ho:o.op=.indexAddr ty x i\/o.op=.index ty x i){ao:AO}(hc:bO P o=some ao):
 eX P Γ N g h w a.eval o (aw P Γ t h ao):=by
 have hx:=he x;have hi:=he i
 rcases ho with ho|ho
 ·simp only[bO,ho]at hc
  split at hc
  ·rename_i e hu
   split at hc
   ·rename_i k hk;simp only[aj]at hc;subst hc;simp only[aw]
    split
    ·rename_i m q n hm hn;rw[hn]at hi
     split
     ·rename_i hq;exact X5 H ho hu hk hx hm (dS hi) hq
     ·trivial
    ·trivial
   ·simp at hc
  ·rename_i n e hu
   split at hc
   ·rename_i k hk;simp only[aj]at hc;subst hc;simp only[aw]
    split
    ·rename_i q n' hn;rw[hn]at hi
     split
     ·rename_i hq
      split
      ·rename_i j m hp;rw[hp]at hx;obtain⟨b,mm,hxe,hadd⟩:=uu hx trivial;exact Ed H ho hu hk hxe (dS hi) hq (hadd _)
      ·rename_i u k' j m hp;rw[hp]at hx;obtain⟨b,mm,hxe,hadd⟩:=uu hx trivial;exact Ed H ho hu hk hxe (dS hi) hq (hadd _)
      ·rename_i j m hp;rw[hp]at hx;obtain⟨b,mm,hxe,hadd⟩:=uu hx trivial;exact Ed H ho hu hk hxe (dS hi) hq (hadd _)
      ·trivial
     ·trivial
    ·trivial
   ·simp at hc
  ·simp at hc
 ·simp only[bO,ho]at hc
  split at hc
  ·rename_i hu;simp only[aj]at hc;subst hc;simp only[aw]
   split
   ·rename_i s q n hs hn;rw[hs]at hx;rw[hn]at hi
    split
    ·rename_i h0
     split
     ·rename_i b hb;exact Z1 H ho hu (iW hx) (dS hi) h0 hb
     ·trivial
    ·trivial
   ·trivial
  ·rename_i n e hu
   cases hA:fU P e with
   |none=>simp[hA]at hc
   |some agg=>
    cases hS:bu P e with
    |none=>simp[hA,hS]at hc
    |some sz=>
     simp[hA,hS]at hc;subst hc;simp only[aw]
     split
     ·rename_i cs q m hs hn;rw[hs]at hx;rw[hn]at hi
      split
      ·rename_i hq
       split
       ·rename_i v hv;exact ZN H ho hu hA hS hx (dS hi) hq hv
       ·trivial
      ·trivial
     ·trivial
  ·simp at hc
theorem LQ(H:Inv P Γ N g h w)(he:∀x,V g h (ax t (au x)) (a.eval x)){ty:TypeId}{x:Operand}{i:Nat}(ho:o.op=.fieldAddr ty x i\/o.op=.field ty x i){ao:AO}(hc:bO P o=some ao):
 eX P Γ N g h w a.eval o (aw P Γ t h ao):=by
 have hx:=he x
 rcases ho with ho|ho
 ·simp only[bO,ho]at hc
  split at hc
  ·rename_i fs hu
   split at hc
   ·rename_i f hf
    split at hc
    ·rename_i k hk;simp only[aj]at hc;subst hc;simp only[aw]
     split
     ·rename_i j m hp;rw[hp]at hx;obtain⟨b,mm,hxe,hadd⟩:=uu hx trivial;exact Gc H ho hu hf hk hxe (hadd _)
     ·rename_i u k' j m hp;rw[hp]at hx;obtain⟨b,mm,hxe,hadd⟩:=uu hx trivial;exact Gc H ho hu hf hk hxe (hadd _)
     ·rename_i j m hp;rw[hp]at hx;obtain⟨b,mm,hxe,hadd⟩:=uu hx trivial;exact Gc H ho hu hf hk hxe (hadd _)
     ·trivial
    ·simp at hc
   ·simp at hc
  ·simp at hc
 ·simp only[bO,ho]at hc
  split at hc
  ·rename_i fs hu
   split at hc
   ·rename_i f hf
    cases hA:fU P f.type with
    |none=>simp[hA]at hc
    |some agg=>
     cases hS:bu P f.type with
     |none=>simp[hA,hS]at hc
     |some sz=>
      simp[hA,hS]at hc;subst hc;simp only[aw]
      split
      ·rename_i cs hs;rw[hs]at hx
       split
       ·rename_i v hv;exact adh H ho hu hf hA hS hx hv
       ·trivial
      ·trivial
   ·simp at hc
  ·simp at hc
theorem Oc(H:Inv P Γ N g h w)(he:∀x,V g h (ax t (au x)) (a.eval x)){ty:TypeId}{m k x:Operand}(ho:o.op=.mapUpdate ty m k x\/o.op=.insert ty m k x){ao:AO}(hc:bO P o=some ao):
 eX P Γ N g h w a.eval o (aw P Γ t h ao):=by
 have hm:=he m;have hk:=he k;have hx:=he x
 have hc':∃key et e,P.underlying ty=some (.map key et)/\iv P key=some e/\ao=.bG e (au m) (au k) (au x):=by
  rcases ho with ho|ho
  all_goals
   simp only[bO,ho]at hc
   split at hc
   ·rename_i key et hu;simp only[bS]at hc;obtain⟨e,hke,rfl⟩:=hc;exact⟨key,et,e,hu,hke,rfl⟩
   ·simp at hc
 obtain⟨key,et,e,hu,hke,rfl⟩:=hc';simp only[aw]
 split
 ·rename_i j hj;rw[hj]at hm
  split
  ·rename_i es fl hjo
   split
   ·trivial
   ·rename_i hkey
    split
    ·rename_i es' hp;exact adb H ho hu hke hm hjo hk (by simpa using hkey) hx hp
    ·trivial
  ·trivial
 ·trivial
theorem XJ(H:Inv P Γ N g h w)(he:∀x,V g h (ax t (au x)) (a.eval x)){ty:TypeId}{x i:Operand}{ok:Bool}(ho:o.op=.lookup ty x i ok){ao:AO}(hc:bO P o=some ao):
 eX P Γ N g h w a.eval o (aw P Γ t h ao):=by
 have hx:=he x;have hi:=he i;simp only[bO,ho]at hc
 split at hc
 ·rename_i key et hu
  cases hK:iv P key with
  |none=>simp[hK]at hc
  |some e=>
   cases hZ:dL P et with
   |none=>simp[hK,hZ]at hc
   |some z=>
    simp[hK,hZ]at hc;subst hc
    have hgo:∀{es:List (AV×AV)},((ax t (au x)=.c_/\es=[])\/(∃ks vs,ax t (au x)=.db ks vs/\es=ks.zip vs)\/∃j fl,ax t (au x)=.mp j/\h[j]? =some (.map es fl))->
     eX P Γ N g h w a.eval o (if isKey e (ax t (au i))=false then .bad else match eD e (ax t (au i)) es with
      |some (some v)=>.val (if ok then .aH [v,.bool true]else v) h
      |some none=>.val (if ok then .aH [z,.bool false]else z) h
      |none=>.bad):=by
     intro es hes
     split
     ·trivial
     ·rename_i hkey
      split
      ·rename_i v hf;exact LX H ho hu hK hZ hi (by simpa using hkey) hx hes hf rfl
      ·rename_i hf;exact LX H ho hu hK hZ hi (by simpa using hkey) hx hes hf rfl
      ·trivial
    simp only[aw]
    cases hv:ax t (au x)<;>simp only[hv]at hgo⊢<;>first
     |trivial
     |skip
    ·exact hgo (Or.inl ⟨trivial,rfl⟩)
    ·rename_i j
     cases hj:h[j]? with
     |none=>trivial
     |some q=>
      cases q<;>first
       |trivial
       |exact hgo (Or.inr (Or.inr ⟨j,_,rfl,hj⟩))
    ·exact hgo (Or.inr (Or.inl ⟨_,_,rfl,rfl⟩))
 ·simp at hc
theorem KY(H:Inv P Γ N g h w)(ht:VL g h t a.tmps.toList){ao:AO}(hc:bO P o=some ao):eX P Γ N g h w a.eval o (aw P Γ t h ao):=by
 have he:∀x,V g h (ax t (au x)) (a.eval x):=fun x=>BP ht x
 have hc0:=hc
 cases ho:o.op with
 |move x=>
  simp only[bO,ho,aj]at hc;subst hc;exact O2 H (Or.inl ho) (he x)
 |assign x=>
  simp only[bO,ho]at hc
  split at hc
  ·cases hE:kE P o.type with
   |none=>simp[hE]at hc
   |some e=>
    cases hS:bu P e with
    |none=>simp[hE,hS]at hc
    |some k=>
     by_cases hk:k=0
     ·simp[hE,hS,hk]at hc
     ·simp[hE,hS,hk]at hc;subst hc;exact X' H ho rfl (by omega) e
  ·simp only[aj]at hc;subst hc;exact O2 H (Or.inr ho) (he x)
 |pick c x y=>
  simp only[bO,ho,aj]at hc;subst hc;have h1:=he c;simp only[aw]
  split
  ·rename_i hb;rw[hb]at h1;exact N_ H ho (lj h1) (he x)
  ·rename_i hb;rw[hb]at h1;exact N_ H ho (lj h1) (he y)
  ·trivial
 |alloc ty=>
  simp only[bO,ho]at hc
  cases hZ:(P.info? ty).bind (·.zero)with
  |none=>simp[hZ]at hc
  |some zv=>
   cases hC:Bf P 8 ty with
   |none=>simp[hZ,hC]at hc
   |some as=>
    cases hF:pt as zv.cells.toList with
    |none=>simp[hZ,hC,hF]at hc
    |some z=>
     simp[hZ,hC,hF]at hc;subst hc;exact aap H ho hZ hF
 |box ty x=>
  simp only[bO,ho]at hc
  cases hS:bu P ty with
  |none=>simp[hS]at hc
  |some n=>
   simp[hS]at hc;subst hc;simp only[aw]
   split
   ·rename_i h1;exact ac7 H ho (he x) h1.2
   ·trivial
 |build ty ps=>
  simp only[bO,ho]at hc
  cases hZ:dL P ty with
  |none=>simp[hZ]at hc
  |some z=>
   by_cases hpl:wD P ty=true
   ·cases hP:oY P ty ps.toList with
    |none=>simp[hZ,hpl,hP]at hc
    |some aps=>
     simp[hZ,hpl,hP]at hc;subst hc;simp only[aw]
     split
     ·rename_i cs hf;exact aaf H ho hZ hpl hP he hf
     ·trivial
   ·simp[hZ,hpl]at hc
 |buildSlice ty n ps=>
  simp only[bO,ho]at hc
  cases hE:kE P ty with
  |none=>simp[hE]at hc
  |some e=>
   cases hS:bu P e with
   |none=>simp[hE,hS]at hc
   |some k=>
    cases hZ:dL P e with
    |none=>simp[hE,hS,hZ]at hc
    |some z=>
     by_cases h0:k=0\/n*k>2^24\/j3 k z=false
     ·simp[hE,hS,hZ,h0]at hc
     ·simp only[not_or,xV]at h0;obtain⟨hk0,hnk,hzo⟩:=h0
      have hc2:ao=.lit k (List.replicate n z) (ps.toList.map fun q=>(q.1,au q.2)):=by
       simp only[hE,hS,hZ,om,j6]at hc;rw[if_neg (by simp only[not_or,xV];exact⟨hk0,hnk,hzo⟩)]at hc;simp only[aj]at hc;exact hc.symm
      subst hc2;simp only[aw]
      split
      ·rename_i ps' h' hp
       split
       ·rename_i es hf
        split
        ·rename_i hok;exact ad9 H ho (Ae hE) hS (by omega) hZ hzo (by omega) he hp hf hok
        ·trivial
       ·trivial
      ·trivial
 |insert ty m k x=>exact Oc H he (Or.inr ho) hc
 |load ty x=>
  simp only[bO,ho]at hc
  cases hA:fU P ty with
  |none=>simp[hA]at hc
  |some agg=>
   cases hS:bu P ty with
   |none=>simp[hA,hS]at hc
   |some sz=>
    simp[hA,hS]at hc;subst hc;simp only[aw]
    split
    ·rename_i v hv;exact ac0 H ho hA hS (he x) hv
    ·trivial
 |store ty p x=>
  simp only[bO,ho]at hc
  cases hS:bu P ty with
  |none=>simp[hS]at hc
  |some sz=>
   simp[hS]at hc;subst hc;simp only[aw]
   split
   ·rename_i h' hs;exact abk H ho hS (he p) (he x) hs
   ·trivial
 |nilCheck x=>
  simp only[bO,ho,aj]at hc;subst hc;have hx:=he x;simp only[aw]
  split
  ·rename_i hv;rw[hv]at hx;exact wB H ho hx trivial
  ·rename_i hv;rw[hv]at hx;exact wB H ho hx trivial
  ·rename_i hv;rw[hv]at hx;exact wB H ho hx trivial
  ·rename_i hv;rw[hv]at hx;exact wB H ho hx trivial
  ·rename_i hv;rw[hv]at hx;exact wB H ho hx trivial
  ·trivial
 |binOp op ty x y ty'=>exact X3 H he ho hc
 |unOp op ty x=>
  have hx:=he x;simp only[bO,ho]at hc
  cases op<;>simp only[aj,reduceCtorEq]at hc
  all_goals
   subst hc;simp only[aw]
   split
  ·rename_i hv;rw[hv]at hx;exact adF H ho (dS hx)
  ·trivial
  ·rename_i hv;rw[hv]at hx;exact abl H ho (dS hx)
  ·trivial
  ·rename_i hv;rw[hv]at hx;exact adL H ho (lj hx)
  ·trivial
 |convert s d x=>exact WQ H he ho hc
 |makeInterface ty x=>
  simp only[bO,ho]at hc
  split at hc
  ·simp at hc
  ·simp at hc
  ·rename_i d hd hd';simp only[aj]at hc;subst hc
   cases hu:P.underlying ty with
   |none=>exact absurd hu hd'
   |some d=>exact W4 H ho hu (fun ms hms=>hd ms (by rw[hu,hms])) (he x)
 |makeFunc f xs ys=>
  simp only[bO,ho,aj]at hc;subst hc;exact Y4 H ho he
 |makeMap ty r=>
  cases r with
  |some r=>simp[bO,ho]at hc
  |none=>
   simp only[bO,ho]at hc
   split at hc
   ·simp only[aj]at hc;subst hc;exact abj H ho
   ·simp at hc
 |makeSlice ty x y=>
  simp only[bO,ho]at hc
  cases hE:kE P ty with
  |none=>simp[hE]at hc
  |some e=>
   cases hS:bu P e with
   |none=>simp[hE,hS]at hc
   |some k=>
    cases hZ:dL P e with
    |none=>simp[hE,hS,hZ]at hc
    |some z=>
     cases hB:lu P e with
     |none=>
      simp[hE,hS,hZ,hB]at hc
     |some b=>
      by_cases h0:k=0\/j3 k z=false
      ·simp[hE,hS,hZ,h0]at hc
      ·have hc2:ao=.mkSlice k e b z (au x) (au y):=by
        simp only[hE,hS,hZ,hB,om,j6]at hc;rw[if_neg h0]at hc;simp only[aj]at hc;exact hc.symm
       simp only[not_or,xV]at h0;obtain⟨hk0,hzo⟩:=h0;obtain⟨hz1,hz2,hz3⟩:=FW hzo;subst hc2;have hx:=he x;have hy:=he y;simp only[aw]
       split
       ·rename_i i n j c hn hm;rw[hn]at hx;rw[hm]at hy
        split
        ·rename_i hcc;obtain⟨h1,rfl,h3,h4⟩:=hcc;exact X0 H ho (Ae hE) hS (by omega) hB hZ hz1 hz2 hz3 (dS hx) (dS hy) h1 h4 h3 e
        ·trivial
       ·trivial
 |slice ty x lo hi mx=>exact Zu H he ho hc
 |fieldAddr ty x i=>exact LQ H he (Or.inl ho) hc
 |field ty x i=>exact LQ H he (Or.inr ho) hc
 |indexAddr ty x i=>exact Lf H he (Or.inl ho) hc
 |index ty x i=>exact Lf H he (Or.inr ho) hc
 |lookup ty x i ok=>exact XJ H he ho hc
 |mapUpdate ty m k x=>exact Oc H he (Or.inl ho) hc
 |range ty x=>
  simp only[bO,ho]at hc
  split at hc
  ·rename_i hu;simp only[aj]at hc;subst hc;have hx:=he x;simp only[aw]
   split
   ·rename_i s hs;rw[hs]at hx;exact aa2 H ho hu (iW hx)
   ·trivial
  ·simp at hc
 |next x isStr=>
  cases isStr
  ·simp[bO,ho]at hc
  ·simp only[bO,ho,aj]at hc;subst hc;have hx:=he x;simp only[aw]
   split
   ·rename_i i hv;rw[hv]at hx
    split
    ·rename_i s pos hi;have:=acw H ho hx hi
     split
     ·rename_i hlt;exact this.1 hlt
     ·rename_i hlt;exact this.2 hlt
    ·trivial
   ·trivial
 |typeAssert x ty' ty ok=>
  simp only[bO,ho]at hc
  split at hc
  ·simp at hc
  ·simp at hc
  ·rename_i hd hd'
   cases hZ:dL P ty with
   |none=>simp[hZ]at hc
   |some z=>
    simp[hZ]at hc;subst hc
    cases hu:P.underlying ty with
    |none=>exact absurd hu hd'
    |some d=>
     have hne:∀ms,d≠.interface ms:=fun ms hms=>hd ms (by rw[hu,hms])
     have hx:=he x;simp only[aw]
     split
     ·rename_i u v hv;rw[hv]at hx
      split
      ·rename_i huv;exact D' H ho hu hne hZ hx (Or.inl ⟨u,v,rfl,Or.inl ⟨huv,rfl⟩⟩)
      ·rename_i huv
       split
       ·rename_i hok;exact D' H ho hu hne hZ hx (Or.inl ⟨u,v,rfl,Or.inr ⟨huv,hok,rfl⟩⟩)
       ·trivial
     ·rename_i hv;rw[hv]at hx
      split
      ·rename_i hok;exact D' H ho hu hne hZ hx (Or.inr ⟨rfl,hok,rfl⟩)
      ·trivial
     ·trivial
 |extract x i=>
  simp only[bO,ho,aj]at hc;subst hc;have hx:=he x;simp only[aw]
  split
  ·rename_i vs hv;rw[hv]at hx
   split
   ·rename_i v hi;exact Xk H ho hx hi
   ·trivial
  ·trivial
 |call c=>
  simp only[bO,ho]at hc;obtain⟨callee,xs,ts⟩:=c
  cases callee with
  |value f=>
   simp only[l5,aj]at hc;subst hc;exact XZ H he ho
  |invoke x name=>
   simp only[l5,aj]at hc;subst hc;exact V1 H he ho
  |builtin b=>exact WN H he ho rfl hc
 |defer c=>
  simp only[bO,ho]at hc;obtain⟨callee,xs,ts⟩:=c
  cases callee with
  |value f=>
   simp only[aj]at hc;subst hc;have hf:=he f;have hxs:=Gf he xs;simp only[aw]
   split
   ·rename_i n fs cs hv;rw[hv]at hf;simp only[V]at hf;obtain⟨us,vs,hfe,h1,h2⟩:=hf;refine⟨{target:=.fn (.func n) vs.toArray,args:=us.toArray++xs.map a.eval},?_,vs.toArray,rfl,?_⟩
    ·simp[execOp,ho,resolve,hfe,Deferred.ofValue]
    ·have:=kf (kf h1 hxs) h2;simpa using this
   ·trivial
  |invoke x name=>simp at hc
  |builtin b=>simp at hc
 |panic x=>
  simp only[bO,ho,aj]at hc;subst hc;have hx:=he x;simp only[aw]
  split
  ·rename_i ty v hv;rw[hv]at hx;refine⟨a.eval x,?_,hx⟩;simp only[V]at hx;obtain⟨y,hxe,_⟩:=hx;simp[execOp,ho,hxe,Instr.panic]
  ·trivial
 |_=>simp[bO,ho]at hc
end
section
variable{P:Program}{w w':World}{cs:List Frame}{fn:FuncId}{tmps:Array Value}{k:List Item}{ds:List Deferred}{kd:CallKind}{ro:Option Nat}
def aF(fn:FuncId)(tmps:Array Value)(todo:List Item)(ds:List Deferred)(kd:CallKind)(ro:Option Nat)(md:FrameMode:=.run):Frame:=
 {fn,tmps,todo,defers:=ds,mode:=md,kind:=kd,roundOf:=ro}
theorem ab4:step P (lone (aF fn tmps (.code .skip::k) ds kd ro) cs w)=.next (lone (aF fn tmps k ds kd ro) cs w):=
 step_lone_go (by simp[stepG,stepG.exec,aF])
theorem aay{l:Nat}:step P (lone (aF fn tmps (.code (.label l)::k) ds kd ro) cs w)=.next (lone (aF fn tmps k ds kd ro) cs w):=
 step_lone_go (by simp[stepG,stepG.exec,aF])
theorem Xp{id:Nat}:step P (lone (aF fn tmps (.inBlock id::k) ds kd ro) cs w)=.next (lone (aF fn tmps k ds kd ro) cs w):=
 step_lone_go (by simp[stepG,stepG.exec,aF])
theorem adt{x y:Code}:step P (lone (aF fn tmps (.code (.seq x y)::k) ds kd ro) cs w)=.next (lone (aF fn tmps (.code x::.code y::k) ds kd ro) cs w):=
 step_lone_go (by simp[stepG,stepG.exec,aF])
theorem MU{todo:List Item}{md:FrameMode}:(aF fn tmps todo ds kd ro md).eval=(⟨tmps,ds⟩:Act).eval:=by
 funext x;cases x<;>rfl
theorem acM{c:Operand}{x y:Code}{b:Bool}(h:(⟨tmps,ds⟩:Act).eval c=.bool b):
 step P (lone (aF fn tmps (.code (.cond c x y)::k) ds kd ro) cs w)=.next (lone (aF fn tmps (.code (if b then x else y)::k) ds kd ro) cs w):=
 step_lone_go (by
  have:=congrFun (MU (fn:=fn) (tmps:=tmps) (ds:=ds) (kd:=kd) (ro:=ro) (todo:=.code (.cond c x y)::k) (md:=.run)) c;simp only[aF]at this
  simp[stepG,stepG.exec,aF,this,h])
theorem aa3{id:Nat}{c:Code}:step P (lone (aF fn tmps (.code (.block id c)::k) ds kd ro) cs w)=.next (lone (aF fn tmps (.code c::.inBlock id::k) ds kd ro) cs w):=
 step_lone_go (by simp[stepG,stepG.exec,aF])
theorem abn{c:Code}:step P (lone (aF fn tmps (.code (.loop c)::k) ds kd ro) cs w)=.next (lone (aF fn tmps (.code c::.inLoop c::k) ds kd ro) cs w):=
 step_lone_go (by simp[stepG,stepG.exec,aF])
theorem X1{c:Code}:step P (lone (aF fn tmps (.inLoop c::k) ds kd ro) cs w)=.next (lone (aF fn tmps (.code c::.inLoop c::k) ds kd ro) cs w):=
 step_lone_go (by simp[stepG,stepG.exec,aF])
theorem ab5{id:Nat}{k':List Item}(h:exitTo id k=some k'):step P (lone (aF fn tmps (.code (.exit id)::k) ds kd ro) cs w)=.next (lone (aF fn tmps k' ds kd ro) cs w):=
 step_lone_go (by simp[stepG,stepG.exec,aF,h])
theorem ac5:step P (lone (aF fn tmps (.code .ret::k) ds kd none) cs w)=.next (lone (aF fn tmps (.code .ret::k) ds kd none .returning) cs w):=
 step_lone_go (by simp[stepG,stepG.exec,aF])
theorem ady:step P (lone (aF fn tmps [] ds kd none) cs w)=.next (lone (aF fn tmps [] ds kd none .returning) cs w):=
 step_lone_go (by simp[stepG,stepG.exec,aF])
theorem Yt{id:Nat}{ops:Array Oper}:step P (lone (aF fn tmps (.code (.region id ops false)::k) ds kd ro) cs w)=.next (lone (aF fn tmps (.inRegion ops (List.range ops.size)::k) ds kd ro) cs w):=
 step_lone_go (by simp[stepG,stepG.exec,aF])
theorem F_{id:Nat}{ops:Array Oper}:step P (lone (aF fn tmps (.code (.region id ops true)::k) ds kd ro) cs w)=
 .next (lone (aF fn tmps (.inRegion ops (Region.schedule (P.follows .mixedOrders) ops (w.tape w.drawn (.order fn id)))::k) ds kd ro) cs w.drew):=
 step_lone_go (by simp[stepG,stepG.exec,aF,choose,Sem.run,Question.forced,Question.cut])
theorem V6{ops:Array Oper}:step P (lone (aF fn tmps (.inRegion ops []::k) ds kd ro) cs w)=.next (lone (aF fn tmps k ds kd ro) cs w):=
 step_lone_go (by simp[stepG,stepG.exec,aF])
def lC(tmps:Array Value)(d:Option Tmp)(v:Value):Array Value:=
 match d with
 |some d=>tmps.setIfInBounds d v
 |none=>tmps
theorem vZ{ops:Array Oper}{i:Nat}{rest:List Nat}(v:Value):(aF fn tmps (.inRegion ops (i::rest)::k) ds kd ro).finish v=aF fn (lC tmps ((ops[i]?).bind (·.dst)) v) (.inRegion ops rest::k) ds kd ro:=by
 simp only[Frame.finish,aF,lC]
 cases(ops[i]?).bind (·.dst)<;>rfl
theorem Zn{ops:Array Oper}{i:Nat}{rest:List Nat}{o:Oper}(ho:ops[i]? =some o)(h:Region.wanted o (yielded ops tmps)=false):
 step P (lone (aF fn tmps (.inRegion ops (i::rest)::k) ds kd ro) cs w)=.next (lone (aF fn (lC tmps o.dst undef) (.inRegion ops rest::k) ds kd ro) cs w):=by
 have:=vZ (fn:=fn) (tmps:=tmps) (k:=k) (ds:=ds) (kd:=kd) (ro:=ro) (ops:=ops) (i:=i) (rest:=rest) undef;rw[ho,j6]at this;rw[<-this];refine step_lone_go ?_;simp only[aF]at*;simp[stepG,stepG.exec,ho,h]
theorem r9{ops:Array Oper}{i:Nat}{rest:List Nat}{o:Oper}(ho:ops[i]? =some o)(hw:Region.wanted o (yielded ops tmps)=true)(hd:ro=none\/∀c,o.op≠.defer c):
 stepG P true {frame:=aF fn tmps (.inRegion ops (i::rest)::k) ds kd ro,callers:=cs,status:=.running,dying:=none} w=
  stepG.apply P true (aF fn tmps (.inRegion ops (i::rest)::k) ds kd ro) cs none (execOp (⟨tmps,ds⟩:Act).eval o) w:=by
 have he:=MU (fn:=fn) (tmps:=tmps) (ds:=ds) (kd:=kd) (ro:=ro) (todo:=.inRegion ops (i::rest)::k) (md:=.run);simp only[aF]at he
 cases ro with
 |none=>simp[stepG,stepG.exec,stepG.oper,Frame.oper?,aF,ho,hw,he]
 |some l=>
  have hd:=hd.resolve_left (by simp);simp only[stepG,stepG.exec,stepG.oper,Frame.oper?,aF,ho,hw,dt,jj,cq]
  cases hop:o.op<;>simp only[he]
  exact absurd hop (hd _)
theorem Fc{ops:Array Oper}{i:Nat}{rest:List Nat}{o:Oper}(ho:ops[i]? =some o)(hw:Region.wanted o (yielded ops tmps)=true)(hd:ro=none\/∀c,o.op≠.defer c){v:Value}
 (hr:(execOp (⟨tmps,ds⟩:Act).eval o).run P w=.ok (.value v) w'):
 step P (lone (aF fn tmps (.inRegion ops (i::rest)::k) ds kd ro) cs w)=.next (lone (aF fn (lC tmps o.dst v) (.inRegion ops rest::k) ds kd ro) cs w'):=by
 have:=vZ (fn:=fn) (tmps:=tmps) (k:=k) (ds:=ds) (kd:=kd) (ro:=ro) (ops:=ops) (i:=i) (rest:=rest) v;rw[ho,j6]at this;rw[<-this];refine step_lone_go ?_;rw[r9 ho hw hd];simp[stepG.apply,hr]
theorem XE{ops:Array Oper}{i:Nat}{rest:List Nat}{o:Oper}(ho:ops[i]? =some o)(hw:Region.wanted o (yielded ops tmps)=true)(hd:ro=none\/∀c,o.op≠.defer c)
 (hr:(execOp (⟨tmps,ds⟩:Act).eval o).run P w=.ok .skip w'):
 step P (lone (aF fn tmps (.inRegion ops (i::rest)::k) ds kd ro) cs w)=.next (lone (aF fn (lC tmps o.dst undef) (.inRegion ops rest::k) ds kd ro) cs w'):=by
 have:=vZ (fn:=fn) (tmps:=tmps) (k:=k) (ds:=ds) (kd:=kd) (ro:=ro) (ops:=ops) (i:=i) (rest:=rest) undef;rw[ho,j6]at this;rw[<-this];refine step_lone_go ?_;rw[r9 ho hw hd];simp[stepG.apply,hr]
theorem aaS{ops:Array Oper}{i:Nat}{rest:List Nat}{o:Oper}(ho:ops[i]? =some o)(hw:Region.wanted o (yielded ops tmps)=true)(hd:ro=none\/∀c,o.op≠.defer c){f:FuncId}{args:Array Value}
 (hr:(execOp (⟨tmps,ds⟩:Act).eval o).run P w=.ok (.enter f args) w'):
 step P (lone (aF fn tmps (.inRegion ops (i::rest)::k) ds kd ro) cs w)=.next (lone (Frame.enter P f args .normal) (aF fn tmps (.inRegion ops (i::rest)::k) ds kd ro::cs) w'):=by
 refine step_lone_go ?_;rw[r9 ho hw hd];simp[stepG.apply,hr,aF]
theorem aam{ops:Array Oper}{i:Nat}{rest:List Nat}{o:Oper}(ho:ops[i]? =some o)(hw:Region.wanted o (yielded ops tmps)=true)(hd:ro=none\/∀c,o.op≠.defer c){l:Nat}{f:FuncId}{ts:Array Value}{x y:Code}
 (hr:(execOp (⟨tmps,ds⟩:Act).eval o).run P w=.ok (.round l f ts x y) w'):
 step P (lone (aF fn tmps (.inRegion ops (i::rest)::k) ds kd ro) cs w)=.next (lone (aF f ts [.code x,.beginRound,.code y] [] .normal (some l)) (aF fn tmps (.inRegion ops (i::rest)::k) ds kd ro::cs) w'):=by
 refine step_lone_go ?_;rw[r9 ho hw hd];simp[stepG.apply,hr,aF,Frame.round]
theorem Z8{ops:Array Oper}{i:Nat}{rest:List Nat}{o:Oper}(ho:ops[i]? =some o)(hw:Region.wanted o (yielded ops tmps)=true)(hd:ro=none\/∀c,o.op≠.defer c){v:Value}
 (hr:(execOp (⟨tmps,ds⟩:Act).eval o).run P w=.halt (.panic v) w'):
 step P (lone (aF fn tmps (.inRegion ops (i::rest)::k) ds kd ro) cs w)=.next (lone (aF fn tmps (.inRegion ops (i::rest)::k) ds kd ro (.panicking [{v,recovered:=false}])) cs w'):=by
 refine step_lone_go ?_;rw[r9 ho hw hd];simp[stepG.apply,hr,aF,Frame.raise]
theorem M_{ops:Array Oper}{i:Nat}{rest:List Nat}{o:Oper}(ho:ops[i]? =some o)(hw:Region.wanted o (yielded ops tmps)=true){d:Deferred}
 (hr:(execOp (⟨tmps,ds⟩:Act).eval o).run P w=.ok (.defer d) w'):
 step P (lone (aF fn tmps (.inRegion ops (i::rest)::k) ds kd none) cs w)=.next (lone (aF fn (lC tmps o.dst undef) (.inRegion ops rest::k) (d::ds) kd none) cs w'):=by
 have:=vZ (fn:=fn) (tmps:=tmps) (k:=k) (ds:=d::ds) (kd:=kd) (ro:=none) (ops:=ops) (i:=i) (rest:=rest) undef;rw[ho,j6]at this;rw[<-this];refine step_lone_go ?_;rw[r9 ho hw (Or.inl rfl)];simp[stepG.apply,hr,aF]
theorem Ee{ops:Array Oper}{i:Nat}{rest:List Nat}{o:Oper}(ho:ops[i]? =some o)(hw:Region.wanted o (yielded ops tmps)=true)
 (hr:(execOp (⟨tmps,ds⟩:Act).eval o).run P w=.ok .recover w'){v:Value}{cs':List Frame}
 (ht:tryRecover (aF fn tmps (.inRegion ops (i::rest)::k) ds kd none) cs=some (v,cs')\/(tryRecover (aF fn tmps (.inRegion ops (i::rest)::k) ds kd none) cs=none/\v=.nilIface/\cs'=cs)):
 step P (lone (aF fn tmps (.inRegion ops (i::rest)::k) ds kd none) cs w)=.next (lone (aF fn (lC tmps o.dst v) (.inRegion ops rest::k) ds kd none) cs' w'):=by
 have:=vZ (fn:=fn) (tmps:=tmps) (k:=k) (ds:=ds) (kd:=kd) (ro:=none) (ops:=ops) (i:=i) (rest:=rest) v;rw[ho,j6]at this;rw[<-this];refine step_lone_go ?_;rw[r9 ho hw (Or.inl rfl)]
 rcases ht with ht|⟨ht,rfl,rfl⟩
 ·have hro:(aF fn tmps (.inRegion ops (i::rest)::k) ds kd none).roundOf=none:=rfl;simp[stepG.apply,hr,hro,ht]
 ·have hro:(aF fn tmps (.inRegion ops (i::rest)::k) ds kd none).roundOf=none:=rfl;simp[stepG.apply,hr,hro,ht]
theorem Mt{f:Operand}{ps:Array Tmp}{x y:Code}{l:Nat}{mark:List Deferred}{w1:World}{g:FuncId}{args:Array Value}
 (h1:(Instr.enterLoop fn tmps ps x y ro).run P w=.ok (l,mark) w1)
 (h2:((do let d<-resolve (⟨tmps,ds⟩:Act).eval {callee:=.value f,args:=#[.const (.func (.yield l) #[] #[])],argTypes:=#[]} 0;invoke d.target d.args):Sem Next).run P w1=.ok (.enter g args) w'):
 step P (lone (aF fn tmps (.code (.rangeFunc f ps x y)::k) ds kd ro) cs w)=.next (lone (Frame.enter P g args .normal) (aF fn tmps (.inRangeFunc l::k) (mark++ds) kd ro::cs) w'):=by
 have he:({fn:=fn,tmps:=tmps,todo:=.inRangeFunc l::k,defers:=mark++ds,mode:=.run,kind:=kd,roundOf:=ro}:Frame).eval=(⟨tmps,ds⟩:Act).eval:=by
  funext z;cases z<;>rfl
 refine step_lone_go ?_;simp only[stepG,stepG.exec,aF,Sem.runT_eq,h1,GStep.bare_after];simp only[stepG.apply,Sem.runT_eq,cq,GStep.bare_after,he,h2];rfl
theorem Vm{b:Nat}(hr:(Instr.beginRound b).run P w=.ok () w'):step P (lone (aF fn tmps (.beginRound::k) ds kd (some b)) cs w)=.next (lone (aF fn tmps k ds kd (some b)) cs w'):=by
 refine step_lone_go ?_;simp[stepG,stepG.exec,aF,stepG.apply,hr,Frame.finish]
theorem WU{l:Nat}{j:Option Code}(hr:(Instr.endLoop l).run P w=.ok j w'):step P (lone (aF fn tmps (.endRangeFunc l::k) ds kd ro) cs w)=.next (lone (aF fn tmps ((j.map Item.code).toList++k) ds kd ro) cs w'):=by
 refine step_lone_go ?_;simp[stepG,stepG.exec,aF,hr]
theorem Vk{b:Nat}{j:Option Code}{todo:List Item}(hj:(todo=[]/\j=none)\/(∃k,todo=.code .ret::k/\j=some .ret)\/(∃id k,todo=.code (.exit id)::k/\exitTo id k=none/\j=some (.exit id))){c:Frame}{v:Value}
 (hr:(Instr.endRound b j).run P w=.ok v w'):step P (lone (aF fn tmps todo ds .normal (some b)) (c::cs) w)=.next (lone (c.finish v) cs w'):=by
 refine step_lone_go ?_
 rcases hj with⟨rfl,rfl⟩|⟨k,rfl,rfl⟩|⟨id,k,rfl,he,rfl⟩
 ·simp[stepG,stepG.exec,aF,hr,doReturn]
 ·simp[stepG,stepG.exec,aF,hr,doReturn]
 ·simp[stepG,stepG.exec,aF,hr,doReturn,he]
theorem acE{b:Nat}{md:FrameMode}(hmd:md≠.run){todo:List Item}{calls:List Deferred}(hr:(Instr.takeDeferred b).run P w=.ok calls w'):
 step P (lone (aF fn tmps todo ({target:=.collected b,args:=#[]}::ds) kd ro md) cs w)=.next (lone (aF fn tmps todo (calls++ds) kd ro md) cs w'):=by
 refine step_lone_go ?_
 cases md<;>first
  |exact absurd rfl hmd
  |simp[stepG,aF,unwind,hr]
theorem abQ{md:FrameMode}(hmd:md≠.run){todo:List Item}{d:Deferred}(hn:d.target≠.nil)(hc:∀b,d.target≠.collected b){f:FuncId}{args:Array Value}(hr:(invoke d.target d.args).run P w=.ok (.enter f args) w'):
 step P (lone (aF fn tmps todo (d::ds) kd ro md) cs w)=.next (lone (Frame.enter P f args .deferred) (aF fn tmps todo ds kd ro md::cs) w'):=by
 refine step_lone_go ?_;obtain⟨target,dargs⟩:=d;simp only at hn hc hr
 have hnn:((match target with|.nil=>true|_=>false):Bool)=false:=by cases target<;>first|rfl|exact absurd rfl hn
 cases md<;>first
  |exact absurd rfl hmd
  |(cases target<;>first
   |exact absurd rfl hn
   |exact absurd rfl (hc _)
   |simp[stepG,aF,unwind,callDeferred,hr])
theorem YR{todo:List Item}{F:Func}(hF:P.funcs[fn]? =some F){v:Value}(hr:(results F tmps).run P w=.ok v w){c:Frame}:
 step P (lone (aF fn tmps todo [] .normal ro .returning) (c::cs) w)=.next (lone (c.finish v) cs w):=by
 refine step_lone_go ?_;simp[stepG,aF,unwind,hF,hr,doReturn]
theorem EJ{todo:List Item}{F:Func}(hF:P.funcs[fn]? =some F){v:Value}(hr:(results F tmps).run P w=.ok v w){c c':Frame}
 (hc:(∃u,c.mode=.panicking [{v:=u,recovered:=true}]/\c'={c with mode:=.returning})\/((c.mode=.returning\/∃u,c.mode=.panicking [{v:=u,recovered:=false}])/\c'=c)):
 step P (lone (aF fn tmps todo [] .deferred ro .returning) (c::cs) w)=.next (lone c' cs w):=by
 refine step_lone_go ?_
 rcases hc with⟨u,hm,rfl⟩|⟨hm|⟨u,hm⟩,rfl⟩
 ·simp[stepG,aF,unwind,hF,hr,doReturn,hm]
 ·simp[stepG,aF,unwind,hF,hr,doReturn,hm]
 ·simp[stepG,aF,unwind,hF,hr,doReturn,hm]
theorem Zs{todo:List Item}{F:Func}(hF:P.funcs[fn]? =some F){ch:List PanicEntry}{c:Frame}:
 step P (lone (aF fn tmps todo [] kd ro (.panicking ch)) (c::cs) w)=.next (lone (c.raise ch) cs w):=by
 refine step_lone_go ?_;simp[stepG,aF,unwind,Frame.catches,hF]
end
def GL(P:Program)(ops:Array Oper)(gs:List AG)(todo:List Nat):Prop:=F2 (fun(g:AG) (i:Nat)=>∃o,ops[i]? =some o/\na P ops.toList o=some g) gs todo
def LR(g:G)(h:List Ob)(l b:Nat):Prop:=Gk h l/\∃sz,g.ρ l=some (b,sz,0)
def IR(P:Program)(g:G)(h:List Ob):List It->List Item->Prop
 |[],[]=>True
 |.code a::k,.code c::k'=>CR P c a/\IR P g h k k'
 |.inBlock i _::k,.inBlock j::k'=>i=j/\IR P g h k k'
 |.inLoop _ a::k,.inLoop c::k'=>CR P c a/\IR P g h k k'
 |.ops gs::k,.inRegion ops todo::k'=>GL P ops gs todo/\IR P g h k k'
 |.jm l::k,.inRangeFunc b::k'=>LR g h l b/\IR P g h k k'
 |.tX l::k,.endRangeFunc b::k'=>LR g h l b/\IR P g h k k'
 |.beginRound::k,.beginRound::k'=>IR P g h k k'
 |_,_=>False
def MR(g:G)(h:List Ob):Md->FrameMode->Prop
 |.run,m=>m=.run
 |.ret,m=>m=.returning
 |.c8 v rc,m=>∃u,m=.panicking [{v:=u,recovered:=rc}]/\V g h v u
def KR(g:G)(h:List Ob):FK->CallKind->Option Nat->Prop
 |.norm,k,ro=>k=.normal/\ro=none
 |.bx,k,ro=>k=.deferred/\ro=none
 |.round l,k,ro=>k=.normal/\∃b,ro=some b/\LR g h l b
structure kJ(P:Program)(g:G)(h:List Ob)(f:Fr)(fr:Frame):Prop where
 md:MR g h f.md fr.mode
 fn:fr.fn=f.fn
 its:IR P g h f.its fr.todo
 t:VL g h f.t fr.tmps.toList
 ds:F2 (DR g h) f.ds fr.defers
 kind:KR g h f.kind fr.kind fr.roundOf
 is:∃fn,P.funcs[f.fn]? =some fn
def nU(n:Nat):FK->Bool
 |.round l=>decide (l<n)
 |_=>true
def qu(n:Nat):Md->Bool
 |.c8 v _=>aG n v
 |_=>true
def jX(n:Nat)(f:Fr):Bool:=aK n f.t&&jY n f.ds&&fS n f.its&&nU n f.kind&&qu n f.md
def SR(P:Program)(g:G)(h:List Ob)(f0:FuncId):Nat->List Fr->List Frame->Prop
 |_,[],fs=>fs=[]
 |n,f::up,fs=>∃fr fs',fs=fr::fs'/\kJ P g h f fr/\jX n f=true/\f.base<=n/\(up=[]->f.fn=f0/\f.kind=.norm)/\SR P g h f0 f.base up fs'
def cU(P:Program)(Γ:Nat->Option AV)(N:Env)(g0:G)(f0:FuncId)(cs0:List Frame):aq->Machine->Prop
 |.fr f up h,m=>∃g w fr fs,m=lone fr (fs++cs0) w/\Inv P Γ N g h w/\(∀b o v,g0.M b o=some v->g.M b o=some v)/\SR P g h f0 h.length (f::up) (fr::fs)
 |.cl c args up h,m=>∃g w vs fs,m=lone (Frame.enter P c vs .normal) (fs++cs0) w/\Inv P Γ N g h w/\(∀b o v,g0.M b o=some v->g.M b o=some v)/\VL g h args vs.toList/\ar P c=true/\
  SR P g h f0 h.length up fs/\(up=[]->c=f0)
 |.back (c::up) v h,m=>∃g w u fr fs,m=lone (fr.finish u) (fs++cs0) w/\Inv P Γ N g h w/\(∀b o v,g0.M b o=some v->g.M b o=some v)/\V g h v u/\SR P g h f0 h.length (c::up) (fr::fs)
 |.back [] v h,m=>∃g w u fr,m=lone fr cs0 w/\Inv P Γ N g h w/\(∀b o v,g0.M b o=some v->g.M b o=some v)/\V g h v u/\fr.fn=f0/\fr.leaving P w (.returned u)
 |.die (c::up) v h,m=>∃g w u fr fs,m=lone (fr.raise [{v:=u,recovered:=false}]) (fs++cs0) w/\Inv P Γ N g h w/\(∀b o v,g0.M b o=some v->g.M b o=some v)/\V g h v u/\SR P g h f0 h.length (c::up) (fr::fs)
 |.die [] v h,m=>∃g w u fr,m=lone fr cs0 w/\Inv P Γ N g h w/\(∀b o v,g0.M b o=some v->g.M b o=some v)/\V g h v u/\fr.fn=f0/\fr.leaving P w (.panicked [{v:=u,recovered:=false}])
 |.bad,_=>True
section
variable{P:Program}{Γ:Nat->Option AV}{N:Env}{g g':G}{h h':List Ob}{w:World}
theorem F8{n:Nat}(x:Ext n g h g' h'){l b:Nat}(hl:l<n)(h1:LR g h l b):LR g' h' l b:=by
 obtain⟨⟨st,j,fn,t,ps,p,q,hi⟩,sz,hρ⟩:=h1;obtain⟨⟨st',j',h1⟩,h2⟩:=x.loop l st j fn t ps p q hl hi;exact⟨⟨_,_,_,_,_,_,_,h1⟩,sz,h2 _ hρ⟩
theorem kj{n:Nat}(x:Ext n g h g' h'):∀{k:List It}{k':List Item},fS n k=true->IR P g h k k'->IR P g' h' k k'
 |[],[],_,_=>trivial
 |[],_::_,_,h1=>by simp only[IR]at h1
 |it::k,[],_,h1=>by cases it<;>simp only[IR]at h1
 |it::k,im::k',hb,h1=>by
  cases it<;>cases im<;>simp only[IR]at h1⊢
  ·exact⟨h1.1,kj x (by simpa only [fS]using hb) h1.2⟩
  ·exact⟨h1.1,kj x (by simpa only [fS]using hb) h1.2⟩
  ·exact⟨h1.1,kj x (by simpa only [fS]using hb) h1.2⟩
  ·exact⟨h1.1,kj x (by simpa only [fS]using hb) h1.2⟩
  ·simp only[fS,av,a_]at hb;exact⟨F8 x hb.1 h1.1,kj x hb.2 h1.2⟩
  ·simp only[fS,av,a_]at hb;exact⟨F8 x hb.1 h1.1,kj x hb.2 h1.2⟩
  ·exact kj x (by simpa only [fS]using hb) h1
theorem FP{n:Nat}(x:Ext n g h g' h'){d:dn}{d':Deferred}(hb:(match d with|.call _ args=>aK n args|.mark i=>decide (i<n))=true)(h1:DR g h d d'):DR g' h' d d':=by
 cases d with
 |call f args=>
  obtain⟨cap,h2,h3⟩:=h1;exact⟨cap,h2,cw x hb h3⟩
 |mark i=>
  obtain⟨⟨l,hi⟩,b,sz,hρ,h2⟩:=h1;simp only[a_]at hb;obtain⟨h3,h4⟩:=x.bx i l hb hi;exact⟨h3,b,sz,h4 _ hρ,h2⟩
theorem wy{n:Nat}(x:Ext n g h g' h'):∀{ds:List dn}{ds':List Deferred},jY n ds=true->F2 (DR g h) ds ds'->F2 (DR g' h') ds ds'
 |_,_,_,.nil=>.nil
 |.call f args::ds,_,hb,.cons h1 h2=>by
  simp only[jY,av]at hb;exact .cons (FP x hb.1 h1) (wy x hb.2 h2)
 |.mark i::ds,_,hb,.cons h1 h2=>by
  simp only[jY,av]at hb;exact .cons (FP x hb.1 h1) (wy x hb.2 h2)
theorem NS{n:Nat}(x:Ext n g h g' h'){m:Md}{m':FrameMode}(hb:qu n m=true)(h1:MR g h m m'):MR g' h' m m':=by
 cases m with
 |run=>exact h1
 |ret=>exact h1
 |c8 v rc=>obtain⟨u,h2,h3⟩:=h1;exact⟨u,h2,fJ x hb h3⟩
theorem FE{n:Nat}(x:Ext n g h g' h'){k:FK}{c:CallKind}{ro:Option Nat}(hb:nU n k=true)(h1:KR g h k c ro):KR g' h' k c ro:=by
 cases k with
 |norm=>exact h1
 |bx=>exact h1
 |round l=>
  obtain⟨h2,b,h3,h4⟩:=h1;simp only[nU,a_]at hb;exact⟨h2,b,h3,F8 x hb h4⟩
theorem z1{n:Nat}(x:Ext n g h g' h'){f:Fr}{fr:Frame}(hb:jX n f=true)(h1:kJ P g h f fr):kJ P g' h' f fr:=by
 simp only[jX,av]at hb;obtain⟨⟨⟨⟨b1,b2⟩,b3⟩,b4⟩,b5⟩:=hb;exact⟨NS x b5 h1.md,h1.fn,kj x b3 h1.its,cw x b1 h1.t,wy x b2 h1.ds,FE x b4 h1.kind,h1.is⟩
theorem Et{n m:Nat}(h:n<=m):∀{ds:List dn},jY n ds=true->jY m ds=true
 |[],_=>rfl
 |.call _ _::ds,hb=>by simp only[jY,av]at hb⊢;exact⟨p3 h hb.1,Et h hb.2⟩
 |.mark _::ds,hb=>by simp only[jY,av,a_]at hb⊢;exact⟨by omega,Et h hb.2⟩
theorem EM{n m:Nat}(h:n<=m):∀{k:List It},fS n k=true->fS m k=true
 |[],_=>rfl
 |it::k,hb=>by
  cases it<;>simp only[fS,av,a_]at hb⊢<;>first
   |exact EM h hb
   |exact⟨by omega,EM h hb.2⟩
theorem YJ{n m:Nat}(h:n<=m){f:Fr}(hb:jX n f=true):jX m f=true:=by
 simp only[jX,av]at hb⊢;obtain⟨⟨⟨⟨b1,b2⟩,b3⟩,b4⟩,b5⟩:=hb;refine⟨⟨⟨⟨p3 h b1,Et h b2⟩,EM h b3⟩,?_⟩,?_⟩
 ·cases hk:f.kind<;>simp only[hk,nU,a_]at b4⊢;omega
 ·cases hm:f.md<;>simp only[hm,qu]at b5⊢;exact wm h b5
theorem gf{f0:FuncId}:∀{n m:Nat}{l:List Fr}{fs:List Frame},Ext n g h g' h'->n<=m->SR P g h f0 n l fs->SR P g' h' f0 m l fs
 |_,_,[],_,_,_,h1=>h1
 |n,m,f::up,fs,x,hnm,h1=>by
  obtain⟨fr,fs',h2,h3,h4,h5,h6,h7⟩:=h1;exact⟨fr,fs',h2,z1 x h4 h3,YJ hnm h4,by omega,h6,gf (x.mono h5) (aU _) h7⟩
theorem lq:∀{k:List It}{k':List Item},IR P g h k k'->fS h.length k=true
 |[],_,_=>rfl
 |it::k,[],h1=>by cases it<;>simp only[IR]at h1
 |it::k,im::k',h1=>by
  cases it<;>cases im<;>simp only[IR]at h1<;>simp only[fS]
  ·exact lq h1.2
  ·exact lq h1.2
  ·exact lq h1.2
  ·exact lq h1.2
  ·simp only[av,a_];exact⟨aV h1.1.1.choose_spec.choose_spec.choose_spec.choose_spec.choose_spec.choose_spec.choose_spec,lq h1.2⟩
  ·simp only[av,a_];exact⟨aV h1.1.1.choose_spec.choose_spec.choose_spec.choose_spec.choose_spec.choose_spec.choose_spec,lq h1.2⟩
  ·exact lq h1
theorem A0:∀{ds:List dn}{ds':List Deferred},F2 (DR g h) ds ds'->jY h.length ds=true
 |_,_,.nil=>rfl
 |_,_,.cons (a:=a) h1 h2=>by
  cases a<;>simp only[jY,av,a_]
  ·obtain⟨_,_,h3⟩:=h1;exact⟨dk h3,A0 h2⟩
  ·obtain⟨⟨_,h3⟩,_⟩:=h1;exact⟨aV h3,A0 h2⟩
theorem oI{f:Fr}{fr:Frame}(h1:kJ P g h f fr):jX h.length f=true:=by
 simp only[jX,av];refine⟨⟨⟨⟨dk h1.t,A0 h1.ds⟩,lq h1.its⟩,?_⟩,?_⟩
 ·have:=h1.kind
  cases hk:f.kind<;>simp only[hk,KR,nU,a_]at this⊢
  obtain⟨_,b,_,⟨_,_,_,_,_,_,_,h3⟩,_⟩:=this;exact aV h3
 ·have:=h1.md
  cases hm:f.md<;>simp only[hm,MR,qu]at this⊢
  obtain⟨u,_,h2⟩:=this;exact kC h2
theorem pZ{id:Nat}:∀{k:List It}{k':List Item},IR P g h k k'->match nN id k with|some (q,_)=>∃q',exitTo id k'=some q'/\IR P g h q q'|none=>exitTo id k'=none
 |[],[],_=>rfl
 |[],_::_,h1=>by simp only[IR]at h1
 |it::k,[],h1=>by cases it<;>simp only[IR]at h1
 |it::k,im::k',h1=>by
  cases it<;>cases im<;>simp only[IR]at h1<;>simp only[nN,exitTo]
  ·exact pZ h1.2
  ·rename_i i m j;obtain⟨rfl,h2⟩:=h1
   by_cases hij:i=id
   ·simp only[hij,cq,Jb];exact⟨k',rfl,h2⟩
   ·have:(i==id)=false:=by simp[hij]
    simp only[hij,c9,this,eb];exact pZ h2
  ·exact pZ h1.2
  ·exact pZ h1.2
  ·exact pZ h1.2
  ·exact pZ h1.2
  ·exact pZ h1
theorem mQ{t:List AV}{tmps:Array Value}(ht:VL g h t tmps.toList){d:Option Nat}{a:AV}{v:Value}(ha:V g h a v):VL g h (aY t d a) (lC tmps d v).toList:=by
 cases d with
 |none=>exact ht
 |some d=>simp only[aY,lC,I9];exact oV d ht ha
theorem zx{ops:Array Oper}{o:Oper}{ag:AG}(hc:na P ops.toList o=some ag){t:List AV}{tmps:Array Value}(ht:VL g h t tmps.toList){b:Bool}(hw:dv t ag.guard=some b):
 Region.wanted o (yielded ops tmps)=b/\bO P o=some ag.op/\ag.dst=o.dst:=by
 unfold na at hc
 cases hg:Ba ops.toList o with
 |none=>simp[hg]at hc
 |some gd=>
  cases hcop:bO P o with
  |none=>simp[hg,hcop]at hc
  |some ao=>
   simp[hg,hcop]at hc;subst hc;refine⟨?_,rfl,rfl⟩;simp only at hw;unfold Ba at hg;unfold Region.wanted
   split at hg
   ·rename_i hgn;simp only[aj]at hg;subst hg;simp only[dv,aj]at hw;rw[hgn];exact hw
   ·rename_i j bb hgn
    split at hg
    ·rename_i d hd;simp only[aj]at hg;subst hg;rw[hgn];simp only
     have hd':ops[j]?.bind (·.dst)=some d:=by simpa using hd
     have hv:=rW d ht;simp only[dv]at hw;unfold yielded;rw[hd'];simp only[j6]
     split at hw
     ·rename_i x hx;rw[hx]at hv;simp only[aj]at hw;have hv2:=lj hv
      have hv3:tmps[d]? =some (.bool x):=by
       rw[bo]at hv2
       cases hq:tmps.toList[d]? with
       |none=>rw[hq]at hv2;simp[undef]at hv2
       |some q=>rw[hq]at hv2;simp at hv2;subst hv2;simpa using hq
      rw[hv3];simp only;rw[<-hw]
      cases x<;>cases bb<;>rfl
     ·rename_i hx;rw[hx]at hv;simp only[aj]at hw;subst hw;simp only[V,VL]at hv;obtain⟨vs,hv2,rfl⟩:=hv
      have hv3:∀x,tmps[d]? ≠some (.bool x):=by
       intro x hx2;rw[bo]at hv2
       have:tmps.toList[d]? =some (.bool x):=by simpa using hx2
       rw[this]at hv2;simp at hv2
      split
      ·rename_i x hx2;exact absurd hx2 (hv3 x)
      ·rfl
     ·simp at hw
    ·simp at hg
end
theorem OZ{α β:Type}{R:α->β->Prop}:∀{as:List α}{bs:List β},as.length=bs.length->(∀(i:Nat)(a:α)(b:β),as[i]? =some a->bs[i]? =some b->R a b)->F2 R as bs
 |[],[],_,_=>.nil
 |a::as,b::bs,hl,hr=>.cons (hr 0 a b rfl rfl) (OZ (by simpa using hl) fun i a b ha hb=>hr (i+1) a b (by simpa using ha) (by simpa using hb))
 |[],_::_,hl,_=>by simp at hl
 |_::_,[],hl,_=>by simp at hl
theorem wF{α β:Type}{f:α->Option β}:∀{l:List α}{r:List β},l.mapM f=some r->r.length=l.length/\∀(i:Nat)(b:β),r[i]? =some b->∃a,l[i]? =some a/\f a=some b
 |[],r,h=>by simp at h;subst h;simp
 |a::l,r,h=>by
  rw[qS]at h
  cases ha:f a with
  |none=>simp[ha]at h
  |some b=>
   cases hl:l.mapM f with
   |none=>simp[ha,hl]at h
   |some bs=>
    simp[ha,hl]at h;subst h;obtain⟨h1,h2⟩:=wF hl;refine⟨by simp[h1],fun i c hc=>?_⟩
    cases i with
    |zero=>simp at hc;subst hc;exact⟨a,rfl,ha⟩
    |succ i=>simpa using h2 i c (by simpa using hc)
theorem ac4{P:Program}{ops:Array Oper}{gs:List AG}(h:ops.toList.mapM (na P ops.toList)=some gs):GL P ops gs (List.range ops.size):=by
 obtain⟨h1,h2⟩:=wF h
 refine OZ (by simp[h1]) fun i g j hg hj=>?_
 obtain⟨o,ho,hc⟩:=h2 i g hg
 have hij:i=j:=by
  have h3:=dD.1 hj;obtain⟨_,h3⟩:=h3;simpa using h3
 subst hij;exact⟨o,by simpa using ho,hc⟩
structure St(P:Program)(Γ:Nat->Option AV)(N:Env)(g0:G)(f0:FuncId)(g:G)(h:List Ob)(w:World)(f:Fr)(up:List Fr)(tmps:Array Value)(todo:List Item)(ds:List Deferred)(kd:CallKind)(ro:Option Nat)(fs:List Frame):Prop where
 H:Inv P Γ N g h w
 M:∀b o v,g0.M b o=some v->g.M b o=some v
 its:IR P g h f.its todo
 t:VL g h f.t tmps.toList
 ds:F2 (DR g h) f.ds ds
 kind:KR g h f.kind kd ro
 is:∃fn,P.funcs[f.fn]? =some fn
 b:f.base<=h.length
 z:up=[]->f.fn=f0/\f.kind=.norm
 s:SR P g h f0 f.base up fs
section
variable{P:Program}{Γ:Nat->Option AV}{N:Env}{g0:G}{f0:FuncId}{cs0:List Frame}{g:G}{h:List Ob}{w:World}{f:Fr}{up:List Fr}{tmps:Array Value}{todo:List Item}{ds:List Deferred}{kd:CallKind}{ro:Option Nat}{fs:List Frame}
theorem St.rel(S:St P Γ N g0 f0 g h w f up tmps todo ds kd ro fs){md:FrameMode}(hm:MR g h f.md md):kJ P g h f (aF f.fn tmps todo ds kd ro md):=⟨hm,rfl,S.its,S.t,S.ds,S.kind,S.is⟩
theorem St.sr(S:St P Γ N g0 f0 g h w f up tmps todo ds kd ro fs){md:FrameMode}(hm:MR g h f.md md):SR P g h f0 h.length (f::up) (aF f.fn tmps todo ds kd ro md::fs):=
 ⟨_,_,rfl,S.rel hm,oI (S.rel hm),S.b,S.z,S.s⟩
theorem St.jI(S:St P Γ N g0 f0 g h w f up tmps todo ds kd ro fs){md:FrameMode}(hm:MR g h f.md md):cU P Γ N g0 f0 cs0 (.fr f up h) (lone (aF f.fn tmps todo ds kd ro md) (fs++cs0) w):=
 ⟨g,w,_,fs,rfl,S.H,S.M,S.sr hm⟩
theorem ado{k:FK}{c:CallKind}{ro:Option Nat}(h1:KR g h k c ro):nU h.length k=true:=by
 cases k with
 |norm|bx=>rfl
 |round l=>
  obtain⟨_,b,_,⟨_,_,_,_,_,_,_,h3⟩,_⟩:=h1;simp only[nU,a_];exact aV h3
theorem St.mono(S:St P Γ N g0 f0 g h w f up tmps todo ds kd ro fs){g':G}{h':List Ob}{w':World}(H':Inv P Γ N g' h' w')(x:Ext h.length g h g' h')(hl:h.length<=h'.length):St P Γ N g0 f0 g' h' w' f up tmps todo ds kd ro fs:=
 ⟨H',fun b o v hv=>x.M _ _ _ (S.M b o v hv),kj x (lq S.its) S.its,cw x (dk S.t) S.t,wy x (A0 S.ds) S.ds,
  FE x (ado S.kind) S.kind,
  S.is,qO S.b hl,S.z,gf (x.mono S.b) (aU _) S.s⟩
theorem St.to(S:St P Γ N g0 f0 g h w f up tmps todo ds kd ro fs){its:List It}{todo':List Item}{t:List AV}{tmps':Array Value}{ads:List dn}{ds':List Deferred}{m:Md}
 (h1:IR P g h its todo')(h2:VL g h t tmps'.toList)(h3:F2 (DR g h) ads ds'):St P Γ N g0 f0 g h w {f with its:=its,t:=t,ds:=ads,md:=m} up tmps' todo' ds' kd ro fs:=
 ⟨S.H,S.M,h1,h2,h3,S.kind,S.is,S.b,S.z,S.s⟩
theorem cU.inv{m:Machine}(h1:cU P Γ N g0 f0 cs0 (.fr f up h) m):∃g w tmps todo ds kd ro md fs,m=lone (aF f.fn tmps todo ds kd ro md) (fs++cs0) w/\St P Γ N g0 f0 g h w f up tmps todo ds kd ro fs/\MR g h f.md md:=by
 obtain⟨g,w,fr,fs,rfl,H,hM,fr',fs',heq,hr,hbl,hb,h0,hs⟩:=h1
 cases heq
 obtain⟨fn,tmps,todo,ds,md,kd,ro⟩:=fr;obtain⟨r1,r2,r3,r4,r5,r6,r7⟩:=hr;simp only at r1 r2 r3 r4 r5 r6 r7;subst r2;exact⟨g,w,tmps,todo,ds,kd,ro,md,fs,rfl,⟨H,hM,r3,r4,r5,r6,r7,hb,h0,hs⟩,r1⟩
theorem wK(H:Inv P Γ N g h w){l b sz:Nat}(hρ:g.ρ l=some (b,sz,0)){st:LoopState}{j:Jump}{fn:FuncId}{t:List AV}{ps:List Nat}{p q:ah}(hi:h[l]? =some (.loop st j fn t ps p q)):
 ∃L:Loop,w.heap[b]? =some (.loop L)/\L.state=st/\JR j L.pending/\L.fn=fn/\VL g h t L.tmps.toList/\L.params.toList=ps/\CR P L.assign p/\CR P L.body q/\(∃F,P.funcs[fn]? =some F)/\
  ∀st' j' c',JR j' c'->Inv P Γ N g (h.set l (.loop st' j' fn t ps p q)) (w.putObj b (.loop {L with state:=st',pending:=c'}))/\Ext h.length g h g (h.set l (.loop st' j' fn t ps p q)):=by
 obtain⟨L,h1,h2,h3,h4,h5,h6,h7,h8,h9⟩:=H.ob l _ hi b sz 0 hρ;refine⟨L,h1,h2,h3,h4,h5,h6,h7,h8,h9,fun st' j' c' hj=>?_⟩;have hk:sameKind (.loop st j fn t ps p q) (.loop st' j' fn t ps p q):=⟨rfl,rfl,rfl,rfl,rfl⟩;have hE:=Ext.tS (g:=g) hi hk;refine⟨Inv.xf H hi hρ hk ?_,hE⟩;intro b' sz' st'' hb';rw[hρ]at hb';simp only[aj,bL]at hb';obtain⟨rfl,_⟩:=hb';exact⟨_,wb _ (H.own l b _ hρ).2,rfl,hj,h4,cw hE (dk h5) h5,h6,h7,h8,h9⟩
theorem Inv.O9(H:Inv P Γ N g h w){o':Ob}{B:Obj}(hob:OV P (g.bG h.length (some (w.heap.size,0,0))) (h++[o']) (w.alloc B) h.length o'):
 Inv P Γ N (g.bG h.length (some (w.heap.size,0,0))) (h++[o']) (w.alloc B):=
 H.push rfl rfl rfl (wx w B) (by simp) (by
  intro b' x hx;simp only[aj,bL]at hx;obtain⟨rfl,_⟩:=hx
  simp) hob (by simp)
theorem Ln(H:Inv P Γ N g h w){fn:FuncId}{t:List AV}{tmps:Array Value}{ps:Array Tmp}{c d:Code}{p q:ah}(k:Nat)(ht:VL g h t tmps.toList)(hp:CR P c p)(hq:CR P d q)(hf:∃F,P.funcs[fn]? =some F):
 ∃g',Inv P Γ N g' (h++[.loop .ready .none fn t ps.toList p q]) (w.alloc (.loop {state:=.ready,pending:=none,fn,tmps,params:=ps,assign:=c,body:=d,defers:=k}))/\Ext h.length g h g' (h++[.loop .ready .none fn t ps.toList p q])/\
  LR g' (h++[.loop .ready .none fn t ps.toList p q]) h.length w.heap.size:=by
 have hE:=Ext.push (g:=g) (h:=h) [.loop .ready .none fn t ps.toList p q] (some (w.heap.size,0,0));refine⟨_,H.O9 ?_,hE,⟨_,_,_,_,_,_,_,p4 _ _ _⟩,0,cW _ _ _⟩;intro b sz st hb;rw[cW]at hb;simp only[aj,bL]at hb;obtain⟨rfl,_⟩:=hb;exact⟨_,ld _ _,rfl,rfl,rfl,cw hE (dk ht) ht,rfl,hp,hq,hf⟩
theorem aaA(H:Inv P Γ N g h w):
 ∃g',Inv P Γ N g' (h++[.bx true]) (w.alloc (.deferred (some [])))/\Ext h.length g h g' (h++[.bx true])/\DR g' (h++[.bx true]) (.mark h.length) {target:=.collected w.heap.size,args:=#[]}:=by
 have hE:=Ext.push (g:=g) (h:=h) [.bx true] (some (w.heap.size,0,0));refine⟨_,H.O9 ?_,hE,⟨_,p4 _ _ _⟩,_,_,cW _ _ _,rfl⟩;intro b sz st hb;rw[cW]at hb;simp only[aj,bL]at hb;obtain⟨rfl,_⟩:=hb;exact ld _ _
theorem PG{l b:Nat}(h1:LR g h l b):V g h (.cV l) (.func (.yield b) #[] #[]):=by
 obtain⟨h2,sz,h3⟩:=h1
 simp only[V];exact⟨h2,b,sz,h3,rfl⟩
def JT:Jump->List Item->Prop
 |.none,t=>t=[]
 |.ret,t=>∃k,t=.code .ret::k
 |.exit id,t=>∃k,t=.code (.exit id)::k/\exitTo id k=none
theorem Fg{c:Fr}{v:AV}{u:Value}{fr:Frame}(H:Inv P Γ N g h w)(hM:∀b o v,g0.M b o=some v->g.M b o=some v)(hv:V g h v u)(hs:SR P g h f0 h.length (c::up) (fr::fs)):
 cU P Γ N g0 f0 cs0 (.back (c::up) v h) (lone (fr.finish u) (fs++cs0) w):=⟨g,w,u,fr,fs,rfl,H,hM,hv,hs⟩
theorem DW(S:St P Γ N g0 f0 g h w f up tmps todo ds kd ro fs){j:Jump}(hj:JT j todo):
 ∃m',Steps P (lone (aF f.fn tmps todo ds kd ro) (fs++cs0) w) m'/\cU P Γ N g0 f0 cs0 (leave f up h j) m':=by
 have hk:=S.kind;obtain⟨fmd,ffn,fits,ft,fds,fk,fb⟩:=f;unfold leave
 cases fk with
 |round l=>
  obtain⟨rfl,b,rfl,hL⟩:=hk;obtain⟨⟨st,pj,fn,t,ps,p,q,hi⟩,sz,hρ⟩:=hL;simp only[hi]
  cases up with
  |nil=>have:=(S.z rfl).2;cases this
  |cons c up=>
   have hs:=S.s;obtain⟨fr,fs',rfl,h1,h2,h3,h4,h5⟩:=hs;obtain⟨L,hL1,hL2,hL3,hL4,hL5,hL6,hL7,hL8,_,hset⟩:=wK S.H hρ hi
   obtain⟨c',hc',hjc⟩:∃c':Option Code,JR j c'/\((todo=[]/\c'=none)\/(∃k,todo=.code .ret::k/\c'=some .ret)\/(∃id k,todo=.code (.exit id)::k/\exitTo id k=none/\c'=some (.exit id))):=by
    cases j with
    |none=>exact⟨none,rfl,Or.inl ⟨hj,rfl⟩⟩
    |ret=>obtain⟨k,hk⟩:=hj;exact⟨_,rfl,Or.inr (Or.inl ⟨k,hk,rfl⟩)⟩
    |exit id=>obtain⟨k,hk,he⟩:=hj;exact⟨_,rfl,Or.inr (Or.inr ⟨id,k,hk,he,rfl⟩)⟩
   have hjn:c'.isNone=decide (j=Jump.none):=by
    cases j<;>simp only[JR]at hc'<;>subst hc'<;>rfl
   obtain⟨H',x⟩:=hset (if c'.isNone then .ready else .done) j c' hc';refine⟨_,.one (Vk hjc (run_endRound c' hL1)),?_⟩;rw[show(if j=Jump.none then LoopState.ready else LoopState.done)=(if c'.isNone then .ready else .done) by rw[hjn];simp,show(j==Jump.none)=c'.isNone by rw[hjn];rfl];exact Fg H' (fun b o v hv=>x.M _ _ _ (S.M b o v hv)) (by simp[V]) (gf (x.mono S.b) (by rw[jg];exact S.b) S.s)
 |norm|bx=>
  obtain⟨_,rfl⟩:=hk
  cases j with
  |none=>
   cases hj
   exact⟨_,.one ady,St.jI (f:=⟨.ret,_,_,_,_,_,_⟩) ⟨S.H,S.M,S.its,S.t,S.ds,S.kind,S.is,S.b,S.z,S.s⟩ rfl⟩
  |ret=>
   obtain⟨k,rfl⟩:=hj;exact⟨_,.one ac5,St.jI (f:=⟨.ret,_,_,_,_,_,_⟩) ⟨S.H,S.M,S.its,S.t,S.ds,S.kind,S.is,S.b,S.z,S.s⟩ rfl⟩
  |exit id=>exact⟨_,.refl _ _,by trivial⟩
end
end Go.AM
