/- The abstract machine: append, copy, new slices. -/
import Derived.Test.YtchjijfjidlpjaaGreatDoorAMa
import Derived.RangeFuncRecord
import Derived.RangeFuncNested
set_option linter.unusedSimpArgs false
set_option linter.unusedVariables false
namespace Go.AM
open Go.RowKit
def mH(e:TypeId)(size:Nat)(base:Option Addr)(sLen sCap n:Nat)(zeros:Bool)(s x:Value)(appended:Sem (Array Value)):Sem Value:=do
 let aP:=sLen+n
 if aP<=sCap then
  let new<-appended
  if let some a:=base then storeCells (a.add (sLen*size)) new.toList
  pure (.slice base aP sCap)
 else
  if(aP:Int)>IntKind.i64.max/\(zeros\/(<-typeInfo e).bytes=0)then runtimePanic (.error "growslice: len out of range")
  if Builtin.nextslicecap aP sCap*(<-typeInfo e).bytes>2^48 then(if zeros then runtimePanic (.error "growslice: len out of range")else do
   if !(<-Builtin.mayShare size sLen n base x)then mark .noRoom
   unsupported (.resourceLimit "append: a slice or a string whose bytes no memory bears"))
  let newCap<-choose (.appendCap aP sCap e)
  askRoom (newCap*(<-typeInfo e).bytes)
  let ke<-Builtin.firstCells size sLen s
  let new<-appended
  let rest:=Builtin.zeroCells (<-zeroValue e).cells (newCap-aP)
  pure (.slice (some (<-newRow e (ke++new++rest))) aP newCap)
section
variable{P:Program}{w:World}
theorem Cn{sT u ty e:TypeId}{k:Nat}(ht:P.underlying sT=some (.slice e))(hk:bm P e=some k){d:TypeDesc}(hu:P.underlying u=some d)(hd:∀j,d≠.int j){base:Option Addr}{sLen sCap n:Nat}{x:Value}
 (hn:(Builtin.lenOf x).run P w=.ok n w):
 (Builtin.append_ #[sT,u] ty #[.slice base sLen sCap,x]).run P w=(mH e k base sLen sCap n false (.slice base sLen sCap) x (Builtin.firstCells k n x)).run P w:=by
 unfold Builtin.append_;simp only[oc,pH,ni]
 cases d<;>first
  |exact absurd rfl (hd _)
  |(simp only[Sem.run_bind,run_underlying ht,Result.andThen_ok,gN hk,run_underlying hu,Sem.run_pure,dU,cE,hn,mH,uU,bY]
    rfl)
theorem R'{sT u ty e:TypeId}{k B:Nat}(ht:P.underlying sT=some (.slice e))(hk:bm P e=some k)(hB:kJ P e=some B){j:IntKind}(hu:P.underlying u=some (.int j)){base:Option Addr}{sLen sCap:Nat}
 {i:IntKind}{m:Int}(h0:0<=m)(hm:m<=2^47)(hmB:m*B<=2^48):
 (Builtin.append_ #[sT,u] ty #[.slice base sLen sCap,.int i m]).run P w=(mH e k base sLen sCap m.toNat true (.slice base sLen sCap) (.int i m)
  (if m.toNat*k=0 then pure #[]else do pure (Builtin.zeroCells (<-zeroValue e).cells m.toNat))).run P w:=by
 have hwr:IntKind.i64.wrap m=m:=IntWalk.i64_in _ (by omega)
 have hti:∃i,P.info? e=some i/\i.bytes=B:=by
  unfold kJ at hB
  cases hi:P.info? e with
  |none=>simp[hi]at hB
  |some i=>simp[hi]at hB;exact⟨i,rfl,hB⟩
 obtain⟨ti,hti,hbt⟩:=hti
 have hty:(typeInfo e).run P w=.ok ti w:=by simp[typeInfo,hti]
 unfold Builtin.append_;simp only[oc,pH,ni];simp only[Sem.run_bind,run_underlying ht,Result.andThen_ok,gN hk,run_underlying hu,Sem.run_pure];simp only[bY,Sem.run_bind,asInt,asIntOf,Sem.run_pure,Result.andThen_ok,hwr];rw[if_neg (by omega)];simp only[Sem.run_bind,hty,Result.andThen_ok,hbt];rw[if_neg (by omega)];simp only[mH,pE,dU,cE];rfl
theorem Ik{e:TypeId}{k sLen sCap n:Nat}{z:Bool}{s x:Value}{ap:Sem (Array Value)}{news:Array Value}(hap:ap.run P w=.ok news w){b p:Nat}{c:Array Value}{E:TypeId}{fz:Nat×Nat}
 (hb:w.heap[b]? =some (.cells c E fz))(hf:lQ c fz)(hl:p+sLen*k+news.size<=c.size)(h1:∀v∈news.toList,v.oneCell'=true)(hn:sLen+n<=sCap):
 (mH e k (some ⟨b,p,none⟩) sLen sCap n z s x ap).run P w=.ok (.slice (some ⟨b,p,none⟩) (sLen+n) sCap) (w.setRow b (dO c.toList (p+sLen*k) news.toList).toArray):=by
 have h3:=xL P b (p+sLen*k) E fz news.toList 0 c w hb hf (by simpa using hl) h1;rw[jd]at h3;simp only[mH];rw[if_pos hn];simp only[Sem.run_bind,hap,Result.andThen_ok,jO,h3,Sem.run_pure];rfl
theorem Ss{e:TypeId}{k sLen sCap:Nat}{z:Bool}{s x:Value}{base:Option Addr}{ap:Sem (Array Value)}(hap:ap.run P w=.ok #[] w)(hn:sLen<=sCap):
 (mH e k base sLen sCap 0 z s x ap).run P w=.ok (.slice base sLen sCap) w:=by
 simp only[mH,jd];rw[if_pos hn];simp only[Sem.run_bind,hap,Result.andThen_ok]
 cases base with
 |none=>simp
 |some a=>simp[storeCells]
theorem Sc{e:TypeId}{k B sLen sCap n:Nat}{z:Bool}{s x:Value}{base:Option Addr}{ap:Sem (Array Value)}{olds news:Array Value}{zv:Value}(hap:ap.run P w.drew=.ok news w.drew)(hB:kJ P e=some B)(iZ:B≠0)
 (hzr:∀w,(zeroValue e).run P w=.ok zv w)(hn:sCap<sLen+n)(hnB:(sLen+n)*B<=2^47)(hold:(Builtin.firstCells k sLen s).run P w.drew=.ok olds w.drew):
 ∃cap,sLen+n<=cap/\(mH e k base sLen sCap n z s x ap).run P w=
  .ok (.slice (some ⟨w.heap.size,0,none⟩) (sLen+n) cap) (w.drew.alloc (.cells (olds++news++Builtin.zeroCells zv.cells (cap-(sLen+n))) e)):=by
 have hti:∃i,P.info? e=some i/\i.bytes=B:=by
  unfold kJ at hB
  cases hi:P.info? e with
  |none=>simp[hi]at hB
  |some i=>simp[hi]at hB;exact⟨i,rfl,hB⟩
 obtain⟨ti,hti,hbt⟩:=hti
 have hty:∀w,(typeInfo e).run P w=.ok ti w:=fun w=>by simp[typeInfo,hti]
 have hnn:sLen+n<=2^47:=by
  have:(sLen+n)*1<=(sLen+n)*B:=Nat.mul_le_mul_left _ (by omega);omega
 refine⟨grownCap w (sLen+n) sCap e,?_,?_⟩
 ·simp[grownCap,Question.cut]
 ·have h1:¬(((sLen+n:Nat):Int)>IntKind.i64.max/\(z=true\/ti.bytes=0)):=by
   rw[IntKind.max_i64];rintro⟨h,_⟩;omega
  have h2:¬(Builtin.nextslicecap (sLen+n) sCap*ti.bytes>2^48):=by
   rw[hbt];have:=growslice_fits hn (bytes:=B) (by simpa using hnB);omega
  simp only[mH];rw[if_neg (by omega)];simp only[Sem.run_bind,hty,Result.andThen_ok];rw[if_neg h1];simp only[Sem.run_bind,hty,Result.andThen_ok];rw[if_neg h2];simp only[Sem.run_bind,run_choose,Question.forced,dU,cE,World.drew_eq,Result.andThen_ok,hty,run_askRoom,hold,hap,hzr,newRow,run_newObj,Sem.run_pure];rfl
end
section
variable{P:Program}{Γ:Nat->Option AV}{N:Env}{g:G}{h:List Ob}{w:World}{r:Operand->Value}{o:Oper}{t:List AV}
theorem C_{k:Nat}:∀{es:List AV}{vs:List Value},dz k es->VE g h es vs->∀v∈vs,v.oneCell'=true
 |[],vs,_,hv=>by simp only[VE]at hv;subst hv;simp
 |e::es,vs,hk,hv=>by
  simp only[VE]at hv;obtain⟨v,vs',h1,rfl,hr⟩:=hv;have he:=hk e (by simp);intro u hu
  rcases ba.1 hu with hu|hu
  ·exact Cl he.2 (oG (pT he.2) h1) u hu
  ·exact C_ (fun x hx=>hk x (by simp[hx])) hr u hu
theorem Inv.drew(H:Inv P Γ N g h w):Inv P Γ N g h w.drew:=H.world rfl rfl rfl rfl
theorem Lu(H:Inv P Γ N g h w){a:AV}{base:Option Addr}{n cap k:Nat}(hv:V g h a (.slice base n cap)){es:List AV}(he:jh h a=some (k,es)):
 es.length=n/\∃olds:Array Value,(Builtin.firstCells k n (.slice base n cap)).run P w=.ok olds w/\VE g h es olds.toList:=by
 obtain⟨hK,ad,cap',vs,hs,h1,h2⟩:=vq H hv he;simp only[Value.slice.injEq]at hs;obtain⟨rfl,rfl,rfl⟩:=hs;refine⟨rfl,vs.toArray,?_,by simpa using h1⟩;have hl:=gv hK h1
 rcases h2 with rfl|⟨b,p,rfl,h3⟩
 ·simp only[VE]at h1;subst h1
  cases base with
  |none=>simp[run_firstCells_none]
  |some b=>exact run_firstCells_some w k 0 b 0 cap [] (by simp) (by simp)
 ·exact run_firstCells_some w k es.length ⟨b,p,none⟩ es.length cap vs hl (fun j v hj=>by rw[jO];exact h3 j v hj)
theorem xW(H:Inv P Γ N g h w){e:TypeId}{k B:Nat}(hk:0<k)(hB:kJ P e=some B)(iZ:B≠0){zv:Value}(hzr:∀w,(zeroValue e).run P w=.ok zv w)(hzk:zv.cells.size=k)
 {z:Bool}{s x:Value}{ap:Sem (Array Value)}{news:Array Value}{ys:List AV}{yfl:Bool}
 (hop:∀base sLen sCap,s=.slice base sLen sCap->(execOp r o).run P w=((mH e k base sLen sCap ys.length z s x ap).run P w).andThen fun v w=>.ok (.value v) w)
 (hap:∀w':World,w'.heap=w.heap->ap.run P w'=.ok news w')(hys:VE g h ys news.toList)(hyk:dz k ys)(hyf:yfl=true->cj ys k=true)
 {a v:AV}{h':List Ob}{E:TypeId}(ha:V g h a s)(hA:fU h k E B a ys yfl=.val v h'):aG P Γ N r o w g h h' (some v):=by
 have hnl:news.size=ys.length*k:=by have:=gv hyk hys;simpa using this
 have hnone:=C_ hyk hys
 have hgrow:∀(base:Option Addr)(sLen sCap:Nat)(es:List AV)(olds:Array Value),s=.slice base sLen sCap->sCap<sLen+ys.length->(sLen+ys.length)*B<=2^47->
  (Builtin.firstCells k sLen s).run P w.drew=.ok olds w.drew->VE g h es olds.toList->dz k es->es.length=sLen->
  ∃cap rest,sLen+ys.length<=cap/\(execOp r o).run P w=.ok (.value (.slice (some ⟨w.heap.size,0,none⟩) (sLen+ys.length) cap)) (w.drew.alloc (.cells ((olds.toList++news.toList)++rest).toArray e))/\
   cap*k<=((olds.toList++news.toList)++rest).length:=by
  intro base sLen sCap es olds hs hlt hb hold hE hK hl;obtain⟨cap,hc,hrun⟩:=Sc (x:=x) (z:=z) (base:=base) (hap w.drew rfl) hB iZ hzr hlt hb hold;have hol:=gv hK hE;refine⟨cap,(Builtin.zeroCells zv.cells (cap-(sLen+ys.length))).toList,hc,?_,?_⟩
  ·rw[hop base sLen sCap hs,hrun];simp only[Result.andThen_ok];congr 3;apply gp;simp
  ·have:(Builtin.zeroCells zv.cells (cap-(sLen+ys.length))).size=(cap-(sLen+ys.length))*k:=by simp[Builtin.zeroCells,hzk]
   simp only[bp,uV,this,hnl];simp at hol;rw[hol,hl,<-fa,<-fa];exact kq _ (by omega)
 have hsame:∀base sLen sCap,s=.slice base sLen sCap->sLen<=sCap->ys=[]->(execOp r o).run P w=.ok (.value s) w:=by
  intro base sLen sCap hs hle hy;subst hy
  have hn0:news=#[]:=by apply gp;simp only[VE]at hys;simpa using hys
  rw[hop base sLen sCap hs,cN,Ss (by rw[hap w rfl,hn0]) hle,hs];rfl
 cases a<;>simp only[fU,reduceCtorEq]at hA
 case list f k' es=>
  cases f<;>simp only[reduceCtorEq]at hA
  split at hA
  ·rename_i hc;obtain⟨hcb,hkk⟩:=hc;have ha0:=ha;simp only[V]at ha0;obtain⟨hok,base,cap,hs,hcap,_,_⟩:=ha0;have hcap:=hcap trivial
   split at hA
   ·simp only[R.val.injEq]at hA;obtain⟨rfl,rfl⟩:=hA;exact aG.same H (hsame base _ _ hs (by omega) rfl) ha
   ·rename_i y ys';simp only[R.val.injEq]at hA;obtain⟨rfl,rfl⟩:=hA
    have hK:dz k es:=by
     rcases hkk with rfl|rfl
     ·exact jf hok
     ·intro e he;simp at he
    have hokk:cj es k=true:=by
     rcases hkk with rfl|rfl
     ·exact hok
     ·rfl
    have hte:jh h (.list true k' es)=some (k',es):=rfl
    have hold:∃olds:Array Value,(Builtin.firstCells k es.length s).run P w.drew=.ok olds w.drew/\VE g h es olds.toList:=by
     rcases hkk with rfl|rfl
     ·rw[hs]at ha⊢;exact(Lu H.drew ha hte).2
     ·rw[hs];refine⟨#[],?_,by simp[VE]⟩
      cases base with
      |none=>simp[run_firstCells_none]
      |some b=>simpa using run_firstCells_some (P:=P) w.drew k 0 b 0 cap [] (by simp) (by simp)
    obtain⟨olds,hold,hEo⟩:=hold;obtain⟨cap',rest,h1,h2,h3⟩:=hgrow base es.length cap es olds hs (by simp;omega) hcb hold hEo hK rfl;have hVE:=oA hEo hys
    have hKK:dz k (es++y::ys'):=by
     intro e he
     rcases ba.1 he with he|he
     ·exact hK e he
     ·exact hyk e he
    refine aG.make (w':=w.drew) H rfl rfl rfl rfl (sz:=((olds.toList++news.toList)++rest).length) h2 ?_ (by simp) ?_
    ·exact Ag (P:=P) hk hKK (fun hf=>sM.2 ⟨hokk,hyf hf⟩) (cJ _ _ _) (kx w.drew _) rfl (tG _) (fg (Ext.push _ _) (jm hVE) hVE)
    ·have:=zn (h:=h) (g':=g.bA h.length (some (w.heap.size,((olds.toList++news.toList)++rest).length,0))) (k:=k) (E:=E) (es:=es++y::ys') (os:=[]) (fl:=yfl) (sh:=false) (cJ _ _ _) (cap:=cap') (by simpa using h1) h3;simpa using this
  ·simp at hA
 case sl i off n=>
  split at hA
  ·rename_i k' E' es gr fl sh hi
   split at hA
   ·rename_i hc;obtain⟨rfl,rfl,hok,hcb⟩:=hc;have hil:=bj hi;have ha0:=ha;simp only[V]at ha0;obtain⟨k2,E2,es2,gr2,fl2,sh2,hi2,hle,base,cap,hs,hcap,hbn,hq⟩:=ha0;rw[hi]at hi2;simp only[al,Ob.row.injEq]at hi2;obtain⟨rfl,rfl,rfl,rfl,rfl,rfl⟩:=hi2;obtain⟨hlc,hq⟩:=hq hok;have hob:=H.ob i _ hi;simp only[OV]at hob;obtain⟨_,hK,hfl,hgl,hb⟩:=hob
    have hlo:gr.getD 0<=off:=by
     cases gr with
     |none=>simp
     |some lo=>simp only[cr,aC,a8]at hok;simpa using hok.1
    split at hA
    ·rename_i hend;simp only[R.val.injEq]at hA;obtain⟨rfl,rfl⟩:=hA
     by_cases hy0:ys=[]
     ·subst hy0;simp only[eL,List.isEmpty_nil,bY,cN,jd];have hset:h.set i (.row k' E' es gr (fl&&yfl) sh)=h.set i (.row k' E' es gr (fl&&yfl) sh):=rfl
      have hE:Ext h.length g h g (h.set i (.row k' E' es gr (fl&&yfl) sh)):=by
       have:=Ext.oJ (g:=g) (E':=E') (es':=es) (gr':=gr) (fl':=fl&&yfl) (sh':=sh) (ρ':=g.ρ i) hi (aU _) (fun off' m _ h1=>⟨h1,rfl,fun _ h=>h⟩);rwa[cK]at this
      refine⟨g,w,_,hsame base n cap hs hcap rfl,?_,hE,_,rfl,fo hE (jU ha) ha⟩
      have:=Inv.set (r:=g.ρ i) (w':=w) H hil (by rw[cK];exact hE) rfl rfl rfl (fun _ _ _=>rfl) (aU _) (fun b' y hy=>⟨Or.inl ⟨y,hy⟩,(H.own i b' y hy).2⟩)
       (fun b y o v _ hv=>H.mem b o v hv) (by
        intro b sz st o v hy hv;obtain⟨k3,E3,es3,gr3,fl3,h5,h6⟩:=H.dX i b sz st o v hy hv;rw[hi]at h5;simp only[al,Ob.row.injEq]at h5;obtain⟨rfl,rfl,rfl,rfl,rfl,rfl⟩:=h5
        exact⟨_,_,_,_,_,rfl,h6⟩)
       (by
        rw[cK];have:=mF (w':=w) hE rfl (fun _ _ _=>rfl) (H.ob i _ hi);simp only[OV]at this⊢
        exact⟨this.1,this.2.1,fun hf=>this.2.2.1 (by simp only[aC]at hf;exact hf.1),this.2.2.2⟩)
      rwa[cK]at this
     ·have hyl:0<ys.length:=uW.2 hy0
      have hemp:ys.isEmpty=false:=by cases ys<;>simp at hy0⊢
      rw[hemp];simp only[dU,cE]
      have hKK:dz k' (es++ys):=by
       intro e he
       rcases ba.1 he with he|he
       ·exact hK e he
       ·exact hyk e he
      have hflf:(fl&&yfl)=true->cj (es++ys) k'=true:=fun hf=>by
       simp only[aC]at hf;exact sM.2 ⟨hfl hf.1,hyf hf.2⟩
      by_cases hfit:n+ys.length<=cap
      ·
       rcases hq with⟨h0,h00⟩|⟨b,sz,st,hρ,hst,rfl,hcs⟩
       ·omega
       rw[hρ]at hb;simp only at hb;obtain⟨hst',c,Eb,fz,vs,hw,hsz,hfree,hVE,hcells⟩:=hb
       have hm:(off-st)*k'+n*k'+news.size<=c.size:=by
        rw[hnl,hsz,<-fa,<-fa];exact qO (kq _ (by omega)) hcs
       have hrun:=Ik (e:=e) (k:=k') (sLen:=n) (sCap:=cap) (n:=ys.length) (z:=z) (s:=s) (x:=x) (hap w rfl) (p:=(off-st)*k') hw hfree hm hnone hfit
       have hE:Ext h.length g h g (h.set i (.row k' E' (es++ys) (some off) (fl&&yfl) sh)):=by
        have:=Ext.oJ (g:=g) (E':=E') (es':=es++ys) (gr':=some off) (fl':=fl&&yfl) (sh':=sh) (ρ':=g.ρ i) hi (by simp) (by
         intro off' m hom h1;simp only[cr,aC,ml,bp]at h1
         omega)
        rwa[cK]at this
       have hm2:(off-st)*k'+n*k'+news.toList.length<=c.toList.length:=by simpa using hm
       have hsl:=pQ hm2;refine⟨g,_,_,by rw[hop _ _ _ hs,hrun];rfl,Inv.write H hil hρ hw hE ?_ ?_ ?_,hE,_,rfl,?_⟩
       ·intro o v hv;obtain⟨k3,E3,es3,gr3,fl3,h5,h6⟩:=H.dX i b sz st o v hρ hv;rw[hi]at h5;simp only[al,Ob.row.injEq]at h5;obtain⟨rfl,rfl,rfl,rfl,rfl,rfl⟩:=h5
        have e1:(off-st)*k'+n*k'=(es.length-st)*k':=by rw[<-fa];congr 1;omega
        rw[oc,mC hm2,if_pos (by omega)];simp
       ·intro sz' st' o v hy hv;obtain⟨k3,E3,es3,gr3,fl3,h5,h6⟩:=H.dX i b sz' st' o v hy hv;rw[hi]at h5;simp only[al,Ob.row.injEq]at h5;obtain⟨rfl,rfl,rfl,rfl,rfl,rfl⟩:=h5;refine⟨_,_,_,_,_,rfl,nh h6 (kq _ (by simp;omega))⟩
       ·simp only[OV];refine⟨hk,hKK,hflf,by simp;omega,?_⟩;rw[hρ];simp only[gZ]
        have hdrop:(es++ys).drop off=es.drop off++ys:=by rw[List.drop_append_of_le_length (by omega)]
        have hKd:dz k' (es.drop (gr.getD 0)):=fun x hx=>hK x (iA hx)
        have hV1:=tO hKd hVE (off-gr.getD 0);rw[List.drop_drop,show gr.getD 0+(off-gr.getD 0)=off by omega]at hV1;have hV2:=oA hV1 hys;refine⟨hst,(dO c.toList ((off-st)*k'+n*k') news.toList).toArray,Eb,fz,vs.drop ((off-gr.getD 0)*k')++news.toList,setRow_heap w b c _ Eb fz hw,?_,tg hfree ?_,?_,?_⟩
        ·simp only[pG];rw[hsl];simpa using hsz
        ·simp only[pG];rw[hsl];simp
        ·rw[hdrop];exact fg hE (jm hV2) hV2
        ·intro j hj;have hvl:=gv hKd hVE
         have hvl2:vs.length=(es.length-gr.getD 0)*k':=by rw[hvl];simp
         have e2:vs.length-(off-gr.getD 0)*k'=n*k':=by
          rw[hvl2,<-Nat.sub_mul];congr 1;omega
         rw[oc,mC hm2]
         by_cases hjn:j<n*k'
         ·rw[if_pos (by omega),xq (by simp;omega),List.getElem_drop];have h5:=hcells ((off-gr.getD 0)*k'+j) (by omega);rw[<-h5]
          have e3:(gr.getD 0-st)*k'+(off-gr.getD 0)*k'=(off-st)*k':=by rw[<-fa];congr 1;omega
          rw[xr];congr 1;omega
         ·rw[if_neg (by omega)];simp only[bp,HH,e2]at hj;rw[if_pos (by omega),List.getElem_append_right (by simp;omega)];rw[a_ (by omega)];congr 1;simp only[HH,e2];congr 1;omega
       ·simp only[V];refine⟨k',E',es++ys,some off,fl&&yfl,sh,gn hil,by simp;omega,_,cap,rfl,hfit,fun _=>⟨_,_,rfl⟩,fun _=>⟨by simp;omega,Or.inr ⟨b,sz,st,hρ,hst,rfl,hcs⟩⟩⟩
      ·
       have hte:jh h (.sl i off n)=some (k',(es.drop off).take n):=by simp only[jh,hi,hok,bY]
       have htl:(es.drop off).take n=es.drop off:=by rw[cF (by simp;omega)]
       rw[htl]at hte;rw[hs]at ha;obtain⟨hl5,olds,hold,hEo⟩:=Lu H.drew ha hte
       have hKd:dz k' (es.drop off):=fun x hx=>hK x (iA hx)
       obtain⟨cap',rest,h1,h2,h3⟩:=hgrow base n cap (es.drop off) olds hs (by omega) hcb (by rw[hs];exact hold) hEo hKd hl5;have hVE:=oA hEo hys
       have hE:Ext h.length g h (g.bA i (some (w.heap.size,((olds.toList++news.toList)++rest).length,off))) (h.set i (.row k' E' (es++ys) (some off) (fl&&yfl) sh)):=
        Ext.oJ hi (by simp) (by
         intro off' m hom h1;simp only[cr,aC,ml,bp]at h1
         omega)
       refine⟨_,_,_,h2,Inv.set H hil hE rfl rfl rfl (fun b hb _=>by rw[vP _ _ _ (by simpa using hb)];rfl) (by simp) ?_ ?_ ?_ ?_,hE,_,rfl,?_⟩
       ·intro b x hx;simp only[al,bH]at hx;obtain⟨rfl,_⟩:=hx;exact⟨Or.inr (aU _),by simp⟩
       ·intro b y o v hy hv;rw[sX (vP _ _ _ (by simpa using(H.own i b y hy).2))];exact H.mem b o v hv
       ·intro b sz st o v hx hv;simp only[al,bH]at hx;obtain⟨rfl,_⟩:=hx;have:w.heap.size<w.heap.size:=uQ (H.mem _ o v hv);omega
       ·simp only[OV];refine⟨hk,hKK,hflf,by simp;omega,?_⟩;rw[cJ];simp only[gZ];refine⟨aU _,_,e,(0,0),olds.toList++news.toList,kx w.drew _,by simp,tG _,?_,?_⟩
        ·rw[List.drop_append_of_le_length (by omega)];exact fg hE (jm hVE) hVE
        ·intro j hj;rw[Nat.sub_self,uS,gY,oc,dk hj,a_ hj]
       ·simp only[V]
        refine⟨k',E',es++ys,some off,fl&&yfl,sh,gn hil,by simp;omega,_,cap',rfl,h1,fun _=>⟨_,_,rfl⟩,
         fun _=>⟨by simp;omega,Or.inr ⟨w.heap.size,_,off,cJ _ _ _,aU _,by simp,by simpa using h3⟩⟩⟩
    ·rename_i hend
     split at hA
     ·rename_i hc2;obtain⟨hfit2,rfl⟩:=hc2;simp only[R.val.injEq]at hA;obtain⟨rfl,rfl⟩:=hA
      rcases hq with⟨h0,h00⟩|⟨b,sz,st,hρ,hst,rfl,hcs⟩
      ·omega
      rw[hρ]at hb;simp only at hb;obtain⟨hst',c,Eb,fz,vs,hw,hsz,hfree,hVE,hcells⟩:=hb
      have hfit:n+ys.length<=cap:=by omega
      have hm:(off-st)*k'+n*k'+news.size<=c.size:=by
       rw[hnl,hsz,<-fa,<-fa];exact qO (kq _ (by omega)) hcs
      have hrun:=Ik (e:=e) (k:=k') (sLen:=n) (sCap:=cap) (n:=ys.length) (z:=z) (s:=s) (x:=x) (hap w rfl) (p:=(off-st)*k') hw hfree hm hnone hfit
      have hnewlen:(es.take (off+n)++ys++es.drop (off+n+ys.length)).length=es.length:=by simp;omega
      have hgrn:gr=none:=by
       cases gr with
       |none=>rfl
       |some lo=>simp only[cr,aC,ml]at hok;omega
      subst hgrn;simp only[sB,Nat.zero_sub,uS,gY,dV,Nat.le_zero_eq]at*;subst hst'
      have hE:Ext h.length g h g (h.set i (.row k' E' (es.take (off+n)++ys++es.drop (off+n+ys.length)) none (fl&&yfl) false)):=by
       have:=Ext.oJ (g:=g) (E':=E') (es':=es.take (off+n)++ys++es.drop (off+n+ys.length)) (gr':=none) (fl':=fl&&yfl) (sh':=false) (ρ':=g.ρ i) hi (by omega) (by
        intro off' m hom h1
        refine⟨by simpa[cr]using hom,hnewlen,fun _ h=>h⟩)
       rwa[cK]at this
      have hm2:(off-0)*k'+n*k'+news.toList.length<=c.toList.length:=by simpa using hm
      have hsl:=pQ hm2
      have hnoM:∀o v,g.M b o=some v->False:=by
       intro o v hv;obtain⟨_,_,_,_,_,h5,_⟩:=H.dX i b sz 0 o v hρ hv;rw[hi]at h5;simp at h5
      have hKn:dz k' (es.take (off+n)++ys++es.drop (off+n+ys.length)):=by
       intro e he;simp only[ba]at he
       rcases he with(he|he)|he
       ·exact hK e (jH he)
       ·exact hyk e he
       ·exact hK e (iA he)
      refine⟨g,_,_,by rw[hop _ _ _ hs,hrun];rfl,Inv.write H hil hρ hw hE (fun o v hv=>(hnoM o v hv).elim) (fun sz' st' o v _ hv=>(hnoM o v hv).elim) ?_,hE,_,rfl,?_⟩
      ·simp only[OV];refine⟨hk,hKn,?_,by simp,?_⟩
       ·intro hf;simp only[aC]at hf;rw[sM,sM];exact⟨⟨ov (hfl hf.1) (fun e he=>jH he),hyf hf.2⟩,ov (hfl hf.1) (fun e he=>iA he)⟩
       ·rw[hρ];simp only[sB,Nat.zero_sub,uS,gY,dV];have hV2:=oA (oA (v8 hK hVE (off+n)) hys) (tO hK hVE (off+n+ys.length));have hvl:=gv hK hVE;refine⟨aU _,(dO c.toList ((off-0)*k'+n*k') news.toList).toArray,Eb,fz,_,setRow_heap w b c _ Eb fz hw,?_,tg hfree ?_,fg hE (jm hV2) hV2,?_⟩
        ·simp only[pG];rw[hsl];simpa using hsz
        ·simp only[pG];rw[hsl];simp
        ·intro j hj
         have e1:(off+n)*k'=(off-0)*k'+n*k':=by rw[fa];simp
         have e2:(off+n+ys.length)*k'=(off-0)*k'+n*k'+news.toList.length:=by rw[fa,e1];simp[hnl]
         have hvm:(off-0)*k'+n*k'+news.toList.length<=vs.length:=by
          rw[<-e2,hvl];exact kq _ (by omega)
         have hsp:vs.take ((off+n)*k')++news.toList++vs.drop ((off+n+ys.length)*k')=dO vs ((off-0)*k'+n*k') news.toList:=by
          rw[e1,e2];rfl
         have hj2:=mC hvm j
         have hj3:j<vs.length:=by
          have:j<(dO vs ((off-0)*k'+n*k') news.toList).length:=by rw[<-hsp];exact hj
          rwa[pQ hvm]at this
         rw[oc,mC hm2,<-a_ hj,hsp,hj2]
         by_cases h7:j<(off-0)*k'+n*k'
         ·rw[if_pos h7,if_pos h7,a_ hj3,<-hcells j hj3];simp
         ·rw[if_neg h7,if_neg h7]
          by_cases h8:j<(off-0)*k'+n*k'+news.toList.length
          ·rw[if_pos h8,if_pos h8]
          ·rw[if_neg h8,if_neg h8,a_ hj3,<-hcells j hj3];simp
      ·simp only[V];refine⟨k',E',_,none,fl&&yfl,false,gn hil,by omega,_,cap,rfl,hfit,fun _=>⟨_,_,rfl⟩,fun _=>⟨by omega,Or.inr ⟨b,sz,0,hρ,hst,rfl,hcs⟩⟩⟩
     ·simp at hA
   ·simp at hA
  ·simp at hA
end
section
variable{P:Program}{Γ:Nat->Option AV}{N:Env}{g:G}{h:List Ob}{w:World}{r:Operand->Value}{o:Oper}{t:List AV}
theorem IJ{x y:Operand}{sT u:TypeId}(ho:o.op=.call ⟨.builtin .append,#[x,y],#[sT,u]⟩):
 (execOp r o).run P w=((Builtin.append_ #[sT,u] o.type #[r x,r y]).run P w).andThen fun v w=>.ok (.value v) w:=by
 simp[execOp,ho,resolve,invoke,builtin]
theorem ZI(b:UInt8):V g h (gB b) (.int .u8 b.toNat):=by simp[gB,V]
theorem zG:∀s:List UInt8,VE g h (s.map gB) (s.map fun b=>Value.int .u8 b.toNat)
 |[]=>by simp[VE]
 |b::s=>by
  simp only[cv,VE];exact⟨_,s.map fun b=>Value.int .u8 b.toNat,ZI b,rfl,zG s⟩
theorem vn:∀s:List UInt8,cj (s.map gB) 1=true
 |[]=>rfl
 |b::s=>by simp[cj,gB,AV.cells,bO,AV.one,aO,aJ,vn s]
theorem tc{zv:Value}{k:Nat}(h1:(fw zv).cells.length=k):zv.cells.size=k:=by
 have:=fe (CF (⟨fun _=>none,fun _ _=>none,fun _=>none⟩:G) [] zv);simp at this;omega
theorem tp{t:TypeId}{z:AV}(h:dy P t=some z):∃v,(∀w,(zeroValue t).run P w=.ok v w)/\z=fw v:=by
 unfold dy at h
 cases hi:P.info? t with
 |none=>simp[hi]at h
 |some i=>
  cases hz:i.zero with
  |none=>simp[hi,hz]at h
  |some v=>simp[hi,hz]at h;exact⟨v,fun w=>by simp[zeroValue,typeInfo,hi,hz],h.symm⟩
theorem Dp(H:Inv P Γ N g h w){x y:Operand}{sT u e:TypeId}(ho:o.op=.call ⟨.builtin .append,#[x,y],#[sT,u]⟩)(ht:P.underlying sT=some (.slice e)){k B:Nat}(hk:bm P e=some k)(hk0:0<k)
 (hB:kJ P e=some B)(iZ:B≠0){z:AV}(hz:dy P e=some z)(hzk:z.cells.length=k){d:TypeDesc}(hu:P.underlying u=some d)(hd:∀j,d≠.int j)
 {a b v:AV}{h':List Ob}(hx:V g h a (r x))(hy:V g h b (r y)){E:TypeId}
 (hA:(∃f k' es,b=.list f k' es/\(k'=k\/es=[])/\fU h k E B a es true=.val v h')\/
  (∃i q n es E' es' gr fl sh,b=.sl i q n/\jh h b=some (k,es)/\h[i]? =some (.row k E' es' gr fl sh)/\fU h k E B a es fl=.val v h')\/
  (∃s:List UInt8,b=.str s/\k=1/\fU h 1 E B a (s.map gB) true=.val v h')):aG P Γ N r o w g h h' (some v):=by
 obtain⟨zv,hzr,rfl⟩:=tp hz;have hzk':=tc hzk;have hex:=IJ (P:=P) (w:=w) (r:=r) ho
 rcases hA with⟨f,k',es,rfl,hkk,hA⟩|⟨i,q,n,es,E',es',gr,fl,sh,rfl,hte,hi,hA⟩|⟨s,rfl,rfl,hA⟩
 ·have hok:cj es k=true:=by
   have hy0:=hy;simp only[V]at hy0
   rcases hkk with rfl|rfl
   ·exact hy0.1
   ·rfl
  have hte:jh h (.list f k' es)=some (k',es):=rfl;have hy0:=hy;simp only[V]at hy0;obtain⟨_,ad,cap,hs,_,_,_⟩:=hy0
  have hnews:∃news:Array Value,VE g h es news.toList/\∀w':World,w'.heap=w.heap->(Builtin.firstCells k es.length (r y)).run P w'=.ok news w':=by
   rcases hkk with rfl|rfl
   ·obtain⟨hK,ad2,cap2,vs,hs2,h1,h2⟩:=vq H hy hte;refine⟨vs.toArray,by simpa using h1,fun w' hw'=>?_⟩;rw[hs2];have hl:=gv hK h1
    rcases h2 with rfl|⟨b,p,rfl,h3⟩
    ·simp only[VE]at h1;subst h1
     cases ad2 with
     |none=>simp[run_firstCells_none]
     |some b=>simpa using run_firstCells_some (P:=P) w' k' 0 b 0 cap2 [] (by simp) (by simp)
    ·exact run_firstCells_some w' k' es.length ⟨b,p,none⟩ es.length cap2 vs hl (fun j v hj=>by rw[jO];have:=h3 j v hj;simpa only [World.cell?,hw']using this)
   ·refine⟨#[],by simp[VE],fun w' _=>?_⟩;rw[hs]
    cases ad with
    |none=>simp[run_firstCells_none]
    |some b=>simpa using run_firstCells_some (P:=P) w' k 0 b 0 cap [] (by simp) (by simp)
  obtain⟨news,hE,hap⟩:=hnews;refine xW H hk0 hB iZ hzr hzk' (z:=false) (x:=r y) ?_ hap hE (jf hok) (fun _=>hok) hx hA;intro base sLen sCap hsx;rw[hex,hsx,Cn ht hk hu hd (n:=es.length) (by rw[hs];simp[Builtin.lenOf])]
 ·obtain⟨hK,ad2,cap2,vs,hs2,h1,h2⟩:=vq H hy hte;have hob:=H.ob i _ hi;simp only[OV]at hob;obtain⟨_,hK',hfl,_⟩:=hob
  have hsub:∀e∈es,e∈es':=by
   simp only[jh,hi]at hte
   split at hte
   ·simp only[al,bH,uT]at hte;subst hte
    exact fun e he=>iA (jH he)
   ·simp at hte
  have hl:=gv hK h1;refine xW H hk0 hB iZ hzr hzk' (z:=false) (x:=r y) (news:=vs.toArray) (ap:=Builtin.firstCells k es.length (r y)) ?_ ?_ (by simpa using h1) hK (fun hf=>ov (hfl hf) hsub) hx hA
  ·intro base sLen sCap hsx;rw[hex,hsx,Cn ht hk hu hd (n:=es.length) (by rw[hs2];simp[Builtin.lenOf])]
  ·intro w' hw';rw[hs2]
   rcases h2 with rfl|⟨b,p,rfl,h3⟩
   ·simp only[VE]at h1;subst h1
    cases ad2 with
    |none=>simp[run_firstCells_none]
    |some b=>simpa using run_firstCells_some (P:=P) w' k 0 b 0 cap2 [] (by simp) (by simp)
   ·exact run_firstCells_some w' k es.length ⟨b,p,none⟩ es.length cap2 vs hl (fun j v hj=>by rw[jO];have:=h3 j v hj;simpa only [World.cell?,hw']using this)
 ·rw[il hy]at hex
  refine xW H hk0 hB iZ hzr hzk' (z:=false) (x:=.string ⟨s.toArray⟩) (news:=(s.map fun b=>Value.int .u8 b.toNat).toArray) (ap:=Builtin.firstCells 1 (s.map gB).length (.string ⟨s.toArray⟩)) ?_ ?_
   (by simpa using zG s) (jf (vn s)) (fun _=>vn s) hx hA
  ·intro base sLen sCap hsx;rw[hex,hsx,Cn ht hk hu hd (n:=(s.map gB).length) (by simp[Builtin.lenOf,tv])]
  ·intro w' _;simp only[Builtin.firstCells,iB,IP,HG,dV,Sem.run_pure];congr 1;apply gp;simp
theorem td{zc:Array Value}{k:Nat}(hk:zc.size=k):∀n:Nat,((Array.range (n*k)).map fun i=>zc[i%k]!).toList=(List.replicate n zc.toList).flatten
 |0=>by simp
 |n+1=>by
  have ih:=td hk n;simp only[Array.toList_map,Array.toList_range]at ih⊢;rw[List.replicate_succ',List.flatten_append,<-ih,fa,Nat.one_mul,List.range_add,nk,lf];congr 1;simp only[List.flatten_cons,List.flatten_nil,eL];apply List.ext_getElem
  ·simp[hk]
  ·intro i h1 h2;simp only[iB,qQ]at h1;simp only[List.getElem_map,List.getElem_range,Function.comp_apply,Array.getElem_toList];rw[Nat.add_comm,Nat.add_mul_mod_self_right,Nat.mod_eq_of_lt h1,getElem!_pos _ _ (by omega)]
theorem Vs(H:Inv P Γ N g h w){x y:Operand}{sT u e:TypeId}(ho:o.op=.call ⟨.builtin .append,#[x,y],#[sT,u]⟩)(ht:P.underlying sT=some (.slice e)){k B:Nat}(hk:bm P e=some k)(hk0:0<k)
 (hB:kJ P e=some B)(iZ:B≠0){z:AV}(hz:dy P e=some z)(hzk:z.cells.length=k)(hz1:bO z.cells=true)(hzb:aO 0 z.cells=true){j:IntKind}(hu:P.underlying u=some (.int j))
 {a v:AV}{h':List Ob}(hx:V g h a (r x)){i:IntKind}{m:Int}(hy:r y=.int i m)(h0:0<=m)(hm:m<=2^47)(hmB:m*B<=2^48){E:TypeId}
 (hA:fU h k E B a (List.replicate m.toNat z) true=.val v h'):aG P Γ N r o w g h h' (some v):=by
 obtain⟨zv,hzr,rfl⟩:=tp hz;have hzk':=tc hzk;have hex:=IJ (P:=P) (w:=w) (r:=r) ho;have hVE:=sP (mG g h zv) m.toNat;have hok:=sH hzk hz1 hzb m.toNat
 refine xW H hk0 hB iZ hzr hzk' (z:=true) (x:=.int i m) (news:=(List.replicate m.toNat zv.cells.toList).flatten.toArray)
  (ap:=if m.toNat*k=0 then pure #[]else do pure (Builtin.zeroCells (<-zeroValue e).cells m.toNat)) ?_ ?_ (by simpa using hVE) (jf hok) (fun _=>hok) hx hA
 ·intro base sLen sCap hsx;rw[hex,hsx,hy,R' ht hk hB hu h0 hm hmB,ku]
 ·intro w' _
  by_cases hmk:m.toNat*k=0
  ·rw[if_pos hmk]
   have:m.toNat=0:=by
    rcases HK.1 hmk with h1|h1
    ·exact h1
    ·omega
   simp[this]
  ·rw[if_neg hmk];simp only[Sem.run_bind,hzr,Result.andThen_ok,Sem.run_pure];congr 1;apply gp;have:=td hzk' m.toNat;simpa[Builtin.zeroCells,hzk']using this
theorem YY(H:Inv P Γ N g h w){x:Operand}{sT e:TypeId}(ho:o.op=.call ⟨.builtin .clear,#[x],#[sT]⟩)(ht:P.underlying sT=some (.slice e)){k:Nat}(hk:bm P e=some k)(hk0:0<k)
 {z:AV}(hz:dy P e=some z)(hzk:z.cells.length=k)(hz1:bO z.cells=true)(hzb:aO 0 z.cells=true){i off n:Nat}(hx:V g h (.sl i off n) (r x)){E:TypeId}{es:List AV}{fl:Bool}
 (hi:h[i]? =some (.row k E es none fl false))(hle:off+n<=es.length):aG P Γ N r o w g h (h.set i (.row k E (es.take off++List.replicate n z++es.drop (off+n)) none fl false)) (some (.aL [])):=by
 obtain⟨zv,hzr,rfl⟩:=tp hz;have hzk':=tc hzk;have hys:=sP (mG g h zv) n;have hyok:=sH hzk hz1 hzb n;have hyk:=jf hyok;have hil:=bj hi;have hx0:=hx;simp only[V]at hx0;obtain⟨k2,E2,es2,gr2,fl2,sh2,hi2,hle2,base,cap,hs,hcap,hbn,hq⟩:=hx0;rw[hi]at hi2;simp only[al,Ob.row.injEq]at hi2;obtain⟨rfl,rfl,rfl,rfl,rfl,rfl⟩:=hi2;obtain⟨hlc,hq⟩:=hq (by simpa[cr]using hle);have hob:=H.ob i _ hi;simp only[OV]at hob;obtain⟨_,hK,hfl,hgl,hb⟩:=hob
 have hnewlen:(es.take off++List.replicate n (fw zv)++es.drop (off+n)).length=es.length:=by simp;omega
 have hE:Ext h.length g h g (h.set i (.row k E (es.take off++List.replicate n (fw zv)++es.drop (off+n)) none fl false)):=by
  have:=Ext.oJ (g:=g) (E':=E) (es':=es.take off++List.replicate n (fw zv)++es.drop (off+n)) (gr':=none) (fl':=fl) (sh':=false) (ρ':=g.ρ i) hi (by omega) (by
   intro off' m hom h1
   refine⟨by simpa[cr]using hom,hnewlen,fun _ h=>h⟩)
  rwa[cK]at this
 have hKn:dz k (es.take off++List.replicate n (fw zv)++es.drop (off+n)):=by
  intro e he;simp only[ba]at he
  rcases he with(he|he)|he
  ·exact hK e (jH he)
  ·exact hyk e he
  ·exact hK e (iA he)
 have hfln:fl=true->cj (es.take off++List.replicate n (fw zv)++es.drop (off+n)) k=true:=by
  intro hf;rw[sM,sM];exact⟨⟨ov (hfl hf) (fun e he=>jH he),hyok⟩,ov (hfl hf) (fun e he=>iA he)⟩
 have hex:∀base cap,r x=.slice base n cap->(execOp r o).run P w=((Builtin.clear_ #[sT] o.type #[r x]).run P w).andThen fun v w=>.ok (.value v) w:=by
  intro base cap _;simp only[execOp,ho,resolve,invoke,builtin,Sem.run_bind,Sem.run_pure,Result.andThen_ok,List.map_toArray,cv,iC]
 rcases hq with⟨h0,h00⟩|⟨b,sz,st,hρ,hst,rfl,hcs⟩
 ·subst h0
  have hsame:h.set i (.row k E (es.take off++List.replicate 0 (fw zv)++es.drop (off+0)) none fl false)=h:=by
   apply lh;intro m
   by_cases hm:i=m
   ·subst hm;rw[gn hil,hi];simp
   ·rw[dK hm]
  rw[hsame];refine aG.same H (u:=.tuple #[]) ?_ (by simp only[V,VL];exact⟨[],rfl,rfl⟩);rw[hex _ _ hs,hs];simp[Builtin.clear_,run_underlying ht]
  cases base<;>simp
 ·by_cases hn0:n=0
  ·subst hn0
   have hsame:h.set i (.row k E (es.take off++List.replicate 0 (fw zv)++es.drop (off+0)) none fl false)=h:=by
    apply lh;intro m
    by_cases hm:i=m
    ·subst hm;rw[gn hil,hi];simp
    ·rw[dK hm]
   rw[hsame];refine aG.same H (u:=.tuple #[]) ?_ (by simp only[V,VL];exact⟨[],rfl,rfl⟩);rw[hex _ _ hs,hs];simp[Builtin.clear_,run_underlying ht]
  ·rw[hρ]at hb;simp only at hb;obtain⟨hst',c,Eb,fz,vs,hw,hsz,hfree,hVE,hcells⟩:=hb;simp only[sB,Nat.zero_sub,uS,gY,dV,Nat.le_zero_eq]at*;subst hst'
   have hnl:(List.replicate n zv.cells.toList).flatten.length=n*k:=by
    have:=gv hyk hys;simpa using this
   have hm:off*k+(List.replicate n zv.cells.toList).flatten.length<=c.size:=by
    rw[hnl,hsz,<-fa]
    have h1:(off+cap)*k<=sz:=by simpa using hcs
    exact qO (kq _ (by omega)) h1
   have h3:=xL P b ((off-0)*k) Eb fz (List.replicate n zv.cells.toList).flatten 0 c w hw hfree (by simpa using hm) (C_ hyk hys)
   have hzl:(Builtin.zeroCells zv.cells n).toList=(List.replicate n zv.cells.toList).flatten:=by
    have:=td hzk' n;simpa[Builtin.zeroCells,hzk']using this
   have hrun:(execOp r o).run P w=.ok (.value (.tuple #[])) (w.setRow b (dO c.toList (off*k) (List.replicate n zv.cells.toList).flatten).toArray):=by
    rw[hex _ _ hs,hs];have hn1:∃m,n=m+1:=⟨n-1,by omega⟩;obtain⟨m,rfl⟩:=hn1;rw[jd]at h3;simp only[Builtin.clear_,oc,pH,Sem.run_bind,run_underlying ht,Result.andThen_ok,hzr,hzl,h3,Sem.run_pure];simp[dO]
   have hm2:off*k+(List.replicate n zv.cells.toList).flatten.length<=c.toList.length:=by simpa using hm
   have hsl:=pQ hm2
   have hnoM:∀o v,g.M b o=some v->False:=by
    intro o v hv;obtain⟨_,_,_,_,_,h5,_⟩:=H.dX i b sz 0 o v hρ hv;rw[hi]at h5;simp at h5
   refine⟨g,_,_,hrun,Inv.write H hil hρ hw hE (fun o v hv=>(hnoM o v hv).elim) (fun sz' st' o v _ hv=>(hnoM o v hv).elim) ?_,hE,_,rfl,by simp only[V,VL];exact⟨[],rfl,rfl⟩⟩;simp only[OV];refine⟨hk0,hKn,hfln,by simp,?_⟩;rw[hρ];simp only[sB,Nat.zero_sub,uS,gY,dV];have hV2:=oA (oA (v8 hK hVE off) hys) (tO hK hVE (off+n));have hvl:=gv hK hVE;refine⟨aU _,(dO c.toList (off*k) (List.replicate n zv.cells.toList).flatten).toArray,Eb,fz,_,setRow_heap w b c _ Eb fz hw,?_,tg hfree ?_,fg hE (jm hV2) hV2,?_⟩
   ·simp only[pG];rw[hsl];simpa using hsz
   ·simp only[pG];rw[hsl];simp
   ·intro j hj
    have e2:(off+n)*k=off*k+(List.replicate n zv.cells.toList).flatten.length:=by rw[fa,hnl]
    have hvm:off*k+(List.replicate n zv.cells.toList).flatten.length<=vs.length:=by
     rw[<-e2,hvl];exact kq _ (by omega)
    have hsp:vs.take (off*k)++(List.replicate n zv.cells.toList).flatten++vs.drop ((off+n)*k)=dO vs (off*k) (List.replicate n zv.cells.toList).flatten:=by
     rw[e2];rfl
    have hj2:=mC hvm j
    have hj3:j<vs.length:=by
     have:j<(dO vs (off*k) (List.replicate n zv.cells.toList).flatten).length:=by rw[<-hsp];exact hj
     rwa[pQ hvm]at this
    rw[oc,mC hm2,<-a_ hj,hsp,hj2]
    by_cases h7:j<off*k
    ·rw[if_pos h7,if_pos h7,a_ hj3,<-hcells j hj3];simp
    ·rw[if_neg h7,if_neg h7]
     by_cases h8:j<off*k+(List.replicate n zv.cells.toList).flatten.length
     ·rw[if_pos h8,if_pos h8]
     ·rw[if_neg h8,if_neg h8,a_ hj3,<-hcells j hj3];simp
theorem UG(H:Inv P Γ N g h w){x y:Operand}{ty e:TypeId}(ho:o.op=.makeSlice ty x y)(ht:P.underlying ty=some (.slice e)){k B:Nat}(hk:bm P e=some k)(hk0:0<k)
 (hB:kJ P e=some B){z:AV}(hz:dy P e=some z)(hzk:z.cells.length=k)(hz1:bO z.cells=true)(hzb:aO 0 z.cells=true){i j:IntKind}{n:Int}
 (hx:r x=.int i n)(hy:r y=.int j n)(h0:0<=n)(hn:n<=2^47)(hnB:n*B<=2^47)(E:TypeId):
 aG P Γ N r o w g h (h++[.row k E (List.replicate n.toNat z) none true false]) (some (.sl h.length 0 n.toNat)):=by
 obtain⟨zv,hzr,rfl⟩:=tp hz;have hzk':=tc hzk
 have hti:∃i,P.info? e=some i/\i.bytes=B:=by
  unfold kJ at hB
  cases hi:P.info? e with
  |none=>simp[hi]at hB
  |some i=>simp[hi]at hB;exact⟨i,rfl,hB⟩
 obtain⟨ti,hti,hbt⟩:=hti
 have hty:∀w,(typeInfo e).run P w=.ok ti w:=fun w=>by simp[typeInfo,hti]
 have hwr:IntKind.i64.wrap n=n:=IntWalk.i64_in _ (by omega);have hok:=sH hzk hz1 hzb n.toNat;have hVE:=sP (mG g h zv) n.toNat;have hzl:=td hzk' n.toNat
 have hBn:(ti.bytes:Int)*n<=2^47:=by rw[hbt,Int.mul_comm];exact hnB
 have hrun:(Instr.makeSlice ty (r x) (r y)).run P w=.ok (.slice (some ⟨w.heap.size,0,none⟩) n.toNat n.toNat) (w.alloc (.cells ((List.replicate n.toNat zv.cells.toList).flatten++[]).toArray e)):=by
  simp only[Instr.makeSlice,Sem.run_bind,run_underlying ht,Result.andThen_ok,hx,hy,asInt,asIntOf,Sem.run_pure,hty,hwr]
  have h1:(decide (n<0)||decide ((ti.bytes:Int)*n>2^48))=false:=by
   simp only[jI,gK];omega
  have h2:(decide (n<0)||decide ((ti.bytes:Int)*n>2^48)||decide (n<0)||decide (n>n))=false:=by
   rw[h1];simp;omega
  rw[if_neg (by rw[h2];simp)];simp only[Sem.run_bind,run_askRoom,Result.andThen_ok,gN hk]
  by_cases hmk:n.toNat*k=0
  ·have hn0:n.toNat=0:=by
    rcases HK.1 hmk with h1|h1
    ·exact h1
    ·omega
   rw[if_pos hmk]
   have e0:Array.map (fun _:Nat=>(default:Value)) (Array.range 0)=#[]:=by apply gp;simp
   simp[newRow,hn0,e0]
  ·rw[if_neg hmk];simp only[Sem.run_bind,hzr,Result.andThen_ok,newRow,run_newObj,Sem.run_pure,hzk'];congr 4;apply gp;rw[hzl];simp
 have hsz:((List.replicate n.toNat zv.cells.toList).flatten++[]).length=n.toNat*k:=by simp[hzk']
 refine aG.make (w':=w) H rfl rfl rfl rfl (sz:=n.toNat*k) (by simp only[execOp,ho];rw[Sem.run_bind,hrun];rfl) ?_ (by simp) ?_
 ·exact Ag (P:=P) hk0 (jf hok) (fun _=>hok) (cJ _ _ _) (kx w _) hsz.symm (tG _) (fg (Ext.push _ _) (jm hVE) hVE)
 ·have:=zn (h:=h) (g':=g.bA h.length (some (w.heap.size,n.toNat*k,0))) (k:=k) (E:=E) (es:=List.replicate n.toNat (fw zv)) (os:=[]) (fl:=true) (sh:=false) (cJ _ _ _) (cap:=n.toNat) (by simp) (aU _);simpa using this
theorem Ve(w:World)(c:Array Value)(E:TypeId):(w.alloc (.cells c E)).freeze ⟨w.heap.size,c.size,none⟩ 1=w.alloc (.cells c E (c.size,c.size+1)):=by
 simp only[World.freeze,World.alloc];simp only[Nat.one_ne_zero,cE];congr 1;apply Array.ext
 ·simp
 ·intro i h1 h2;simp only[Array.getElem_modify,Array.getElem_push];simp at h2
  by_cases hi:i<w.heap.size
  ·have:¬w.heap.size=i:=by omega
   simp[hi,this]
  ·have:i=w.heap.size:=by omega
   subst this;simp
theorem Uy(H:Inv P Γ N g h w){s d e:TypeId}{x:Operand}(ho:o.op=.convert s d x)(hs:P.underlying s=some .string)(hd:P.underlying d=some (.slice e))(he:P.underlying e=some (.int .u8))
 {l:List UInt8}(hx:r x=.string ⟨l.toArray⟩)(E:TypeId):aG P Γ N r o w g h (h++[.row 1 E (l.map gB) none true false]) (some (.sl h.length 0 l.length)):=by
 have hcap:∃cap,l.length<=cap/\(Question.appendCap l.length 0 e).cut (w.tape w.drawn (.appendCap l.length 0 e))=cap:=⟨_,by simp[Question.cut],rfl⟩;obtain⟨cap,hcap,hcut⟩:=hcap
 have hrun:(convert s d (r x)).run P w=.ok (.slice (some ⟨w.heap.size,0,none⟩) l.length cap)
  (w.drew.alloc (.cells ((l.map fun b:UInt8=>Value.int .u8 b.toNat)++List.replicate (cap-l.length) (Value.int .u8 0)).toArray e (cap,cap+1))):=by
  have hsize:((l.map fun b:UInt8=>Value.int .u8 b.toNat)++List.replicate (cap-l.length) (Value.int .u8 0)).toArray.size=cap:=by simp;omega
  have hshape:(w.drew.alloc (.cells ((l.map fun b:UInt8=>Value.int .u8 b.toNat)++List.replicate (cap-l.length) (Value.int .u8 0)).toArray e)).shape? w.heap.size=some (e,cap):=by
   have:=kx w.drew (.cells ((l.map fun b:UInt8=>Value.int .u8 b.toNat)++List.replicate (cap-l.length) (Value.int .u8 0)).toArray e);simp only[World.shape?];rw[show w.heap.size=w.drew.heap.size from rfl,this];simp only[hsize]
  have hfr:=Ve w.drew ((l.map fun b:UInt8=>Value.int .u8 b.toNat)++List.replicate (cap-l.length) (Value.int .u8 0)).toArray e;rw[hsize]at hfr;simp only[convert,Sem.run_bind,run_underlying hs,run_underlying hd,Result.andThen_ok,hx,run_underlying he];simp only[Conv.stringToBytes,Sem.run_bind,run_choose,Question.forced,dU,cE,tv,hcut,Result.andThen_ok,newRow,run_newObj,Sem.run_pure,World.drew_eq,World.alloc_eq]
  have harr:(Array.map (fun b:UInt8=>Value.int .u8 b.toNat) l.toArray++Array.replicate (cap-l.length) (Value.int .u8 0))=((l.map fun b:UInt8=>Value.int .u8 b.toNat)++List.replicate (cap-l.length) (Value.int .u8 0)).toArray:=by
   apply gp;simp
  rw[harr];simp only[markStringish,Sem.run_bind,run_shape,World.size_drew,hshape,Result.andThen_ok,run_freeze];rw[show(⟨w.heap.size,cap,none⟩:Addr)=⟨w.drew.heap.size,cap,none⟩from rfl,hfr]
 refine aG.make (w':=w.drew) H rfl rfl rfl rfl (sz:=cap) (by simp only[execOp,ho];rw[Sem.run_bind,hrun];rfl) ?_ (by simp) ?_
 ·exact Ag (P:=P) (Nat.zero_lt_one) (jf (vn l)) (fun _=>vn l) (cJ _ _ _) (kx w.drew _) (by simp;omega) (Or.inr (by simp;omega)) (fg (Ext.push _ _) (jm (zG (g:=g) l)) (zG l))
 ·have:=zn (h:=h) (g':=g.bA h.length (some (w.heap.size,cap,0))) (k:=1) (E:=E) (es:=l.map gB) (os:=[]) (fl:=true) (sh:=false) (cJ _ _ _) (cap:=cap) (by simpa using hcap) (by simp);simpa using this
end
def sameKind:Ob->Ob->Prop
 |.cells _,.cells _=>True
 |.map _ _,.map _ _=>True
 |.gC _ _,.gC _ _=>True
 |.loop _ _ fn t ps a b,.loop _ _ fn' t' ps' a' b'=>fn=fn'/\t=t'/\ps=ps'/\a=a'/\b=b'
 |.bB _,.bB _=>True
 |_,_=>False
def iY(w:World)(b:Nat)(o:Obj):World:={w with heap:=w.heap.setIfInBounds b o}
theorem WE(w:World)(b:Nat)(o:Obj):(iY w b o).heap.size=w.heap.size:=by simp[iY]
theorem vF{w:World}{b:Nat}(o:Obj)(h:b<w.heap.size):(iY w b o).heap[b]? =some o:=by simp[iY,h]
theorem Vu(w:World){b b':Nat}(o:Obj)(h:b'≠b):(iY w b o).heap[b']? =w.heap[b']? :=by
 simp only[iY];rw[sC];rw[if_neg (by omega)]
section
variable{P:Program}{Γ:Nat->Option AV}{N:Env}{g:G}{h:List Ob}{w:World}{r:Operand->Value}{o:Oper}{t:List AV}
theorem Ext.tA{i:Nat}{o o':Ob}(hi:h[i]? =some o)(hk:sameKind o o'):Ext h.length g h g (h.set i o'):=by
 have hil:=bj hi;have hs:=gn (l:=h) (i:=i) (a:=o') hil
 have ho:∀{j x},j≠i->h[j]? =some x->(h.set i o')[j]? =some x:=fun{j x} hj hx=>by rw[dK (by omega)];exact hx
 refine⟨fun _ _ _ x=>x,fun _ _ x=>x,?_,?_,?_,?_,?_,?_⟩
 ·intro j us _ hj
  by_cases hji:j=i
  ·subst hji
   rw[hi]at hj;cases hj
   cases o'<;>simp only[sameKind]at hk
   exact⟨⟨_,hs⟩,fun _ x=>x⟩
  ·exact⟨⟨us,ho hji hj⟩,fun _ x=>x⟩
 ·intro j es fl _ hj
  by_cases hji:j=i
  ·subst hji
   rw[hi]at hj;cases hj
   cases o'<;>simp only[sameKind]at hk
   exact⟨⟨_,_,hs⟩,fun _ x=>x⟩
  ·exact⟨⟨_,_,ho hji hj⟩,fun _ x=>x⟩
 ·intro j s p _ hj
  by_cases hji:j=i
  ·subst hji
   rw[hi]at hj;cases hj
   cases o'<;>simp only[sameKind]at hk
   exact⟨⟨_,_,hs⟩,fun _ x=>x⟩
  ·exact⟨⟨_,_,ho hji hj⟩,fun _ x=>x⟩
 ·intro j st q fn t ps a b _ hj
  by_cases hji:j=i
  ·subst hji
   rw[hi]at hj;cases hj
   cases o'<;>simp only[sameKind]at hk
   obtain⟨rfl,rfl,rfl,rfl,rfl⟩:=hk;exact⟨⟨_,_,hs⟩,fun _ x=>x⟩
  ·exact⟨⟨_,_,ho hji hj⟩,fun _ x=>x⟩
 ·intro j l _ hj
  by_cases hji:j=i
  ·subst hji
   rw[hi]at hj;cases hj
   cases o'<;>simp only[sameKind]at hk
   exact⟨⟨_,hs⟩,fun _ x=>x⟩
  ·exact⟨⟨_,ho hji hj⟩,fun _ x=>x⟩
 ·intro j k E es gr fl sh _ hj
  have hji:j≠i:=by
   rintro rfl;rw[hi]at hj;cases hj
   cases o'<;>simp only[sameKind]at hk
  exact⟨_,_,_,_,_,ho hji hj,aU _,fun _ _ _ hk=>⟨hk,rfl,fun _ x=>x⟩⟩
theorem Inv.wK{i b:Nat}{x:Nat×Nat}{o o':Ob}{B:Obj}(H:Inv P Γ N g h w)(hi:h[i]? =some o)(hρ:g.ρ i=some (b,x))(hk:sameKind o o')(hob:OV P g (h.set i o') (iY w b B) i o'):
 Inv P Γ N g (h.set i o') (iY w b B):=by
 have hlt:b<w.heap.size:=(H.own i b x hρ).2;have hE:=Ext.tA (g:=g) hi hk
 have hnoM:∀o v,g.M b o=some v->False:=by
  intro q v hv;obtain⟨sz,st⟩:=x;obtain⟨_,_,_,_,_,h5,_⟩:=H.dX i b sz st q v hρ hv;rw[hi]at h5
  cases h5
  simp only[sameKind]at hk
 have:=Inv.set (r:=g.ρ i) (w':=iY w b B) H (bj hi) (by rw[cK];exact hE) rfl rfl rfl (fun b' _ hne=>Vu w B (fun e=>hne x (by rw[e];exact hρ))) (by simp[iY])
  (fun b' y hy=>⟨Or.inl ⟨y,hy⟩,by rw[WE];exact(H.own i b' y hy).2⟩) (by
   intro b' y q v hy hv;rw[hρ]at hy;simp only[al,bH]at hy;obtain⟨rfl,_⟩:=hy
   exact(hnoM q v hv).elim)
  (by
   intro b' sz st q v hy hv;rw[hρ]at hy
   have hbb:b'=b:=by simp only[al,bH]at hy;exact hy.1.symm
   subst hbb
   exact(hnoM q v hv).elim)
  (by rw[cK];exact hob)
 rwa[cK]at this
theorem vx{b:Nat}{B:Obj}(h:w.heap[b]? =some B)(hc:∀c e f,B≠.cells c e f):(getObj b).run P w=.ok B w:=by
 simp only[getObj,Sem.run,h]
theorem vw{b:Nat}{B B':Obj}(h:w.heap[b]? =some B)(hc:∀c e f,B≠.cells c e f):(setObj b B').run P w=.ok () (iY w b B'):=by
 simp only[setObj,Sem.run,h]
 cases B<;>first|rfl|exact absurd rfl (hc _ _ _)
theorem ZX(H:Inv P Γ N g h w){x:Operand}(ho:o.op=.next x true){i:Nat}(hx:V g h (.it i) (r x)){s:List UInt8}{pos:Nat}(hi:h[i]? =some (.gC s pos)):
 (pos<s.length->aG P Γ N r o w g h (h.set i (.gC s (pos+(Utf8.decode ⟨s.toArray⟩ pos).2))) (some (.aL [.bool true,.int .i64 pos,.int .i32 (Utf8.decode ⟨s.toArray⟩ pos).1])))/\
 (¬pos<s.length->aG P Γ N r o w g h h (some (.aL [.bool false]))):=by
 simp only[V]at hx;obtain⟨_,b,sz,hρ,hrx⟩:=hx;have hb:w.heap[b]? =some (.stringIter ⟨s.toArray⟩ pos):=H.ob i _ hi b sz 0 hρ;have hg:=vx (P:=P) hb (by simp);constructor
 ·intro hlt;have hk:sameKind (.gC s pos) (.gC s (pos+(Utf8.decode ⟨s.toArray⟩ pos).2)):=trivial;refine⟨g,iY w b (.stringIter ⟨s.toArray⟩ (pos+(Utf8.decode ⟨s.toArray⟩ pos).2)),.value (.tuple #[.bool true,goInt pos,.int .i32 (Utf8.decode ⟨s.toArray⟩ pos).1]),?_,Inv.wK H hi hρ hk ?_,Ext.tA hi hk,.tuple #[.bool true,goInt pos,.int .i32 (Utf8.decode ⟨s.toArray⟩ pos).1],rfl,?_⟩
  ·have hst:=vw (P:=P) (B':=.stringIter ⟨s.toArray⟩ (pos+(Utf8.decode ⟨s.toArray⟩ pos).2)) hb (by simp);simp[execOp,ho,hrx,Instr.next,hg,tv,hlt,hst]
  ·intro b' sz' st' hb';rw[hρ]at hb';simp only[al,bH]at hb';obtain⟨rfl,_⟩:=hb';exact vF _ (H.own i b _ hρ).2
  ·simp only[V,VL];exact⟨[.bool true,goInt pos,.int .i32 (Utf8.decode ⟨s.toArray⟩ pos).1],rfl,_,_,rfl,rfl,_,_,rfl,rfl,_,_,rfl,rfl,rfl⟩
 ·intro hlt;refine aG.same H (u:=.tuple #[.bool false]) ?_ (by simp only[V,VL];exact⟨[.bool false],rfl,_,_,rfl,rfl,rfl⟩);simp[execOp,ho,hrx,Instr.next,hg,tv,hlt]
theorem J8{s:SK}{a b:AV}(h1:eD s a b=some true){x y:Value}(hx:V g h a x)(hy:V g h b y):x=y/\∀n,Instr.sameBits n x y=true:=by
 cases s<;>cases a<;>cases b<;>simp only[eD,reduceCtorEq,al]at h1
 ·split at h1
  ·rename_i hk;subst hk;simp only[al,ml]at h1;subst h1;rw[dC hx,dC hy];exact⟨rfl,fun n=>by cases n<;>simp[Instr.sameBits]⟩
  ·simp at h1
 ·simp only[ml]at h1;subst h1;rw[il hx,il hy];exact⟨rfl,fun n=>by cases n<;>simp[Instr.sameBits,JQ]⟩
 ·simp only[ml]at h1;subst h1;rw[kD hx,kD hy];exact⟨rfl,fun n=>by cases n<;>simp[Instr.sameBits]⟩
theorem Kk:∀{ss:List SK}{as bs:List AV}{xs ys:List Value},fN ss as bs=some true->VL g h as xs->VL g h bs ys->xs=ys/\∀n,(xs.zip ys).all (fun(x,y)=>Instr.sameBits n x y)=true
 |[],[],[],xs,ys,_,hx,hy=>by simp only[VL]at hx hy;subst hx;subst hy;exact⟨rfl,fun _=>rfl⟩
 |[],_::_,_,_,_,h1,_,_=>by simp[fN]at h1
 |[],[],_::_,_,_,h1,_,_=>by simp[fN]at h1
 |_::_,[],_,_,_,h1,_,_=>by simp[fN]at h1
 |_::_,_::_,[],_,_,h1,_,_=>by simp[fN]at h1
 |s::ss,a::as,b::bs,xs,ys,h1,hx,hy=>by
  simp only[VL]at hx hy;obtain⟨x,xs',rfl,hx1,hx2⟩:=hx;obtain⟨y,ys',rfl,hy1,hy2⟩:=hy;simp only[fN]at h1
  split at h1
  ·rename_i he;obtain⟨rfl,h2⟩:=J8 he hx1 hy1;obtain⟨rfl,h3⟩:=Kk h1 hx2 hy2;exact⟨rfl,fun n=>by simp[h2];simpa using h3 n⟩
  ·simp at h1
  ·simp at h1
theorem UW{P:Program}{ty:TypeId}{e:EK}(hk:gO P ty=some e){a b:AV}(h1:bU e a b=some true){x y:Value}(hx:V g h a x)(hy:V g h b y):x=y/\Instr.sameBits 10000 x y=true:=by
 unfold gO at hk
 split at hk
 ·simp only[al]at hk;subst hk;obtain⟨h2,h3⟩:=J8 h1 hx hy;exact⟨h2,h3 _⟩
 ·simp only[bN]at hk;obtain⟨ss,_,rfl⟩:=hk
  cases a<;>cases b<;>simp only[bU,reduceCtorEq]at h1
  split at h1
  ·simp only[V]at hx hy;obtain⟨xs,rfl,hx⟩:=hx;obtain⟨ys,rfl,hy⟩:=hy;obtain⟨rfl,h2⟩:=Kk h1 hx hy;refine⟨rfl,?_⟩;have:=h2 9999
   show((xs.toArray.size==xs.toArray.size)&&(xs.toArray.toList.zip xs.toArray.toList).all fun(x,y)=>Instr.sameBits 9999 x y)=true
   simpa using this
  ·simp at h1
theorem IL{e:EK}{k:AV}:∀{es:List (AV×AV)}{i:Nat},findAt e k es=some (some i)->∃x,es[i]? =some x/\bU e k x.1=some true
 |[],i,h1=>by simp[findAt]at h1
 |(a,v)::es,i,h1=>by
  simp only[findAt]at h1
  split at h1
  ·rename_i he;simp only[al]at h1;subst h1;exact⟨(a,v),rfl,he⟩
  ·simp only[bN]at h1;obtain⟨p,hp,h2⟩:=h1;obtain⟨j,rfl,rfl⟩:=h2;obtain⟨x,h3,h4⟩:=IL hp;exact⟨x,by simpa using h3,h4⟩
  ·simp at h1
theorem CM:∀{as:List AV}{vs:List Value}(i:Nat),VL g h as vs->VL g h (as.eraseIdx i) (vs.eraseIdx i)
 |[],vs,i,hv=>by simp only[VL]at hv;subst hv;simp[VL]
 |a::as,vs,i,hv=>by
  simp only[VL]at hv;obtain⟨v,vs',rfl,h1,h2⟩:=hv
  cases i with
  |zero=>simpa using h2
  |succ i=>simp only[List.eraseIdx_cons_succ,VL];exact⟨v,_,rfl,h1,CM i h2⟩
theorem vm{α β:Type}(f:α->β):∀(l:List α)(i:Nat),(l.eraseIdx i).map f=(l.map f).eraseIdx i
 |[],i=>by simp
 |a::l,0=>by simp
 |a::l,i+1=>by simp[vm f l i]
theorem vX{n:Nat}:∀{l:List AV},aO n l=true↔∀a∈l,aJ n a=true
 |[]=>by simp[aO]
 |a::l=>by simp[aO,vX (l:=l)]
theorem aa1(H:Inv P Γ N g h w){ty kt et:TypeId}{m k x:Operand}(ho:o.op=.mapUpdate ty m k x\/o.op=.insert ty m k x)(hu:P.underlying ty=some (.map kt et)){e:EK}(hk:gO P kt=some e)
 {j:Nat}(hm:V g h (.mp j) (r m)){es es':List (AV×AV)}{fl:Bool}(hj:h[j]? =some (.map es fl)){a b:AV}(ha:V g h a (r k))(hkey:isKey e a=true)(hb:V g h b (r x))(hp:iK e a b es=some es'):
 aG P Γ N r o w g h (h.set j (.map es' (fl&&aJ 0 b))) none:=by
 simp only[V]at hm;obtain⟨_,bk,sz,hρ,hrm⟩:=hm;obtain⟨hfl,hob⟩:=H.ob j _ hj;obtain⟨bd,ck,hw,hks,hvs⟩:=hob bk sz 0 hρ;have hkk:sameKind (.map es fl) (.map es' (fl&&aJ 0 b)):=trivial;have hE:=Ext.tA (g:=g) hj hkk;obtain⟨p,hp1,hp2⟩:=LL hp;have hf:=run_findKey hk ha hks hp1 w;have hck:=run_checkKey hk hkey ha false w;have hg:=vx (P:=P) hw (by simp);have hlen:=C5 hks;have hbk:=(H.own j bk _ hρ).2
 have hfl':(fl&&aJ 0 b)=true->aO 0 (es'.map (·.2))=true:=by
  intro h1;simp only[aC]at h1;have h2:=vX.1 (hfl h1.1);rw[vX];intro y hy
  cases p with
  |none=>
   simp only at hp2;subst hp2;simp only[nk,cv,iC,ba,cG]at hy
   rcases hy with hy|rfl
   ·exact h2 y hy
   ·exact h1.2
  |some i=>
   obtain⟨_,rfl⟩:=hp2;rw[lj]at hy
   rcases xp hy with hy|rfl
   ·exact h2 y hy
   ·exact h1.2
 have hdone:∀(ents':Array MapEntry)(ck':Nat),VL g h (es'.map (·.1)) (ents'.toList.map (·.key))->VL g h (es'.map (·.2)) (ents'.toList.map (·.val))->
  (Instr.mapUpdate ty (r m) (r k) (r x)).run P w=.ok () (iY w bk (.map ents' ck'))->aG P Γ N r o w g h (h.set j (.map es' (fl&&aJ 0 b))) none:=by
  intro ents' ck' h1 h2 hrun;refine⟨g,iY w bk (.map ents' ck'),_,?_,Inv.wK H hj hρ hkk ⟨hfl',?_⟩,hE,rfl⟩
  ·rcases ho with ho|ho<;>simp[execOp,ho,hrun]
  ·intro b' sz' st' hb';rw[hρ]at hb';simp only[al,bH]at hb';obtain⟨rfl,_⟩:=hb';exact⟨ents',ck',vF _ hbk,b_ hE (cV h1) h1,b_ hE (cV h2) h2⟩
 cases p with
 |none=>
  simp only at hp2;subst hp2;refine hdone (bd.push {key:=r k,val:=r x,born:=ck}) (ck+1) ?_ ?_ ?_
  ·simp only[nk,cv,iC,Array.toList_push];exact jN hks (by simp only[VL];exact⟨_,_,rfl,ha,rfl⟩)
  ·simp only[nk,cv,iC,Array.toList_push];exact jN hvs (by simp only[VL];exact⟨_,_,rfl,hb,rfl⟩)
  ·simp only[Option.bind_none]at hf;have hs:=vw (P:=P) (B':=.map (bd.push {key:=r k,val:=r x,born:=ck}) (ck+1)) hw (by simp);simp[Instr.mapUpdate,run_underlying hu,hrm,hg,hck,hf,hs]
 |some i=>
  obtain⟨hil,rfl⟩:=hp2;obtain⟨y,hy1,hy2⟩:=IL hp1
  have hile:i<bd.size:=by have:bd.toList.length=es.length:=hlen;simp at this;omega
  have hge:bd[i]? =some bd[i]:=iD hile;obtain⟨q,hq1,hq2⟩:=qc (i:=i) (a:=y.1) hks (by simp[hy1]);simp only[jc,xr,hge,eb,al]at hq1;subst hq1;obtain⟨hkq,hsb⟩:=UW hk hy2 ha hq2;rw[<-hkq]at hsb;refine hdone (bd.modify i fun e=>{e with key:=r k,val:=r x}) ck ?_ ?_ ?_
  ·have:(bd.modify i fun e=>{e with key:=r k,val:=r x}).toList.map (·.key)=(bd.toList.map (·.key)).set i (r k):=by
    rw[Array.toList_modify];apply lh;intro n;simp only[jc,xt,mn,iB,uV]
    by_cases hn:i=n
    ·subst hn;simp[hile]
    ·simp[hn]
   rw[this,lj];exact oN i hks ha
  ·have:(bd.modify i fun e=>{e with key:=r k,val:=r x}).toList.map (·.val)=(bd.toList.map (·.val)).set i (r x):=by
    rw[Array.toList_modify];apply lh;intro n;simp only[jc,xt,mn,iB,uV]
    by_cases hn:i=n
    ·subst hn;simp[hile]
    ·simp[hn]
   rw[this,lj];exact oN i hvs hb
  ·have hs:=vw (P:=P) (B':=.map (bd.modify i fun e=>{e with key:=r k,val:=r x}) ck) hw (by simp);simp only[jb,xr,hge,eb]at hf
   have hkt:(Instr.keyThatStays bd[i].key (r k)).run P w=.ok (r k) w:=by
    unfold Instr.keyThatStays;rw[<-hkq,hsb];simp
   simp[Instr.mapUpdate,run_underlying hu,hrm,hg,hck,hf,hge,hkt,hs]
theorem Xj(H:Inv P Γ N g h w){mt u kt et:TypeId}{m k:Operand}(ho:o.op=.call ⟨.builtin .delete,#[m,k],#[mt,u]⟩)(hu:P.underlying mt=some (.map kt et)){e:EK}(hk:gO P kt=some e)
 {j:Nat}(hm:V g h (.mp j) (r m)){es es':List (AV×AV)}{fl:Bool}(hj:h[j]? =some (.map es fl)){a:AV}(ha:V g h a (r k))(hkey:isKey e a=true)(hp:uu e a es=some es'):
 aG P Γ N r o w g h (h.set j (.map es' fl)) (some (.aL [])):=by
 simp only[V]at hm;obtain⟨_,bk,sz,hρ,hrm⟩:=hm;obtain⟨hfl,hob⟩:=H.ob j _ hj;obtain⟨bd,ck,hw,hks,hvs⟩:=hob bk sz 0 hρ;have hkk:sameKind (.map es fl) (.map es' fl):=trivial;have hE:=Ext.tA (g:=g) hj hkk;obtain⟨p,hp1,hp2⟩:=K9 hp;have hf:=run_findKey hk ha hks hp1 w
 have hck:=fun em=>run_checkKey hk hkey ha em w
 have hg:=vx (P:=P) hw (by simp);have hlen:=C5 hks;have hbk:=(H.own j bk _ hρ).2
 have hdone:∀(ents':Array MapEntry),(∀e∈es',e∈es)->VL g h (es'.map (·.1)) (ents'.toList.map (·.key))->VL g h (es'.map (·.2)) (ents'.toList.map (·.val))->
  (Builtin.delete_ #[mt,u] o.type #[r m,r k]).run P w=.ok (.tuple #[]) (iY w bk (.map ents' ck))->aG P Γ N r o w g h (h.set j (.map es' fl)) (some (.aL [])):=by
  intro ents' hsub h1 h2 hrun;refine⟨g,iY w bk (.map ents' ck),_,?_,Inv.wK H hj hρ hkk ⟨?_,?_⟩,hE,_,rfl,by simp only[V,VL];exact⟨[],rfl,rfl⟩⟩
  ·simp only[execOp,ho,resolve,invoke,builtin,Sem.run_bind,Sem.run_pure,Result.andThen_ok,List.map_toArray,cv,iC,hrun]
  ·intro hf';have h3:=vX.1 (hfl hf');rw[vX];intro y hy;obtain⟨q,hq,rfl⟩:=db.1 hy;exact h3 _ (db.2 ⟨q,hsub q hq,rfl⟩)
  ·intro b' sz' st' hb';rw[hρ]at hb';simp only[al,bH]at hb';obtain⟨rfl,_⟩:=hb';exact⟨ents',ck,vF _ hbk,b_ hE (cV h1) h1,b_ hE (cV h2) h2⟩
 cases p with
 |none=>
  simp only at hp2;subst hp2;have hs:=vw (P:=P) (B':=.map bd ck) hw (by simp);refine hdone bd (fun _ h=>h) hks hvs ?_;simp only[Option.bind_none]at hf;simp[Builtin.delete_,run_underlying hu,hrm,hg,hck,hf,hs]
 |some i=>
  obtain⟨hil,rfl⟩:=hp2
  have hile:i<bd.size:=by have:bd.toList.length=es.length:=hlen;simp at this;omega
  have hge:bd[i]? =some bd[i]:=iD hile;have hs:=vw (P:=P) (B':=.map (bd.eraseIdxIfInBounds i) ck) hw (by simp)
  have hel:(bd.eraseIdxIfInBounds i).toList=bd.toList.eraseIdx i:=by
   rw[Array.eraseIdxIfInBounds,dif_pos hile,Array.toList_eraseIdx]
  refine hdone (bd.eraseIdxIfInBounds i) (fun _ h=>List.mem_of_mem_eraseIdx h) ?_ ?_ ?_
  ·rw[hel,vm,vm];exact CM i hks
  ·rw[hel,vm,vm];exact CM i hvs
  ·simp only[jb,xr,hge,eb]at hf;simp[Builtin.delete_,run_underlying hu,hrm,hg,hck,hf,hs]
theorem Dz(H:Inv P Γ N g h w){x:Operand}{ty kt et:TypeId}(ho:o.op=.call ⟨.builtin .len,#[x],#[ty]⟩)(hu:P.underlying ty=some (.map kt et)){a:AV}(hx:V g h a (r x)){n:Nat}
 (ha:(a=.eu/\n=0)\/(∃ks vs,a=.de ks vs/\n=ks.length)\/∃j es fl,a=.mp j/\h[j]? =some (.map es fl)/\n=es.length):aG P Γ N r o w g h h (some (.int .i64 n)):=by
 rcases ha with⟨rfl,rfl⟩|⟨ks,vs,rfl,rfl⟩|⟨j,es,fl,rfl,hj,rfl⟩
 ·simp only[V]at hx;exact wj H ho (Or.inr (Or.inr (Or.inr ⟨_,_,hu,hx,rfl⟩)))
 ·simp only[V]at hx;obtain⟨b,bd,ck,h1,h2,h3,h4⟩:=hx;have hg:=vx (P:=P) (H.mm b bd ck h2).1 (by simp);have hl:=fe h3;refine aG.same H (u:=.int .i64 ks.length) ?_ (by simp[V]);simp at hl;simp[execOp,ho,resolve,invoke,builtin,Builtin.len_,h1,run_underlying hu,goInt,hg,hl]
 ·simp only[V]at hx;obtain⟨_,b,sz,hρ,h1⟩:=hx;obtain⟨_,h2⟩:=H.ob j _ hj;obtain⟨bd,ck,h3,h4,h5⟩:=h2 b sz 0 hρ;have hg:=vx (P:=P) h3 (by simp);have hl:=C5 h4;refine aG.same H (u:=.int .i64 es.length) ?_ (by simp[V]);simp at hl;simp[execOp,ho,resolve,invoke,builtin,Builtin.len_,h1,run_underlying hu,goInt,hg,hl]
end
theorem modify_eq_set{α:Type}{f:α->α}:∀{l:List α}{i:Nat}{a:α},l[i]? =some a->l.modify i f=l.set i (f a)
 |[],i,a,h=>by simp at h
 |b::l,0,a,h=>by simp at h;subst h;simp
 |b::l,i+1,a,h=>by simp at h;simp[modify_eq_set h]
theorem Ul{α:Type}{f:α->α}{l:List α}{i:Nat}(h:l[i]? =none):l.modify i f=l:=by
 apply lh;intro n;rw[xt]
 by_cases hn:i=n
 ·subst hn;simp[h]
 ·simp[hn]
def pB(g':G)(h:List Ob)(w:World)(g:G)(i:Nat):Prop:=
 ∀k E es gr fl sh,h[i]? =some (.row k E es gr fl sh)->∀b sz st,g.ρ i=some (b,sz,st)->∀o v,(gr.getD 0-st)*k<=o->o<(es.length-st)*k->w.cell? ⟨b,o,none⟩=some v->g'.M b o=some v
section
variable{P:Program}{Γ:Nat->Option AV}{N:Env}{g:G}{h:List Ob}{w:World}{r:Operand->Value}{o:Oper}{t:List AV}
theorem Ext.more{g':G}{i k:Nat}{E:TypeId}{es:List AV}{gr:Option Nat}{fl sh:Bool}(hi:h[i]? =some (.row k E es gr fl sh))(hρ:g'.ρ=g.ρ)(hMM:g'.MM=g.MM)(hM:∀b o v,g.M b o=some v->g'.M b o=some v):
 Ext h.length g h g' (h.set i (.row k E es gr fl true)):=by
 have h1:=Ext.oJ (g:=g) (E':=E) (es':=es) (gr':=gr) (fl':=fl) (sh':=true) (ρ':=g.ρ i) hi (aU _) (fun off m _ h1=>⟨h1,rfl,fun _ h=>h⟩);rw[cK]at h1;refine h1.trans ?_
 exact⟨hM,fun b x hx=>by rw[hMM];exact hx,fun j vs _ hj=>⟨⟨_,hj⟩,fun x hx=>by rw[hρ];exact hx⟩,fun j es fl _ hj=>⟨⟨_,_,hj⟩,fun x hx=>by rw[hρ];exact hx⟩,
  fun j es fl _ hj=>⟨⟨_,_,hj⟩,fun x hx=>by rw[hρ];exact hx⟩,fun j st q fn t ps a b _ hj=>⟨⟨_,_,hj⟩,fun x hx=>by rw[hρ];exact hx⟩,fun j l _ hj=>⟨⟨_,hj⟩,fun x hx=>by rw[hρ];exact hx⟩,
  fun j k E es gr fl sh _ hj=>⟨_,_,_,_,_,hj,aU _,fun _ _ _ hk=>⟨hk,rfl,fun x hx=>by rw[hρ];exact hx⟩⟩⟩
theorem Wl(H:Inv P Γ N g h w)(i:Nat):∃g',g'.ρ=g.ρ/\g'.MM=g.MM/\(∀b o v,g.M b o=some v->g'.M b o=some v)/\Inv P Γ N g' (h.modify i gy) w/\Ext h.length g h g' (h.modify i gy)/\pB g' h w g i/\
 ∀(j:Nat)(k:Nat)(E:TypeId)(es:List AV)(gr:Option Nat)(fl sh:Bool),h[j]? =some (Ob.row k E es gr fl sh)->∃sh',(h.modify i gy)[j]? =some (Ob.row k E es gr fl sh'):=by
 by_cases hrow:∃k E es gr fl sh,h[i]? =some (.row k E es gr fl sh)
 ·obtain⟨k,E,es,gr,fl,sh,hi⟩:=hrow;have hmod:h.modify i gy=h.set i (.row k E es gr fl true):=modify_eq_set hi;rw[hmod];have hil:=bj hi
  have hrows:∀(j:Nat)(k':Nat)(E':TypeId)(es':List AV)(gr':Option Nat)(fl' sh':Bool),h[j]? =some (Ob.row k' E' es' gr' fl' sh')->∃sh'',(h.set i (Ob.row k E es gr fl true))[j]? =some (Ob.row k' E' es' gr' fl' sh''):=by
   intro j k' E' es' gr' fl' sh' hj
   by_cases hji:j=i
   ·subst hji;rw[hi]at hj;simp only[al,Ob.row.injEq]at hj;obtain⟨rfl,rfl,rfl,rfl,rfl,rfl⟩:=hj;exact⟨true,gn hil⟩
   ·exact⟨sh',by rw[dK (by omega)];exact hj⟩
  cases hρ:g.ρ i with
  |none=>
   have hE:Ext h.length g h g (h.set i (.row k E es gr fl true)):=Ext.more hi rfl rfl (fun _ _ _ h=>h);refine⟨g,rfl,rfl,fun _ _ _ h=>h,?_,hE,?_,hrows⟩
   ·have:=Inv.set (r:=none) (w':=w) H (o':=.row k E es gr fl true) hil (by rw[<-hρ,cK];exact hE) rfl rfl rfl (fun _ _ _=>rfl) (aU _) (by simp)
     (fun b y o v hy _=>by rw[hρ]at hy;cases hy) (by simp) (by
      rw[<-hρ,cK];have:=mF (w':=w) hE rfl (fun _ _ _=>rfl) (H.ob i _ hi)
      simpa only [OV]using this)
    rw[<-hρ,cK]at this;exact this
   ·intro k' E' es' gr' fl' sh' _ b sz st hb
    rw[hρ]at hb;cases hb
  |some y=>
   obtain⟨b,sz,st⟩:=y;have hob:=H.ob i _ hi;simp only[OV]at hob;rw[hρ]at hob;simp only at hob;obtain⟨hk0,hK,hfl,hgl,hst,c,Eb,fz,vs,hw,hsz,hfree,hVE,hcells⟩:=hob
   let g':G:={g with M:=fun b' o=>if b'=b/\(gr.getD 0-st)*k<=o/\o<(es.length-st)*k then c[o]? else g.M b' o}
   have hMc:∀o v,g.M b o=some v->c[o]? =some v:=fun o v hv=>by
    have:=H.mem b o v hv;rwa[cell_of_row w b o c Eb fz hw]at this
   have hM:∀b' o v,g.M b' o=some v->g'.M b' o=some v:=by
    intro b' o v hv;simp only[g']
    split
    ·rename_i hc;rw[hc.1]at hv;exact hMc o v hv
    ·exact hv
   have hE:Ext h.length g h g' (h.set i (.row k E es gr fl true)):=Ext.more hi rfl rfl hM;refine⟨g',rfl,rfl,hM,?_,hE,?_,hrows⟩
   ·refine⟨H.os,H.tape,H.output,H.eG,H.own,H.inj,fun j hj=>H.n7 j (by rwa[kp]at hj),?_,H.mm,?_,?_,?_,?_,H.iz,H.km⟩
    ·intro b' o v hv;simp only[g']at hv
     split at hv
     ·rename_i hc;rw[hc.1,cell_of_row w b o c Eb fz hw];exact hv
     ·exact H.mem b' o v hv
    ·intro j b' sz' st' o v hj hv;have hj':g.ρ j=some (b',sz',st'):=hj
     have hold:g.M b' o=some v->∃k' E' es' gr' fl',(h.set i (.row k E es gr fl true))[j]? =some (.row k' E' es' gr' fl' true)/\o<(es'.length-st')*k':=by
      intro hv';obtain⟨k',E',es',gr',fl',h1,h2⟩:=H.dX j b' sz' st' o v hj' hv'
      by_cases hji:j=i
      ·subst hji;rw[hi]at h1;simp only[al,Ob.row.injEq]at h1;obtain⟨rfl,rfl,rfl,rfl,rfl,rfl⟩:=h1;exact⟨_,_,_,_,_,gn hil,h2⟩
      ·exact⟨k',E',es',gr',fl',by rw[dK (by omega)];exact h1,h2⟩
     simp only[g']at hv
     split at hv
     ·rename_i hc;have hji:j=i:=H.inj j i b _ _ (by rw[<-hc.1];exact hj') hρ;subst hji;rw[hρ]at hj';simp only[al,bH]at hj';obtain⟨_,_,rfl⟩:=hj';exact⟨_,_,_,_,_,gn hil,hc.2.2⟩
     ·exact hold hv
    ·intro j q hj
     by_cases hji:j=i
     ·subst hji;rw[gn hil]at hj
      cases hj
      have:=mF (w':=w) hE rfl (fun _ _ _=>rfl) (H.ob j _ hi);simpa only [OV]using this
     ·rw[dK (by omega)]at hj;exact mF hE rfl (fun _ _ _=>rfl) (H.ob j q hj)
    ·intro n a hn;obtain⟨h1,vs,h2,h3⟩:=H.j5 n a hn;exact⟨h1,vs,b_ hE (cV h2) h2,fun j hj=>hM _ _ _ (h3 j hj)⟩
    ·intro b' o v B hv hB;simp only[g']at hv
     split at hv
     ·rename_i hc;have:=(H.own i b _ hρ).1;rw[hc.1,this]at hB
      cases hB
     ·exact H.mK b' o v B hv hB
   ·intro k' E' es' gr' fl' sh' hi' b' sz' st' hb' o v h1 h2 h3;rw[hi]at hi';simp only[al,Ob.row.injEq]at hi';obtain⟨rfl,rfl,rfl,rfl,rfl,rfl⟩:=hi';rw[hρ]at hb';simp only[al,bH]at hb';obtain⟨rfl,rfl,rfl⟩:=hb';simp only[g'];rw[if_pos ⟨trivial,h1,h2⟩,<-cell_of_row w b o c Eb fz hw];exact h3
 ·have hmod:h.modify i gy=h:=by
   cases hi:h[i]? with
   |none=>exact Ul hi
   |some q=>
    rw[modify_eq_set hi]
    have:gy q=q:=by
     cases q<;>first|rfl|exact absurd ⟨_,_,_,_,_,_,hi⟩ hrow
    rw[this];apply lh;intro n;rw[mn]
    by_cases hn:i=n
    ·subst hn;rw[if_pos rfl,if_pos (bj hi),hi]
    ·simp[hn]
  rw[hmod];refine⟨g,rfl,rfl,fun _ _ _ h=>h,H,Ext.refl _ _ _,?_,fun j k E es gr fl sh hj=>⟨sh,hj⟩⟩;intro k E es gr fl sh hi;exact absurd ⟨_,_,_,_,_,_,hi⟩ hrow
theorem jL:∀(is:List Nat)(h:List Ob),(share is h).length=h.length
 |[],_=>rfl
 |i::is,h=>by simp[share,jL is]
theorem nr:∀(is:List Nat){g:G}{h:List Ob},Inv P Γ N g h w->∃g',g'.ρ=g.ρ/\g'.MM=g.MM/\(∀b o v,g.M b o=some v->g'.M b o=some v)/\Inv P Γ N g' (share is h) w/\Ext h.length g h g' (share is h)/\
 ∀i∈is,pB g' h w g i
 |[],g,h,H=>⟨g,rfl,rfl,fun _ _ _ h=>h,H,Ext.refl _ _ _,by simp⟩
 |i::is,g,h,H=>by
  obtain⟨g1,hρ1,hMM1,hM1,H1,hE1,hC1,hr1⟩:=Wl H i;obtain⟨g2,hρ2,hMM2,hM2,H2,hE2,hC2⟩:=nr is H1
  have hl:(h.modify i gy).length=h.length:=by simp
  rw[hl]at hE2;refine⟨g2,hρ2.trans hρ1,hMM2.trans hMM1,fun b o v hv=>hM2 b o v (hM1 b o v hv),H2,hE1.trans hE2,?_⟩;intro j hj
  rcases bw.1 hj with rfl|hj
  ·intro k E es gr fl sh hi b sz st hb o v h1 h2 h3;exact hM2 _ _ _ (hC1 k E es gr fl sh hi b sz st hb o v h1 h2 h3)
  ·intro k E es gr fl sh hi b sz st hb o v h1 h2 h3;obtain⟨sh',hi'⟩:=hr1 j k E es gr fl sh hi;exact hC2 j hj k E es gr fl sh' hi' b sz st (by rw[hρ1];exact hb) o v h1 h2 h3
theorem VN(H:Inv P Γ N g h w){g':G}{h':List Ob}(x:Ext h.length g h g' h'){i off n:Nat}{u:Value}(hc:pB g' h w g i)(hv:V g h (.sl i off n) u){p:Nat×List AV}(ht:tY h (.sl i off n)=some p):
 V g' h' (.list false p.1 p.2) u:=by
 simp only[tY]at ht
 split at ht
 ·rename_i k E es gr sh hi
  split at ht
  ·rename_i hok;simp only[al]at ht;subst ht;have hrow:=KN H hv hi hok;obtain⟨hK,a,cap,vs,rfl,hVE,hmem⟩:=hrow;have hob:=H.ob i _ hi;simp only[OV]at hob;obtain⟨hk0,_,hfl,hgl,hb⟩:=hob
   have hle:off+n<=es.length:=by
    cases gr with
    |none=>simpa[cr]using hok
    |some lo=>simp only[cr,aC,a8,ml]at hok;omega
   have hln:((es.drop off).take n).length=n:=by simp;omega
   have hokl:cj ((es.drop off).take n) k=true:=ov (hfl trivial) (fun e he=>iA (jH he));simp only[V]at hv⊢;obtain⟨k2,E2,es2,gr2,fl2,sh2,hi2,_,a2,cap2,he2,hcap,_,hq⟩:=hv;rw[hi]at hi2;simp only[al,Ob.row.injEq]at hi2;obtain⟨rfl,rfl,rfl,rfl,rfl,rfl⟩:=hi2;simp only[Value.slice.injEq,uT]at he2;obtain⟨rfl,rfl⟩:=he2;refine⟨hokl,a,cap,by rw[hln],by simp,by rw[hln];exact hcap,?_⟩
   by_cases h0:n=0
   ·left;apply k_.1;omega
   ·right
    rcases(hq hok).2 with⟨h1,_⟩|⟨b,sz,st,hρ,hst,rfl,hcs⟩
    ·exact absurd h1 h0
    ·rcases hmem with h1|⟨b',p',he,hm⟩
     ·exact absurd h1 h0
     ·simp only[al,Addr.mk.injEq,pD]at he;obtain⟨rfl,rfl⟩:=he
      have hlo:gr.getD 0<=off:=by
       cases gr with
       |none=>simp
       |some lo=>simp only[cr,aC,a8]at hok;simpa using hok.1
      have hst2:st<=gr.getD 0:=by rw[hρ]at hb;exact hb.1
      refine⟨b,(off-st)*k,vs,rfl,fg x (jm hVE) hVE,fun j hj=>?_⟩;have hvl:=gv (jf hokl) hVE;rw[hln]at hvl;refine hc k E es gr true sh hi b sz st hρ _ _ ?_ ?_ (hm j _ (a_ hj))
      ·exact qO (kq _ (by omega)) (Nat.le_add_right _ _)
      ·have:(off-st)*k+n*k<=(es.length-st)*k:=by rw[<-fa];exact kq _ (by omega)
       omega
  ·simp at ht
 ·simp at ht
mutual
theorem rO(H:Inv P Γ N g h w){g':G}{h':List Ob}(x:Ext h.length g h g' h'):∀{a a':AV}{u:Value},(∀i∈rowsOf a,pB g' h w g i)->V g h a u->view h a=some a'->V g' h' a' u
 |.undef,a',u,_,hv,ha|.bool _,a',u,_,hv,ha|.int _ _,a',u,_,hv,ha|.str _,a',u,_,hv,ha|.iq,a',u,_,hv,ha|.eu,a',u,_,hv,ha|.ei,a',u,_,hv,ha
 |.dZ,a',u,_,hv,ha|.dF _ _,a',u,_,hv,ha=>by
  simp only[view,al]at ha;subst ha;exact fo x (jU hv) hv
 |.de ks us,a',u,_,hv,ha=>by
  simp only[view]at ha
  split at ha
  ·simp only[al]at ha;subst ha;exact fo x (jU hv) hv
  ·simp at ha
 |.list f k es,a',u,_,hv,ha=>by
  simp only[view,al]at ha;subst ha;have h1:=fo x (jU hv) hv;simp only[V]at h1⊢;obtain⟨h2,a,cap,h3,_,h4,h5⟩:=h1;exact⟨h2,a,cap,h3,by simp,h4,h5⟩
 |.sl i off n,a',u,hc,hv,ha=>by
  simp only[view,bN]at ha;obtain⟨p,hp,rfl⟩:=ha;exact VN H x (hc i (by simp[rowsOf])) hv hp
 |.own _ _ _,_,_,_,hv,_=>by simp only[V]at hv
 |.ptr _ _,_,_,_,_,ha|.mp _,_,_,_,_,ha|.it _,_,_,_,_,ha|.dA _,_,_,_,_,ha|.cL _ _ _ _,_,_,_,_,ha=>by simp[view]at ha
 |.agg cs,a',u,hc,hv,ha=>by
  simp only[view,bN]at ha;obtain⟨cs',h1,rfl⟩:=ha;simp only[V]at hv⊢;obtain⟨vs,rfl,h2⟩:=hv;exact⟨vs,rfl,rG H x (by simpa only [rowsOf]using hc) h2 h1⟩
 |.aL cs,a',u,hc,hv,ha=>by
  simp only[view,bN]at ha;obtain⟨cs',h1,rfl⟩:=ha;simp only[V]at hv⊢;obtain⟨vs,rfl,h2⟩:=hv;exact⟨vs,rfl,rG H x (by simpa only [rowsOf]using hc) h2 h1⟩
 |.fn f a b,a',u,hc,hv,ha=>by
  simp only[view]at ha
  split at ha
  ·rename_i a2 b2 h1 h2;simp only[al]at ha;subst ha;simp only[V]at hv⊢;obtain⟨xs,ys,rfl,h3,h4⟩:=hv;simp only[rowsOf,ba]at hc;exact⟨xs,ys,rfl,rG H x (fun i hi=>hc i (Or.inl hi)) h3 h1,rG H x (fun i hi=>hc i (Or.inr hi)) h4 h2⟩
  ·simp at ha
 |.bX t a,a',u,hc,hv,ha=>by
  simp only[view,bN]at ha;obtain⟨b,h1,rfl⟩:=ha;simp only[V]at hv⊢;obtain⟨y,rfl,h2⟩:=hv;exact⟨y,rfl,rO H x (by simpa only [rowsOf]using hc) h2 h1⟩
theorem rG(H:Inv P Γ N g h w){g':G}{h':List Ob}(x:Ext h.length g h g' h'):∀{as as':List AV}{us:List Value},(∀i∈bF as,pB g' h w g i)->VL g h as us->bK h as=some as'->VL g' h' as' us
 |[],as',us,_,hv,ha=>by
  simp only[bK,al]at ha;subst ha;simpa only [VL]using hv
 |a::as,as',us,hc,hv,ha=>by
  simp only[bK]at ha
  split at ha
  ·rename_i a2 as2 h1 h2;simp only[al]at ha;subst ha;simp only[VL]at hv⊢;obtain⟨u,us',rfl,h3,h4⟩:=hv;simp only[bF,ba]at hc;exact⟨u,us',rfl,rO H x (fun i hi=>hc i (Or.inl hi)) h3 h1,rG H x (fun i hi=>hc i (Or.inr hi)) h4 h2⟩
  ·simp at ha
end
mutual
theorem zX(H:Inv P Γ N g h w):∀{a a':AV}{u:Value},V g h a u->view h a=some a'->aJ 0 a'=true
 |.undef,_,_,_,ha|.bool _,_,_,_,ha|.int _ _,_,_,_,ha|.str _,_,_,_,ha|.iq,_,_,_,ha|.eu,_,_,_,ha|.ei,_,_,_,ha
 |.dZ,_,_,_,ha|.dF _ _,_,_,_,ha=>by
  simp only[view,al]at ha;subst ha;rfl
 |.de ks us,_,_,_,ha=>by
  simp only[view]at ha
  split at ha
  ·rename_i hb;simp only[al]at ha;subst ha;simpa only [aJ]using hb
  ·simp at ha
 |.list f k es,_,_,hv,ha=>by
  simp only[view,al]at ha;subst ha;simp only[V]at hv;simp only[aJ];exact h_ hv.1
 |.sl i off n,_,_,hv,ha=>by
  simp only[view,bN]at ha;obtain⟨p,hp,rfl⟩:=ha;simp only[tY]at hp
  split at hp
  ·rename_i k E es gr sh hi
   split at hp
   ·simp only[al]at hp;subst hp;have hob:=H.ob i _ hi;simp only[OV]at hob;obtain⟨_,_,hfl,_⟩:=hob;simp only[aJ];exact h_ (ov (hfl trivial) (fun e he=>iA (jH he)))
   ·simp at hp
  ·simp at hp
 |.own _ _ _,_,_,hv,_=>by simp only[V]at hv
 |.ptr _ _,_,_,_,ha|.mp _,_,_,_,ha|.it _,_,_,_,ha|.dA _,_,_,_,ha|.cL _ _ _ _,_,_,_,ha=>by simp[view]at ha
 |.agg cs,_,_,hv,ha=>by
  simp only[view,bN]at ha;obtain⟨cs',h1,rfl⟩:=ha;simp only[V]at hv;obtain⟨vs,rfl,h2⟩:=hv
  simp only[aJ];exact rr H h2 h1
 |.aL cs,_,_,hv,ha=>by
  simp only[view,bN]at ha;obtain⟨cs',h1,rfl⟩:=ha;simp only[V]at hv;obtain⟨vs,rfl,h2⟩:=hv
  simp only[aJ];exact rr H h2 h1
 |.fn f a b,_,_,hv,ha=>by
  simp only[view]at ha
  split at ha
  ·rename_i a2 b2 h1 h2;simp only[al]at ha;subst ha;simp only[V]at hv;obtain⟨xs,ys,rfl,h3,h4⟩:=hv
   simp only[aJ,aC];exact⟨rr H h3 h1,rr H h4 h2⟩
  ·simp at ha
 |.bX t a,_,_,hv,ha=>by
  simp only[view,bN]at ha;obtain⟨b,h1,rfl⟩:=ha;simp only[V]at hv;obtain⟨y,rfl,h2⟩:=hv
  simp only[aJ];exact zX H h2 h1
theorem rr(H:Inv P Γ N g h w):∀{as as':List AV}{us:List Value},VL g h as us->bK h as=some as'->aO 0 as'=true
 |[],_,_,_,ha=>by
  simp only[bK,al]at ha;subst ha;rfl
 |a::as,_,_,hv,ha=>by
  simp only[bK]at ha
  split at ha
  ·rename_i a2 as2 h1 h2;simp only[al]at ha;subst ha;simp only[VL]at hv;obtain⟨u,us',rfl,h3,h4⟩:=hv
   simp only[aO,aC];exact⟨zX H h3 h1,rr H h4 h2⟩
  ·simp at ha
end
theorem El{α β:Type}{R S:α->β->Prop}:∀{l:List α}{m:List β},F2 R l m->(∀a b,R a b->S a b)->F2 S l m
 |_,_,.nil,_=>.nil
 |_,_,.cons h1 h2,hs=>.cons (hs _ _ h1) (El h2 hs)
theorem I0:∀{ps ps':List (Nat×AV)}{parts:List (Nat×Value)}{g:G}{h h':List Ob},Inv P Γ N g h w->F2 (fun(p:Nat×AV) (q:Nat×Value)=>p.1=q.1/\V g h p.2 q.2) ps parts->nC h ps=some (ps',h')->
 ∃g',Inv P Γ N g' h' w/\h'.length=h.length/\Ext h.length g h g' h'/\F2 (fun(p:Nat×AV) (q:Nat×Value)=>p.1=q.1/\V g' h' p.2 q.2) ps' parts
 |[],ps',parts,g,h,h',H,hf,hp=>by
  cases hf
  simp only[nC,al,bH]at hp;obtain⟨rfl,rfl⟩:=hp;exact⟨g,H,rfl,Ext.refl _ _ _,.nil⟩
 |(i,v)::ps,ps',parts,g,h,h',H,hf,hp=>by
  cases hf with
  |cons hq hf=>
   rename_i q parts;simp only[nC]at hp
   split at hp
   ·rename_i v' hv'
    split at hp
    ·rename_i ps2 h2 hp2;simp only[al,bH]at hp;obtain⟨rfl,rfl⟩:=hp;obtain⟨g1,_,_,_,H1,hE1,hC1⟩:=nr (rowsOf v) H;have hv1:=rO H hE1 hC1 hq.2 hv';obtain⟨g2,H2,hl2,hE2,hF2⟩:=I0 H1 (El hf fun a b hab=>⟨hab.1,fo hE1 (jU hab.2) hab.2⟩) hp2;rw[jL]at hl2 hE2;refine⟨g2,H2,hl2,hE1.trans hE2,.cons ⟨hq.1,?_⟩ hF2⟩;have:=jU hv1;rw[jL]at this;exact fo hE2 this hv1
    ·simp at hp
   ·simp at hp
theorem CD{k:Nat}:∀{ps:List (Nat×AV)}{parts:List (Nat×Value)}{es es':List AV}{zs:Array Value},F2 (fun(p:Nat×AV) (q:Nat×Value)=>p.1=q.1/\V g h p.2 q.2) ps parts->o_ k es ps=some es'->
 dz k es->VE g h es zs.toList->∃us,Instr.fill (fun i=>some (i*k,k)) zs parts=some us/\VE g h es' us.toList/\dz k es'/\es'.length=es.length
 |[],parts,es,es',zs,hf,hp,hk,hv=>by
  cases hf
  simp only[o_,al]at hp;subst hp;exact⟨zs,rfl,hv,hk,rfl⟩
 |(i,v)::ps,parts,es,es',zs,hf,hp,hk,hv=>by
  cases hf with
  |cons hq hf=>
   rename_i q parts;obtain⟨j,u⟩:=q;obtain⟨hij,hu⟩:=hq;simp only at hij hu;subst hij;simp only[o_]at hp
   split at hp
   ·rename_i hc;obtain⟨hil,hvk,hvo⟩:=hc;have hcells:=oG (pT hvo) hu;have hul:=fe hcells
    have hu1:u.cells.toList.length=k:=by rw[hul,hvk]
    have hzl:=gv hk hv
    have hzs:zs.size=es.length*k:=by simpa using hzl
    have hik:i*k+k<=es.length*k:=by
     have:i*k+k=(i+1)*k:=by rw[fa,Nat.one_mul]
     rw[this];exact kq _ (by omega)
    have hset:=E8 hk hv hil hu hu1;have hfold:=Dx (i*k) u.cells.toList 0 zs (by rw[hzs];omega)
    have hzip:u.cells.zipIdx.foldl (fun cs (x:Value×Nat)=>cs.setIfInBounds (i*k+x.2) x.1) zs=(u.cells.toList.zipIdx 0).foldl (fun cs (x:Value×Nat)=>cs.setIfInBounds (i*k+x.2) x.1) zs:=by
     rw[<-B8,Array.toList_zipIdx]
    obtain⟨us,h1,h2,h3,h4⟩:=CD (zs:=u.cells.zipIdx.foldl (fun cs (x:Value×Nat)=>cs.setIfInBounds (i*k+x.2) x.1) zs) hf hp (by
     intro e he
     rcases xp he with he|rfl
     ·exact hk e he
     ·exact⟨hvk,hvo⟩) (by
     rw[hzip,hfold,jd]
     exact hset)
    refine⟨us,?_,h2,h3,by rw[h4,kp]⟩;simp only[Instr.fill]
    have hus:u.cells.size=k:=by simpa using hu1
    rw[if_neg (by simp only[fR,a8,ne_eq,not_or,B9];omega)];exact h1
   ·simp at hp
theorem Inv.imm(H:Inv P Γ N g h w)(c:Array Value)(E:TypeId):∃g',g'.ρ=g.ρ/\g'.MM=g.MM/\(∀b o v,g.M b o=some v->g'.M b o=some v)/\Inv P Γ N g' h (w.alloc (.cells c E))/\Ext h.length g h g' h/\
 ∀j v,c[j]? =some v->g'.M w.heap.size j=some v:=by
 let g':G:={g with M:=fun b o=>if b=w.heap.size then c[o]? else g.M b o}
 have hM:∀b o v,g.M b o=some v->g'.M b o=some v:=by
  intro b o v hv;have:b<w.heap.size:=uQ (H.mem b o v hv);simp only[g'];rw[if_neg (by omega)];exact hv
 have hE:Ext h.length g h g' h:=⟨hM,fun b x hx=>hx,fun j vs _ hj=>⟨⟨_,hj⟩,fun x hx=>hx⟩,fun j es fl _ hj=>⟨⟨_,_,hj⟩,fun x hx=>hx⟩,
  fun j es fl _ hj=>⟨⟨_,_,hj⟩,fun x hx=>hx⟩,fun j st q fn t ps a b _ hj=>⟨⟨_,_,hj⟩,fun x hx=>hx⟩,fun j l _ hj=>⟨⟨_,hj⟩,fun x hx=>hx⟩,
  fun j k E es gr fl sh _ hj=>⟨_,_,_,_,_,hj,aU _,fun _ _ _ hk=>⟨hk,rfl,fun x hx=>hx⟩⟩⟩
 have hw:∀b,b<w.heap.size->(w.alloc (.cells c E)).heap[b]? =w.heap[b]? :=vP _ _
 have hltk:∀{b B},w.heap[b]? =some B->b<w.heap.size:=fun{b B} hb=>(Array.getElem?_eq_some_iff.1 hb).1
 refine⟨g',rfl,rfl,hM,?_,hE,?_⟩
 ·refine⟨H.os,H.tape,H.output,fun b o hb=>by rw[hw b (hltk (H.eG b o hb))];exact H.eG b o hb,fun i b x hi=>⟨(H.own i b x hi).1,by have:=(H.own i b x hi).2;simp;omega⟩,H.inj,H.n7,?_,?_,?_,?_,?_,?_,H.iz,H.km⟩
  ·intro b o v hv;simp only[g']at hv
   split at hv
   ·rename_i hb;subst hb;have:=cell_of_row (w.alloc (.cells c E)) w.heap.size o c E (0,0) (kx _ _)
    rw[this];exact hv
   ·have h0:=H.mem b o v hv;rw[sX (hw b (uQ h0))];exact h0
  ·intro b es ck hb;obtain⟨h1,h2⟩:=H.mm b es ck hb;exact⟨by rw[hw b (hltk h1)];exact h1,h2⟩
  ·intro i b sz st o v hi hv;simp only[g']at hv
   split at hv
   ·rename_i hb;have:=(H.own i b _ hi).2;omega
   ·exact H.dX i b sz st o v hi hv
  ·intro i q hi;exact mF hE rfl (fun b y hb=>hw b (H.own i b y hb).2) (H.ob i q hi)
  ·intro n a hn;obtain⟨h1,vs,h2,h3⟩:=H.j5 n a hn;exact⟨h1,vs,b_ hE (cV h2) h2,fun j hj=>hM _ _ _ (h3 j hj)⟩
  ·intro b o v B hv hB;simp only[g']at hv
   split at hv
   ·rename_i hb;have:=hltk (H.eG b B hB);omega
   ·exact H.mK b o v B hv hB
 ·intro j v hv;simp only[g',bY];exact hv
theorem aaN(H:Inv P Γ N g h w){ty e:TypeId}{n:Nat}{ps:Array (Nat×Operand)}(ho:o.op=.buildSlice ty n ps)(hu:P.underlying ty=some (.slice e)){k:Nat}(hk:bm P e=some k)(hk0:0<k)
 {z:AV}(hz:dy P e=some z)(hzo:jF k z=true)(hnk:n*k<=2^24)(he:∀x,V g h (ax t (ay x)) (r x)){ps':List (Nat×AV)}{h':List Ob}
 (hp:nC h ((ps.toList.map fun q=>(q.1,ay q.2)).map fun q=>(q.1,ax t q.2))=some (ps',h')){es:List AV}(hf:o_ k (List.replicate n z) ps'=some es)(hok:cj es k=true):
 aG P Γ N r o w g h h' (some (.list true k es)):=by
 obtain⟨zv,hzr,rfl⟩:=tp hz;simp only[jF,aC,a8]at hzo;obtain⟨⟨hzk,hz1⟩,hzb⟩:=hzo;have hzk':=tc hzk
 have hF:F2 (fun(p:Nat×AV) (q:Nat×Value)=>p.1=q.1/\V g h p.2 q.2) ((ps.toList.map fun q=>(q.1,ay q.2)).map fun q=>(q.1,ax t q.2)) (ps.map fun q=>(q.1,r q.2)).toList:=by
  rw[Array.toList_map,lf];generalize ps.toList=l
  induction l with
  |nil=>exact .nil
  |cons q l ih=>exact .cons ⟨rfl,he q.2⟩ ih
 obtain⟨g1,H1,hl1,hE1,hF1⟩:=I0 H hF hp;have hVE0:=sP (mG g1 h' zv) n;have hzl:=td hzk' n
 let zs:Array Value:=(Array.range (n*k)).map fun i=>(if n*k=0 then#[]else zv.cells)[i%(if n*k=0 then#[]else zv.cells).size]!
 have hzs:zs.toList=(List.replicate n zv.cells.toList).flatten:=by
  simp only[zs]
  by_cases hnk0:n*k=0
  ·have:n=0:=by
    rcases HK.1 hnk0 with h1|h1
    ·exact h1
    ·omega
   simp[this]
  ·simp only[hnk0,cE,hzk'];exact hzl
 obtain⟨us,h1,h2,h3,h4⟩:=CD (zs:=zs) hF1 hf (jf (sH hzk hz1 hzb n)) (by rw[hzs];exact hVE0);obtain⟨g2,hρ2,hMM2,hM2,H2,hE2,hN2⟩:=Inv.imm H1 us e;rw[hl1]at hE2
 have hlen:es.length=n:=by rw[h4,ku]
 refine⟨g2,_,_,?_,H2,hE1.trans hE2,.slice (some ⟨w.heap.size,0,none⟩) n n,rfl,?_⟩
 ·have hrun:(Instr.buildSlice ty n (ps.map fun q=>(q.1,r q.2))).run P w=.ok (.slice (some ⟨w.heap.size,0,none⟩) n n) (w.alloc (.cells us e)):=by
   simp only[Instr.buildSlice,Sem.run_bind,run_underlying hu,Result.andThen_ok,gN hk];rw[if_neg (by omega)]
   by_cases hnk0:n*k=0
   ·have hzs0:zs=(Array.range (n*k)).map fun i=>(#[]:Array Value)[i%(#[]:Array Value).size]! :=by simp only[zs,hnk0,bY]
    rw[hzs0]at h1;rw[if_pos hnk0];simp only[Sem.run_bind,Sem.run_pure,Result.andThen_ok];rw[h1];simp[newRow]
   ·have hzs0:zs=(Array.range (n*k)).map fun i=>zv.cells[i%zv.cells.size]! :=by simp only[zs,hnk0,cE]
    rw[hzs0]at h1;rw[if_neg hnk0];simp only[Sem.run_bind,hzr,Sem.run_pure,Result.andThen_ok];rw[h1];simp[newRow]
  simp only[execOp,ho];rw[Sem.run_bind,hrun];rfl
 ·simp only[V];refine⟨hok,some ⟨w.heap.size,0,none⟩,n,by rw[hlen],fun _=>hlen.symm,by omega,Or.inr ⟨w.heap.size,0,us.toList,rfl,fg hE2 (by have:=jm h2;rwa[hl1]at this) h2,fun j hj=>?_⟩⟩;rw[gY];apply hN2;rw[<-xr,a_ hj]
theorem YK{f:Bool}{k:Nat}{es:List AV}{a:Option Addr}{n cap l u s:Nat}(hv:V g h (.list f k es) (.slice a n cap))(hlu:l<=u)(hu:u<=es.length)(hk:k=s\/es=[]):
 V g h (.list true k ((es.take u).drop l)) (.slice (if u=l then a else a.map (·.add (l*s))) (u-l) (u-l)):=by
 simp only[V]at hv⊢;obtain⟨hok,a',cap',he,hf,hcap,h3⟩:=hv;simp only[Value.slice.injEq]at he;obtain⟨rfl,rfl,rfl⟩:=he
 have hln:((es.take u).drop l).length=u-l:=by simp;omega
 refine⟨ov hok (fun e he=>jH (iA he)),(if u=l then a else a.map (·.add (l*s))),u-l,by rw[hln],fun _=>hln.symm,by omega,?_⟩
 by_cases hul:u=l
 ·left;apply k_.1;omega
 ·right
  have hne:es≠[]:=by rintro rfl;simp at hu;omega
  rcases h3 with h3|⟨b,p,vs,rfl,h4,h5⟩
  ·exact absurd h3 hne
  ·have hks:k=s:=hk.resolve_right hne;subst hks;have hK:=jf hok;have h6:=tO (fun e he=>hK e (jH he)) (v8 hK h4 u) l;refine⟨b,p+l*k,_,?_,h6,?_⟩
   ·rw[if_neg hul];simp[jO]
   ·intro j hj;rw[List.getElem_drop,xk,mj];exact h5 _ _
theorem WN(H:Inv P Γ N g h w){ty e:TypeId}{x hi mx:Operand}{lo:Option Operand}(ho:o.op=.slice ty x lo (some hi) (some mx))(hu:P.underlying ty=some (.slice e)){s:Nat}(hs:bm P e=some s)
 {a:AV}(hx:V g h a (r x)){f:Bool}{k:Nat}{es:List AV}(hv:view h a=some (.list f k es))(he:∀x,V g h (ax t (ay x)) (r x)){l u:Nat}(hl:bound t 0 (lo.map ay)=some l)
 (hh:bound t 0 (some (ay hi))=some u)(hm:bound t 0 (some (ay mx))=some u)(hlu:l<=u/\u<=es.length/\(k=s\/es=[])):
 aG P Γ N r o w g h (share (rowsOf a) h) (some (.list true k ((es.take u).drop l))):=by
 obtain⟨g1,_,_,_,H1,hE1,hC1⟩:=nr (rowsOf a) H;have hv1:=rO H hE1 hC1 hx hv;have hv0:=hv1;simp only[V]at hv0;obtain⟨_,ad,cap,hrx,_,hcap,_⟩:=hv0;rw[hrx]at hv1;refine⟨g1,w,_,?_,H1,hE1,_,rfl,YK hv1 hlu.1 hlu.2.1 hlu.2.2⟩;have b1:=ow (r:=r) (x:=lo) hl he;have b2:=ow (r:=r) (x:=some hi) hh he;have b3:=ow (r:=r) (x:=some mx) hm he;simp only[eb]at b2 b3;obtain⟨k2,h2⟩:=b2;obtain⟨k3,h3⟩:=b3
 have hb:(Instr.sliceBounds true es.length cap (lo.map r) (some (.int k2 u)) (some (.int k3 u))).run P w=.ok (l,u,u) w:=by
  cases lo with
  |none=>
   simp only[Option.map_none]at b1⊢;subst b1;simp only[Instr.sliceBounds,Sem.run_bind];rw[run_sliceBound w k3 u cap _ (by omega) (by omega)];simp only[Result.andThen_ok,cZ];rw[run_sliceBound w k2 u u _ (by omega) (by omega)];simp
  |some lo=>
   simp only[eb]at b1⊢;obtain⟨k1,h1⟩:=b1;rw[h1];simp only[Instr.sliceBounds,Sem.run_bind];rw[run_sliceBound w k3 u cap _ (by omega) (by omega)];simp only[Result.andThen_ok,cZ];rw[run_sliceBound w k2 u u _ (by omega) (by omega)];simp only[Result.andThen_ok,cZ];rw[run_sliceBound w k1 l u _ (by omega) (by omega)];simp
 simp[execOp,ho,hrx,h2,h3,Instr.sliceAt,Instr.slice,run_underlying hu,gN hs,hb]
theorem TA{α:Type}{l:List α}{i:Nat}{a:α}(hi:l[i]? =some a):l.set i a=l:=by
 apply lh;intro n;rw[mn]
 by_cases hn:i=n
 ·subst hn;rw[if_pos rfl,if_pos (bj hi),hi]
 ·simp[hn]
theorem aaa(H:Inv P Γ N g h w){s d e:TypeId}{x:Operand}(ho:o.op=.convert s d x)(hsd:s=d)(hs:P.underlying s=some (.slice e))(he:P.underlying e=some (.int .u8))
 {i n k:Nat}{E:TypeId}{es:List AV}{fl sh:Bool}(hi:h[i]? =some (.row k E es none fl sh))(hne:n=es.length)(hx:V g h (.sl i 0 n) (r x))(hn:n≠0):aG P Γ N r o w g h h (some (.sl i 0 n)):=by
 subst hsd;have hx0:=hx;simp only[V]at hx;obtain⟨k',E',es',gr,fl',sh',hi',hle,ad,cap,hrx,hcap,hbn,hq⟩:=hx;rw[hi]at hi';simp only[al,Ob.row.injEq]at hi';obtain⟨rfl,rfl,rfl,rfl,rfl,rfl⟩:=hi'
 rcases(hq (by simp[cr,hne])).2 with⟨h0,_⟩|⟨b,sz,st,hρ,hst,rfl,hcs⟩
 ·exact absurd h0 hn
 have hil:=bj hi;have hob:=H.ob i _ hi;simp only[OV]at hob;rw[hρ]at hob;simp only at hob;obtain⟨hk0,hK,hfl,hgl,hst',c,Eb,fz,vs,hw,hsz,hfree,hVE,hcells⟩:=hob;have hlt:b<w.heap.size:=(H.own i b _ hρ).2
 have hblk:(w.freeze ⟨b,c.size,none⟩ 1).heap[b]? =some (.cells c Eb (if fz.1==fz.2 then(c.size,c.size+1)else(min fz.1 c.size,max fz.2 (c.size+1)))):=by
  simp only[World.freeze,Nat.one_ne_zero,cE,Array.getElem?_modify,bY,hw,eb]
 have hoth:∀b',b'≠b->(w.freeze ⟨b,c.size,none⟩ 1).heap[b']? =w.heap[b']? :=by
  intro b' hb';simp only[World.freeze,Nat.one_ne_zero,cE,Array.getElem?_modify];rw[if_neg (by omega)]
 have hfree':lQ c (if fz.1==fz.2 then(c.size,c.size+1)else(min fz.1 c.size,max fz.2 (c.size+1))):=by
  rcases hfree with hf|hf
  ·simp[hf];exact Or.inr (aU _)
  ·split
   ·exact Or.inr (aU _)
   ·exact Or.inr (by simp;omega)
 have hsame:=TA hi;refine⟨g,w.freeze ⟨b,c.size,none⟩ 1,.value (r x),?_,?_,Ext.refl _ _ _,r x,rfl,hx0⟩
 ·have hshape:w.shape? b=some (Eb,c.size):=by simp[World.shape?,hw]
  simp[execOp,ho,hrx,convert,run_underlying hs,run_underlying he,markStringish,hshape]
 ·have:=Inv.set (r:=g.ρ i) (w':=w.freeze ⟨b,c.size,none⟩ 1) H (o':=.row k E es none fl sh) hil (by rw[cK,hsame];exact Ext.refl _ _ _) rfl rfl rfl
   (fun b' _ hne=>hoth b' (fun e=>hne (sz,st) (by rw[e];exact hρ))) (by simp[World.freeze]) (fun b' y hy=>⟨Or.inl ⟨y,hy⟩,by simp[World.freeze];exact(H.own i b' y hy).2⟩)
   (by
    intro b' y q v hy hv;rw[hρ]at hy;simp only[al,bH]at hy;obtain⟨rfl,_⟩:=hy;have h0:=H.mem b q v hv;rw[cell_of_row w b q c Eb fz hw]at h0
    rw[cell_of_row _ b q c Eb _ hblk,h0])
   (by
    intro b' sz' st' q v hy hv;obtain⟨k3,E3,es3,gr3,fl3,h5,h6⟩:=H.dX i b' sz' st' q v hy hv;rw[hi]at h5;simp only[al,Ob.row.injEq]at h5;obtain⟨rfl,rfl,rfl,rfl,rfl,rfl⟩:=h5
    exact⟨_,_,_,_,_,rfl,h6⟩)
   (by
    rw[cK,hsame];simp only[OV];refine⟨hk0,hK,hfl,hgl,?_⟩;rw[hρ]
    exact⟨hst',c,Eb,_,vs,hblk,hsz,hfree',hVE,hcells⟩)
  rwa[cK,hsame]at this
end
def DR(g:G)(h:List Ob):di->Deferred->Prop
 |.call f args,d=>∃cap,d.target=.fn (.func f) cap/\VL g h args (d.args++cap).toList
 |.mark i,d=>(∃l,h[i]? =some (.bB l))/\∃b sz,g.ρ i=some (b,sz,0)/\d={target:=.collected b,args:=#[]}
section
variable{P:Program}{Γ:Nat->Option AV}{N:Env}{g:G}{h:List Ob}{w:World}{a:Act}{o:Oper}{t:List AV}
theorem xX{f:FuncId}(hb:aD P f=true)(args:Array Value)(w:World):(callFunc f args).run P w=.ok (.enter f args) w:=by
 unfold aD at hb
 split at hb
 ·rename_i fn hf;simp only[aC,bne_iff_ne,ne_eq]at hb
  have h1:(fn.name== "runtime.NumGoroutine")=false:=by simpa using hb.2
  have h2:fn.body.isNone=false:=by cases hb2:fn.body<;>simp_all
  simp only[callFunc,Sem.run_bind,run_program,Result.andThen_ok,hf,h1,h2,dU,cE];rfl
 ·simp at hb
theorem y7{ty:TypeId}{f f':FuncId}{ptr:Bool}{q:Option (Bool×Nat)}(hc:AH P ty f ptr=some (f',q)):f'=f/\∃d,P.underlying ty=some d/\(∀ms,d≠.interface ms)/\
 ((∃e,d=.pointer e/\((ptr=true/\q=none)\/(ptr=false/\∃a s,fB P e=some a/\bm P e=some s/\q=some (a,s))))\/((∀e,d≠.pointer e)/\ptr=false/\q=none)):=by
 unfold AH at hc
 cases hu:P.underlying ty with
 |none=>simp[hu]at hc
 |some d=>
  rw[hu]at hc
  cases d<;>simp only[reduceCtorEq]at hc
  case pointer e=>
   cases ptr
   ·simp only[dU,cE]at hc
    split at hc
    ·rename_i a s h1 h2;simp only[al,bH]at hc;exact⟨hc.1.symm,_,rfl,by simp,Or.inl ⟨e,rfl,Or.inr ⟨rfl,a,s,h1,h2,hc.2.symm⟩⟩⟩
    ·simp at hc
   ·simp only[bY,al,bH]at hc;exact⟨hc.1.symm,_,rfl,by simp,Or.inl ⟨e,rfl,Or.inl ⟨rfl,hc.2.symm⟩⟩⟩
  all_goals
   cases ptr
   ·simp only[dU,cE,al,bH]at hc;exact⟨hc.1.symm,_,rfl,by simp,Or.inr ⟨by simp,rfl,hc.2.symm⟩⟩
   ·simp at hc
theorem C4{ty:TypeId}{name:String}{f:FuncId}{q:Option (Bool×Nat)}(hc:oZ P ty name=some (f,q)):∃i m ptr,P.info? ty=some i/\i.methods.find? (·.name==name)=some m/\m.func=some (f,ptr)/\m.path.toList=[]/\
 AH P ty f ptr=some (f,q):=by
 unfold oZ at hc
 cases hi:P.info? ty with
 |none=>simp[hi]at hc
 |some i=>
  rw[hi]at hc;simp only at hc
  cases hm:i.methods.find? (·.name==name)with
  |none=>simp[hm]at hc
  |some m=>
   rw[hm]at hc;simp only at hc
   cases hf:m.func with
   |none=>simp[hf]at hc
   |some fp=>
    obtain⟨f',ptr⟩:=fp;rw[hf]at hc;simp only at hc
    by_cases hp:m.path.isEmpty=true
    ·rw[if_pos hp]at hc;have hff:=(y7 hc).1;subst hff;exact⟨i,m,ptr,rfl,hm,hf,by simpa using hp,hc⟩
    ·rw[if_neg hp]at hc
     cases hc
theorem za{ty:TypeId}{name:String}{v:AV}{args:List AV}{res:R}(hc:mR P Γ h ty name v args=res):res=.bad\/∃f q,oZ P ty name=some (f,q)/\
 ((q=none/\res=.call f (v::args))\/∃agg sz i o x,q=some (agg,sz)/\v=.ptr i o/\oY Γ h agg sz (.ptr i o)=some x/\res=.call f (x::args)):=by
 unfold mR at hc
 split at hc
 ·rename_i f h1;exact Or.inr ⟨f,none,h1,Or.inl ⟨rfl,hc.symm⟩⟩
 ·rename_i f agg sz h1
  split at hc
  ·rename_i i o
   split at hc
   ·rename_i x hx;exact Or.inr ⟨f,_,h1,Or.inr ⟨agg,sz,i,o,x,rfl,rfl,hx,hc.symm⟩⟩
   ·exact Or.inl hc.symm
  ·exact Or.inl hc.symm
 ·exact Or.inl hc.symm
theorem VI(H:Inv P Γ N g h w){r:Operand->Value}{x:Operand}(ho:o.op=.nilCheck x){m:String}{ty:TypeId}{v:AV}{b:List AV}{f:FuncId}(hc:oZ P ty m=some (f,none))(ha:V g h (.fn (.method m) [.bX ty v] b) (r x)):
 aG P Γ N r o w g h h (some (.fn (.method m) [.bX ty v] b)):=by
 refine aG.same H (u:=r x) ?_ ha;simp only[V,VL]at ha;obtain⟨xs,ys,hx,⟨u,us,rfl,⟨y,rfl,hy⟩,rfl⟩,h2⟩:=ha;obtain⟨i,mm,ptr,hi,hm,hf,hp,hr⟩:=C4 hc;obtain⟨_,d,hu,hni,hd⟩:=y7 hr;have hfuel:P.types.size+Made.depth=(P.types.size+99)+1:=rfl
 have hna:(nilAhead (P.types.size+Made.depth) ty y m).run P w=.ok (some false) w:=by
  rw[hfuel,nilAhead];simp only[Sem.run_bind,typeInfo,run_program,Result.andThen_ok,hi,Sem.run_pure,hm,hp,followBlind,hf]
  rcases hd with⟨e,rfl,⟨rfl,_⟩|⟨_,_,_,_,_,hq⟩⟩|⟨hne,rfl,_⟩
  ·rfl
  ·cases hq
  ·cases d with
   |pointer e=>exact absurd rfl (hne e)
   |_=>simp[run_underlying hu]
 simp[execOp,ho,hx,hna]
theorem IW(H:Inv P Γ N g h w){ty:TypeId}{name:String}{v:AV}{args:List AV}{f:FuncId}{bs:List AV}(hc:mR P Γ h ty name v args=.call f bs)(hb:aD P f=true){u:Value}{us:List Value}(hv:V g h v u)(ha:VL g h args us):
 ∃xs,(callMethod (.iface ty u) name us.toArray).run P w=.ok (.enter f xs.toArray) w/\VL g h bs xs:=by
 rcases za hc with h0|⟨f',q,hcm,hq⟩
 ·cases h0
 obtain⟨i,m,ptr,hi,hm,hf,hp,hr⟩:=C4 hcm;obtain⟨_,d,hu,_,hd⟩:=y7 hr
 have hpe:m.path.isEmpty=true:=by simpa using hp
 have hfuel:P.types.size+Made.depth=(P.types.size+99)+1:=rfl
 have hdone:∀(x:Value)(y:AV),(receiverAt ty (.val u) ptr (some ((name.splitOn ".").getLastD name))).run P w=.ok x w->f'=f->bs=y::args->V g h y x->
  ∃xs,(callMethod (.iface ty u) name us.toArray).run P w=.ok (.enter f xs.toArray) w/\VL g h bs xs:=by
  intro x y hx hff hbs hy;subst hff;refine⟨x::us,?_,?_⟩
  ·simp only[callMethod,Sem.run_bind,run_program,Result.andThen_ok];rw[hfuel,method];simp only[Sem.run_bind,typeInfo,run_program,Result.andThen_ok,hi,Sem.run_pure,hm,hp,follow,hf,hpe,bY,hx];rw[xX hb];congr 2;apply gp;simp
  ·rw[hbs];simp only[VL];exact⟨x,us,rfl,hy,ha⟩
 rcases hd with⟨e,rfl,hd|⟨rfl,agg',s',hag,hsz,hqs⟩⟩|⟨hne,rfl,rfl⟩
 ·obtain⟨rfl,rfl⟩:=hd
  rcases hq with⟨_,hq⟩|⟨_,_,_,_,_,hq,_⟩
  ·simp only[R.call.injEq]at hq;refine hdone u v ?_ hq.1.symm hq.2 hv;simp[receiverAt,run_underlying hu,Place.get]
  ·cases hq
 ·rcases hq with⟨hq,_⟩|⟨agg,sz,i',o',x,hq,rfl,hx,hq2⟩
  ·rw[hq]at hqs;cases hqs
  ·rw[hq]at hqs;simp only[al,bH]at hqs;obtain⟨rfl,rfl⟩:=hqs;simp only[R.call.injEq]at hq2;obtain⟨ad,y,hu1,hu2,hu3⟩:=CQ H hag hsz hv hx;refine hdone y x ?_ hq2.1.symm hq2.2 hu3;subst hu1;have hss:(Builtin.ssaWrapNilChk_ #[ty] ty #[.pointer (some ad),strVal "",strVal ((name.splitOn ".").getLastD name)]).run P w=.ok (.pointer (some ad)) w:=rfl;have has:(asAddr (.pointer (some ad))).run P w=.ok ad w:=rfl;simp only[receiverAt,Sem.run_bind,run_underlying hu,Place.get,Sem.run_pure,Result.andThen_ok];simp only[hss,Result.andThen_ok,has,hu2]
 ·rcases hq with⟨_,hq⟩|⟨_,_,_,_,_,hq,_⟩
  ·simp only[R.call.injEq]at hq;refine hdone u v ?_ hq.1.symm hq.2 hv
   cases d<;>first
    |exact absurd rfl (hne _)
    |simp[receiverAt,run_underlying hu,Place.get]
  ·cases hq
def eJ(P:Program)(Γ:Nat->Option AV)(N:Env)(g:G)(h:List Ob)(w:World)(r:Operand->Value)(o:Oper):R->Prop
 |.val v h'=>aG P Γ N r o w g h h' (some v)
 |.skip h'=>aG P Γ N r o w g h h' none
 |.cM v=>∃u,(execOp r o).run P w=.halt (.panic u) w/\V g h v u
 |.call f args=>aD P f=true->∃us,(execOp r o).run P w=.ok (.enter f us.toArray) w/\VL g h args us
 |.qI=>(execOp r o).run P w=.ok .recover w
 |.bB f args=>∃d,(execOp r o).run P w=.ok (.defer d) w/\DR g h (.call f args) d
 |.yield l args=>∃b us,(execOp r o).run P w=(Instr.yield b us.toArray).run P w/\V g h (.dA l) (.func (.yield b) #[] #[])/\VL g h args us
 |.either=>∃c:Bool,aG P Γ N r o w g h h (some (.bool c))
 |.bad=>True
theorem E4(he:∀x,V g h (ax t (ay x)) (a.eval x))(xs:Array Operand):VL g h ((xs.toList.map ay).map (ax t)) (xs.toList.map a.eval):=by
 rw[lf];exact oM he _
theorem U8(H:Inv P Γ N g h w)(he:∀x,V g h (ax t (ay x)) (a.eval x)){f:Operand}{xs:Array Operand}{ts:Array TypeId}(ho:o.op=.call ⟨.value f,xs,ts⟩):
 eJ P Γ N g h w a.eval o (aA P Γ t h (.call (ay f) (xs.toList.map ay))):=by
 have hf:=he f;have hxs:=E4 he xs;simp only[aA]
 split
 ·
  rename_i n fs cs hv;rw[hv]at hf;simp only[V]at hf;obtain⟨us,vs,hfe,h1,h2⟩:=hf;intro hb;refine⟨us++xs.toList.map a.eval++vs,?_,jN (jN h1 hxs) h2⟩;simp only[execOp,ho,resolve,Sem.run_bind,hfe,Deferred.ofValue,Sem.run_pure,Result.andThen_ok,invoke,xX hb];congr 2;apply gp;simp
 ·
  rename_i ty name fs cs hv;rw[hv]at hf;simp only[V]at hf;obtain⟨us,vs,hfe,h1,h2⟩:=hf
  split
  ·rename_i qI as hsp;have h3:=jN h1 hxs;rw[hsp]at h3;simp only[VL]at h3;obtain⟨u,us',h4,h5,h6⟩:=h3
   cases hcm:mR P Γ h ty name qI as<;>simp only[eJ]
   case call f' bs=>
    intro hb;obtain⟨ys,h7,h8⟩:=IW H hcm hb h5 h6;refine⟨ys,?_,h8⟩
    have hd:∃d,P.underlying ty=some d/\∀ms,d≠.interface ms:=by
     rcases za hcm with h0|⟨f2,q,hcm2,_⟩
     ·cases h0
     obtain⟨_,_,_,_,_,_,_,hr⟩:=C4 hcm2;obtain⟨_,d,hu,hne,_⟩:=y7 hr;exact⟨d,hu,hne⟩
    obtain⟨d,hd,hne⟩:=hd
    have hargs:us.toArray++xs.map a.eval=(u::us').toArray:=by
     apply gp;simpa using h4
    simp only[execOp,ho,resolve,Sem.run_bind,hfe,Deferred.ofValue,Sem.run_pure,Result.andThen_ok,invoke,hargs,oc,pH,run_underlying hd]
    have hex:(u::us').toArray.extract 1 (u::us').toArray.size=us'.toArray:=by apply gp;simp
    rw[hex]
    cases d<;>first
     |exact absurd rfl (hne _)
     |exact h7
   all_goals (rcases za hcm with h0|⟨_,_,_,⟨_,h0⟩|⟨_,_,_,_,_,_,_,_,h0⟩⟩<;>first|cases h0|trivial)
  ·trivial
 ·rename_i l hv;rw[hv]at hf;have hf0:=hf;simp only[V]at hf;obtain⟨hl,b,sz,hρ,hfe⟩:=hf;refine⟨b,xs.toList.map a.eval,?_,by rw[hfe]at hf0;exact hf0,hxs⟩;simp only[execOp,ho,resolve,Sem.run_bind,hfe,Deferred.ofValue,Sem.run_pure,Result.andThen_ok,invoke];congr 2;apply gp;simp
 ·trivial
theorem Tv(H:Inv P Γ N g h w)(he:∀x,V g h (ax t (ay x)) (a.eval x)){x:Operand}{name:String}{xs:Array Operand}{ts:Array TypeId}(ho:o.op=.call ⟨.invoke x name,xs,ts⟩):
 eJ P Γ N g h w a.eval o (aA P Γ t h (.invoke (ay x) name (xs.toList.map ay))):=by
 have hx:=he x;have hxs:=E4 he xs;simp only[aA]
 split
 ·rename_i ty v hv;rw[hv]at hx;simp only[V]at hx;obtain⟨u,hxe,hvu⟩:=hx
  cases hcm:mR P Γ h ty name v ((xs.toList.map ay).map (ax t))<;>simp only[eJ]
  case call f' bs=>
   intro hb;obtain⟨ys,h7,h8⟩:=IW H hcm hb hvu hxs;refine⟨ys,?_,h8⟩
   have hargs:#[a.eval x]++xs.map a.eval=(a.eval x::xs.toList.map a.eval).toArray:=by
    apply gp;simp
   have hex:(a.eval x::xs.toList.map a.eval).toArray.extract 1 (a.eval x::xs.toList.map a.eval).toArray.size=(xs.toList.map a.eval).toArray:=by apply gp;simp;rw[cF (by simp)]
   simp only[execOp,ho,resolve,Sem.run_bind,Sem.run_pure,Result.andThen_ok,invoke,hargs,oc,pH,hex];rw[hxe];exact h7
  all_goals (rcases za hcm with h0|⟨_,_,_,⟨_,h0⟩|⟨_,_,_,_,_,_,_,_,h0⟩⟩<;>first|cases h0|trivial)
 ·trivial
end
section
variable{P:Program}{Γ:Nat->Option AV}{N:Env}{g:G}{h:List Ob}{w:World}{a:Act}{o:Oper}{t:List AV}
theorem Ev{k:Nat}{z:AV}(h:jF k z=true):z.cells.length=k/\bO z.cells=true/\aO 0 z.cells=true:=by
 simp only[jF,aC,a8]at h;exact⟨h.1.1,h.1.2,h.2⟩
theorem zy{t e:TypeId}(h:jV P t=some e):P.underlying t=some (.slice e):=by
 unfold jV at h
 split at h
 ·rename_i e' hu;simp only[al]at h;subst h;exact hu
 ·simp at h
theorem Im{k b:Nat}{E:TypeId}{x:AV}{ys:List AV}{fl:Bool}{res:R}(hres:fU h k E b x ys fl=res):res=.bad\/∃v h',res=.val v h':=by
 unfold fU at hres
 cases x<;>try (exact Or.inl hres.symm)
 case list f k' es=>
  cases f
  ·exact Or.inl hres.symm
  ·simp only at hres
   split at hres
   ·cases ys
    ·exact Or.inr ⟨_,_,hres.symm⟩
    ·exact Or.inr ⟨_,_,hres.symm⟩
   ·exact Or.inl hres.symm
 case sl i off n=>
  simp only at hres
  split at hres
  ·split at hres
   ·split at hres
    ·exact Or.inr ⟨_,_,hres.symm⟩
    ·split at hres
     ·exact Or.inr ⟨_,_,hres.symm⟩
     ·exact Or.inl hres.symm
   ·exact Or.inl hres.symm
  ·exact Or.inl hres.symm
theorem Wy(H:Inv P Γ N g h w)(he:∀x,V g h (ax t (ay x)) (a.eval x)){x:Operand}{sT:TypeId}(ho:o.op=.call ⟨.builtin .clear,#[x],#[sT]⟩){ao:AO}
 (hc:lN P ⟨.builtin .clear,#[x],#[sT]⟩=some ao):eJ P Γ N g h w a.eval o (aA P Γ t h ao):=by
 simp only[lN]at hc
 cases hE:jV P sT with
 |none=>simp[hE]at hc
 |some e=>
  cases hK:bm P e with
  |none=>simp[hE,hK]at hc
  |some k=>
   cases hZ:dy P e with
   |none=>simp[hE,hK,hZ]at hc
   |some z=>
    by_cases h0:k=0\/jF k z=false
    ·simp[hE,hK,hZ,h0]at hc
    ·simp only[not_or,xu]at h0;obtain⟨hk0,hzo⟩:=h0;obtain⟨hz1,hz2,hz3⟩:=Ev hzo;have ht:=zy hE;simp[hE,hK,hZ,hk0,hzo]at hc;subst hc;have hx:=he x;simp only[aA]
     split
     ·rename_i i off n hxe
      split
      ·rename_i k' E es fl hi
       split
       ·rename_i hcc;obtain⟨rfl,hle⟩:=hcc;rw[hxe]at hx;exact YY H ho ht hK (by omega) hZ hz1 hz2 hz3 hx hi hle
       ·trivial
      ·trivial
     ·trivial
theorem Ux(H:Inv P Γ N g h w)(he:∀x,V g h (ax t (ay x)) (a.eval x)){x y:Operand}{sT u:TypeId}(ho:o.op=.call ⟨.builtin .append,#[x,y],#[sT,u]⟩){ao:AO}
 (hc:lN P ⟨.builtin .append,#[x,y],#[sT,u]⟩=some ao):eJ P Γ N g h w a.eval o (aA P Γ t h ao):=by
 simp only[lN]at hc
 cases hE:jV P sT with
 |none=>simp[hE]at hc
 |some e=>
  cases hK:bm P e with
  |none=>simp[hE,hK]at hc
  |some k=>
   cases hB:kJ P e with
   |none=>simp[hE,hK,hB]at hc
   |some b=>
    cases hZ:dy P e with
    |none=>simp[hE,hK,hB,hZ]at hc
    |some z=>
     by_cases h0:k=0\/b=0\/jF k z=false
     ·simp[hE,hK,hB,hZ,h0]at hc
     ·simp only[not_or,xu]at h0;obtain⟨hk0,hb0,hzo⟩:=h0;obtain⟨hz1,hz2,hz3⟩:=Ev hzo;have ht:=zy hE
      cases hU:P.underlying u with
      |none=>simp[hE,hU]at hc
      |some d=>
       by_cases hd:∃j,d=.int j
       ·obtain⟨j,rfl⟩:=hd;simp[hE,hK,hB,hZ,hk0,hb0,hzo,hU]at hc;subst hc;simp only[aA]
        split
        ·rename_i i m hm
         split
         ·rename_i hmm;have hy:=he y;rw[hm]at hy
          have hr:∀{res:R},fU h k e b (ax t (ay x)) (List.replicate m.toNat z) true=res->eJ P Γ N g h w a.eval o res:=by
           intro res hres
           rcases Im hres with rfl|⟨v,h',rfl⟩
           ·trivial
           have hmB:m*b<=2^48:=by
            have h2:(m.toNat*b:Nat)<=2^47:=by
             unfold fU at hres
             split at hres
             ·split at hres
              ·rename_i hc2;have:=hc2.1;rw[ku]at this;exact qO (kq _ (Nat.le_add_left _ _)) this
              ·cases hres
             ·split at hres
              ·split at hres
               ·rename_i hc2;have:=hc2.2.2.2;rw[ku]at this;exact qO (kq _ (Nat.le_add_left _ _)) this
               ·cases hres
              ·cases hres
             ·cases hres
            have h3:m=(m.toNat:Int):=by omega
            rw[h3];have h4:((m.toNat*b:Nat):Int)<=((2^47:Nat):Int):=Int.ofNat_le.2 h2;simp only[Int.natCast_mul]at h4
            have h5:((2^47:Nat):Int)<=2^48:=by decide
            omega
           exact Vs H ho ht hK (by omega) hB hb0 hZ hz1 hz2 hz3 hU (he x) (dC hy) hmm.1 hmm.2 hmB hres
          exact hr rfl
         ·trivial
        ·trivial
       ·have hd':∀j,d≠.int j:=fun j hj=>hd ⟨j,hj⟩
        have hao:ao=.append k e b (ay x) (ay y):=by
         cases d<;>first
          |exact absurd rfl (hd' _)
          |(simp[hE,hK,hB,hZ,hk0,hb0,hzo,hU]at hc;exact hc.symm)
        subst hao
        have hr:∀{ys:List AV}{fl:Bool}{res:R}{k2:Nat},fU h k2 e b (ax t (ay x)) ys fl=res->(∀v h',res=.val v h'->aG P Γ N a.eval o w g h h' (some v))->eJ P Γ N g h w a.eval o res:=by
         intro ys fl res k2 hres hv
         rcases Im hres with rfl|⟨v,h',rfl⟩
         ·trivial
         ·exact hv _ _ rfl
        have hy:=he y;simp only[aA]
        split
        ·rename_i f k' es hes
         split
         ·rename_i hkk;rw[hes]at hy
          exact hr rfl fun v h' hres=>Dp H ho ht hK (by omega) hB hb0 hZ hz1 hU hd' (he x) hy (Or.inl ⟨f,k',es,rfl,hkk,hres⟩)
         ·trivial
        ·rename_i i q n hes;rw[hes]at hy
         split
         ·rename_i k' es kr Er esr grr flr shr hte hi
          split
          ·rename_i hkk;subst hkk
           have hkr:kr=k':=by
            simp only[jh,hi]at hte
            split at hte
            ·simp only[al,bH]at hte;exact hte.1
            ·simp at hte
           subst hkr
           exact hr rfl fun v h' hres=>Dp H ho ht hK (by omega) hB hb0 hZ hz1 hU hd' (he x) hy (Or.inr (Or.inl ⟨i,q,n,es,_,_,_,_,_,rfl,hte,hi,hres⟩))
          ·trivial
         ·trivial
        ·rename_i s hes;rw[hes]at hy
         split
         ·rename_i hk1;subst hk1
          exact hr rfl fun v h' hres=>Dp H ho ht hK (by omega) hB hb0 hZ hz1 hU hd' (he x) hy (Or.inr (Or.inr ⟨s,rfl,rfl,hres⟩))
         ·trivial
        ·trivial
theorem R8(d:Nat)(t e:TypeId)(a:Option Addr)(l c:Nat)(h:P.underlying t=some (.slice e))(w:World):(Op.equalIn (d+1) t (.slice a l c) (.slice none 0 0)).run P w=.ok a.isNone w:=by
 cases a<;>simp[Op.equalIn,run_underlying h]
theorem Sx(t e:TypeId)(a:Option Addr)(l c:Nat)(h:P.underlying t=some (.slice e))(w:World):(Op.equal t (.slice a l c) (.slice none 0 0)).run P w=.ok a.isNone w:=R8 9999 t e a l c h w
theorem J4(H:Inv P Γ N g h w)(he:∀x,V g h (ax t (ay x)) (a.eval x)){x:Operand}{ty ty' e:TypeId}{neg:Bool}(ho:o.op=.binOp (if neg then .neq else .eql) ty x (.const (.slice none 0 0)) ty')
 (hu:P.underlying ty=some (.slice e)):eJ P Γ N g h w a.eval o (aA P Γ t h (.iL neg (ay x))):=by
 have hx:=he x
 have hcase:∀{n:Nat},nP (ax t (ay x))=some n->∃ad cap,a.eval x=.slice ad n cap/\(0<n->∃b p,ad=some ⟨b,p,none⟩):=by
  intro n hn
  cases hv:ax t (ay x)<;>simp only[hv,nP,al,reduceCtorEq]at hn
  ·rw[hv]at hx;simp only[V]at hx;obtain⟨_,ad,cap,h1,_,_,h3⟩:=hx;subst hn;refine⟨ad,cap,h1,fun hpos=>?_⟩
   rcases h3 with rfl|⟨b,p,_,rfl,_⟩
   ·simp at hpos
   ·exact⟨b,p,rfl⟩
  ·rw[hv]at hx;simp only[V]at hx;obtain⟨_,_,_,_,_,_,_,_,ad,cap,h1,_,h3,_⟩:=hx;subst hn;exact⟨ad,cap,h1,h3⟩
 have hrun:∀{ad:Option Addr}{n cap:Nat},a.eval x=.slice ad n cap->(execOp a.eval o).run P w=.ok (.value (.bool (if neg then !ad.isNone else ad.isNone))) w:=by
  intro ad n cap hxe;have hc0:a.eval (.const (.slice none 0 0))=.slice none 0 0:=rfl;have hq:=Sx (P:=P) ty e ad n cap hu w;simp only[execOp,ho,hc0,hxe]
  cases neg
  ·simp only[dU,cE];rw[Sem.run_bind,Sem.run_bind,fH (by simp) (by simp)];simp only[Result.andThen_ok];rw[rm (by rfl) hq];rfl
  ·simp only[bY];rw[Sem.run_bind,Sem.run_bind,fH (by simp) (by simp)];simp only[Result.andThen_ok];rw[rk (by rfl) hq];rfl
 simp only[aA]
 split
 ·rename_i n hn;obtain⟨ad,cap,h1,h2⟩:=hcase hn;obtain⟨b,p,rfl⟩:=h2 (by omega);refine aG.same H (hrun h1) ?_
  cases neg<;>simp[V]
 ·rename_i hn;obtain⟨ad,cap,h1,_⟩:=hcase hn;exact⟨_,aG.same H (hrun h1) (by simp only[V];rfl)⟩
 ·trivial
theorem ZO(H:Inv P Γ N g h w)(he:∀x,V g h (ax t (ay x)) (a.eval x)){x:Operand}{ty:TypeId}(ho:o.op=.call ⟨.builtin .len,#[x],#[ty]⟩){ao:AO}(hc:lN P ⟨.builtin .len,#[x],#[ty]⟩=some ao):
 eJ P Γ N g h w a.eval o (aA P Γ t h ao):=by
 have hx:=he x;simp only[lN]at hc
 split at hc
 ·rename_i hu;simp only[al]at hc;subst hc;simp only[aA]
  split
  ·rename_i s hs;rw[hs]at hx;exact wj H ho (Or.inl ⟨s,hu,il hx,rfl⟩)
  ·trivial
 ·rename_i e hu;simp only[al]at hc;subst hc;simp only[aA]
  split
  ·rename_i f k es hs;rw[hs]at hx;simp only[V]at hx;obtain⟨_,ad,cap,h1,_⟩:=hx;exact wj H ho (Or.inr (Or.inl ⟨e,ad,cap,hu,h1⟩))
  ·rename_i i q n hs;rw[hs]at hx;simp only[V]at hx;obtain⟨_,_,_,_,_,_,_,_,ad,cap,h1,_⟩:=hx;exact wj H ho (Or.inr (Or.inl ⟨e,ad,cap,hu,h1⟩))
  ·trivial
 ·rename_i n e hu;simp only[al]at hc;subst hc;exact wj H ho (Or.inr (Or.inr (Or.inl ⟨e,hu⟩)))
 ·rename_i k e hu;simp only[al]at hc;subst hc;simp only[aA]
  split
  ·rename_i hs;exact Dz H ho hu hx (Or.inl ⟨hs,rfl⟩)
  ·rename_i ks vs hs;exact Dz H ho hu hx (Or.inr (Or.inl ⟨ks,vs,hs,rfl⟩))
  ·rename_i j hs
   split
   ·rename_i es fl hj;exact Dz H ho hu hx (Or.inr (Or.inr ⟨j,es,fl,hs,hj,rfl⟩))
   ·trivial
  ·trivial
 ·simp at hc
theorem vJ{c:Call}{b:Builtin}(hb:c.callee=.builtin b){xs:List Operand}{ts:List TypeId}(hx:c.args.toList=xs)(ht:c.argTypes.toList=ts):c=⟨.builtin b,xs.toArray,ts.toArray⟩:=by
 cases c
 simp only at hb hx ht;subst hb;congr 1
 ·apply gp;simpa using hx
 ·apply gp;simpa using ht
theorem T1(H:Inv P Γ N g h w)(he:∀x,V g h (ax t (ay x)) (a.eval x)){c:Call}(ho:o.op=.call c){b:Builtin}(hb:c.callee=.builtin b){ao:AO}(hc:lN P c=some ao):
 eJ P Γ N g h w a.eval o (aA P Γ t h ao):=by
 have hc0:=hc;simp only[lN,hb]at hc
 split at hc
 ·
  rename_i x ty hx ht;have hcc:=vJ hb hx ht;rw[hcc]at ho hc0;exact ZO H he ho hc0
 ·
  rename_i x ty hx ht;have hcc:=vJ hb hx ht;rw[hcc]at ho
  split at hc
  ·rename_i e hu;simp only[al]at hc;subst hc;have hv:=he x;simp only[aA]
   split
   ·rename_i k es hs;rw[hs]at hv;simp only[V]at hv;obtain⟨_,ad,cap,h1,h2,_⟩:=hv;have:=aaB H ho hu h1;rwa[h2 trivial]at this
   ·trivial
  ·simp at hc
 ·
  rename_i x y ty u hx ht;have hcc:=vJ hb hx ht;rw[hcc]at ho hc0;exact Ux H he ho hc0
 ·
  rename_i m k ty u hx ht;have hcc:=vJ hb hx ht;rw[hcc]at ho
  split at hc
  ·rename_i key et hu;simp only[bN]at hc;obtain⟨e,hk,rfl⟩:=hc;have hm:=he m;have hkk:=he k;simp only[aA]
   split
   ·rename_i j hj
    split
    ·rename_i es fl hjo
     split
     ·trivial
     ·rename_i hkey
      split
      ·rename_i es' hd;rw[hj]at hm;exact Xj H ho hu hk hm hjo hkk (by simpa using hkey) hd
      ·trivial
    ·trivial
   ·trivial
  ·simp at hc
 ·
  rename_i x ty hx ht;have hcc:=vJ hb hx ht;rw[hcc]at ho hc0;exact Wy H he ho hc0
 ·
  rename_i xs _;simp only[al]at hc;subst hc
  have hcc:c=⟨.builtin .min,c.args,c.argTypes⟩:=by cases c;simp only at hb;subst hb;rfl
  rw[hcc]at ho;simp only[aA]
  split
  ·rename_i v vs hvs
   split
   ·rename_i u hu;exact aay H ho he hvs hu
   ·trivial
  ·trivial
 ·
  rename_i xs _;simp only[al]at hc;subst hc
  have hcc:c=⟨.builtin .max,c.args,c.argTypes⟩:=by cases c;simp only at hb;subst hb;rfl
  rw[hcc]at ho;simp only[aA]
  split
  ·rename_i v vs hvs
   split
   ·rename_i u hu;exact abm H ho he hvs hu
   ·trivial
  ·trivial
 ·
  rename_i hx;simp only[al]at hc;subst hc;simp only[aA,eJ]
  have hcc:c=⟨.builtin .recover,c.args,c.argTypes⟩:=by cases c;simp only at hb;subst hb;rfl
  rw[hcc]at ho;simp[execOp,ho,resolve,invoke,builtin]
 ·simp at hc
end
section
variable{P:Program}{Γ:Nat->Option AV}{N:Env}{g:G}{h:List Ob}{w:World}{a:Act}{o:Oper}{t:List AV}
theorem tZ{p:AV}{v:Value}(hv:V g h p v)(hp:match p with|.ptr _ _|.cL _ _ _ _|.dF _ _=>True|_=>False):∃b m,v=.pointer (some ⟨b,m,none⟩)/\
 ∀n,V g h (match p with|.ptr i q=>.ptr i (q+n)|.cL x k i q=>.cL x k i (q+n)|.dF i q=>.dF i (q+n)|x=>x) (.pointer (some ⟨b,m+n,none⟩)):=by
 match p,hv,hp with
 |.ptr i q,hv,_=>
  simp only[V]at hv;obtain⟨h1,b,sz,hρ,rfl⟩:=hv;exact⟨b,q,rfl,fun n=>by simp only[V];exact⟨h1,b,sz,hρ,rfl⟩⟩
 |.cL x k i q,hv,_=>
  simp only[V]at hv;obtain⟨u,b,m,h1,h2,h3,rfl⟩:=hv;exact⟨b,m+i*k+q,rfl,fun n=>by simp only[V];exact⟨u,b,m,h1,h2,h3,by rw[mj]⟩⟩
 |.dF i q,hv,_=>
  simp only[V]at hv;subst hv;exact⟨i,q,rfl,fun n=>by simp only[V]⟩
def acd(ck:CK)(q:Option Bool)(h:List Ob):R:=
 match ck with
 |.eql=>match q with
  |some b=>.val (.bool b) h
  |none=>.bad
 |.neq=>match q with
  |some b=>.val (.bool !b) h
  |none=>.bad
 |_=>.bad
theorem VM(H:Inv P Γ N g h w)(he:∀x,V g h (ax t (ay x)) (a.eval x)){op:BinOp}{ty ty':TypeId}{x y:Operand}(ho:o.op=.binOp op ty x y ty'){ao:AO}(hc:bL P o=some ao):
 eJ P Γ N g h w a.eval o (aA P Γ t h ao):=by
 have hx:=he x;have hy:=he y;simp only[bL,ho]at hc
 have hcmp:∀{ck:CK}{e:EK},qA op=some ck->oT P ty=some e->e≠.sc .int->eJ P Γ N g h w a.eval o (aA P Γ t h (.cmp ck e (ay x) (ay y))):=by
  intro ck e h1 h2 h3
  have heq:∀{b:Bool},ck=.eql->bU e (ax t (ay x)) (ax t (ay y))=some b->aG P Γ N a.eval o w g h h (some (.bool b)):=by
   intro b hck hb;subst hck
   have hop:op=.eql:=by cases op<;>simp only[qA,al,reduceCtorEq]at h1;rfl
   subst hop;exact aaw H ho h2 hb hx hy
  have hne:∀{b:Bool},ck=.neq->bU e (ax t (ay x)) (ax t (ay y))=some b->aG P Γ N a.eval o w g h h (some (.bool !b)):=by
   intro b hck hb;subst hck
   have hop:op=.neq:=by cases op<;>simp only[qA,al,reduceCtorEq]at h1;rfl
   subst hop;exact aaR H ho h2 hb hx hy
  have hao:aA P Γ t h (.cmp ck e (ay x) (ay y))=acd ck (bU e (ax t (ay x)) (ax t (ay y))) h:=by
   rcases e with(s|ss|_|_)
   ·cases s
    ·exact absurd rfl h3
    ·cases ck<;>rfl
    ·cases ck<;>rfl
   ·cases ck<;>rfl
   ·cases ck<;>rfl
   ·cases ck<;>rfl
  rw[hao]
  cases hq:bU e (ax t (ay x)) (ax t (ay y))with
  |none=>cases ck<;>trivial
  |some b=>
   cases ck
   ·exact heq rfl hq
   ·exact hne rfl hq
   all_goals trivial
 split at hc
 ·
  rename_i k hu
  split at hc
  ·rename_i ck hck;simp only[al]at hc;subst hc;simp only[aA]
   split
   ·rename_i k1 p k2 q h1 h2;rw[h1]at hx;rw[h2]at hy
    split
    ·rename_i hkk;subst hkk;exact aao H ho hck (dC hx) (dC hy)
    ·trivial
   ·trivial
  ·rename_i hck;simp only[bN]at hc;obtain⟨ib,hib,rfl⟩:=hc;simp only[aA]
   split
   ·rename_i k1 p k2 q h1 h2;rw[h1]at hx;rw[h2]at hy
    split
    ·rename_i hkk
     split
     ·rename_i n hn;exact ZH H ho hib (dC hx) (dC hy) hkk hn
     ·trivial
    ·trivial
   ·trivial
 ·
  rename_i hu
  split at hc
  ·rename_i hadd;subst hadd;simp only[al]at hc;subst hc;simp only[aA]
   split
   ·rename_i p q h1 h2;rw[h1]at hx;rw[h2]at hy
    split
    ·rename_i hl;exact W0 H ho (il hx) (il hy) hl
    ·trivial
   ·trivial
  ·split at hc
   ·rename_i ck e hck hek;simp only[al]at hc;subst hc;refine hcmp hck hek ?_
    rintro rfl
    unfold oT at hek
    split at hek
    ·rename_i s hs;simp only[al,EK.sc.injEq]at hek;subst hek;obtain⟨_,h1⟩:=ot hs;obtain⟨k,hk⟩:=h1;rw[hu]at hk
     cases hk
    ·split at hek<;>try (simp at hek)
     all_goals (split at hek<;>simp at hek)
   ·simp at hc
 ·
  rename_i e hu
  split at hc
  ·simp only[al]at hc;subst hc;exact J4 H he (neg:=false) ho hu
  ·simp only[al]at hc;subst hc;exact J4 H he (neg:=true) ho hu
  ·simp at hc
 ·rename_i hni hns hnl
  split at hc
  ·rename_i ck e hck hek;simp only[al]at hc;subst hc;refine hcmp hck hek ?_
   rintro rfl
   unfold oT at hek
   split at hek
   ·rename_i s hs;simp only[al,EK.sc.injEq]at hek;subst hek;obtain⟨_,h1⟩:=ot hs;obtain⟨k,hk⟩:=h1;exact hni k hk
   ·split at hek<;>try (simp at hek)
    all_goals (split at hek<;>simp at hek)
  ·simp at hc
theorem Ug(H:Inv P Γ N g h w)(he:∀x,V g h (ax t (ay x)) (a.eval x)){s d:TypeId}{x:Operand}(ho:o.op=.convert s d x){ao:AO}(hc:bL P o=some ao):
 eJ P Γ N g h w a.eval o (aA P Γ t h ao):=by
 have hx:=he x;simp only[bL,ho]at hc
 split at hc
 ·rename_i j k hs hd;simp only[al]at hc;subst hc;simp only[aA]
  split
  ·rename_i k' n h1;rw[h1]at hx;exact Y_ H ho hs hd (dC hx)
  ·trivial
 ·rename_i hs hd;simp only[al]at hc;subst hc;simp only[aA]
  split
  ·rename_i l h1;rw[h1]at hx;exact aag H ho hs hd (il hx)
  ·trivial
 ·rename_i e hs hd
  split at hc
  ·rename_i hee
   split at hc
   ·simp only[al]at hc;subst hc;simp only[aA]
    split
    ·rename_i l h1;rw[h1]at hx
     split
     ·exact Uy H ho hs hd hee (il hx) e
     ·trivial
    ·trivial
   ·simp at hc
  ·simp at hc
 ·rename_i e' e hs hd
  split at hc
  ·rename_i hee
   split at hc
   ·rename_i hsd;simp only[al]at hc;subst hc;simp only[aA]
    split
    ·rename_i i q n h1;rw[h1]at hx
     split
     ·rename_i E es fl sh hi
      split
      ·trivial
      ·rename_i hcond;simp only[not_or,B9]at hcond;obtain⟨h2,h3,h4⟩:=hcond;subst h3;subst hsd;exact aaa H ho rfl hd hee hi h4 hx h2
     ·trivial
    ·trivial
   ·simp at hc
  ·simp at hc
 ·rename_i e hs hd
  split at hc
  ·rename_i hee;simp only[al]at hc;subst hc;simp only[aA]
   split
   ·rename_i es hes
    split
    ·rename_i l hl;exact XT H ho hs hee hd hx hes hl
    ·trivial
   ·trivial
  ·simp at hc
 ·simp at hc
theorem W8(H:Inv P Γ N g h w)(he:∀x,V g h (ax t (ay x)) (a.eval x)){ty:TypeId}{x:Operand}{lo hi mx:Option Operand}(ho:o.op=.slice ty x lo hi mx){ao:AO}(hc:bL P o=some ao):
 eJ P Γ N g h w a.eval o (aA P Γ t h ao):=by
 have hx:=he x
 cases mx with
 |none=>
  simp only[bL,ho]at hc
  split at hc
  ·rename_i hu;simp only[al]at hc;subst hc;simp only[aA]
   split
   ·rename_i s h1;rw[h1]at hx
    split
    ·rename_i l u hl hh
     split
     ·rename_i hlu;exact T5 H ho hu (il hx) he hl hh hlu
     ·trivial
    ·trivial
   ·trivial
  ·rename_i e hu
   split at hc
   ·rename_i k hk;simp only[al]at hc;subst hc;simp only[aA]
    split
    ·rename_i f k' es h1;rw[h1]at hx
     split
     ·rename_i l u hl hh
      split
      ·rename_i hlu;exact SX H ho hu hk hx he hl hh hlu
      ·trivial
     ·trivial
    ·rename_i i q n h1;rw[h1]at hx
     split
     ·rename_i l u hl hh
      split
      ·rename_i hlu
       split
       ·rename_i k' E es gr fl sh hi'
        split
        ·rename_i hkk;obtain⟨rfl,hok⟩:=hkk;exact T_ H ho hu hk hx he hl hh hlu hi' hok
        ·trivial
       ·trivial
      ·trivial
     ·trivial
    ·trivial
   ·simp at hc
  ·simp at hc
 |some mx=>
  cases hi with
  |none=>simp[bL,ho]at hc
  |some hi=>
   simp only[bL,ho]at hc
   split at hc
   ·rename_i e hu
    split at hc
    ·rename_i k hk;simp only[al]at hc;subst hc;simp only[aA]
     split
     ·rename_i f k' es h1
      split
      ·rename_i l u m hl hh hm
       split
       ·rename_i hlu;obtain⟨h2,h3,rfl,h4⟩:=hlu;exact WN H ho hu hk hx h1 he hl hh hm ⟨h2,h3,h4⟩
       ·trivial
      ·trivial
     ·trivial
    ·simp at hc
   ·simp at hc
end
section
variable{P:Program}{Γ:Nat->Option AV}{N:Env}{g:G}{h:List Ob}{w:World}{a:Act}{o:Oper}{t:List AV}
theorem Kc(H:Inv P Γ N g h w)(he:∀x,V g h (ax t (ay x)) (a.eval x)){ty:TypeId}{x i:Operand}(ho:o.op=.indexAddr ty x i\/o.op=.index ty x i){ao:AO}(hc:bL P o=some ao):
 eJ P Γ N g h w a.eval o (aA P Γ t h ao):=by
 have hx:=he x;have hi:=he i
 rcases ho with ho|ho
 ·simp only[bL,ho]at hc
  split at hc
  ·rename_i e hu
   split at hc
   ·rename_i k hk;simp only[al]at hc;subst hc;simp only[aA]
    split
    ·rename_i m q n hm hn;rw[hn]at hi
     split
     ·rename_i hq;exact WL H ho hu hk hx hm (dC hi) hq
     ·trivial
    ·trivial
   ·simp at hc
  ·rename_i n e hu
   split at hc
   ·rename_i k hk;simp only[al]at hc;subst hc;simp only[aA]
    split
    ·rename_i q n' hn;rw[hn]at hi
     split
     ·rename_i hq
      split
      ·rename_i j m hp;rw[hp]at hx;obtain⟨b,mm,hxe,hadd⟩:=tZ hx trivial;exact Db H ho hu hk hxe (dC hi) hq (hadd _)
      ·rename_i u k' j m hp;rw[hp]at hx;obtain⟨b,mm,hxe,hadd⟩:=tZ hx trivial;exact Db H ho hu hk hxe (dC hi) hq (hadd _)
      ·rename_i j m hp;rw[hp]at hx;obtain⟨b,mm,hxe,hadd⟩:=tZ hx trivial;exact Db H ho hu hk hxe (dC hi) hq (hadd _)
      ·trivial
     ·trivial
    ·trivial
   ·simp at hc
  ·simp at hc
 ·simp only[bL,ho]at hc
  split at hc
  ·rename_i hu;simp only[al]at hc;subst hc;simp only[aA]
   split
   ·rename_i s q n hs hn;rw[hs]at hx;rw[hn]at hi
    split
    ·rename_i h0
     split
     ·rename_i b hb;exact Xv H ho hu (il hx) (dC hi) h0 hb
     ·trivial
    ·trivial
   ·trivial
  ·rename_i n e hu
   cases hA:fB P e with
   |none=>simp[hA]at hc
   |some agg=>
    cases hS:bm P e with
    |none=>simp[hA,hS]at hc
    |some sz=>
     simp[hA,hS]at hc;subst hc;simp only[aA]
     split
     ·rename_i cs q m hs hn;rw[hs]at hx;rw[hn]at hi
      split
      ·rename_i hq
       split
       ·rename_i v hv;exact Yg H ho hu hA hS hx (dC hi) hq hv
       ·trivial
      ·trivial
     ·trivial
  ·simp at hc
theorem JS(H:Inv P Γ N g h w)(he:∀x,V g h (ax t (ay x)) (a.eval x)){ty:TypeId}{x:Operand}{i:Nat}(ho:o.op=.fieldAddr ty x i\/o.op=.field ty x i){ao:AO}(hc:bL P o=some ao):
 eJ P Γ N g h w a.eval o (aA P Γ t h ao):=by
 have hx:=he x
 rcases ho with ho|ho
 ·simp only[bL,ho]at hc
  split at hc
  ·rename_i fs hu
   split at hc
   ·rename_i f hf
    split at hc
    ·rename_i k hk;simp only[al]at hc;subst hc;simp only[aA]
     split
     ·rename_i j m hp;rw[hp]at hx;obtain⟨b,mm,hxe,hadd⟩:=tZ hx trivial;exact EZ H ho hu hf hk hxe (hadd _)
     ·rename_i u k' j m hp;rw[hp]at hx;obtain⟨b,mm,hxe,hadd⟩:=tZ hx trivial;exact EZ H ho hu hf hk hxe (hadd _)
     ·rename_i j m hp;rw[hp]at hx;obtain⟨b,mm,hxe,hadd⟩:=tZ hx trivial;exact EZ H ho hu hf hk hxe (hadd _)
     ·trivial
    ·simp at hc
   ·simp at hc
  ·simp at hc
 ·simp only[bL,ho]at hc
  split at hc
  ·rename_i fs hu
   split at hc
   ·rename_i f hf
    cases hA:fB P f.type with
    |none=>simp[hA]at hc
    |some agg=>
     cases hS:bm P f.type with
     |none=>simp[hA,hS]at hc
     |some sz=>
      simp[hA,hS]at hc;subst hc;simp only[aA]
      split
      ·rename_i cs hs;rw[hs]at hx
       split
       ·rename_i v hv;exact abi H ho hu hf hA hS hx hv
       ·trivial
      ·trivial
   ·simp at hc
  ·simp at hc
theorem Ma(H:Inv P Γ N g h w)(he:∀x,V g h (ax t (ay x)) (a.eval x)){ty:TypeId}{m k x:Operand}(ho:o.op=.mapUpdate ty m k x\/o.op=.insert ty m k x){ao:AO}(hc:bL P o=some ao):
 eJ P Γ N g h w a.eval o (aA P Γ t h ao):=by
 have hm:=he m;have hk:=he k;have hx:=he x
 have hc':∃key et e,P.underlying ty=some (.map key et)/\gO P key=some e/\ao=.bA e (ay m) (ay k) (ay x):=by
  rcases ho with ho|ho
  all_goals
   simp only[bL,ho]at hc
   split at hc
   ·rename_i key et hu;simp only[bN]at hc;obtain⟨e,hke,rfl⟩:=hc;exact⟨key,et,e,hu,hke,rfl⟩
   ·simp at hc
 obtain⟨key,et,e,hu,hke,rfl⟩:=hc';simp only[aA]
 split
 ·rename_i j hj;rw[hj]at hm
  split
  ·rename_i es fl hjo
   split
   ·trivial
   ·rename_i hkey
    split
    ·rename_i es' hp;exact aa1 H ho hu hke hm hjo hk (by simpa using hkey) hx hp
    ·trivial
  ·trivial
 ·trivial
theorem UU(H:Inv P Γ N g h w)(he:∀x,V g h (ax t (ay x)) (a.eval x)){ty:TypeId}{x i:Operand}{ok:Bool}(ho:o.op=.lookup ty x i ok){ao:AO}(hc:bL P o=some ao):
 eJ P Γ N g h w a.eval o (aA P Γ t h ao):=by
 have hx:=he x;have hi:=he i;simp only[bL,ho]at hc
 split at hc
 ·rename_i key et hu
  cases hK:gO P key with
  |none=>simp[hK]at hc
  |some e=>
   cases hZ:dy P et with
   |none=>simp[hK,hZ]at hc
   |some z=>
    simp[hK,hZ]at hc;subst hc
    have hgo:∀{es:List (AV×AV)},((ax t (ay x)=.eu/\es=[])\/(∃ks vs,ax t (ay x)=.de ks vs/\es=ks.zip vs)\/∃j fl,ax t (ay x)=.mp j/\h[j]? =some (.map es fl))->
     eJ P Γ N g h w a.eval o (if isKey e (ax t (ay i))=false then .bad else match fm e (ax t (ay i)) es with
      |some (some v)=>.val (if ok then .aL [v,.bool true]else v) h
      |some none=>.val (if ok then .aL [z,.bool false]else z) h
      |none=>.bad):=by
     intro es hes
     split
     ·trivial
     ·rename_i hkey
      split
      ·rename_i v hf;exact Kn H ho hu hK hZ hi (by simpa using hkey) hx hes hf rfl
      ·rename_i hf;exact Kn H ho hu hK hZ hi (by simpa using hkey) hx hes hf rfl
      ·trivial
    simp only[aA]
    cases hv:ax t (ay x)<;>simp only[hv]at hgo⊢<;>first
     |trivial
     |skip
    ·exact hgo (Or.inl ⟨trivial,rfl⟩)
    ·rename_i j
     cases hj:h[j]? with
     |none=>trivial
     |some q=>
      cases q<;>first
       |trivial
       |exact hgo (Or.inr (Or.inr ⟨j,_,rfl,hj⟩))
    ·exact hgo (Or.inr (Or.inl ⟨_,_,rfl,rfl⟩))
 ·simp at hc
theorem Kj(H:Inv P Γ N g h w)(ht:VL g h t a.tmps.toList){ao:AO}(hc:bL P o=some ao):eJ P Γ N g h w a.eval o (aA P Γ t h ao):=by
 have he:∀x,V g h (ax t (ay x)) (a.eval x):=fun x=>AS ht x
 have hc0:=hc
 cases ho:o.op with
 |move x=>
  simp only[bL,ho,al]at hc;subst hc;exact ND H (Or.inl ho) (he x)
 |assign x=>
  simp only[bL,ho]at hc
  split at hc
  ·cases hE:jV P o.type with
   |none=>simp[hE]at hc
   |some e=>
    cases hS:bm P e with
    |none=>simp[hE,hS]at hc
    |some k=>
     by_cases hk:k=0
     ·simp[hE,hS,hk]at hc
     ·simp[hE,hS,hk]at hc;subst hc;exact WC H ho rfl (by omega) e
  ·simp only[al]at hc;subst hc;exact ND H (Or.inr ho) (he x)
 |pick c x y=>
  simp only[bL,ho,al]at hc;subst hc;have h1:=he c;simp only[aA]
  split
  ·rename_i hb;rw[hb]at h1;exact Me H ho (kD h1) (he x)
  ·rename_i hb;rw[hb]at h1;exact Me H ho (kD h1) (he y)
  ·trivial
 |alloc ty=>
  simp only[bL,ho]at hc
  cases hZ:(P.info? ty).bind (·.zero)with
  |none=>simp[hZ]at hc
  |some zv=>
   cases hC:Az P 8 ty with
   |none=>simp[hZ,hC]at hc
   |some as=>
    cases hF:pf as zv.cells.toList with
    |none=>simp[hZ,hC,hF]at hc
    |some z=>
     simp[hZ,hC,hF]at hc;subst hc;exact YF H ho hZ hF
 |box ty x=>
  simp only[bL,ho]at hc
  cases hS:bm P ty with
  |none=>simp[hS]at hc
  |some n=>
   simp[hS]at hc;subst hc;simp only[aA]
   split
   ·rename_i h1;exact aaJ H ho (he x) h1.2
   ·trivial
 |build ty ps=>
  simp only[bL,ho]at hc
  cases hZ:dy P ty with
  |none=>simp[hZ]at hc
  |some z=>
   by_cases hpl:vO P ty=true
   ·cases hP:oK P ty ps.toList with
    |none=>simp[hZ,hpl,hP]at hc
    |some aps=>
     simp[hZ,hpl,hP]at hc;subst hc;simp only[aA]
     split
     ·rename_i cs hf;exact YA H ho hZ hpl hP he hf
     ·trivial
   ·simp[hZ,hpl]at hc
 |buildSlice ty n ps=>
  simp only[bL,ho]at hc
  cases hE:jV P ty with
  |none=>simp[hE]at hc
  |some e=>
   cases hS:bm P e with
   |none=>simp[hE,hS]at hc
   |some k=>
    cases hZ:dy P e with
    |none=>simp[hE,hS,hZ]at hc
    |some z=>
     by_cases h0:k=0\/n*k>2^24\/jF k z=false
     ·simp[hE,hS,hZ,h0]at hc
     ·simp only[not_or,xu]at h0;obtain⟨hk0,hnk,hzo⟩:=h0
      have hc2:ao=.lit k (List.replicate n z) (ps.toList.map fun q=>(q.1,ay q.2)):=by
       simp only[hE,hS,hZ,pI,jb]at hc;rw[if_neg (by simp only[not_or,xu];exact⟨hk0,hnk,hzo⟩)]at hc;simp only[al]at hc;exact hc.symm
      subst hc2;simp only[aA]
      split
      ·rename_i ps' h' hp
       split
       ·rename_i es hf
        split
        ·rename_i hok;exact aaN H ho (zy hE) hS (by omega) hZ hzo (by omega) he hp hf hok
        ·trivial
       ·trivial
      ·trivial
 |insert ty m k x=>exact Ma H he (Or.inr ho) hc
 |load ty x=>
  simp only[bL,ho]at hc
  cases hA:fB P ty with
  |none=>simp[hA]at hc
  |some agg=>
   cases hS:bm P ty with
   |none=>simp[hA,hS]at hc
   |some sz=>
    simp[hA,hS]at hc;subst hc;simp only[aA]
    split
    ·rename_i v hv;exact Y7 H ho hA hS (he x) hv
    ·trivial
 |store ty p x=>
  simp only[bL,ho]at hc
  cases hS:bm P ty with
  |none=>simp[hS]at hc
  |some sz=>
   simp[hS]at hc;subst hc;simp only[aA]
   split
   ·rename_i h' hs;exact Ym H ho hS (he p) (he x) hs
   ·trivial
 |nilCheck x=>
  simp only[bL,ho,al]at hc;subst hc;have hx:=he x;simp only[aA]
  split
  ·rename_i hv;rw[hv]at hx;exact vS H ho hx trivial
  ·rename_i hv;rw[hv]at hx;exact vS H ho hx trivial
  ·rename_i hv;rw[hv]at hx;exact vS H ho hx trivial
  ·rename_i hv;rw[hv]at hx;exact vS H ho hx trivial
  ·rename_i hv;rw[hv]at hx;exact vS H ho hx trivial
  ·rename_i hv
   split
   ·rename_i hcm;rw[hv]at hx;exact VI H ho hcm hx
   ·trivial
  ·trivial
 |binOp op ty x y ty'=>exact VM H he ho hc
 |unOp op ty x=>
  have hx:=he x;simp only[bL,ho]at hc
  cases op<;>simp only[al,reduceCtorEq]at hc
  all_goals
   subst hc;simp only[aA]
   split
  ·rename_i hv;rw[hv]at hx;exact aaT H ho (dC hx)
  ·trivial
  ·rename_i hv;rw[hv]at hx;exact Xu H ho (dC hx)
  ·trivial
  ·rename_i hv;rw[hv]at hx;exact aa5 H ho (kD hx)
  ·trivial
 |convert s d x=>exact Ug H he ho hc
 |makeInterface ty x=>
  simp only[bL,ho]at hc
  split at hc
  ·simp at hc
  ·simp at hc
  ·rename_i d hd hd';simp only[al]at hc;subst hc
   cases hu:P.underlying ty with
   |none=>exact absurd hu hd'
   |some d=>exact UF H ho hu (fun ms hms=>hd ms (by rw[hu,hms])) (he x)
 |makeFunc f xs ys=>
  simp only[bL,ho,al]at hc;subst hc;exact VZ H ho he
 |makeMap ty r=>
  cases r with
  |some r=>simp[bL,ho]at hc
  |none=>
   simp only[bL,ho]at hc
   split at hc
   ·simp only[al]at hc;subst hc;exact Xw H ho
   ·simp at hc
 |makeSlice ty x y=>
  simp only[bL,ho]at hc
  cases hE:jV P ty with
  |none=>simp[hE]at hc
  |some e=>
   cases hS:bm P e with
   |none=>simp[hE,hS]at hc
   |some k=>
    cases hZ:dy P e with
    |none=>simp[hE,hS,hZ]at hc
    |some z=>
     cases hB:kJ P e with
     |none=>
      simp[hE,hS,hZ,hB]at hc
     |some b=>
      by_cases h0:k=0\/jF k z=false
      ·simp[hE,hS,hZ,h0]at hc
      ·have hc2:ao=.mkSlice k e b z (ay x) (ay y):=by
        simp only[hE,hS,hZ,hB,pI,jb]at hc;rw[if_neg h0]at hc;simp only[al]at hc;exact hc.symm
       simp only[not_or,xu]at h0;obtain⟨hk0,hzo⟩:=h0;obtain⟨hz1,hz2,hz3⟩:=Ev hzo;subst hc2;have hx:=he x;have hy:=he y;simp only[aA]
       split
       ·rename_i i n j c hn hm;rw[hn]at hx;rw[hm]at hy
        split
        ·rename_i hcc;obtain⟨h1,rfl,h3,h4⟩:=hcc;exact UG H ho (zy hE) hS (by omega) hB hZ hz1 hz2 hz3 (dC hx) (dC hy) h1 h4 h3 e
        ·trivial
       ·trivial
 |slice ty x lo hi mx=>exact W8 H he ho hc
 |fieldAddr ty x i=>exact JS H he (Or.inl ho) hc
 |field ty x i=>exact JS H he (Or.inr ho) hc
 |indexAddr ty x i=>exact Kc H he (Or.inl ho) hc
 |index ty x i=>exact Kc H he (Or.inr ho) hc
 |lookup ty x i ok=>exact UU H he ho hc
 |mapUpdate ty m k x=>exact Ma H he (Or.inl ho) hc
 |range ty x=>
  simp only[bL,ho]at hc
  split at hc
  ·rename_i hu;simp only[al]at hc;subst hc;have hx:=he x;simp only[aA]
   split
   ·rename_i s hs;rw[hs]at hx;exact Yw H ho hu (il hx)
   ·trivial
  ·simp at hc
 |next x isStr=>
  cases isStr
  ·simp[bL,ho]at hc
  ·simp only[bL,ho,al]at hc;subst hc;have hx:=he x;simp only[aA]
   split
   ·rename_i i hv;rw[hv]at hx
    split
    ·rename_i s pos hi;have:=ZX H ho hx hi
     split
     ·rename_i hlt;exact this.1 hlt
     ·rename_i hlt;exact this.2 hlt
    ·trivial
   ·trivial
 |typeAssert x ty' ty ok=>
  simp only[bL,ho]at hc
  split at hc
  ·simp at hc
  ·simp at hc
  ·rename_i hd hd'
   cases hZ:dy P ty with
   |none=>simp[hZ]at hc
   |some z=>
    simp[hZ]at hc;subst hc
    cases hu:P.underlying ty with
    |none=>exact absurd hu hd'
    |some d=>
     have hne:∀ms,d≠.interface ms:=fun ms hms=>hd ms (by rw[hu,hms])
     have hx:=he x;simp only[aA]
     split
     ·rename_i u v hv;rw[hv]at hx
      split
      ·rename_i huv;exact C6 H ho hu hne hZ hx (Or.inl ⟨u,v,rfl,Or.inl ⟨huv,rfl⟩⟩)
      ·rename_i huv
       split
       ·rename_i hok;exact C6 H ho hu hne hZ hx (Or.inl ⟨u,v,rfl,Or.inr ⟨huv,hok,rfl⟩⟩)
       ·trivial
     ·rename_i hv;rw[hv]at hx
      split
      ·rename_i hok;exact C6 H ho hu hne hZ hx (Or.inr ⟨rfl,hok,rfl⟩)
      ·trivial
     ·trivial
 |extract x i=>
  simp only[bL,ho,al]at hc;subst hc;have hx:=he x;simp only[aA]
  split
  ·rename_i vs hv;rw[hv]at hx
   split
   ·rename_i v hi;exact Vn H ho hx hi
   ·trivial
  ·trivial
 |call c=>
  simp only[bL,ho]at hc;obtain⟨callee,xs,ts⟩:=c
  cases callee with
  |value f=>
   simp only[lN,al]at hc;subst hc;exact U8 H he ho
  |invoke x name=>
   simp only[lN,al]at hc;subst hc;exact Tv H he ho
  |builtin b=>exact T1 H he ho rfl hc
 |defer c=>
  simp only[bL,ho]at hc;obtain⟨callee,xs,ts⟩:=c
  cases callee with
  |value f=>
   simp only[al]at hc;subst hc;have hf:=he f;have hxs:=E4 he xs;simp only[aA]
   split
   ·rename_i n fs cs hv;rw[hv]at hf;simp only[V]at hf;obtain⟨us,vs,hfe,h1,h2⟩:=hf;refine⟨{target:=.fn (.func n) vs.toArray,args:=us.toArray++xs.map a.eval},?_,vs.toArray,rfl,?_⟩
    ·simp[execOp,ho,resolve,hfe,Deferred.ofValue]
    ·have:=jN (jN h1 hxs) h2;simpa using this
   ·trivial
  |invoke x name=>simp at hc
  |builtin b=>simp at hc
 |panic x=>
  simp only[bL,ho,al]at hc;subst hc;have hx:=he x;simp only[aA]
  split
  ·rename_i ty v hv;rw[hv]at hx;refine⟨a.eval x,?_,hx⟩;simp only[V]at hx;obtain⟨y,hxe,_⟩:=hx;simp[execOp,ho,hxe,Instr.panic]
  ·trivial
 |_=>simp[bL,ho]at hc
end
section
variable{P:Program}{w w':World}{cs:List Frame}{fn:FuncId}{tmps:Array Value}{k:List Item}{ds:List Deferred}{kd:CallKind}{ro:Option Nat}
def aF(fn:FuncId)(tmps:Array Value)(todo:List Item)(ds:List Deferred)(kd:CallKind)(ro:Option Nat)(md:FrameMode:=.run):Frame:=
 {fn,tmps,todo,defers:=ds,mode:=md,kind:=kd,roundOf:=ro}
theorem Zs:step P (lone (aF fn tmps (.code .skip::k) ds kd ro) cs w)=.next (lone (aF fn tmps k ds kd ro) cs w):=
 step_lone_go (by simp[stepG,stepG.exec,aF])
theorem Yf{l:Nat}:step P (lone (aF fn tmps (.code (.label l)::k) ds kd ro) cs w)=.next (lone (aF fn tmps k ds kd ro) cs w):=
 step_lone_go (by simp[stepG,stepG.exec,aF])
theorem VA{id:Nat}:step P (lone (aF fn tmps (.inBlock id::k) ds kd ro) cs w)=.next (lone (aF fn tmps k ds kd ro) cs w):=
 step_lone_go (by simp[stepG,stepG.exec,aF])
theorem aaG{x y:Code}:step P (lone (aF fn tmps (.code (.seq x y)::k) ds kd ro) cs w)=.next (lone (aF fn tmps (.code x::.code y::k) ds kd ro) cs w):=
 step_lone_go (by simp[stepG,stepG.exec,aF])
theorem Ll{todo:List Item}{md:FrameMode}:(aF fn tmps todo ds kd ro md).eval=(⟨tmps,ds⟩:Act).eval:=by
 funext x;cases x<;>rfl
theorem Y9{c:Operand}{x y:Code}{b:Bool}(h:(⟨tmps,ds⟩:Act).eval c=.bool b):
 step P (lone (aF fn tmps (.code (.cond c x y)::k) ds kd ro) cs w)=.next (lone (aF fn tmps (.code (if b then x else y)::k) ds kd ro) cs w):=
 step_lone_go (by
  have:=congrFun (Ll (fn:=fn) (tmps:=tmps) (ds:=ds) (kd:=kd) (ro:=ro) (todo:=.code (.cond c x y)::k) (md:=.run)) c;simp only[aF]at this
  simp[stepG,stepG.exec,aF,this,h])
theorem YN{id:Nat}{c:Code}:step P (lone (aF fn tmps (.code (.block id c)::k) ds kd ro) cs w)=.next (lone (aF fn tmps (.code c::.inBlock id::k) ds kd ro) cs w):=
 step_lone_go (by simp[stepG,stepG.exec,aF])
theorem aaf{c:Code}:step P (lone (aF fn tmps (.code (.loop c)::k) ds kd ro) cs w)=.next (lone (aF fn tmps (.code c::.inLoop c::k) ds kd ro) cs w):=
 step_lone_go (by simp[stepG,stepG.exec,aF])
theorem WA{c:Code}:step P (lone (aF fn tmps (.inLoop c::k) ds kd ro) cs w)=.next (lone (aF fn tmps (.code c::.inLoop c::k) ds kd ro) cs w):=
 step_lone_go (by simp[stepG,stepG.exec,aF])
theorem ZM{id:Nat}{k':List Item}(h:exitTo id k=some k'):step P (lone (aF fn tmps (.code (.exit id)::k) ds kd ro) cs w)=.next (lone (aF fn tmps k' ds kd ro) cs w):=
 step_lone_go (by simp[stepG,stepG.exec,aF,h])
theorem aaV:step P (lone (aF fn tmps (.code .ret::k) ds kd none) cs w)=.next (lone (aF fn tmps (.code .ret::k) ds kd none .returning) cs w):=
 step_lone_go (by simp[stepG,stepG.exec,aF])
theorem abo:step P (lone (aF fn tmps [] ds kd none) cs w)=.next (lone (aF fn tmps [] ds kd none .returning) cs w):=
 step_lone_go (by simp[stepG,stepG.exec,aF])
theorem Wi{id:Nat}{ops:Array Oper}:step P (lone (aF fn tmps (.code (.region id ops false)::k) ds kd ro) cs w)=.next (lone (aF fn tmps (.inRegion ops (List.range ops.size)::k) ds kd ro) cs w):=
 step_lone_go (by simp[stepG,stepG.exec,aF])
theorem Es{id:Nat}{ops:Array Oper}:step P (lone (aF fn tmps (.code (.region id ops true)::k) ds kd ro) cs w)=
 .next (lone (aF fn tmps (.inRegion ops (Region.schedule (P.follows .mixedOrders) ops (w.tape w.drawn (.order fn id)))::k) ds kd ro) cs w.drew):=
 step_lone_go (by simp[stepG,stepG.exec,aF,choose,Sem.run,Question.forced,Question.cut])
theorem Te{ops:Array Oper}:step P (lone (aF fn tmps (.inRegion ops []::k) ds kd ro) cs w)=.next (lone (aF fn tmps k ds kd ro) cs w):=
 step_lone_go (by simp[stepG,stepG.exec,aF])
def kS(tmps:Array Value)(d:Option Tmp)(v:Value):Array Value:=
 match d with
 |some d=>tmps.setIfInBounds d v
 |none=>tmps
theorem vB{ops:Array Oper}{i:Nat}{rest:List Nat}(v:Value):(aF fn tmps (.inRegion ops (i::rest)::k) ds kd ro).finish v=aF fn (kS tmps ((ops[i]?).bind (·.dst)) v) (.inRegion ops rest::k) ds kd ro:=by
 simp only[Frame.finish,aF,kS]
 cases(ops[i]?).bind (·.dst)<;>rfl
theorem V_{ops:Array Oper}{i:Nat}{rest:List Nat}{o:Oper}(ho:ops[i]? =some o)(h:Region.wanted o (yielded ops tmps)=false):
 step P (lone (aF fn tmps (.inRegion ops (i::rest)::k) ds kd ro) cs w)=.next (lone (aF fn (kS tmps o.dst undef) (.inRegion ops rest::k) ds kd ro) cs w):=by
 have:=vB (fn:=fn) (tmps:=tmps) (k:=k) (ds:=ds) (kd:=kd) (ro:=ro) (ops:=ops) (i:=i) (rest:=rest) undef;rw[ho,jb]at this;rw[<-this];refine step_lone_go ?_;simp only[aF]at*;simp[stepG,stepG.exec,ho,h]
theorem rQ{ops:Array Oper}{i:Nat}{rest:List Nat}{o:Oper}(ho:ops[i]? =some o)(hw:Region.wanted o (yielded ops tmps)=true)(hd:ro=none\/∀c,o.op≠.defer c):
 stepG P true {frame:=aF fn tmps (.inRegion ops (i::rest)::k) ds kd ro,callers:=cs,status:=.running,dying:=none} w=
  stepG.apply P true (aF fn tmps (.inRegion ops (i::rest)::k) ds kd ro) cs none (execOp (⟨tmps,ds⟩:Act).eval o) w:=by
 have he:=Ll (fn:=fn) (tmps:=tmps) (ds:=ds) (kd:=kd) (ro:=ro) (todo:=.inRegion ops (i::rest)::k) (md:=.run);simp only[aF]at he
 cases ro with
 |none=>simp[stepG,stepG.exec,stepG.oper,Frame.oper?,aF,ho,hw,he]
 |some l=>
  have hd:=hd.resolve_left (by simp);simp only[stepG,stepG.exec,stepG.oper,Frame.oper?,aF,ho,hw,eb,gZ,bY]
  cases hop:o.op<;>simp only[he]
  exact absurd hop (hd _)
theorem DX{ops:Array Oper}{i:Nat}{rest:List Nat}{o:Oper}(ho:ops[i]? =some o)(hw:Region.wanted o (yielded ops tmps)=true)(hd:ro=none\/∀c,o.op≠.defer c){v:Value}
 (hr:(execOp (⟨tmps,ds⟩:Act).eval o).run P w=.ok (.value v) w'):
 step P (lone (aF fn tmps (.inRegion ops (i::rest)::k) ds kd ro) cs w)=.next (lone (aF fn (kS tmps o.dst v) (.inRegion ops rest::k) ds kd ro) cs w'):=by
 have:=vB (fn:=fn) (tmps:=tmps) (k:=k) (ds:=ds) (kd:=kd) (ro:=ro) (ops:=ops) (i:=i) (rest:=rest) v;rw[ho,jb]at this;rw[<-this];refine step_lone_go ?_;rw[rQ ho hw hd];simp[stepG.apply,hr]
theorem U7{ops:Array Oper}{i:Nat}{rest:List Nat}{o:Oper}(ho:ops[i]? =some o)(hw:Region.wanted o (yielded ops tmps)=true)(hd:ro=none\/∀c,o.op≠.defer c)
 (hr:(execOp (⟨tmps,ds⟩:Act).eval o).run P w=.ok .skip w'):
 step P (lone (aF fn tmps (.inRegion ops (i::rest)::k) ds kd ro) cs w)=.next (lone (aF fn (kS tmps o.dst undef) (.inRegion ops rest::k) ds kd ro) cs w'):=by
 have:=vB (fn:=fn) (tmps:=tmps) (k:=k) (ds:=ds) (kd:=kd) (ro:=ro) (ops:=ops) (i:=i) (rest:=rest) undef;rw[ho,jb]at this;rw[<-this];refine step_lone_go ?_;rw[rQ ho hw hd];simp[stepG.apply,hr]
theorem X9{ops:Array Oper}{i:Nat}{rest:List Nat}{o:Oper}(ho:ops[i]? =some o)(hw:Region.wanted o (yielded ops tmps)=true)(hd:ro=none\/∀c,o.op≠.defer c){f:FuncId}{args:Array Value}
 (hr:(execOp (⟨tmps,ds⟩:Act).eval o).run P w=.ok (.enter f args) w'):
 step P (lone (aF fn tmps (.inRegion ops (i::rest)::k) ds kd ro) cs w)=.next (lone (Frame.enter P f args .normal) (aF fn tmps (.inRegion ops (i::rest)::k) ds kd ro::cs) w'):=by
 refine step_lone_go ?_;rw[rQ ho hw hd];simp[stepG.apply,hr,aF]
theorem YE{ops:Array Oper}{i:Nat}{rest:List Nat}{o:Oper}(ho:ops[i]? =some o)(hw:Region.wanted o (yielded ops tmps)=true)(hd:ro=none\/∀c,o.op≠.defer c){l:Nat}{f:FuncId}{ts:Array Value}{x y:Code}
 (hr:(execOp (⟨tmps,ds⟩:Act).eval o).run P w=.ok (.round l f ts x y) w'):
 step P (lone (aF fn tmps (.inRegion ops (i::rest)::k) ds kd ro) cs w)=.next (lone (aF f ts [.code x,.beginRound,.code y] [] .normal (some l)) (aF fn tmps (.inRegion ops (i::rest)::k) ds kd ro::cs) w'):=by
 refine step_lone_go ?_;rw[rQ ho hw hd];simp[stepG.apply,hr,aF,Frame.round]
theorem XE{ops:Array Oper}{i:Nat}{rest:List Nat}{o:Oper}(ho:ops[i]? =some o)(hw:Region.wanted o (yielded ops tmps)=true)(hd:ro=none\/∀c,o.op≠.defer c){v:Value}
 (hr:(execOp (⟨tmps,ds⟩:Act).eval o).run P w=.halt (.panic v) w'):
 step P (lone (aF fn tmps (.inRegion ops (i::rest)::k) ds kd ro) cs w)=.next (lone (aF fn tmps (.inRegion ops (i::rest)::k) ds kd ro (.panicking [{v,recovered:=false}])) cs w'):=by
 refine step_lone_go ?_;rw[rQ ho hw hd];simp[stepG.apply,hr,aF,Frame.raise]
theorem Lw{ops:Array Oper}{i:Nat}{rest:List Nat}{o:Oper}(ho:ops[i]? =some o)(hw:Region.wanted o (yielded ops tmps)=true){d:Deferred}
 (hr:(execOp (⟨tmps,ds⟩:Act).eval o).run P w=.ok (.defer d) w'):
 step P (lone (aF fn tmps (.inRegion ops (i::rest)::k) ds kd none) cs w)=.next (lone (aF fn (kS tmps o.dst undef) (.inRegion ops rest::k) (d::ds) kd none) cs w'):=by
 have:=vB (fn:=fn) (tmps:=tmps) (k:=k) (ds:=d::ds) (kd:=kd) (ro:=none) (ops:=ops) (i:=i) (rest:=rest) undef;rw[ho,jb]at this;rw[<-this];refine step_lone_go ?_;rw[rQ ho hw (Or.inl rfl)];simp[stepG.apply,hr,aF]
theorem De{ops:Array Oper}{i:Nat}{rest:List Nat}{o:Oper}(ho:ops[i]? =some o)(hw:Region.wanted o (yielded ops tmps)=true)
 (hr:(execOp (⟨tmps,ds⟩:Act).eval o).run P w=.ok .recover w'){v:Value}{cs':List Frame}
 (ht:tryRecover (aF fn tmps (.inRegion ops (i::rest)::k) ds kd none) cs=some (v,cs')\/(tryRecover (aF fn tmps (.inRegion ops (i::rest)::k) ds kd none) cs=none/\v=.nilIface/\cs'=cs)):
 step P (lone (aF fn tmps (.inRegion ops (i::rest)::k) ds kd none) cs w)=.next (lone (aF fn (kS tmps o.dst v) (.inRegion ops rest::k) ds kd none) cs' w'):=by
 have:=vB (fn:=fn) (tmps:=tmps) (k:=k) (ds:=ds) (kd:=kd) (ro:=none) (ops:=ops) (i:=i) (rest:=rest) v;rw[ho,jb]at this;rw[<-this];refine step_lone_go ?_;rw[rQ ho hw (Or.inl rfl)]
 rcases ht with ht|⟨ht,rfl,rfl⟩
 ·have hro:(aF fn tmps (.inRegion ops (i::rest)::k) ds kd none).roundOf=none:=rfl;simp[stepG.apply,hr,hro,ht]
 ·have hro:(aF fn tmps (.inRegion ops (i::rest)::k) ds kd none).roundOf=none:=rfl;simp[stepG.apply,hr,hro,ht]
theorem K0{f:Operand}{ps:Array Tmp}{x y:Code}{l:Nat}{mark:List Deferred}{w1:World}{g:FuncId}{args:Array Value}
 (h1:(Instr.enterLoop fn tmps ps x y ro).run P w=.ok (l,mark) w1)
 (h2:((do let d<-resolve (⟨tmps,ds⟩:Act).eval {callee:=.value f,args:=#[.const (.func (.yield l) #[] #[])],argTypes:=#[]} 0;invoke d.target d.args):Sem Next).run P w1=.ok (.enter g args) w'):
 step P (lone (aF fn tmps (.code (.rangeFunc f ps x y)::k) ds kd ro) cs w)=.next (lone (Frame.enter P g args .normal) (aF fn tmps (.inRangeFunc l::k) (mark++ds) kd ro::cs) w'):=by
 have he:({fn:=fn,tmps:=tmps,todo:=.inRangeFunc l::k,defers:=mark++ds,mode:=.run,kind:=kd,roundOf:=ro}:Frame).eval=(⟨tmps,ds⟩:Act).eval:=by
  funext z;cases z<;>rfl
 refine step_lone_go ?_;simp only[stepG,stepG.exec,aF,Sem.runT_eq,h1,GStep.bare_after];simp only[stepG.apply,Sem.runT_eq,bY,GStep.bare_after,he,h2];rfl
theorem SE{b:Nat}(hr:(Instr.beginRound b).run P w=.ok () w'):step P (lone (aF fn tmps (.beginRound::k) ds kd (some b)) cs w)=.next (lone (aF fn tmps k ds kd (some b)) cs w'):=by
 refine step_lone_go ?_;simp[stepG,stepG.exec,aF,stepG.apply,hr,Frame.finish]
theorem TU{l:Nat}{j:Option Code}(hr:(Instr.endLoop l).run P w=.ok j w'):step P (lone (aF fn tmps (.endRangeFunc l::k) ds kd ro) cs w)=.next (lone (aF fn tmps ((j.map Item.code).toList++k) ds kd ro) cs w'):=by
 refine step_lone_go ?_;simp[stepG,stepG.exec,aF,hr]
theorem SL{b:Nat}{j:Option Code}{todo:List Item}(hj:(todo=[]/\j=none)\/(∃k,todo=.code .ret::k/\j=some .ret)\/(∃id k,todo=.code (.exit id)::k/\exitTo id k=none/\j=some (.exit id))){c:Frame}{v:Value}
 (hr:(Instr.endRound b j).run P w=.ok v w'):step P (lone (aF fn tmps todo ds .normal (some b)) (c::cs) w)=.next (lone (c.finish v) cs w'):=by
 refine step_lone_go ?_
 rcases hj with⟨rfl,rfl⟩|⟨k,rfl,rfl⟩|⟨id,k,rfl,he,rfl⟩
 ·simp[stepG,stepG.exec,aF,hr,doReturn]
 ·simp[stepG,stepG.exec,aF,hr,doReturn]
 ·simp[stepG,stepG.exec,aF,hr,doReturn,he]
theorem ZY{b:Nat}{md:FrameMode}(hmd:md≠.run){todo:List Item}{calls:List Deferred}(hr:(Instr.takeDeferred b).run P w=.ok calls w'):
 step P (lone (aF fn tmps todo ({target:=.collected b,args:=#[]}::ds) kd ro md) cs w)=.next (lone (aF fn tmps todo (calls++ds) kd ro md) cs w'):=by
 refine step_lone_go ?_
 cases md<;>first
  |exact absurd rfl hmd
  |simp[stepG,aF,unwind,hr]
theorem ZT{md:FrameMode}(hmd:md≠.run){todo:List Item}{d:Deferred}(hn:d.target≠.nil)(hc:∀b,d.target≠.collected b){f:FuncId}{args:Array Value}(hr:(invoke d.target d.args).run P w=.ok (.enter f args) w'):
 step P (lone (aF fn tmps todo (d::ds) kd ro md) cs w)=.next (lone (Frame.enter P f args .deferred) (aF fn tmps todo ds kd ro md::cs) w'):=by
 refine step_lone_go ?_;obtain⟨target,dargs⟩:=d;simp only at hn hc hr
 have hnn:((match target with|.nil=>true|_=>false):Bool)=false:=by cases target<;>first|rfl|exact absurd rfl hn
 cases md<;>first
  |exact absurd rfl hmd
  |(cases target<;>first
   |exact absurd rfl hn
   |exact absurd rfl (hc _)
   |simp[stepG,aF,unwind,callDeferred,hr])
theorem VD{todo:List Item}{F:Func}(hF:P.funcs[fn]? =some F){v:Value}(hr:(results F tmps).run P w=.ok v w){c:Frame}:
 step P (lone (aF fn tmps todo [] .normal ro .returning) (c::cs) w)=.next (lone (c.finish v) cs w):=by
 refine step_lone_go ?_;simp[stepG,aF,unwind,hF,hr,doReturn]
theorem DK{todo:List Item}{F:Func}(hF:P.funcs[fn]? =some F){v:Value}(hr:(results F tmps).run P w=.ok v w){c c':Frame}
 (hc:(∃u,c.mode=.panicking [{v:=u,recovered:=true}]/\c'={c with mode:=.returning})\/((c.mode=.returning\/∃u,c.mode=.panicking [{v:=u,recovered:=false}])/\c'=c)):
 step P (lone (aF fn tmps todo [] .deferred ro .returning) (c::cs) w)=.next (lone c' cs w):=by
 refine step_lone_go ?_
 rcases hc with⟨u,hm,rfl⟩|⟨hm|⟨u,hm⟩,rfl⟩
 ·simp[stepG,aF,unwind,hF,hr,doReturn,hm]
 ·simp[stepG,aF,unwind,hF,hr,doReturn,hm]
 ·simp[stepG,aF,unwind,hF,hr,doReturn,hm]
theorem Xe{todo:List Item}{F:Func}(hF:P.funcs[fn]? =some F){ch:List PanicEntry}{c:Frame}:
 step P (lone (aF fn tmps todo [] kd ro (.panicking ch)) (c::cs) w)=.next (lone (c.raise ch) cs w):=by
 refine step_lone_go ?_;simp[stepG,aF,unwind,Frame.catches,hF]
end
def FF(P:Program)(ops:Array Oper)(gs:List AG)(todo:List Nat):Prop:=F2 (fun(g:AG) (i:Nat)=>∃o,ops[i]? =some o/\nb P ops.toList o=some g) gs todo
def LR(g:G)(h:List Ob)(l b:Nat):Prop:=EY h l/\∃sz,g.ρ l=some (b,sz,0)
def IR(P:Program)(g:G)(h:List Ob):List It->List Item->Prop
 |[],[]=>True
 |.code a::k,.code c::k'=>CR P c a/\IR P g h k k'
 |.inBlock i _::k,.inBlock j::k'=>i=j/\IR P g h k k'
 |.inLoop _ a::k,.inLoop c::k'=>CR P c a/\IR P g h k k'
 |.ops gs::k,.inRegion ops todo::k'=>FF P ops gs todo/\IR P g h k k'
 |.iE l::k,.inRangeFunc b::k'=>LR g h l b/\IR P g h k k'
 |.tz l::k,.endRangeFunc b::k'=>LR g h l b/\IR P g h k k'
 |.beginRound::k,.beginRound::k'=>IR P g h k k'
 |_,_=>False
def MR(g:G)(h:List Ob):Md->FrameMode->Prop
 |.run,m=>m=.run
 |.ret,m=>m=.returning
 |.cM v rc,m=>∃u,m=.panicking [{v:=u,recovered:=rc}]/\V g h v u
def KR(g:G)(h:List Ob):FK->CallKind->Option Nat->Prop
 |.norm,k,ro=>k=.normal/\ro=none
 |.bB,k,ro=>k=.deferred/\ro=none
 |.round l,k,ro=>k=.normal/\∃b,ro=some b/\LR g h l b
structure jY(P:Program)(g:G)(h:List Ob)(f:Fr)(fr:Frame):Prop where
 md:MR g h f.md fr.mode
 fn:fr.fn=f.fn
 its:IR P g h f.its fr.todo
 t:VL g h f.t fr.tmps.toList
 ds:F2 (DR g h) f.ds fr.defers
 kind:KR g h f.kind fr.kind fr.roundOf
 is:∃fn,P.funcs[f.fn]? =some fn
def nY(n:Nat):FK->Bool
 |.round l=>decide (l<n)
 |_=>true
def qx(n:Nat):Md->Bool
 |.cM v _=>aJ n v
 |_=>true
def j3(n:Nat)(f:Fr):Bool:=aO n f.t&&jw n f.ds&&fE n f.its&&nY n f.kind&&qx n f.md
def SR(P:Program)(g:G)(h:List Ob)(f0:FuncId):Nat->List Fr->List Frame->Prop
 |_,[],fs=>fs=[]
 |n,f::up,fs=>∃fr fs',fs=fr::fs'/\jY P g h f fr/\j3 n f=true/\f.base<=n/\(up=[]->f.fn=f0/\f.kind=.norm)/\SR P g h f0 f.base up fs'
def bn(P:Program)(Γ:Nat->Option AV)(N:Env)(g0:G)(f0:FuncId)(cs0:List Frame):aw->Machine->Prop
 |.fr f up h,m=>∃g w fr fs,m=lone fr (fs++cs0) w/\Inv P Γ N g h w/\(∀b o v,g0.M b o=some v->g.M b o=some v)/\SR P g h f0 h.length (f::up) (fr::fs)
 |.cl c args up h,m=>∃g w vs fs,m=lone (Frame.enter P c vs .normal) (fs++cs0) w/\Inv P Γ N g h w/\(∀b o v,g0.M b o=some v->g.M b o=some v)/\VL g h args vs.toList/\aD P c=true/\
  SR P g h f0 h.length up fs/\(up=[]->c=f0)
 |.back (c::up) v h,m=>∃g w u fr fs,m=lone (fr.finish u) (fs++cs0) w/\Inv P Γ N g h w/\(∀b o v,g0.M b o=some v->g.M b o=some v)/\V g h v u/\SR P g h f0 h.length (c::up) (fr::fs)
 |.back [] v h,m=>∃g w u fr,m=lone fr cs0 w/\Inv P Γ N g h w/\(∀b o v,g0.M b o=some v->g.M b o=some v)/\V g h v u/\fr.fn=f0/\fr.leaving P w (.returned u)
 |.die (c::up) v h,m=>∃g w u fr fs,m=lone (fr.raise [{v:=u,recovered:=false}]) (fs++cs0) w/\Inv P Γ N g h w/\(∀b o v,g0.M b o=some v->g.M b o=some v)/\V g h v u/\SR P g h f0 h.length (c::up) (fr::fs)
 |.die [] v h,m=>∃g w u fr,m=lone fr cs0 w/\Inv P Γ N g h w/\(∀b o v,g0.M b o=some v->g.M b o=some v)/\V g h v u/\fr.fn=f0/\fr.leaving P w (.panicked [{v:=u,recovered:=false}])
 |.bad,_=>True
section
variable{P:Program}{Γ:Nat->Option AV}{N:Env}{g g':G}{h h':List Ob}{w:World}
theorem EN{n:Nat}(x:Ext n g h g' h'){l b:Nat}(hl:l<n)(h1:LR g h l b):LR g' h' l b:=by
 obtain⟨⟨st,j,fn,t,ps,p,q,hi⟩,sz,hρ⟩:=h1;obtain⟨⟨st',j',h1⟩,h2⟩:=x.loop l st j fn t ps p q hl hi;exact⟨⟨_,_,_,_,_,_,_,h1⟩,sz,h2 _ hρ⟩
theorem jP{n:Nat}(x:Ext n g h g' h'):∀{k:List It}{k':List Item},fE n k=true->IR P g h k k'->IR P g' h' k k'
 |[],[],_,_=>trivial
 |[],_::_,_,h1=>by simp only[IR]at h1
 |it::k,[],_,h1=>by cases it<;>simp only[IR]at h1
 |it::k,im::k',hb,h1=>by
  cases it<;>cases im<;>simp only[IR]at h1⊢
  ·exact⟨h1.1,jP x (by simpa only [fE]using hb) h1.2⟩
  ·exact⟨h1.1,jP x (by simpa only [fE]using hb) h1.2⟩
  ·exact⟨h1.1,jP x (by simpa only [fE]using hb) h1.2⟩
  ·exact⟨h1.1,jP x (by simpa only [fE]using hb) h1.2⟩
  ·simp only[fE,aC,a8]at hb;exact⟨EN x hb.1 h1.1,jP x hb.2 h1.2⟩
  ·simp only[fE,aC,a8]at hb;exact⟨EN x hb.1 h1.1,jP x hb.2 h1.2⟩
  ·exact jP x (by simpa only [fE]using hb) h1
theorem EM{n:Nat}(x:Ext n g h g' h'){d:di}{d':Deferred}(hb:(match d with|.call _ args=>aO n args|.mark i=>decide (i<n))=true)(h1:DR g h d d'):DR g' h' d d':=by
 cases d with
 |call f args=>
  obtain⟨cap,h2,h3⟩:=h1;exact⟨cap,h2,b_ x hb h3⟩
 |mark i=>
  obtain⟨⟨l,hi⟩,b,sz,hρ,h2⟩:=h1;simp only[a8]at hb;obtain⟨h3,h4⟩:=x.bB i l hb hi;exact⟨h3,b,sz,h4 _ hρ,h2⟩
theorem vT{n:Nat}(x:Ext n g h g' h'):∀{ds:List di}{ds':List Deferred},jw n ds=true->F2 (DR g h) ds ds'->F2 (DR g' h') ds ds'
 |_,_,_,.nil=>.nil
 |.call f args::ds,_,hb,.cons h1 h2=>by
  simp only[jw,aC]at hb;exact .cons (EM x hb.1 h1) (vT x hb.2 h2)
 |.mark i::ds,_,hb,.cons h1 h2=>by
  simp only[jw,aC]at hb;exact .cons (EM x hb.1 h1) (vT x hb.2 h2)
theorem MI{n:Nat}(x:Ext n g h g' h'){m:Md}{m':FrameMode}(hb:qx n m=true)(h1:MR g h m m'):MR g' h' m m':=by
 cases m with
 |run=>exact h1
 |ret=>exact h1
 |cM v rc=>obtain⟨u,h2,h3⟩:=h1;exact⟨u,h2,fo x hb h3⟩
theorem Et{n:Nat}(x:Ext n g h g' h'){k:FK}{c:CallKind}{ro:Option Nat}(hb:nY n k=true)(h1:KR g h k c ro):KR g' h' k c ro:=by
 cases k with
 |norm=>exact h1
 |bB=>exact h1
 |round l=>
  obtain⟨h2,b,h3,h4⟩:=h1;simp only[nY,a8]at hb;exact⟨h2,b,h3,EN x hb h4⟩
theorem zx{n:Nat}(x:Ext n g h g' h'){f:Fr}{fr:Frame}(hb:j3 n f=true)(h1:jY P g h f fr):jY P g' h' f fr:=by
 simp only[j3,aC]at hb;obtain⟨⟨⟨⟨b1,b2⟩,b3⟩,b4⟩,b5⟩:=hb;exact⟨MI x b5 h1.md,h1.fn,jP x b3 h1.its,b_ x b1 h1.t,vT x b2 h1.ds,Et x b4 h1.kind,h1.is⟩
theorem Dk{n m:Nat}(h:n<=m):∀{ds:List di},jw n ds=true->jw m ds=true
 |[],_=>rfl
 |.call _ _::ds,hb=>by simp only[jw,aC]at hb⊢;exact⟨p9 h hb.1,Dk h hb.2⟩
 |.mark _::ds,hb=>by simp only[jw,aC,a8]at hb⊢;exact⟨by omega,Dk h hb.2⟩
theorem Dq{n m:Nat}(h:n<=m):∀{k:List It},fE n k=true->fE m k=true
 |[],_=>rfl
 |it::k,hb=>by
  cases it<;>simp only[fE,aC,a8]at hb⊢<;>first
   |exact Dq h hb
   |exact⟨by omega,Dq h hb.2⟩
theorem Xh{n m:Nat}(h:n<=m){f:Fr}(hb:j3 n f=true):j3 m f=true:=by
 simp only[j3,aC]at hb⊢;obtain⟨⟨⟨⟨b1,b2⟩,b3⟩,b4⟩,b5⟩:=hb;refine⟨⟨⟨⟨p9 h b1,Dk h b2⟩,Dq h b3⟩,?_⟩,?_⟩
 ·cases hk:f.kind<;>simp only[hk,nY,a8]at b4⊢;omega
 ·cases hm:f.md<;>simp only[hm,qx]at b5⊢;exact vV h b5
theorem fJ{f0:FuncId}:∀{n m:Nat}{l:List Fr}{fs:List Frame},Ext n g h g' h'->n<=m->SR P g h f0 n l fs->SR P g' h' f0 m l fs
 |_,_,[],_,_,_,h1=>h1
 |n,m,f::up,fs,x,hnm,h1=>by
  obtain⟨fr,fs',h2,h3,h4,h5,h6,h7⟩:=h1;exact⟨fr,fs',h2,zx x h4 h3,Xh hnm h4,by omega,h6,fJ (x.mono h5) (aU _) h7⟩
theorem kE:∀{k:List It}{k':List Item},IR P g h k k'->fE h.length k=true
 |[],_,_=>rfl
 |it::k,[],h1=>by cases it<;>simp only[IR]at h1
 |it::k,im::k',h1=>by
  cases it<;>cases im<;>simp only[IR]at h1<;>simp only[fE]
  ·exact kE h1.2
  ·exact kE h1.2
  ·exact kE h1.2
  ·exact kE h1.2
  ·simp only[aC,a8];exact⟨bj h1.1.1.choose_spec.choose_spec.choose_spec.choose_spec.choose_spec.choose_spec.choose_spec,kE h1.2⟩
  ·simp only[aC,a8];exact⟨bj h1.1.1.choose_spec.choose_spec.choose_spec.choose_spec.choose_spec.choose_spec.choose_spec,kE h1.2⟩
  ·exact kE h1
theorem Ai:∀{ds:List di}{ds':List Deferred},F2 (DR g h) ds ds'->jw h.length ds=true
 |_,_,.nil=>rfl
 |_,_,.cons (a:=a) h1 h2=>by
  cases a<;>simp only[jw,aC,a8]
  ·obtain⟨_,_,h3⟩:=h1;exact⟨cV h3,Ai h2⟩
  ·obtain⟨⟨_,h3⟩,_⟩:=h1;exact⟨bj h3,Ai h2⟩
theorem oB{f:Fr}{fr:Frame}(h1:jY P g h f fr):j3 h.length f=true:=by
 simp only[j3,aC];refine⟨⟨⟨⟨cV h1.t,Ai h1.ds⟩,kE h1.its⟩,?_⟩,?_⟩
 ·have:=h1.kind
  cases hk:f.kind<;>simp only[hk,KR,nY,a8]at this⊢
  obtain⟨_,b,_,⟨_,_,_,_,_,_,_,h3⟩,_⟩:=this;exact bj h3
 ·have:=h1.md
  cases hm:f.md<;>simp only[hm,MR,qx]at this⊢
  obtain⟨u,_,h2⟩:=this;exact jU h2
theorem pW{id:Nat}:∀{k:List It}{k':List Item},IR P g h k k'->match nO id k with|some (q,_)=>∃q',exitTo id k'=some q'/\IR P g h q q'|none=>exitTo id k'=none
 |[],[],_=>rfl
 |[],_::_,h1=>by simp only[IR]at h1
 |it::k,[],h1=>by cases it<;>simp only[IR]at h1
 |it::k,im::k',h1=>by
  cases it<;>cases im<;>simp only[IR]at h1<;>simp only[nO,exitTo]
  ·exact pW h1.2
  ·rename_i i m j;obtain⟨rfl,h2⟩:=h1
   by_cases hij:i=id
   ·simp only[hij,bY,HL];exact⟨k',rfl,h2⟩
   ·have:(i==id)=false:=by simp[hij]
    simp only[hij,cE,this,dU];exact pW h2
  ·exact pW h1.2
  ·exact pW h1.2
  ·exact pW h1.2
  ·exact pW h1.2
  ·exact pW h1
theorem mL{t:List AV}{tmps:Array Value}(ht:VL g h t tmps.toList){d:Option Nat}{a:AV}{v:Value}(ha:V g h a v):VL g h (aW t d a) (kS tmps d v).toList:=by
 cases d with
 |none=>exact ht
 |some d=>simp only[aW,kS,HI];exact oN d ht ha
theorem xZ{ops:Array Oper}{o:Oper}{ag:AG}(hc:nb P ops.toList o=some ag){t:List AV}{tmps:Array Value}(ht:VL g h t tmps.toList){b:Bool}(hw:dn t ag.guard=some b):
 Region.wanted o (yielded ops tmps)=b/\bL P o=some ag.op/\ag.dst=o.dst:=by
 unfold nb at hc
 cases hg:Aq ops.toList o with
 |none=>simp[hg]at hc
 |some gd=>
  cases hcop:bL P o with
  |none=>simp[hg,hcop]at hc
  |some ao=>
   simp[hg,hcop]at hc;subst hc;refine⟨?_,rfl,rfl⟩;simp only at hw;unfold Aq at hg;unfold Region.wanted
   split at hg
   ·rename_i hgn;simp only[al]at hg;subst hg;simp only[dn,al]at hw;rw[hgn];exact hw
   ·rename_i j bb hgn
    split at hg
    ·rename_i d hd;simp only[al]at hg;subst hg;rw[hgn];simp only
     have hd':ops[j]?.bind (·.dst)=some d:=by simpa using hd
     have hv:=rK d ht;simp only[dn]at hw;unfold yielded;rw[hd'];simp only[jb]
     split at hw
     ·rename_i x hx;rw[hx]at hv;simp only[al]at hw;have hv2:=kD hv
      have hv3:tmps[d]? =some (.bool x):=by
       rw[bz]at hv2
       cases hq:tmps.toList[d]? with
       |none=>rw[hq]at hv2;simp[undef]at hv2
       |some q=>rw[hq]at hv2;simp at hv2;subst hv2;simpa using hq
      rw[hv3];simp only;rw[<-hw]
      cases x<;>cases bb<;>rfl
     ·rename_i hx;rw[hx]at hv;simp only[al]at hw;subst hw;simp only[V,VL]at hv;obtain⟨vs,hv2,rfl⟩:=hv
      have hv3:∀x,tmps[d]? ≠some (.bool x):=by
       intro x hx2;rw[bz]at hv2
       have:tmps.toList[d]? =some (.bool x):=by simpa using hx2
       rw[this]at hv2;simp at hv2
      split
      ·rename_i x hx2;exact absurd hx2 (hv3 x)
      ·rfl
     ·simp at hw
    ·simp at hg
end
theorem NK{α β:Type}{R:α->β->Prop}:∀{as:List α}{bs:List β},as.length=bs.length->(∀(i:Nat)(a:α)(b:β),as[i]? =some a->bs[i]? =some b->R a b)->F2 R as bs
 |[],[],_,_=>.nil
 |a::as,b::bs,hl,hr=>.cons (hr 0 a b rfl rfl) (NK (by simpa using hl) fun i a b ha hb=>hr (i+1) a b (by simpa using ha) (by simpa using hb))
 |[],_::_,hl,_=>by simp at hl
 |_::_,[],hl,_=>by simp at hl
theorem vM{α β:Type}{f:α->Option β}:∀{l:List α}{r:List β},l.mapM f=some r->r.length=l.length/\∀(i:Nat)(b:β),r[i]? =some b->∃a,l[i]? =some a/\f a=some b
 |[],r,h=>by simp at h;subst h;simp
 |a::l,r,h=>by
  rw[sy]at h
  cases ha:f a with
  |none=>simp[ha]at h
  |some b=>
   cases hl:l.mapM f with
   |none=>simp[ha,hl]at h
   |some bs=>
    simp[ha,hl]at h;subst h;obtain⟨h1,h2⟩:=vM hl;refine⟨by simp[h1],fun i c hc=>?_⟩
    cases i with
    |zero=>simp at hc;subst hc;exact⟨a,rfl,ha⟩
    |succ i=>simpa using h2 i c (by simpa using hc)
theorem aab{P:Program}{ops:Array Oper}{gs:List AG}(h:ops.toList.mapM (nb P ops.toList)=some gs):FF P ops gs (List.range ops.size):=by
 obtain⟨h1,h2⟩:=vM h
 refine NK (by simp[h1]) fun i g j hg hj=>?_
 obtain⟨o,ho,hc⟩:=h2 i g hg
 have hij:i=j:=by
  have h3:=pJ.1 hj;obtain⟨_,h3⟩:=h3;simpa using h3
 subst hij;exact⟨o,by simpa using ho,hc⟩
structure St(P:Program)(Γ:Nat->Option AV)(N:Env)(g0:G)(f0:FuncId)(g:G)(h:List Ob)(w:World)(f:Fr)(up:List Fr)(tmps:Array Value)(todo:List Item)(ds:List Deferred)(kd:CallKind)(ro:Option Nat)(fs:List Frame):Prop where
 H:Inv P Γ N g h w
 M:∀b o v,g0.M b o=some v->g.M b o=some v
 its:IR P g h f.its todo
 t:VL g h f.t tmps.toList
 ds:F2 (DR g h) f.ds ds
 kind:KR g h f.kind kd ro
 is:∃fn,P.funcs[f.fn]? =some fn
 b:f.base<=h.length
 z:up=[]->f.fn=f0/\f.kind=.norm
 s:SR P g h f0 f.base up fs
section
variable{P:Program}{Γ:Nat->Option AV}{N:Env}{g0:G}{f0:FuncId}{cs0:List Frame}{g:G}{h:List Ob}{w:World}{f:Fr}{up:List Fr}{tmps:Array Value}{todo:List Item}{ds:List Deferred}{kd:CallKind}{ro:Option Nat}{fs:List Frame}
theorem St.rel(S:St P Γ N g0 f0 g h w f up tmps todo ds kd ro fs){md:FrameMode}(hm:MR g h f.md md):jY P g h f (aF f.fn tmps todo ds kd ro md):=⟨hm,rfl,S.its,S.t,S.ds,S.kind,S.is⟩
theorem St.sr(S:St P Γ N g0 f0 g h w f up tmps todo ds kd ro fs){md:FrameMode}(hm:MR g h f.md md):SR P g h f0 h.length (f::up) (aF f.fn tmps todo ds kd ro md::fs):=
 ⟨_,_,rfl,S.rel hm,oB (S.rel hm),S.b,S.z,S.s⟩
theorem St.i_(S:St P Γ N g0 f0 g h w f up tmps todo ds kd ro fs){md:FrameMode}(hm:MR g h f.md md):bn P Γ N g0 f0 cs0 (.fr f up h) (lone (aF f.fn tmps todo ds kd ro md) (fs++cs0) w):=
 ⟨g,w,_,fs,rfl,S.H,S.M,S.sr hm⟩
theorem aaz{k:FK}{c:CallKind}{ro:Option Nat}(h1:KR g h k c ro):nY h.length k=true:=by
 cases k with
 |norm|bB=>rfl
 |round l=>
  obtain⟨_,b,_,⟨_,_,_,_,_,_,_,h3⟩,_⟩:=h1;simp only[nY,a8];exact bj h3
theorem St.mono(S:St P Γ N g0 f0 g h w f up tmps todo ds kd ro fs){g':G}{h':List Ob}{w':World}(H':Inv P Γ N g' h' w')(x:Ext h.length g h g' h')(hl:h.length<=h'.length):St P Γ N g0 f0 g' h' w' f up tmps todo ds kd ro fs:=
 ⟨H',fun b o v hv=>x.M _ _ _ (S.M b o v hv),jP x (kE S.its) S.its,b_ x (cV S.t) S.t,vT x (Ai S.ds) S.ds,
  Et x (aaz S.kind) S.kind,
  S.is,qO S.b hl,S.z,fJ (x.mono S.b) (aU _) S.s⟩
theorem St.to(S:St P Γ N g0 f0 g h w f up tmps todo ds kd ro fs){its:List It}{todo':List Item}{t:List AV}{tmps':Array Value}{ads:List di}{ds':List Deferred}{m:Md}
 (h1:IR P g h its todo')(h2:VL g h t tmps'.toList)(h3:F2 (DR g h) ads ds'):St P Γ N g0 f0 g h w {f with its:=its,t:=t,ds:=ads,md:=m} up tmps' todo' ds' kd ro fs:=
 ⟨S.H,S.M,h1,h2,h3,S.kind,S.is,S.b,S.z,S.s⟩
theorem bn.inv{m:Machine}(h1:bn P Γ N g0 f0 cs0 (.fr f up h) m):∃g w tmps todo ds kd ro md fs,m=lone (aF f.fn tmps todo ds kd ro md) (fs++cs0) w/\St P Γ N g0 f0 g h w f up tmps todo ds kd ro fs/\MR g h f.md md:=by
 obtain⟨g,w,fr,fs,rfl,H,hM,fr',fs',heq,hr,hbl,hb,h0,hs⟩:=h1
 cases heq
 obtain⟨fn,tmps,todo,ds,md,kd,ro⟩:=fr;obtain⟨r1,r2,r3,r4,r5,r6,r7⟩:=hr;simp only at r1 r2 r3 r4 r5 r6 r7;subst r2;exact⟨g,w,tmps,todo,ds,kd,ro,md,fs,rfl,⟨H,hM,r3,r4,r5,r6,r7,hb,h0,hs⟩,r1⟩
theorem v_(H:Inv P Γ N g h w){l b sz:Nat}(hρ:g.ρ l=some (b,sz,0)){st:LoopState}{j:Jump}{fn:FuncId}{t:List AV}{ps:List Nat}{p q:an}(hi:h[l]? =some (.loop st j fn t ps p q)):
 ∃L:Loop,w.heap[b]? =some (.loop L)/\L.state=st/\JR j L.pending/\L.fn=fn/\VL g h t L.tmps.toList/\L.params.toList=ps/\CR P L.assign p/\CR P L.body q/\(∃F,P.funcs[fn]? =some F)/\
  ∀st' j' c',JR j' c'->Inv P Γ N g (h.set l (.loop st' j' fn t ps p q)) (w.putObj b (.loop {L with state:=st',pending:=c'}))/\Ext h.length g h g (h.set l (.loop st' j' fn t ps p q)):=by
 obtain⟨L,h1,h2,h3,h4,h5,h6,h7,h8,h9⟩:=H.ob l _ hi b sz 0 hρ;refine⟨L,h1,h2,h3,h4,h5,h6,h7,h8,h9,fun st' j' c' hj=>?_⟩;have hk:sameKind (.loop st j fn t ps p q) (.loop st' j' fn t ps p q):=⟨rfl,rfl,rfl,rfl,rfl⟩;have hE:=Ext.tA (g:=g) hi hk;refine⟨Inv.wK H hi hρ hk ?_,hE⟩;intro b' sz' st'' hb';rw[hρ]at hb';simp only[al,bH]at hb';obtain⟨rfl,_⟩:=hb';exact⟨_,vF _ (H.own l b _ hρ).2,rfl,hj,h4,b_ hE (cV h5) h5,h6,h7,h8,h9⟩
theorem Inv.Nr(H:Inv P Γ N g h w){o':Ob}{B:Obj}(hob:OV P (g.bA h.length (some (w.heap.size,0,0))) (h++[o']) (w.alloc B) h.length o'):
 Inv P Γ N (g.bA h.length (some (w.heap.size,0,0))) (h++[o']) (w.alloc B):=
 H.push rfl rfl rfl (vP w B) (by simp) (by
  intro b' x hx;simp only[al,bH]at hx;obtain⟨rfl,_⟩:=hx
  simp) hob (by simp)
theorem Kb(H:Inv P Γ N g h w){fn:FuncId}{t:List AV}{tmps:Array Value}{ps:Array Tmp}{c d:Code}{p q:an}(k:Nat)(ht:VL g h t tmps.toList)(hp:CR P c p)(hq:CR P d q)(hf:∃F,P.funcs[fn]? =some F):
 ∃g',Inv P Γ N g' (h++[.loop .ready .none fn t ps.toList p q]) (w.alloc (.loop {state:=.ready,pending:=none,fn,tmps,params:=ps,assign:=c,body:=d,defers:=k}))/\Ext h.length g h g' (h++[.loop .ready .none fn t ps.toList p q])/\
  LR g' (h++[.loop .ready .none fn t ps.toList p q]) h.length w.heap.size:=by
 have hE:=Ext.push (g:=g) (h:=h) [.loop .ready .none fn t ps.toList p q] (some (w.heap.size,0,0));refine⟨_,H.Nr ?_,hE,⟨_,_,_,_,_,_,_,p_ _ _ _⟩,0,cJ _ _ _⟩;intro b sz st hb;rw[cJ]at hb;simp only[al,bH]at hb;obtain⟨rfl,_⟩:=hb;exact⟨_,kx _ _,rfl,rfl,rfl,b_ hE (cV ht) ht,rfl,hp,hq,hf⟩
theorem Xn(H:Inv P Γ N g h w):
 ∃g',Inv P Γ N g' (h++[.bB true]) (w.alloc (.deferred (some [])))/\Ext h.length g h g' (h++[.bB true])/\DR g' (h++[.bB true]) (.mark h.length) {target:=.collected w.heap.size,args:=#[]}:=by
 have hE:=Ext.push (g:=g) (h:=h) [.bB true] (some (w.heap.size,0,0));refine⟨_,H.Nr ?_,hE,⟨_,p_ _ _ _⟩,_,_,cJ _ _ _,rfl⟩;intro b sz st hb;rw[cJ]at hb;simp only[al,bH]at hb;obtain⟨rfl,_⟩:=hb;exact kx _ _
theorem NP{l b:Nat}(h1:LR g h l b):V g h (.dA l) (.func (.yield b) #[] #[]):=by
 obtain⟨h2,sz,h3⟩:=h1
 simp only[V];exact⟨h2,b,sz,h3,rfl⟩
def JT:Jump->List Item->Prop
 |.none,t=>t=[]
 |.ret,t=>∃k,t=.code .ret::k
 |.exit id,t=>∃k,t=.code (.exit id)::k/\exitTo id k=none
theorem Ek{c:Fr}{v:AV}{u:Value}{fr:Frame}(H:Inv P Γ N g h w)(hM:∀b o v,g0.M b o=some v->g.M b o=some v)(hv:V g h v u)(hs:SR P g h f0 h.length (c::up) (fr::fs)):
 bn P Γ N g0 f0 cs0 (.back (c::up) v h) (lone (fr.finish u) (fs++cs0) w):=⟨g,w,u,fr,fs,rfl,H,hM,hv,hs⟩
theorem CS(S:St P Γ N g0 f0 g h w f up tmps todo ds kd ro fs){j:Jump}(hj:JT j todo):
 ∃m',Steps P (lone (aF f.fn tmps todo ds kd ro) (fs++cs0) w) m'/\bn P Γ N g0 f0 cs0 (leave f up h j) m':=by
 have hk:=S.kind;obtain⟨fmd,ffn,fits,ft,fds,fk,fb⟩:=f;unfold leave
 cases fk with
 |round l=>
  obtain⟨rfl,b,rfl,hL⟩:=hk;obtain⟨⟨st,pj,fn,t,ps,p,q,hi⟩,sz,hρ⟩:=hL;simp only[hi]
  cases up with
  |nil=>have:=(S.z rfl).2;cases this
  |cons c up=>
   have hs:=S.s;obtain⟨fr,fs',rfl,h1,h2,h3,h4,h5⟩:=hs;obtain⟨L,hL1,hL2,hL3,hL4,hL5,hL6,hL7,hL8,_,hset⟩:=v_ S.H hρ hi
   obtain⟨c',hc',hjc⟩:∃c':Option Code,JR j c'/\((todo=[]/\c'=none)\/(∃k,todo=.code .ret::k/\c'=some .ret)\/(∃id k,todo=.code (.exit id)::k/\exitTo id k=none/\c'=some (.exit id))):=by
    cases j with
    |none=>exact⟨none,rfl,Or.inl ⟨hj,rfl⟩⟩
    |ret=>obtain⟨k,hk⟩:=hj;exact⟨_,rfl,Or.inr (Or.inl ⟨k,hk,rfl⟩)⟩
    |exit id=>obtain⟨k,hk,he⟩:=hj;exact⟨_,rfl,Or.inr (Or.inr ⟨id,k,hk,he,rfl⟩)⟩
   have hjn:c'.isNone=decide (j=Jump.none):=by
    cases j<;>simp only[JR]at hc'<;>subst hc'<;>rfl
   obtain⟨H',x⟩:=hset (if c'.isNone then .ready else .done) j c' hc';refine⟨_,.one (SL hjc (run_endRound c' hL1)),?_⟩;rw[show(if j=Jump.none then LoopState.ready else LoopState.done)=(if c'.isNone then .ready else .done) by rw[hjn];simp,show(j==Jump.none)=c'.isNone by rw[hjn];rfl];exact Ek H' (fun b o v hv=>x.M _ _ _ (S.M b o v hv)) (by simp[V]) (fJ (x.mono S.b) (by rw[kp];exact S.b) S.s)
 |norm|bB=>
  obtain⟨_,rfl⟩:=hk
  cases j with
  |none=>
   cases hj
   exact⟨_,.one abo,St.i_ (f:=⟨.ret,_,_,_,_,_,_⟩) ⟨S.H,S.M,S.its,S.t,S.ds,S.kind,S.is,S.b,S.z,S.s⟩ rfl⟩
  |ret=>
   obtain⟨k,rfl⟩:=hj;exact⟨_,.one aaV,St.i_ (f:=⟨.ret,_,_,_,_,_,_⟩) ⟨S.H,S.M,S.its,S.t,S.ds,S.kind,S.is,S.b,S.z,S.s⟩ rfl⟩
  |exit id=>exact⟨_,.refl _ _,by trivial⟩
end
end Go.AM
