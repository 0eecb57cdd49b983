/- The abstract machine: append, copy, new slices. -/
import Derived.Test.YtchjijfjidlpjaaGreatDoorAMa
import Derived.RangeFuncRecord
import Derived.RangeFuncNested
set_option linter.unusedSimpArgs false
set_option linter.unusedVariables false
namespace Go.AM
open Go.RowKit
def n_(e:TypeId)(size:Nat)(base:Option Addr)(sLen sCap n:Nat)(zeros:Bool)(s x:Value)(appended:Sem (Array Value)):Sem Value:=do
 let df:=sLen+n
 if df<=sCap then
  let new<-appended
  if let some a:=base then storeCells (a.add (sLen*size)) new.toList
  pure (.slice base df sCap)
 else
  if(df:Int)>IntKind.i64.max/\(zeros\/(<-typeInfo e).bytes=0)then runtimePanic (.error "growslice: len out of range")
  if Builtin.nextslicecap df sCap*(<-typeInfo e).bytes>2^48 then(if zeros then runtimePanic (.error "growslice: len out of range")else do
   if !(<-Builtin.mayShare size sLen n base x)then mark .noRoom
   unsupported (.resourceLimit "append: a slice or a string whose bytes no memory bears"))
  let newCap<-choose (.appendCap df sCap e)
  askRoom (newCap*(<-typeInfo e).bytes)
  let l8<-Builtin.firstCells size sLen s
  let new<-appended
  let rest:=Builtin.zeroCells (<-zeroValue e).cells (newCap-df)
  pure (.slice (some (<-newRow e (l8++new++rest))) df newCap)
section
variable{P:Program}{w:World}
theorem Ft{sT u ty e:TypeId}{k:Nat}(ht:P.underlying sT=some (.slice e))(hk:bB P e=some k){d:TypeDesc}(hu:P.underlying u=some d)(hd:∀j,d≠.int j){base:Option Addr}{sLen sCap n:Nat}{x:Value}
 (hn:(Builtin.lenOf x).run P w=.ok n w):
 (Builtin.append_ #[sT,u] ty #[.slice base sLen sCap,x]).run P w=(n_ e k base sLen sCap n false (.slice base sLen sCap) x (Builtin.firstCells k n x)).run P w:=by
 unfold Builtin.append_;simp only[pU,ry,nT]
 cases d<;>first
  |exact absurd rfl (hd _)
  |(simp only[Sem.run_bind,run_underlying ht,Result.andThen_ok,jq hk,run_underlying hu,Sem.run_pure,eH,da,hn,n_,xa,cy]
    rfl)
theorem XM{sT u ty e:TypeId}{k B:Nat}(ht:P.underlying sT=some (.slice e))(hk:bB P e=some k)(hB:ml P e=some B){j:IntKind}(hu:P.underlying u=some (.int j)){base:Option Addr}{sLen sCap:Nat}
 {i:IntKind}{m:Int}(h0:0<=m)(hm:m<=2^47)(hmB:m*B<=2^48):
 (Builtin.append_ #[sT,u] ty #[.slice base sLen sCap,.int i m]).run P w=(n_ e k base sLen sCap m.toNat true (.slice base sLen sCap) (.int i m)
  (if m.toNat*k=0 then pure #[]else do pure (Builtin.zeroCells (<-zeroValue e).cells m.toNat))).run P w:=by
 have hwr:IntKind.i64.wrap m=m:=IntWalk.i64_in _ (by omega)
 have hti:∃i,P.info? e=some i/\i.bytes=B:=by
  unfold ml at hB
  cases hi:P.info? e with
  |none=>simp[hi]at hB
  |some i=>simp[hi]at hB;exact⟨i,rfl,hB⟩
 obtain⟨ti,hti,hbt⟩:=hti
 have hty:(typeInfo e).run P w=.ok ti w:=by simp[typeInfo,hti]
 unfold Builtin.append_;simp only[pU,ry,nT];simp only[Sem.run_bind,run_underlying ht,Result.andThen_ok,jq hk,run_underlying hu,Sem.run_pure];simp only[cy,Sem.run_bind,asInt,asIntOf,Sem.run_pure,Result.andThen_ok,hwr];rw[if_neg (by omega)];simp only[Sem.run_bind,hty,Result.andThen_ok,hbt];rw[if_neg (by omega)];simp only[n_,ru,eH,da];rfl
theorem L0{e:TypeId}{k sLen sCap n:Nat}{z:Bool}{s x:Value}{ap:Sem (Array Value)}{news:Array Value}(hap:ap.run P w=.ok news w){b p:Nat}{c:Array Value}{E:TypeId}{fz:Nat×Nat}
 (hb:w.heap[b]? =some (.cells c E fz))(hf:nG c fz)(hl:p+sLen*k+news.size<=c.size)(h1:∀v∈news.toList,v.oneCell'=true)(hn:sLen+n<=sCap):
 (n_ e k (some ⟨b,p,none⟩) sLen sCap n z s x ap).run P w=.ok (.slice (some ⟨b,p,none⟩) (sLen+n) sCap) (w.setRow b (eE c.toList (p+sLen*k) news.toList).toArray):=by
 have h3:=Bn P b (p+sLen*k) E fz news.toList 0 c w hb hf (by simpa using hl) h1;rw[gZ]at h3;simp only[n_];rw[if_pos hn];simp only[Sem.run_bind,hap,Result.andThen_ok,lF,h3,Sem.run_pure];rfl
theorem X'{e:TypeId}{k sLen sCap:Nat}{z:Bool}{s x:Value}{base:Option Addr}{ap:Sem (Array Value)}(hap:ap.run P w=.ok #[] w)(hn:sLen<=sCap):
 (n_ e k base sLen sCap 0 z s x ap).run P w=.ok (.slice base sLen sCap) w:=by
 simp only[n_,gZ];rw[if_pos hn];simp only[Sem.run_bind,hap,Result.andThen_ok]
 cases base with
 |none=>simp
 |some a=>simp[storeCells]
theorem XR{e:TypeId}{k B sLen sCap n:Nat}{z:Bool}{s x:Value}{base:Option Addr}{ap:Sem (Array Value)}{olds news:Array Value}{zv:Value}(hap:ap.run P w.drew=.ok news w.drew)(hB:ml P e=some B)(hB0:B≠0)
 (hzr:∀w,(zeroValue e).run P w=.ok zv w)(hn:sCap<sLen+n)(hnB:(sLen+n)*B<=2^47)(hold:(Builtin.firstCells k sLen s).run P w.drew=.ok olds w.drew):
 ∃cap,sLen+n<=cap/\(n_ e k base sLen sCap n z s x ap).run P w=
  .ok (.slice (some ⟨w.heap.size,0,none⟩) (sLen+n) cap) (w.drew.alloc (.cells (olds++news++Builtin.zeroCells zv.cells (cap-(sLen+n))) e)):=by
 have hti:∃i,P.info? e=some i/\i.bytes=B:=by
  unfold ml at hB
  cases hi:P.info? e with
  |none=>simp[hi]at hB
  |some i=>simp[hi]at hB;exact⟨i,rfl,hB⟩
 obtain⟨ti,hti,hbt⟩:=hti
 have hty:∀w,(typeInfo e).run P w=.ok ti w:=fun w=>by simp[typeInfo,hti]
 have hnn:sLen+n<=2^47:=by
  have:(sLen+n)*1<=(sLen+n)*B:=Nat.mul_le_mul_left _ (by omega);omega
 refine⟨grownCap w (sLen+n) sCap e,?_,?_⟩
 ·simp[grownCap,Question.cut]
 ·have h1:¬(((sLen+n:Nat):Int)>IntKind.i64.max/\(z=true\/ti.bytes=0)):=by
   rw[IntKind.max_i64];rintro⟨h,_⟩;omega
  have h2:¬(Builtin.nextslicecap (sLen+n) sCap*ti.bytes>2^48):=by
   rw[hbt];have:=growslice_fits hn (bytes:=B) (by simpa using hnB);omega
  simp only[n_];rw[if_neg (by omega)];simp only[Sem.run_bind,hty,Result.andThen_ok];rw[if_neg h1];simp only[Sem.run_bind,hty,Result.andThen_ok];rw[if_neg h2];simp only[Sem.run_bind,run_choose,Question.forced,eH,da,World.drew_eq,Result.andThen_ok,hty,run_askRoom,hold,hap,hzr,newRow,run_newObj,Sem.run_pure];rfl
end
section
variable{P:Program}{Γ:Nat->Option AV}{N:Env}{g:G}{h:List Ob}{w:World}{r:Operand->Value}{o:Oper}{t:List AV}
theorem Gq{k:Nat}:∀{es:List AV}{vs:List Value},ei k es->VE g h es vs->∀v∈vs,v.oneCell'=true
 |[],vs,_,hv=>by simp only[VE]at hv;subst hv;simp
 |e::es,vs,hk,hv=>by
  simp only[VE]at hv;obtain⟨v,vs',h1,rfl,hr⟩:=hv;have he:=hk e (by simp);intro u hu
  rcases aT.1 hu with hu|hu
  ·exact Fq he.2 (qy (rJ he.2) h1) u hu
  ·exact Gq (fun x hx=>hk x (by simp[hx])) hr u hu
theorem Inv.drew(H:Inv P Γ N g h w):Inv P Γ N g h w.drew:=H.world rfl rfl rfl rfl
theorem Pg(H:Inv P Γ N g h w){a:AV}{base:Option Addr}{n cap k:Nat}(hv:V g h a (.slice base n cap)){es:List AV}(he:kS h a=some (k,es)):
 es.length=n/\∃olds:Array Value,(Builtin.firstCells k n (.slice base n cap)).run P w=.ok olds w/\VE g h es olds.toList:=by
 obtain⟨hK,ad,cap',vs,hs,h1,h2⟩:=x_ H hv he;simp only[Value.slice.injEq]at hs;obtain⟨rfl,rfl,rfl⟩:=hs;refine⟨rfl,vs.toArray,?_,by simpa using h1⟩;have hl:=ja hK h1
 rcases h2 with rfl|⟨b,p,rfl,h3⟩
 ·simp only[VE]at h1;subst h1
  cases base with
  |none=>simp[run_firstCells_none]
  |some b=>exact run_firstCells_some w k 0 b 0 cap [] (by simp) (by simp)
 ·exact run_firstCells_some w k es.length ⟨b,p,none⟩ es.length cap vs hl (fun j v hj=>by rw[lF];exact h3 j v hj)
theorem Bz(H:Inv P Γ N g h w){e:TypeId}{k B:Nat}(hk:0<k)(hB:ml P e=some B)(hB0:B≠0){zv:Value}(hzr:∀w,(zeroValue e).run P w=.ok zv w)(hzk:zv.cells.size=k)
 {z:Bool}{s x:Value}{ap:Sem (Array Value)}{news:Array Value}{ys:List AV}{gY:Bool}
 (hop:∀base sLen sCap,s=.slice base sLen sCap->(execOp r o).run P w=((n_ e k base sLen sCap ys.length z s x ap).run P w).andThen fun v w=>.ok (.value v) w)
 (hap:∀w':World,w'.heap=w.heap->ap.run P w'=.ok news w')(hys:VE g h ys news.toList)(hyk:ei k ys)(hyf:gY=true->cA ys k=true)
 {a v:AV}{h':List Ob}{E:TypeId}(ha:V g h a s)(hA:iH h k E B a ys gY=.val v h'):aM P Γ N r o w g h h' (some v):=by
 have hnl:news.size=ys.length*k:=by have:=ja hyk hys;simpa using this
 have hnone:=Gq hyk hys
 have hgrow:∀(base:Option Addr)(sLen sCap:Nat)(es:List AV)(olds:Array Value),s=.slice base sLen sCap->sCap<sLen+ys.length->(sLen+ys.length)*B<=2^47->
  (Builtin.firstCells k sLen s).run P w.drew=.ok olds w.drew->VE g h es olds.toList->ei k es->es.length=sLen->
  ∃cap rest,sLen+ys.length<=cap/\(execOp r o).run P w=.ok (.value (.slice (some ⟨w.heap.size,0,none⟩) (sLen+ys.length) cap)) (w.drew.alloc (.cells ((olds.toList++news.toList)++rest).toArray e))/\
   cap*k<=((olds.toList++news.toList)++rest).length:=by
  intro base sLen sCap es olds hs hlt hb hold hE hK hl;obtain⟨cap,hc,hrun⟩:=XR (x:=x) (z:=z) (base:=base) (hap w.drew rfl) hB hB0 hzr hlt hb hold;have hol:=ja hK hE;refine⟨cap,(Builtin.zeroCells zv.cells (cap-(sLen+ys.length))).toList,hc,?_,?_⟩
  ·rw[hop base sLen sCap hs,hrun];simp only[Result.andThen_ok];congr 3;apply iY;simp
  ·have:(Builtin.zeroCells zv.cells (cap-(sLen+ys.length))).size=(cap-(sLen+ys.length))*k:=by simp[Builtin.zeroCells,hzk]
   simp only[bu,xd,this,hnl];simp at hol;rw[hol,hl,<-gA,<-gA];exact ma _ (by omega)
 have hsame:∀base sLen sCap,s=.slice base sLen sCap->sLen<=sCap->ys=[]->(execOp r o).run P w=.ok (.value s) w:=by
  intro base sLen sCap hs hle hy;subst hy
  have hn0:news=#[]:=by apply iY;simp only[VE]at hys;simpa using hys
  rw[hop base sLen sCap hs,cS,X' (by rw[hap w rfl,hn0]) hle,hs];rfl
 cases a<;>simp only[iH,reduceCtorEq]at hA
 case list f k' es=>
  cases f<;>simp only[reduceCtorEq]at hA
  split at hA
  ·rename_i hc;obtain⟨hcb,hkk⟩:=hc;have ha0:=ha;simp only[V]at ha0;obtain⟨hok,base,cap,hs,hcap,_,_⟩:=ha0;have hcap:=hcap trivial
   split at hA
   ·simp only[R.val.injEq]at hA;obtain⟨rfl,rfl⟩:=hA;exact aM.same H (hsame base _ _ hs (by omega) rfl) ha
   ·rename_i y ys';simp only[R.val.injEq]at hA;obtain⟨rfl,rfl⟩:=hA
    have hK:ei k es:=by
     rcases hkk with rfl|rfl
     ·exact kM hok
     ·intro e he;simp at he
    have hokk:cA es k=true:=by
     rcases hkk with rfl|rfl
     ·exact hok
     ·rfl
    have hte:kS h (.list true k' es)=some (k',es):=rfl
    have hold:∃olds:Array Value,(Builtin.firstCells k es.length s).run P w.drew=.ok olds w.drew/\VE g h es olds.toList:=by
     rcases hkk with rfl|rfl
     ·rw[hs]at ha⊢;exact(Pg H.drew ha hte).2
     ·rw[hs];refine⟨#[],?_,by simp[VE]⟩
      cases base with
      |none=>simp[run_firstCells_none]
      |some b=>simpa using run_firstCells_some (P:=P) w.drew k 0 b 0 cap [] (by simp) (by simp)
    obtain⟨olds,hold,hEo⟩:=hold;obtain⟨cap',rest,h1,h2,h3⟩:=hgrow base es.length cap es olds hs (by simp;omega) hcb hold hEo hK rfl;have hVE:=qk hEo hys
    have hKK:ei k (es++y::ys'):=by
     intro e he
     rcases aT.1 he with he|he
     ·exact hK e he
     ·exact hyk e he
    refine aM.make (w':=w.drew) H rfl rfl rfl rfl (sz:=((olds.toList++news.toList)++rest).length) h2 ?_ (by simp) ?_
    ·exact CY (P:=P) hk hKK (fun hf=>u5.2 ⟨hokk,hyf hf⟩) (dd _ _ _) (mi w.drew _) rfl (vD _) (gE (Ext.push _ _) (kU hVE) hVE)
    ·have:=B6 (h:=h) (g':=g.bM h.length (some (w.heap.size,((olds.toList++news.toList)++rest).length,0))) (k:=k) (E:=E) (es:=es++y::ys') (os:=[]) (fl:=gY) (sh:=false) (dd _ _ _) (cap:=cap') (by simpa using h1) h3;simpa using this
  ·simp at hA
 case sl i off n=>
  split at hA
  ·rename_i k' E' es gr fl sh hi
   split at hA
   ·rename_i hc;obtain⟨rfl,rfl,hok,hcb⟩:=hc;have hil:=aV hi;have ha0:=ha;simp only[V]at ha0;obtain⟨k2,E2,es2,gr2,fl2,sh2,hi2,hle,base,cap,hs,hcap,hbn,hq⟩:=ha0;rw[hi]at hi2;simp only[ak,Ob.row.injEq]at hi2;obtain⟨rfl,rfl,rfl,rfl,rfl,rfl⟩:=hi2;obtain⟨hlc,hq⟩:=hq hok;have hob:=H.ob i _ hi;simp only[OV]at hob;obtain⟨_,hK,hfl,hgl,hb⟩:=hob
    have hlo:gr.getD 0<=off:=by
     cases gr with
     |none=>simp
     |some lo=>simp only[cM,ay,aZ]at hok;simpa using hok.1
    split at hA
    ·rename_i hend;simp only[R.val.injEq]at hA;obtain⟨rfl,rfl⟩:=hA
     by_cases hy0:ys=[]
     ·subst hy0;simp only[ee,List.isEmpty_nil,cy,cS,gZ];have hset:h.set i (.row k' E' es gr (fl&&gY) sh)=h.set i (.row k' E' es gr (fl&&gY) sh):=rfl
      have hE:Ext h.length g h g (h.set i (.row k' E' es gr (fl&&gY) sh)):=by
       have:=Ext.qw (g:=g) (E':=E') (es':=es) (gr':=gr) (fl':=fl&&gY) (sh':=sh) (ρ':=g.ρ i) hi (aQ _) (fun off' m _ h1=>⟨h1,rfl,fun _ h=>h⟩);rwa[de]at this
      refine⟨g,w,_,hsame base n cap hs hcap rfl,?_,hE,_,rfl,gG hE (lT ha) ha⟩
      have:=Inv.set (r:=g.ρ i) (w':=w) H hil (by rw[de];exact hE) rfl rfl rfl (fun _ _ _=>rfl) (aQ _) (fun b' y hy=>⟨Or.inl ⟨y,hy⟩,(H.own i b' y hy).2⟩)
       (fun b y o v _ hv=>H.mem b o v hv) (by
        intro b sz st o v hy hv;obtain⟨k3,E3,es3,gr3,fl3,h5,h6⟩:=H.eP i b sz st o v hy hv;rw[hi]at h5;simp only[ak,Ob.row.injEq]at h5;obtain⟨rfl,rfl,rfl,rfl,rfl,rfl⟩:=h5
        exact⟨_,_,_,_,_,rfl,h6⟩)
       (by
        rw[de];have:=oa (w':=w) hE rfl (fun _ _ _=>rfl) (H.ob i _ hi);simp only[OV]at this⊢
        exact⟨this.1,this.2.1,fun hf=>this.2.2.1 (by simp only[ay]at hf;exact hf.1),this.2.2.2⟩)
      rwa[de]at this
     ·have hyl:0<ys.length:=sQ.2 hy0
      have hemp:ys.isEmpty=false:=by cases ys<;>simp at hy0⊢
      rw[hemp];simp only[eH,da]
      have hKK:ei k' (es++ys):=by
       intro e he
       rcases aT.1 he with he|he
       ·exact hK e he
       ·exact hyk e he
      have hflf:(fl&&gY)=true->cA (es++ys) k'=true:=fun hf=>by
       simp only[ay]at hf;exact u5.2 ⟨hfl hf.1,hyf hf.2⟩
      by_cases hfit:n+ys.length<=cap
      ·
       rcases hq with⟨h0,h00⟩|⟨b,sz,st,hρ,hst,rfl,hcs⟩
       ·omega
       rw[hρ]at hb;simp only at hb;obtain⟨hst',c,Eb,fz,vs,hw,hsz,hfree,hVE,hcells⟩:=hb
       have hm:(off-st)*k'+n*k'+news.size<=c.size:=by
        rw[hnl,hsz,<-gA,<-gA];exact sL (ma _ (by omega)) hcs
       have hrun:=L0 (e:=e) (k:=k') (sLen:=n) (sCap:=cap) (n:=ys.length) (z:=z) (s:=s) (x:=x) (hap w rfl) (p:=(off-st)*k') hw hfree hm hnone hfit
       have hE:Ext h.length g h g (h.set i (.row k' E' (es++ys) (some off) (fl&&gY) sh)):=by
        have:=Ext.qw (g:=g) (E':=E') (es':=es++ys) (gr':=some off) (fl':=fl&&gY) (sh':=sh) (ρ':=g.ρ i) hi (by simp) (by
         intro off' m hom h1;simp only[cM,ay,mU,bu]at h1
         omega)
        rwa[de]at this
       have hm2:(off-st)*k'+n*k'+news.toList.length<=c.toList.length:=by simpa using hm
       have hsl:=rI hm2;refine⟨g,_,_,by rw[hop _ _ _ hs,hrun];rfl,Inv.write H hil hρ hw hE ?_ ?_ ?_,hE,_,rfl,?_⟩
       ·intro o v hv;obtain⟨k3,E3,es3,gr3,fl3,h5,h6⟩:=H.eP i b sz st o v hρ hv;rw[hi]at h5;simp only[ak,Ob.row.injEq]at h5;obtain⟨rfl,rfl,rfl,rfl,rfl,rfl⟩:=h5
        have e1:(off-st)*k'+n*k'=(es.length-st)*k':=by rw[<-gA];congr 1;omega
        rw[pU,n9 hm2,if_pos (by omega)];simp
       ·intro sz' st' o v hy hv;obtain⟨k3,E3,es3,gr3,fl3,h5,h6⟩:=H.eP i b sz' st' o v hy hv;rw[hi]at h5;simp only[ak,Ob.row.injEq]at h5;obtain⟨rfl,rfl,rfl,rfl,rfl,rfl⟩:=h5;refine⟨_,_,_,_,_,rfl,lu h6 (ma _ (by simp;omega))⟩
       ·simp only[OV];refine⟨hk,hKK,hflf,by simp;omega,?_⟩;rw[hρ];simp only[j4]
        have hdrop:(es++ys).drop off=es.drop off++ys:=by rw[List.drop_append_of_le_length (by omega)]
        have hKd:ei k' (es.drop (gr.getD 0)):=fun x hx=>hK x (j0 hx)
        have hV1:=vN hKd hVE (off-gr.getD 0);rw[List.drop_drop,show gr.getD 0+(off-gr.getD 0)=off by omega]at hV1;have hV2:=qk hV1 hys;refine⟨hst,(eE c.toList ((off-st)*k'+n*k') news.toList).toArray,Eb,fz,vs.drop ((off-gr.getD 0)*k')++news.toList,setRow_heap w b c _ Eb fz hw,?_,vz hfree ?_,?_,?_⟩
        ·simp only[rv];rw[hsl];simpa using hsz
        ·simp only[rv];rw[hsl];simp
        ·rw[hdrop];exact gE hE (kU hV2) hV2
        ·intro j hj;have hvl:=ja hKd hVE
         have hvl2:vs.length=(es.length-gr.getD 0)*k':=by rw[hvl];simp
         have e2:vs.length-(off-gr.getD 0)*k'=n*k':=by
          rw[hvl2,<-Nat.sub_mul];congr 1;omega
         rw[pU,n9 hm2]
         by_cases hjn:j<n*k'
         ·rw[if_pos (by omega),uF (by simp;omega),List.getElem_drop];have h5:=hcells ((off-gr.getD 0)*k'+j) (by omega);rw[<-h5]
          have e3:(gr.getD 0-st)*k'+(off-gr.getD 0)*k'=(off-st)*k':=by rw[<-gA];congr 1;omega
          rw[xe];congr 1;omega
         ·rw[if_neg (by omega)];simp only[bu,ER,e2]at hj;rw[if_pos (by omega),EW (by simp;omega)];rw[aR (by omega)];congr 1;simp only[ER,e2];congr 1;omega
       ·simp only[V];refine⟨k',E',es++ys,some off,fl&&gY,sh,eI hil,by simp;omega,_,cap,rfl,hfit,fun _=>⟨_,_,rfl⟩,fun _=>⟨by simp;omega,Or.inr ⟨b,sz,st,hρ,hst,rfl,hcs⟩⟩⟩
      ·
       have hte:kS h (.sl i off n)=some (k',(es.drop off).take n):=by simp only[kS,hi,hok,cy]
       have htl:(es.drop off).take n=es.drop off:=by rw[cR (by simp;omega)]
       rw[htl]at hte;rw[hs]at ha;obtain⟨hl5,olds,hold,hEo⟩:=Pg H.drew ha hte
       have hKd:ei k' (es.drop off):=fun x hx=>hK x (j0 hx)
       obtain⟨cap',rest,h1,h2,h3⟩:=hgrow base n cap (es.drop off) olds hs (by omega) hcb (by rw[hs];exact hold) hEo hKd hl5;have hVE:=qk hEo hys
       have hE:Ext h.length g h (g.bM i (some (w.heap.size,((olds.toList++news.toList)++rest).length,off))) (h.set i (.row k' E' (es++ys) (some off) (fl&&gY) sh)):=
        Ext.qw hi (by simp) (by
         intro off' m hom h1;simp only[cM,ay,mU,bu]at h1
         omega)
       refine⟨_,_,_,h2,Inv.set H hil hE rfl rfl rfl (fun b hb _=>by rw[zo _ _ _ (by simpa using hb)];rfl) (by simp) ?_ ?_ ?_ ?_,hE,_,rfl,?_⟩
       ·intro b x hx;simp only[ak,bY]at hx;obtain⟨rfl,_⟩:=hx;exact⟨Or.inr (aQ _),by simp⟩
       ·intro b y o v hy hv;rw[ve (zo _ _ _ (by simpa using(H.own i b y hy).2))];exact H.mem b o v hv
       ·intro b sz st o v hx hv;simp only[ak,bY]at hx;obtain⟨rfl,_⟩:=hx;have:w.heap.size<w.heap.size:=wY (H.mem _ o v hv);omega
       ·simp only[OV];refine⟨hk,hKK,hflf,by simp;omega,?_⟩;rw[dd];simp only[j4];refine⟨aQ _,_,e,(0,0),olds.toList++news.toList,mi w.drew _,by simp,vD _,?_,?_⟩
        ·rw[List.drop_append_of_le_length (by omega)];exact gE hE (kU hVE) hVE
        ·intro j hj;rw[EX,w8,iZ,pU,cz hj,aR hj]
       ·simp only[V]
        refine⟨k',E',es++ys,some off,fl&&gY,sh,eI hil,by simp;omega,_,cap',rfl,h1,fun _=>⟨_,_,rfl⟩,
         fun _=>⟨by simp;omega,Or.inr ⟨w.heap.size,_,off,dd _ _ _,aQ _,by simp,by simpa using h3⟩⟩⟩
    ·rename_i hend
     split at hA
     ·rename_i hc2;obtain⟨hfit2,rfl⟩:=hc2;simp only[R.val.injEq]at hA;obtain⟨rfl,rfl⟩:=hA
      rcases hq with⟨h0,h00⟩|⟨b,sz,st,hρ,hst,rfl,hcs⟩
      ·omega
      rw[hρ]at hb;simp only at hb;obtain⟨hst',c,Eb,fz,vs,hw,hsz,hfree,hVE,hcells⟩:=hb
      have hfit:n+ys.length<=cap:=by omega
      have hm:(off-st)*k'+n*k'+news.size<=c.size:=by
       rw[hnl,hsz,<-gA,<-gA];exact sL (ma _ (by omega)) hcs
      have hrun:=L0 (e:=e) (k:=k') (sLen:=n) (sCap:=cap) (n:=ys.length) (z:=z) (s:=s) (x:=x) (hap w rfl) (p:=(off-st)*k') hw hfree hm hnone hfit
      have hnewlen:(es.take (off+n)++ys++es.drop (off+n+ys.length)).length=es.length:=by simp;omega
      have hgrn:gr=none:=by
       cases gr with
       |none=>rfl
       |some lo=>simp only[cM,ay,mU]at hok;omega
      subst hgrn;simp only[uG,Nat.zero_sub,w8,iZ,fg,Nat.le_zero_eq]at*;subst hst'
      have hE:Ext h.length g h g (h.set i (.row k' E' (es.take (off+n)++ys++es.drop (off+n+ys.length)) none (fl&&gY) false)):=by
       have:=Ext.qw (g:=g) (E':=E') (es':=es.take (off+n)++ys++es.drop (off+n+ys.length)) (gr':=none) (fl':=fl&&gY) (sh':=false) (ρ':=g.ρ i) hi (by omega) (by
        intro off' m hom h1
        refine⟨by simpa[cM]using hom,hnewlen,fun _ h=>h⟩)
       rwa[de]at this
      have hm2:(off-0)*k'+n*k'+news.toList.length<=c.toList.length:=by simpa using hm
      have hsl:=rI hm2
      have hnoM:∀o v,g.M b o=some v->False:=by
       intro o v hv;obtain⟨_,_,_,_,_,h5,_⟩:=H.eP i b sz 0 o v hρ hv;rw[hi]at h5;simp at h5
      have hKn:ei k' (es.take (off+n)++ys++es.drop (off+n+ys.length)):=by
       intro e he;simp only[aT]at he
       rcases he with(he|he)|he
       ·exact hK e (lv he)
       ·exact hyk e he
       ·exact hK e (j0 he)
      refine⟨g,_,_,by rw[hop _ _ _ hs,hrun];rfl,Inv.write H hil hρ hw hE (fun o v hv=>(hnoM o v hv).elim) (fun sz' st' o v _ hv=>(hnoM o v hv).elim) ?_,hE,_,rfl,?_⟩
      ·simp only[OV];refine⟨hk,hKn,?_,by simp,?_⟩
       ·intro hf;simp only[ay]at hf;rw[u5,u5];exact⟨⟨qf (hfl hf.1) (fun e he=>lv he),hyf hf.2⟩,qf (hfl hf.1) (fun e he=>j0 he)⟩
       ·rw[hρ];simp only[uG,Nat.zero_sub,w8,iZ,fg];have hV2:=qk (qk (zM hK hVE (off+n)) hys) (vN hK hVE (off+n+ys.length));have hvl:=ja hK hVE;refine⟨aQ _,(eE c.toList ((off-0)*k'+n*k') news.toList).toArray,Eb,fz,_,setRow_heap w b c _ Eb fz hw,?_,vz hfree ?_,gE hE (kU hV2) hV2,?_⟩
        ·simp only[rv];rw[hsl];simpa using hsz
        ·simp only[rv];rw[hsl];simp
        ·intro j hj
         have e1:(off+n)*k'=(off-0)*k'+n*k':=by rw[gA];simp
         have e2:(off+n+ys.length)*k'=(off-0)*k'+n*k'+news.toList.length:=by rw[gA,e1];simp[hnl]
         have hvm:(off-0)*k'+n*k'+news.toList.length<=vs.length:=by
          rw[<-e2,hvl];exact ma _ (by omega)
         have hsp:vs.take ((off+n)*k')++news.toList++vs.drop ((off+n+ys.length)*k')=eE vs ((off-0)*k'+n*k') news.toList:=by
          rw[e1,e2];rfl
         have hj2:=n9 hvm j
         have hj3:j<vs.length:=by
          have:j<(eE vs ((off-0)*k'+n*k') news.toList).length:=by rw[<-hsp];exact hj
          rwa[rI hvm]at this
         rw[pU,n9 hm2,<-aR hj,hsp,hj2]
         by_cases h7:j<(off-0)*k'+n*k'
         ·rw[if_pos h7,if_pos h7,aR hj3,<-hcells j hj3];simp
         ·rw[if_neg h7,if_neg h7]
          by_cases h8:j<(off-0)*k'+n*k'+news.toList.length
          ·rw[if_pos h8,if_pos h8]
          ·rw[if_neg h8,if_neg h8,aR hj3,<-hcells j hj3];simp
      ·simp only[V];refine⟨k',E',_,none,fl&&gY,false,eI hil,by omega,_,cap,rfl,hfit,fun _=>⟨_,_,rfl⟩,fun _=>⟨by omega,Or.inr ⟨b,sz,0,hρ,hst,rfl,hcs⟩⟩⟩
     ·simp at hA
   ·simp at hA
  ·simp at hA
end
section
variable{P:Program}{Γ:Nat->Option AV}{N:Env}{g:G}{h:List Ob}{w:World}{r:Operand->Value}{o:Oper}{t:List AV}
theorem Mv{x y:Operand}{sT u:TypeId}(ho:o.op=.call ⟨.builtin .append,#[x,y],#[sT,u]⟩):
 (execOp r o).run P w=((Builtin.append_ #[sT,u] o.type #[r x,r y]).run P w).andThen fun v w=>.ok (.value v) w:=by
 simp[execOp,ho,resolve,invoke,builtin]
theorem afd(b:UInt8):V g h (fJ b) (.int .u8 b.toNat):=by simp[fJ,V]
theorem Cw:∀s:List UInt8,VE g h (s.map fJ) (s.map fun b=>Value.int .u8 b.toNat)
 |[]=>by simp[VE]
 |b::s=>by
  simp only[bU,VE];exact⟨_,s.map fun b=>Value.int .u8 b.toNat,afd b,rfl,Cw s⟩
theorem xZ:∀s:List UInt8,cA (s.map fJ) 1=true
 |[]=>rfl
 |b::s=>by simp[cA,fJ,AV.cells,cm,AV.one,aK,aG,xZ s]
theorem vl{zv:Value}{k:Nat}(h1:(gI zv).cells.length=k):zv.cells.size=k:=by
 have:=gD (FJ (⟨fun _=>none,fun _ _=>none,fun _=>none⟩:G) [] zv);simp at this;omega
theorem vx{t:TypeId}{z:AV}(h:eg P t=some z):∃v,(∀w,(zeroValue t).run P w=.ok v w)/\z=gI v:=by
 unfold eg at h
 cases hi:P.info? t with
 |none=>simp[hi]at h
 |some i=>
  cases hz:i.zero with
  |none=>simp[hi,hz]at h
  |some v=>simp[hi,hz]at h;exact⟨v,fun w=>by simp[zeroValue,typeInfo,hi,hz],h.symm⟩
theorem GZ(H:Inv P Γ N g h w){x y:Operand}{sT u e:TypeId}(ho:o.op=.call ⟨.builtin .append,#[x,y],#[sT,u]⟩)(ht:P.underlying sT=some (.slice e)){k B:Nat}(hk:bB P e=some k)(hk0:0<k)
 (hB:ml P e=some B)(hB0:B≠0){z:AV}(hz:eg P e=some z)(hzk:z.cells.length=k){d:TypeDesc}(hu:P.underlying u=some d)(hd:∀j,d≠.int j)
 {a b v:AV}{h':List Ob}(hx:V g h a (r x))(hy:V g h b (r y)){E:TypeId}
 (hA:(∃f k' es,b=.list f k' es/\(k'=k\/es=[])/\iH h k E B a es true=.val v h')\/
  (∃i q n es E' es' gr fl sh,b=.sl i q n/\kS h b=some (k,es)/\h[i]? =some (.row k E' es' gr fl sh)/\iH h k E B a es fl=.val v h')\/
  (∃s:List UInt8,b=.str s/\k=1/\iH h 1 E B a (s.map fJ) true=.val v h')):aM P Γ N r o w g h h' (some v):=by
 obtain⟨zv,hzr,rfl⟩:=vx hz;have hzk':=vl hzk;have hex:=Mv (P:=P) (w:=w) (r:=r) ho
 rcases hA with⟨f,k',es,rfl,hkk,hA⟩|⟨i,q,n,es,E',es',gr,fl,sh,rfl,hte,hi,hA⟩|⟨s,rfl,rfl,hA⟩
 ·have hok:cA es k=true:=by
   have hy0:=hy;simp only[V]at hy0
   rcases hkk with rfl|rfl
   ·exact hy0.1
   ·rfl
  have hte:kS h (.list f k' es)=some (k',es):=rfl;have hy0:=hy;simp only[V]at hy0;obtain⟨_,ad,cap,hs,_,_,_⟩:=hy0
  have hnews:∃news:Array Value,VE g h es news.toList/\∀w':World,w'.heap=w.heap->(Builtin.firstCells k es.length (r y)).run P w'=.ok news w':=by
   rcases hkk with rfl|rfl
   ·obtain⟨hK,ad2,cap2,vs,hs2,h1,h2⟩:=x_ H hy hte;refine⟨vs.toArray,by simpa using h1,fun w' hw'=>?_⟩;rw[hs2];have hl:=ja hK h1
    rcases h2 with rfl|⟨b,p,rfl,h3⟩
    ·simp only[VE]at h1;subst h1
     cases ad2 with
     |none=>simp[run_firstCells_none]
     |some b=>simpa using run_firstCells_some (P:=P) w' k' 0 b 0 cap2 [] (by simp) (by simp)
    ·exact run_firstCells_some w' k' es.length ⟨b,p,none⟩ es.length cap2 vs hl (fun j v hj=>by rw[lF];have:=h3 j v hj;simpa only [World.cell?,hw']using this)
   ·refine⟨#[],by simp[VE],fun w' _=>?_⟩;rw[hs]
    cases ad with
    |none=>simp[run_firstCells_none]
    |some b=>simpa using run_firstCells_some (P:=P) w' k 0 b 0 cap [] (by simp) (by simp)
  obtain⟨news,hE,hap⟩:=hnews;refine Bz H hk0 hB hB0 hzr hzk' (z:=false) (x:=r y) ?_ hap hE (kM hok) (fun _=>hok) hx hA;intro base sLen sCap hsx;rw[hex,hsx,Ft ht hk hu hd (n:=es.length) (by rw[hs];simp[Builtin.lenOf])]
 ·obtain⟨hK,ad2,cap2,vs,hs2,h1,h2⟩:=x_ H hy hte;have hob:=H.ob i _ hi;simp only[OV]at hob;obtain⟨_,hK',hfl,_⟩:=hob
  have hsub:∀e∈es,e∈es':=by
   simp only[kS,hi]at hte
   split at hte
   ·simp only[ak,bY,w_]at hte;subst hte
    exact fun e he=>j0 (lv he)
   ·simp at hte
  have hl:=ja hK h1;refine Bz H hk0 hB hB0 hzr hzk' (z:=false) (x:=r y) (news:=vs.toArray) (ap:=Builtin.firstCells k es.length (r y)) ?_ ?_ (by simpa using h1) hK (fun hf=>qf (hfl hf) hsub) hx hA
  ·intro base sLen sCap hsx;rw[hex,hsx,Ft ht hk hu hd (n:=es.length) (by rw[hs2];simp[Builtin.lenOf])]
  ·intro w' hw';rw[hs2]
   rcases h2 with rfl|⟨b,p,rfl,h3⟩
   ·simp only[VE]at h1;subst h1
    cases ad2 with
    |none=>simp[run_firstCells_none]
    |some b=>simpa using run_firstCells_some (P:=P) w' k 0 b 0 cap2 [] (by simp) (by simp)
   ·exact run_firstCells_some w' k es.length ⟨b,p,none⟩ es.length cap2 vs hl (fun j v hj=>by rw[lF];have:=h3 j v hj;simpa only [World.cell?,hw']using this)
 ·rw[jP hy]at hex
  refine Bz H hk0 hB hB0 hzr hzk' (z:=false) (x:=.string ⟨s.toArray⟩) (news:=(s.map fun b=>Value.int .u8 b.toNat).toArray) (ap:=Builtin.firstCells 1 (s.map fJ).length (.string ⟨s.toArray⟩)) ?_ ?_
   (by simpa using Cw s) (kM (xZ s)) (fun _=>xZ s) hx hA
  ·intro base sLen sCap hsx;rw[hex,hsx,Ft ht hk hu hd (n:=(s.map fJ).length) (by simp[Builtin.lenOf,vH])]
  ·intro w' _;simp only[Builtin.firstCells,fC,Mw,w7,fg,Sem.run_pure];congr 1;apply iY;simp
theorem vn{zc:Array Value}{k:Nat}(hk:zc.size=k):∀n:Nat,((Array.range (n*k)).map fun i=>zc[i%k]!).toList=(List.replicate n zc.toList).flatten
 |0=>by simp
 |n+1=>by
  have ih:=vn hk n;simp only[Array.toList_map,Array.toList_range]at ih⊢;rw[List.replicate_succ',List.flatten_append,<-ih,gA,Nat.one_mul,List.range_add,j5,iB];congr 1;simp only[List.flatten_cons,List.flatten_nil,ee];apply List.ext_getElem
  ·simp[hk]
  ·intro i h1 h2;simp only[fC,pV]at h1;simp only[List.getElem_map,List.getElem_range,Function.comp_apply,Array.getElem_toList];rw[Nat.add_comm,Nat.add_mul_mod_self_right,Nat.mod_eq_of_lt h1,getElem!_pos _ _ (by omega)]
theorem aa8(H:Inv P Γ N g h w){x y:Operand}{sT u e:TypeId}(ho:o.op=.call ⟨.builtin .append,#[x,y],#[sT,u]⟩)(ht:P.underlying sT=some (.slice e)){k B:Nat}(hk:bB P e=some k)(hk0:0<k)
 (hB:ml P e=some B)(hB0:B≠0){z:AV}(hz:eg P e=some z)(hzk:z.cells.length=k)(hz1:cm z.cells=true)(hzb:aK 0 z.cells=true){j:IntKind}(hu:P.underlying u=some (.int j))
 {a v:AV}{h':List Ob}(hx:V g h a (r x)){i:IntKind}{m:Int}(hy:r y=.int i m)(h0:0<=m)(hm:m<=2^47)(hmB:m*B<=2^48){E:TypeId}
 (hA:iH h k E B a (List.replicate m.toNat z) true=.val v h'):aM P Γ N r o w g h h' (some v):=by
 obtain⟨zv,hzr,rfl⟩:=vx hz;have hzk':=vl hzk;have hex:=Mv (P:=P) (w:=w) (r:=r) ho;have hVE:=u_ (oc g h zv) m.toNat;have hok:=uT hzk hz1 hzb m.toNat
 refine Bz H hk0 hB hB0 hzr hzk' (z:=true) (x:=.int i m) (news:=(List.replicate m.toNat zv.cells.toList).flatten.toArray)
  (ap:=if m.toNat*k=0 then pure #[]else do pure (Builtin.zeroCells (<-zeroValue e).cells m.toNat)) ?_ ?_ (by simpa using hVE) (kM hok) (fun _=>hok) hx hA
 ·intro base sLen sCap hsx;rw[hex,hsx,hy,XM ht hk hB hu h0 hm hmB,pW]
 ·intro w' _
  by_cases hmk:m.toNat*k=0
  ·rw[if_pos hmk]
   have:m.toNat=0:=by
    rcases Lr.1 hmk with h1|h1
    ·exact h1
    ·omega
   simp[this]
  ·rw[if_neg hmk];simp only[Sem.run_bind,hzr,Result.andThen_ok,Sem.run_pure];congr 1;apply iY;have:=vn hzk' m.toNat;simpa[Builtin.zeroCells,hzk']using this
theorem ad6(H:Inv P Γ N g h w){x:Operand}{sT e:TypeId}(ho:o.op=.call ⟨.builtin .clear,#[x],#[sT]⟩)(ht:P.underlying sT=some (.slice e)){k:Nat}(hk:bB P e=some k)(hk0:0<k)
 {z:AV}(hz:eg P e=some z)(hzk:z.cells.length=k)(hz1:cm z.cells=true)(hzb:aK 0 z.cells=true){i off n:Nat}(hx:V g h (.sl i off n) (r x)){E:TypeId}{es:List AV}{fl:Bool}
 (hi:h[i]? =some (.row k E es none fl false))(hle:off+n<=es.length):aM P Γ N r o w g h (h.set i (.row k E (es.take off++List.replicate n z++es.drop (off+n)) none fl false)) (some (.aH [])):=by
 obtain⟨zv,hzr,rfl⟩:=vx hz;have hzk':=vl hzk;have hys:=u_ (oc g h zv) n;have hyok:=uT hzk hz1 hzb n;have hyk:=kM hyok;have hil:=aV hi;have hx0:=hx;simp only[V]at hx0;obtain⟨k2,E2,es2,gr2,fl2,sh2,hi2,hle2,base,cap,hs,hcap,hbn,hq⟩:=hx0;rw[hi]at hi2;simp only[ak,Ob.row.injEq]at hi2;obtain⟨rfl,rfl,rfl,rfl,rfl,rfl⟩:=hi2;obtain⟨hlc,hq⟩:=hq (by simpa[cM]using hle);have hob:=H.ob i _ hi;simp only[OV]at hob;obtain⟨_,hK,hfl,hgl,hb⟩:=hob
 have hnewlen:(es.take off++List.replicate n (gI zv)++es.drop (off+n)).length=es.length:=by simp;omega
 have hE:Ext h.length g h g (h.set i (.row k E (es.take off++List.replicate n (gI zv)++es.drop (off+n)) none fl false)):=by
  have:=Ext.qw (g:=g) (E':=E) (es':=es.take off++List.replicate n (gI zv)++es.drop (off+n)) (gr':=none) (fl':=fl) (sh':=false) (ρ':=g.ρ i) hi (by omega) (by
   intro off' m hom h1
   refine⟨by simpa[cM]using hom,hnewlen,fun _ h=>h⟩)
  rwa[de]at this
 have hKn:ei k (es.take off++List.replicate n (gI zv)++es.drop (off+n)):=by
  intro e he;simp only[aT]at he
  rcases he with(he|he)|he
  ·exact hK e (lv he)
  ·exact hyk e he
  ·exact hK e (j0 he)
 have hfln:fl=true->cA (es.take off++List.replicate n (gI zv)++es.drop (off+n)) k=true:=by
  intro hf;rw[u5,u5];exact⟨⟨qf (hfl hf) (fun e he=>lv he),hyok⟩,qf (hfl hf) (fun e he=>j0 he)⟩
 have hex:∀base cap,r x=.slice base n cap->(execOp r o).run P w=((Builtin.clear_ #[sT] o.type #[r x]).run P w).andThen fun v w=>.ok (.value v) w:=by
  intro base cap _;simp only[execOp,ho,resolve,invoke,builtin,Sem.run_bind,Sem.run_pure,Result.andThen_ok,List.map_toArray,bU,jG]
 rcases hq with⟨h0,h00⟩|⟨b,sz,st,hρ,hst,rfl,hcs⟩
 ·subst h0
  have hsame:h.set i (.row k E (es.take off++List.replicate 0 (gI zv)++es.drop (off+0)) none fl false)=h:=by
   apply iC;intro m
   by_cases hm:i=m
   ·subst hm;rw[eI hil,hi];simp
   ·rw[dM hm]
  rw[hsame];refine aM.same H (u:=.tuple #[]) ?_ (by simp only[V,VL];exact⟨[],rfl,rfl⟩);rw[hex _ _ hs,hs];simp[Builtin.clear_,run_underlying ht]
  cases base<;>simp
 ·by_cases hn0:n=0
  ·subst hn0
   have hsame:h.set i (.row k E (es.take off++List.replicate 0 (gI zv)++es.drop (off+0)) none fl false)=h:=by
    apply iC;intro m
    by_cases hm:i=m
    ·subst hm;rw[eI hil,hi];simp
    ·rw[dM hm]
   rw[hsame];refine aM.same H (u:=.tuple #[]) ?_ (by simp only[V,VL];exact⟨[],rfl,rfl⟩);rw[hex _ _ hs,hs];simp[Builtin.clear_,run_underlying ht]
  ·rw[hρ]at hb;simp only at hb;obtain⟨hst',c,Eb,fz,vs,hw,hsz,hfree,hVE,hcells⟩:=hb;simp only[uG,Nat.zero_sub,w8,iZ,fg,Nat.le_zero_eq]at*;subst hst'
   have hnl:(List.replicate n zv.cells.toList).flatten.length=n*k:=by
    have:=ja hyk hys;simpa using this
   have hm:off*k+(List.replicate n zv.cells.toList).flatten.length<=c.size:=by
    rw[hnl,hsz,<-gA]
    have h1:(off+cap)*k<=sz:=by simpa using hcs
    exact sL (ma _ (by omega)) h1
   have h3:=Bn P b ((off-0)*k) Eb fz (List.replicate n zv.cells.toList).flatten 0 c w hw hfree (by simpa using hm) (Gq hyk hys)
   have hzl:(Builtin.zeroCells zv.cells n).toList=(List.replicate n zv.cells.toList).flatten:=by
    have:=vn hzk' n;simpa[Builtin.zeroCells,hzk']using this
   have hrun:(execOp r o).run P w=.ok (.value (.tuple #[])) (w.setRow b (eE c.toList (off*k) (List.replicate n zv.cells.toList).flatten).toArray):=by
    rw[hex _ _ hs,hs];have hn1:∃m,n=m+1:=⟨n-1,by omega⟩;obtain⟨m,rfl⟩:=hn1;rw[gZ]at h3;simp only[Builtin.clear_,pU,ry,Sem.run_bind,run_underlying ht,Result.andThen_ok,hzr,hzl,h3,Sem.run_pure];simp[eE]
   have hm2:off*k+(List.replicate n zv.cells.toList).flatten.length<=c.toList.length:=by simpa using hm
   have hsl:=rI hm2
   have hnoM:∀o v,g.M b o=some v->False:=by
    intro o v hv;obtain⟨_,_,_,_,_,h5,_⟩:=H.eP i b sz 0 o v hρ hv;rw[hi]at h5;simp at h5
   refine⟨g,_,_,hrun,Inv.write H hil hρ hw hE (fun o v hv=>(hnoM o v hv).elim) (fun sz' st' o v _ hv=>(hnoM o v hv).elim) ?_,hE,_,rfl,by simp only[V,VL];exact⟨[],rfl,rfl⟩⟩;simp only[OV];refine⟨hk0,hKn,hfln,by simp,?_⟩;rw[hρ];simp only[uG,Nat.zero_sub,w8,iZ,fg];have hV2:=qk (qk (zM hK hVE off) hys) (vN hK hVE (off+n));have hvl:=ja hK hVE;refine⟨aQ _,(eE c.toList (off*k) (List.replicate n zv.cells.toList).flatten).toArray,Eb,fz,_,setRow_heap w b c _ Eb fz hw,?_,vz hfree ?_,gE hE (kU hV2) hV2,?_⟩
   ·simp only[rv];rw[hsl];simpa using hsz
   ·simp only[rv];rw[hsl];simp
   ·intro j hj
    have e2:(off+n)*k=off*k+(List.replicate n zv.cells.toList).flatten.length:=by rw[gA,hnl]
    have hvm:off*k+(List.replicate n zv.cells.toList).flatten.length<=vs.length:=by
     rw[<-e2,hvl];exact ma _ (by omega)
    have hsp:vs.take (off*k)++(List.replicate n zv.cells.toList).flatten++vs.drop ((off+n)*k)=eE vs (off*k) (List.replicate n zv.cells.toList).flatten:=by
     rw[e2];rfl
    have hj2:=n9 hvm j
    have hj3:j<vs.length:=by
     have:j<(eE vs (off*k) (List.replicate n zv.cells.toList).flatten).length:=by rw[<-hsp];exact hj
     rwa[rI hvm]at this
    rw[pU,n9 hm2,<-aR hj,hsp,hj2]
    by_cases h7:j<off*k
    ·rw[if_pos h7,if_pos h7,aR hj3,<-hcells j hj3];simp
    ·rw[if_neg h7,if_neg h7]
     by_cases h8:j<off*k+(List.replicate n zv.cells.toList).flatten.length
     ·rw[if_pos h8,if_pos h8]
     ·rw[if_neg h8,if_neg h8,aR hj3,<-hcells j hj3];simp
theorem aaL(H:Inv P Γ N g h w){x y:Operand}{ty e:TypeId}(ho:o.op=.makeSlice ty x y)(ht:P.underlying ty=some (.slice e)){k B:Nat}(hk:bB P e=some k)(hk0:0<k)
 (hB:ml P e=some B){z:AV}(hz:eg P e=some z)(hzk:z.cells.length=k)(hz1:cm z.cells=true)(hzb:aK 0 z.cells=true){i j:IntKind}{n:Int}
 (hx:r x=.int i n)(hy:r y=.int j n)(h0:0<=n)(hn:n<=2^47)(hnB:n*B<=2^47)(E:TypeId):
 aM P Γ N r o w g h (h++[.row k E (List.replicate n.toNat z) none true false]) (some (.sl h.length 0 n.toNat)):=by
 obtain⟨zv,hzr,rfl⟩:=vx hz;have hzk':=vl hzk
 have hti:∃i,P.info? e=some i/\i.bytes=B:=by
  unfold ml at hB
  cases hi:P.info? e with
  |none=>simp[hi]at hB
  |some i=>simp[hi]at hB;exact⟨i,rfl,hB⟩
 obtain⟨ti,hti,hbt⟩:=hti
 have hty:∀w,(typeInfo e).run P w=.ok ti w:=fun w=>by simp[typeInfo,hti]
 have hwr:IntKind.i64.wrap n=n:=IntWalk.i64_in _ (by omega);have hok:=uT hzk hz1 hzb n.toNat;have hVE:=u_ (oc g h zv) n.toNat;have hzl:=vn hzk' n.toNat
 have hBn:(ti.bytes:Int)*n<=2^47:=by rw[hbt,Int.mul_comm];exact hnB
 have hrun:(Instr.makeSlice ty (r x) (r y)).run P w=.ok (.slice (some ⟨w.heap.size,0,none⟩) n.toNat n.toNat) (w.alloc (.cells ((List.replicate n.toNat zv.cells.toList).flatten++[]).toArray e)):=by
  simp only[Instr.makeSlice,Sem.run_bind,run_underlying ht,Result.andThen_ok,hx,hy,asInt,asIntOf,Sem.run_pure,hty,hwr]
  have h1:(decide (n<0)||decide ((ti.bytes:Int)*n>2^48))=false:=by
   simp only[kJ,iD];omega
  have h2:(decide (n<0)||decide ((ti.bytes:Int)*n>2^48)||decide (n<0)||decide (n>n))=false:=by
   rw[h1];simp;omega
  rw[if_neg (by rw[h2];simp)];simp only[Sem.run_bind,run_askRoom,Result.andThen_ok,jq hk]
  by_cases hmk:n.toNat*k=0
  ·have hn0:n.toNat=0:=by
    rcases Lr.1 hmk with h1|h1
    ·exact h1
    ·omega
   rw[if_pos hmk]
   have e0:Array.map (fun _:Nat=>(default:Value)) (Array.range 0)=#[]:=by apply iY;simp
   simp[newRow,hn0,e0]
  ·rw[if_neg hmk];simp only[Sem.run_bind,hzr,Result.andThen_ok,newRow,run_newObj,Sem.run_pure,hzk'];congr 4;apply iY;rw[hzl];simp
 have hsz:((List.replicate n.toNat zv.cells.toList).flatten++[]).length=n.toNat*k:=by simp[hzk']
 refine aM.make (w':=w) H rfl rfl rfl rfl (sz:=n.toNat*k) (by simp only[execOp,ho];rw[Sem.run_bind,hrun];rfl) ?_ (by simp) ?_
 ·exact CY (P:=P) hk0 (kM hok) (fun _=>hok) (dd _ _ _) (mi w _) hsz.symm (vD _) (gE (Ext.push _ _) (kU hVE) hVE)
 ·have:=B6 (h:=h) (g':=g.bM h.length (some (w.heap.size,n.toNat*k,0))) (k:=k) (E:=E) (es:=List.replicate n.toNat (gI zv)) (os:=[]) (fl:=true) (sh:=false) (dd _ _ _) (cap:=n.toNat) (by simp) (aQ _);simpa using this
theorem aat(w:World)(c:Array Value)(E:TypeId):(w.alloc (.cells c E)).freeze ⟨w.heap.size,c.size,none⟩ 1=w.alloc (.cells c E (c.size,c.size+1)):=by
 simp only[World.freeze,World.alloc];simp only[Nat.one_ne_zero,da];congr 1;apply Array.ext
 ·simp
 ·intro i h1 h2;simp only[Array.getElem_modify,Array.getElem_push];simp at h2
  by_cases hi:i<w.heap.size
  ·have:¬w.heap.size=i:=by omega
   simp[hi,this]
  ·have:i=w.heap.size:=by omega
   subst this;simp
theorem aaE(H:Inv P Γ N g h w){s d e:TypeId}{x:Operand}(ho:o.op=.convert s d x)(hs:P.underlying s=some .string)(hd:P.underlying d=some (.slice e))(he:P.underlying e=some (.int .u8))
 {l:List UInt8}(hx:r x=.string ⟨l.toArray⟩)(E:TypeId):aM P Γ N r o w g h (h++[.row 1 E (l.map fJ) none true false]) (some (.sl h.length 0 l.length)):=by
 have hcap:∃cap,l.length<=cap/\(Question.appendCap l.length 0 e).cut (w.tape w.drawn (.appendCap l.length 0 e))=cap:=⟨_,by simp[Question.cut],rfl⟩;obtain⟨cap,hcap,hcut⟩:=hcap
 have hrun:(convert s d (r x)).run P w=.ok (.slice (some ⟨w.heap.size,0,none⟩) l.length cap)
  (w.drew.alloc (.cells ((l.map fun b:UInt8=>Value.int .u8 b.toNat)++List.replicate (cap-l.length) (Value.int .u8 0)).toArray e (cap,cap+1))):=by
  have hsize:((l.map fun b:UInt8=>Value.int .u8 b.toNat)++List.replicate (cap-l.length) (Value.int .u8 0)).toArray.size=cap:=by simp;omega
  have hshape:(w.drew.alloc (.cells ((l.map fun b:UInt8=>Value.int .u8 b.toNat)++List.replicate (cap-l.length) (Value.int .u8 0)).toArray e)).shape? w.heap.size=some (e,cap):=by
   have:=mi w.drew (.cells ((l.map fun b:UInt8=>Value.int .u8 b.toNat)++List.replicate (cap-l.length) (Value.int .u8 0)).toArray e);simp only[World.shape?];rw[show w.heap.size=w.drew.heap.size from rfl,this];simp only[hsize]
  have hfr:=aat w.drew ((l.map fun b:UInt8=>Value.int .u8 b.toNat)++List.replicate (cap-l.length) (Value.int .u8 0)).toArray e;rw[hsize]at hfr;simp only[convert,Sem.run_bind,run_underlying hs,run_underlying hd,Result.andThen_ok,hx,run_underlying he];simp only[Conv.stringToBytes,Sem.run_bind,run_choose,Question.forced,eH,da,vH,hcut,Result.andThen_ok,newRow,run_newObj,Sem.run_pure,World.drew_eq,World.alloc_eq]
  have harr:(Array.map (fun b:UInt8=>Value.int .u8 b.toNat) l.toArray++Array.replicate (cap-l.length) (Value.int .u8 0))=((l.map fun b:UInt8=>Value.int .u8 b.toNat)++List.replicate (cap-l.length) (Value.int .u8 0)).toArray:=by
   apply iY;simp
  rw[harr];simp only[markStringish,Sem.run_bind,run_shape,World.size_drew,hshape,Result.andThen_ok,run_freeze];rw[show(⟨w.heap.size,cap,none⟩:Addr)=⟨w.drew.heap.size,cap,none⟩from rfl,hfr]
 refine aM.make (w':=w.drew) H rfl rfl rfl rfl (sz:=cap) (by simp only[execOp,ho];rw[Sem.run_bind,hrun];rfl) ?_ (by simp) ?_
 ·exact CY (P:=P) (Nat.zero_lt_one) (kM (xZ l)) (fun _=>xZ l) (dd _ _ _) (mi w.drew _) (by simp;omega) (Or.inr (by simp;omega)) (gE (Ext.push _ _) (kU (Cw (g:=g) l)) (Cw l))
 ·have:=B6 (h:=h) (g':=g.bM h.length (some (w.heap.size,cap,0))) (k:=1) (E:=E) (es:=l.map fJ) (os:=[]) (fl:=true) (sh:=false) (dd _ _ _) (cap:=cap) (by simpa using hcap) (by simp);simpa using this
end
def sameKind:Ob->Ob->Prop
 |.cells _,.cells _=>True
 |.map _ _,.map _ _=>True
 |.iO _ _,.iO _ _=>True
 |.loop _ _ fn t ps a b,.loop _ _ fn' t' ps' a' b'=>fn=fn'/\t=t'/\ps=ps'/\a=a'/\b=b'
 |.bD _,.bD _=>True
 |_,_=>False
def kp(w:World)(b:Nat)(o:Obj):World:={w with heap:=w.heap.setIfInBounds b o}
theorem acG(w:World)(b:Nat)(o:Obj):(kp w b o).heap.size=w.heap.size:=by simp[kp]
theorem zh{w:World}{b:Nat}(o:Obj)(h:b<w.heap.size):(kp w b o).heap[b]? =some o:=by simp[kp,h]
theorem aaQ(w:World){b b':Nat}(o:Obj)(h:b'≠b):(kp w b o).heap[b']? =w.heap[b']? :=by
 simp only[kp];rw[uH];rw[if_neg (by omega)]
section
variable{P:Program}{Γ:Nat->Option AV}{N:Env}{g:G}{h:List Ob}{w:World}{r:Operand->Value}{o:Oper}{t:List AV}
theorem Ext.vM{i:Nat}{o o':Ob}(hi:h[i]? =some o)(hk:sameKind o o'):Ext h.length g h g (h.set i o'):=by
 have hil:=aV hi;have hs:=eI (l:=h) (i:=i) (a:=o') hil
 have ho:∀{j x},j≠i->h[j]? =some x->(h.set i o')[j]? =some x:=fun{j x} hj hx=>by rw[dM (by omega)];exact hx
 refine⟨fun _ _ _ x=>x,fun _ _ x=>x,?_,?_,?_,?_,?_,?_⟩
 ·intro j us _ hj
  by_cases hji:j=i
  ·subst hji
   rw[hi]at hj;cases hj
   cases o'<;>simp only[sameKind]at hk
   exact⟨⟨_,hs⟩,fun _ x=>x⟩
  ·exact⟨⟨us,ho hji hj⟩,fun _ x=>x⟩
 ·intro j es fl _ hj
  by_cases hji:j=i
  ·subst hji
   rw[hi]at hj;cases hj
   cases o'<;>simp only[sameKind]at hk
   exact⟨⟨_,_,hs⟩,fun _ x=>x⟩
  ·exact⟨⟨_,_,ho hji hj⟩,fun _ x=>x⟩
 ·intro j s p _ hj
  by_cases hji:j=i
  ·subst hji
   rw[hi]at hj;cases hj
   cases o'<;>simp only[sameKind]at hk
   exact⟨⟨_,_,hs⟩,fun _ x=>x⟩
  ·exact⟨⟨_,_,ho hji hj⟩,fun _ x=>x⟩
 ·intro j st q fn t ps a b _ hj
  by_cases hji:j=i
  ·subst hji
   rw[hi]at hj;cases hj
   cases o'<;>simp only[sameKind]at hk
   obtain⟨rfl,rfl,rfl,rfl,rfl⟩:=hk;exact⟨⟨_,_,hs⟩,fun _ x=>x⟩
  ·exact⟨⟨_,_,ho hji hj⟩,fun _ x=>x⟩
 ·intro j l _ hj
  by_cases hji:j=i
  ·subst hji
   rw[hi]at hj;cases hj
   cases o'<;>simp only[sameKind]at hk
   exact⟨⟨_,hs⟩,fun _ x=>x⟩
  ·exact⟨⟨_,ho hji hj⟩,fun _ x=>x⟩
 ·intro j k E es gr fl sh _ hj
  have hji:j≠i:=by
   rintro rfl;rw[hi]at hj;cases hj
   cases o'<;>simp only[sameKind]at hk
  exact⟨_,_,_,_,_,ho hji hj,aQ _,fun _ _ _ hk=>⟨hk,rfl,fun _ x=>x⟩⟩
theorem Inv.Am{i b:Nat}{x:Nat×Nat}{o o':Ob}{B:Obj}(H:Inv P Γ N g h w)(hi:h[i]? =some o)(hρ:g.ρ i=some (b,x))(hk:sameKind o o')(hob:OV P g (h.set i o') (kp w b B) i o'):
 Inv P Γ N g (h.set i o') (kp w b B):=by
 have hlt:b<w.heap.size:=(H.own i b x hρ).2;have hE:=Ext.vM (g:=g) hi hk
 have hnoM:∀o v,g.M b o=some v->False:=by
  intro q v hv;obtain⟨sz,st⟩:=x;obtain⟨_,_,_,_,_,h5,_⟩:=H.eP i b sz st q v hρ hv;rw[hi]at h5
  cases h5
  simp only[sameKind]at hk
 have:=Inv.set (r:=g.ρ i) (w':=kp w b B) H (aV hi) (by rw[de];exact hE) rfl rfl rfl (fun b' _ hne=>aaQ w B (fun e=>hne x (by rw[e];exact hρ))) (by simp[kp])
  (fun b' y hy=>⟨Or.inl ⟨y,hy⟩,by rw[acG];exact(H.own i b' y hy).2⟩) (by
   intro b' y q v hy hv;rw[hρ]at hy;simp only[ak,bY]at hy;obtain⟨rfl,_⟩:=hy
   exact(hnoM q v hv).elim)
  (by
   intro b' sz st q v hy hv;rw[hρ]at hy
   have hbb:b'=b:=by simp only[ak,bY]at hy;exact hy.1.symm
   subst hbb
   exact(hnoM q v hv).elim)
  (by rw[de];exact hob)
 rwa[de]at this
theorem y5{b:Nat}{B:Obj}(h:w.heap[b]? =some B)(hc:∀c e f,B≠.cells c e f):(getObj b).run P w=.ok B w:=by
 simp only[getObj,Sem.run,h]
theorem y_{b:Nat}{B B':Obj}(h:w.heap[b]? =some B)(hc:∀c e f,B≠.cells c e f):(setObj b B').run P w=.ok () (kp w b B'):=by
 simp only[setObj,Sem.run,h]
 cases B<;>first|rfl|exact absurd rfl (hc _ _ _)
theorem af7(H:Inv P Γ N g h w){x:Operand}(ho:o.op=.next x true){i:Nat}(hx:V g h (.it i) (r x)){s:List UInt8}{pos:Nat}(hi:h[i]? =some (.iO s pos)):
 (pos<s.length->aM P Γ N r o w g h (h.set i (.iO s (pos+(Utf8.decode ⟨s.toArray⟩ pos).2))) (some (.aH [.bool true,.int .i64 pos,.int .i32 (Utf8.decode ⟨s.toArray⟩ pos).1])))/\
 (¬pos<s.length->aM P Γ N r o w g h h (some (.aH [.bool false]))):=by
 simp only[V]at hx;obtain⟨_,b,sz,hρ,hrx⟩:=hx;have hb:w.heap[b]? =some (.stringIter ⟨s.toArray⟩ pos):=H.ob i _ hi b sz 0 hρ;have hg:=y5 (P:=P) hb (by simp);constructor
 ·intro hlt;have hk:sameKind (.iO s pos) (.iO s (pos+(Utf8.decode ⟨s.toArray⟩ pos).2)):=trivial;refine⟨g,kp w b (.stringIter ⟨s.toArray⟩ (pos+(Utf8.decode ⟨s.toArray⟩ pos).2)),.value (.tuple #[.bool true,goInt pos,.int .i32 (Utf8.decode ⟨s.toArray⟩ pos).1]),?_,Inv.Am H hi hρ hk ?_,Ext.vM hi hk,.tuple #[.bool true,goInt pos,.int .i32 (Utf8.decode ⟨s.toArray⟩ pos).1],rfl,?_⟩
  ·have hst:=y_ (P:=P) (B':=.stringIter ⟨s.toArray⟩ (pos+(Utf8.decode ⟨s.toArray⟩ pos).2)) hb (by simp);simp[execOp,ho,hrx,Instr.next,hg,vH,hlt,hst]
  ·intro b' sz' st' hb';rw[hρ]at hb';simp only[ak,bY]at hb';obtain⟨rfl,_⟩:=hb';exact zh _ (H.own i b _ hρ).2
  ·simp only[V,VL];exact⟨[.bool true,goInt pos,.int .i32 (Utf8.decode ⟨s.toArray⟩ pos).1],rfl,_,_,rfl,rfl,_,_,rfl,rfl,_,_,rfl,rfl,rfl⟩
 ·intro hlt;refine aM.same H (u:=.tuple #[.bool false]) ?_ (by simp only[V,VL];exact⟨[.bool false],rfl,_,_,rfl,rfl,rfl⟩);simp[execOp,ho,hrx,Instr.next,hg,vH,hlt]
theorem OB{s:SK}{a b:AV}(h1:eV s a b=some true){x y:Value}(hx:V g h a x)(hy:V g h b y):x=y/\∀n,Instr.sameBits n x y=true:=by
 cases s<;>cases a<;>cases b<;>simp only[eV,reduceCtorEq,ak]at h1
 ·split at h1
  ·rename_i hk;subst hk;simp only[ak,mU]at h1;subst h1;rw[ey hx,ey hy];exact⟨rfl,fun n=>by cases n<;>simp[Instr.sameBits]⟩
  ·simp at h1
 ·simp only[mU]at h1;subst h1;rw[jP hx,jP hy];exact⟨rfl,fun n=>by cases n<;>simp[Instr.sameBits,Ol]⟩
 ·simp only[mU]at h1;subst h1;rw[mq hx,mq hy];exact⟨rfl,fun n=>by cases n<;>simp[Instr.sameBits]⟩
theorem NW:∀{ss:List SK}{as bs:List AV}{xs ys:List Value},gN ss as bs=some true->VL g h as xs->VL g h bs ys->xs=ys/\∀n,(xs.zip ys).all (fun(x,y)=>Instr.sameBits n x y)=true
 |[],[],[],xs,ys,_,hx,hy=>by simp only[VL]at hx hy;subst hx;subst hy;exact⟨rfl,fun _=>rfl⟩
 |[],_::_,_,_,_,h1,_,_=>by simp[gN]at h1
 |[],[],_::_,_,_,h1,_,_=>by simp[gN]at h1
 |_::_,[],_,_,_,h1,_,_=>by simp[gN]at h1
 |_::_,_::_,[],_,_,h1,_,_=>by simp[gN]at h1
 |s::ss,a::as,b::bs,xs,ys,h1,hx,hy=>by
  simp only[VL]at hx hy;obtain⟨x,xs',rfl,hx1,hx2⟩:=hx;obtain⟨y,ys',rfl,hy1,hy2⟩:=hy;simp only[gN]at h1
  split at h1
  ·rename_i he;obtain⟨rfl,h2⟩:=OB he hx1 hy1;obtain⟨rfl,h3⟩:=NW h1 hx2 hy2;exact⟨rfl,fun n=>by simp[h2];simpa using h3 n⟩
  ·simp at h1
  ·simp at h1
theorem aaq{P:Program}{ty:TypeId}{e:EK}(hk:jr P ty=some e){a b:AV}(h1:cj e a b=some true){x y:Value}(hx:V g h a x)(hy:V g h b y):x=y/\Instr.sameBits 10000 x y=true:=by
 unfold jr at hk
 split at hk
 ·simp only[ak]at hk;subst hk;obtain⟨h2,h3⟩:=OB h1 hx hy;exact⟨h2,h3 _⟩
 ·simp only[cf]at hk;obtain⟨ss,_,rfl⟩:=hk
  cases a<;>cases b<;>simp only[cj,reduceCtorEq]at h1
  split at h1
  ·simp only[V]at hx hy;obtain⟨xs,rfl,hx⟩:=hx;obtain⟨ys,rfl,hy⟩:=hy;obtain⟨rfl,h2⟩:=NW h1 hx hy;refine⟨rfl,?_⟩;have:=h2 9999
   show((xs.toArray.size==xs.toArray.size)&&(xs.toArray.toList.zip xs.toArray.toList).all fun(x,y)=>Instr.sameBits 9999 x y)=true
   simpa using this
  ·simp at h1
theorem Mi{e:EK}{k:AV}:∀{es:List (AV×AV)}{i:Nat},findAt e k es=some (some i)->∃x,es[i]? =some x/\cj e k x.1=some true
 |[],i,h1=>by simp[findAt]at h1
 |(a,v)::es,i,h1=>by
  simp only[findAt]at h1
  split at h1
  ·rename_i he;simp only[ak]at h1;subst h1;exact⟨(a,v),rfl,he⟩
  ·simp only[cf]at h1;obtain⟨p,hp,h2⟩:=h1;obtain⟨j,rfl,rfl⟩:=h2;obtain⟨x,h3,h4⟩:=Mi hp;exact⟨x,by simpa using h3,h4⟩
  ·simp at h1
theorem FX:∀{as:List AV}{vs:List Value}(i:Nat),VL g h as vs->VL g h (as.eraseIdx i) (vs.eraseIdx i)
 |[],vs,i,hv=>by simp only[VL]at hv;subst hv;simp[VL]
 |a::as,vs,i,hv=>by
  simp only[VL]at hv;obtain⟨v,vs',rfl,h1,h2⟩:=hv
  cases i with
  |zero=>simpa using h2
  |succ i=>simp only[List.eraseIdx_cons_succ,VL];exact⟨v,_,rfl,h1,FX i h2⟩
theorem xV{α β:Type}(f:α->β):∀(l:List α)(i:Nat),(l.eraseIdx i).map f=(l.map f).eraseIdx i
 |[],i=>by simp
 |a::l,0=>by simp
 |a::l,i+1=>by simp[xV f l i]
theorem zy{n:Nat}:∀{l:List AV},aK n l=true↔∀a∈l,aG n a=true
 |[]=>by simp[aK]
 |a::l=>by simp[aK,zy (l:=l)]
theorem ahm(H:Inv P Γ N g h w){ty kt et:TypeId}{m k x:Operand}(ho:o.op=.mapUpdate ty m k x\/o.op=.insert ty m k x)(hu:P.underlying ty=some (.map kt et)){e:EK}(hk:jr P kt=some e)
 {j:Nat}(hm:V g h (.mp j) (r m)){es es':List (AV×AV)}{fl:Bool}(hj:h[j]? =some (.map es fl)){a b:AV}(ha:V g h a (r k))(hkey:isKey e a=true)(hb:V g h b (r x))(hp:gb e a b es=some es'):
 aM P Γ N r o w g h (h.set j (.map es' (fl&&aG 0 b))) none:=by
 simp only[V]at hm;obtain⟨_,bk,sz,hρ,hrm⟩:=hm;obtain⟨hfl,hob⟩:=H.ob j _ hj;obtain⟨bj,ck,hw,hks,hvs⟩:=hob bk sz 0 hρ;have hkk:sameKind (.map es fl) (.map es' (fl&&aG 0 b)):=trivial;have hE:=Ext.vM (g:=g) hj hkk;obtain⟨p,hp1,hp2⟩:=Pr hp;have hf:=run_findKey hk ha hks hp1 w;have hck:=run_checkKey hk hkey ha false w;have hg:=y5 (P:=P) hw (by simp);have hlen:=Gh hks;have hbk:=(H.own j bk _ hρ).2
 have hfl':(fl&&aG 0 b)=true->aK 0 (es'.map (·.2))=true:=by
  intro h1;simp only[ay]at h1;have h2:=zy.1 (hfl h1.1);rw[zy];intro y hy
  cases p with
  |none=>
   simp only at hp2;subst hp2;simp only[j5,bU,jG,aT,cE]at hy
   rcases hy with hy|rfl
   ·exact h2 y hy
   ·exact h1.2
  |some i=>
   obtain⟨_,rfl⟩:=hp2;rw[rz]at hy
   rcases pT hy with hy|rfl
   ·exact h2 y hy
   ·exact h1.2
 have hdone:∀(ents':Array MapEntry)(ck':Nat),VL g h (es'.map (·.1)) (ents'.toList.map (·.key))->VL g h (es'.map (·.2)) (ents'.toList.map (·.val))->
  (Instr.mapUpdate ty (r m) (r k) (r x)).run P w=.ok () (kp w bk (.map ents' ck'))->aM P Γ N r o w g h (h.set j (.map es' (fl&&aG 0 b))) none:=by
  intro ents' ck' h1 h2 hrun;refine⟨g,kp w bk (.map ents' ck'),_,?_,Inv.Am H hj hρ hkk ⟨hfl',?_⟩,hE,rfl⟩
  ·rcases ho with ho|ho<;>simp[execOp,ho,hrun]
  ·intro b' sz' st' hb';rw[hρ]at hb';simp only[ak,bY]at hb';obtain⟨rfl,_⟩:=hb';exact⟨ents',ck',zh _ hbk,cF hE (dB h1) h1,cF hE (dB h2) h2⟩
 cases p with
 |none=>
  simp only at hp2;subst hp2;refine hdone (bj.push {key:=r k,val:=r x,born:=ck}) (ck+1) ?_ ?_ ?_
  ·simp only[j5,bU,jG,Array.toList_push];exact lD hks (by simp only[VL];exact⟨_,_,rfl,ha,rfl⟩)
  ·simp only[j5,bU,jG,Array.toList_push];exact lD hvs (by simp only[VL];exact⟨_,_,rfl,hb,rfl⟩)
  ·simp only[Option.bind_none]at hf;have hs:=y_ (P:=P) (B':=.map (bj.push {key:=r k,val:=r x,born:=ck}) (ck+1)) hw (by simp);simp[Instr.mapUpdate,run_underlying hu,hrm,hg,hck,hf,hs]
 |some i=>
  obtain⟨hil,rfl⟩:=hp2;obtain⟨y,hy1,hy2⟩:=Mi hp1
  have hile:i<bj.size:=by have:bj.toList.length=es.length:=hlen;simp at this;omega
  have hge:bj[i]? =some bj[i]:=j6 hile;obtain⟨q,hq1,hq2⟩:=rV (i:=i) (a:=y.1) hks (by simp[hy1]);simp only[jn,xe,hge,dm,ak]at hq1;subst hq1;obtain⟨hkq,hsb⟩:=aaq hk hy2 ha hq2;rw[<-hkq]at hsb;refine hdone (bj.modify i fun e=>{e with key:=r k,val:=r x}) ck ?_ ?_ ?_
  ·have:(bj.modify i fun e=>{e with key:=r k,val:=r x}).toList.map (·.key)=(bj.toList.map (·.key)).set i (r k):=by
    rw[Array.toList_modify];apply iC;intro n;simp only[jn,AT,pX,fC,xd]
    by_cases hn:i=n
    ·subst hn;simp[hile]
    ·simp[hn]
   rw[this,rz];exact qz i hks ha
  ·have:(bj.modify i fun e=>{e with key:=r k,val:=r x}).toList.map (·.val)=(bj.toList.map (·.val)).set i (r x):=by
    rw[Array.toList_modify];apply iC;intro n;simp only[jn,AT,pX,fC,xd]
    by_cases hn:i=n
    ·subst hn;simp[hile]
    ·simp[hn]
   rw[this,rz];exact qz i hvs hb
  ·have hs:=y_ (P:=P) (B':=.map (bj.modify i fun e=>{e with key:=r k,val:=r x}) ck) hw (by simp);simp only[kH,xe,hge,dm]at hf
   have hkt:(Instr.keyThatStays bj[i].key (r k)).run P w=.ok (r k) w:=by
    unfold Instr.keyThatStays;rw[<-hkq,hsb];simp
   simp[Instr.mapUpdate,run_underlying hu,hrm,hg,hck,hf,hge,hkt,hs]
theorem abR(H:Inv P Γ N g h w){mt u kt et:TypeId}{m k:Operand}(ho:o.op=.call ⟨.builtin .delete,#[m,k],#[mt,u]⟩)(hu:P.underlying mt=some (.map kt et)){e:EK}(hk:jr P kt=some e)
 {j:Nat}(hm:V g h (.mp j) (r m)){es es':List (AV×AV)}{fl:Bool}(hj:h[j]? =some (.map es fl)){a:AV}(ha:V g h a (r k))(hkey:isKey e a=true)(hp:nq e a es=some es'):
 aM P Γ N r o w g h (h.set j (.map es' fl)) (some (.aH [])):=by
 simp only[V]at hm;obtain⟨_,bk,sz,hρ,hrm⟩:=hm;obtain⟨hfl,hob⟩:=H.ob j _ hj;obtain⟨bj,ck,hw,hks,hvs⟩:=hob bk sz 0 hρ;have hkk:sameKind (.map es fl) (.map es' fl):=trivial;have hE:=Ext.vM (g:=g) hj hkk;obtain⟨p,hp1,hp2⟩:=PZ hp;have hf:=run_findKey hk ha hks hp1 w
 have hck:=fun em=>run_checkKey hk hkey ha em w
 have hg:=y5 (P:=P) hw (by simp);have hlen:=Gh hks;have hbk:=(H.own j bk _ hρ).2
 have hdone:∀(ents':Array MapEntry),(∀e∈es',e∈es)->VL g h (es'.map (·.1)) (ents'.toList.map (·.key))->VL g h (es'.map (·.2)) (ents'.toList.map (·.val))->
  (Builtin.delete_ #[mt,u] o.type #[r m,r k]).run P w=.ok (.tuple #[]) (kp w bk (.map ents' ck))->aM P Γ N r o w g h (h.set j (.map es' fl)) (some (.aH [])):=by
  intro ents' hsub h1 h2 hrun;refine⟨g,kp w bk (.map ents' ck),_,?_,Inv.Am H hj hρ hkk ⟨?_,?_⟩,hE,_,rfl,by simp only[V,VL];exact⟨[],rfl,rfl⟩⟩
  ·simp only[execOp,ho,resolve,invoke,builtin,Sem.run_bind,Sem.run_pure,Result.andThen_ok,List.map_toArray,bU,jG,hrun]
  ·intro hf';have h3:=zy.1 (hfl hf');rw[zy];intro y hy;obtain⟨q,hq,rfl⟩:=cd.1 hy;exact h3 _ (cd.2 ⟨q,hsub q hq,rfl⟩)
  ·intro b' sz' st' hb';rw[hρ]at hb';simp only[ak,bY]at hb';obtain⟨rfl,_⟩:=hb';exact⟨ents',ck,zh _ hbk,cF hE (dB h1) h1,cF hE (dB h2) h2⟩
 cases p with
 |none=>
  simp only at hp2;subst hp2;have hs:=y_ (P:=P) (B':=.map bj ck) hw (by simp);refine hdone bj (fun _ h=>h) hks hvs ?_;simp only[Option.bind_none]at hf;simp[Builtin.delete_,run_underlying hu,hrm,hg,hck,hf,hs]
 |some i=>
  obtain⟨hil,rfl⟩:=hp2
  have hile:i<bj.size:=by have:bj.toList.length=es.length:=hlen;simp at this;omega
  have hge:bj[i]? =some bj[i]:=j6 hile;have hs:=y_ (P:=P) (B':=.map (bj.eraseIdxIfInBounds i) ck) hw (by simp)
  have hel:(bj.eraseIdxIfInBounds i).toList=bj.toList.eraseIdx i:=by
   rw[Array.eraseIdxIfInBounds,dif_pos hile,Array.toList_eraseIdx]
  refine hdone (bj.eraseIdxIfInBounds i) (fun _ h=>List.mem_of_mem_eraseIdx h) ?_ ?_ ?_
  ·rw[hel,xV,xV];exact FX i hks
  ·rw[hel,xV,xV];exact FX i hvs
  ·simp only[kH,xe,hge,dm]at hf;simp[Builtin.delete_,run_underlying hu,hrm,hg,hck,hf,hs]
theorem GO(H:Inv P Γ N g h w){x:Operand}{ty kt et:TypeId}(ho:o.op=.call ⟨.builtin .len,#[x],#[ty]⟩)(hu:P.underlying ty=some (.map kt et)){a:AV}(hx:V g h a (r x)){n:Nat}
 (ha:(a=.dp/\n=0)\/(∃ks vs,a=.du ks vs/\n=ks.length)\/∃j es fl,a=.mp j/\h[j]? =some (.map es fl)/\n=es.length):aM P Γ N r o w g h h (some (.int .i64 n)):=by
 rcases ha with⟨rfl,rfl⟩|⟨ks,vs,rfl,rfl⟩|⟨j,es,fl,rfl,hj,rfl⟩
 ·simp only[V]at hx;exact zZ H ho (Or.inr (Or.inr (Or.inr ⟨_,_,hu,hx,rfl⟩)))
 ·simp only[V]at hx;obtain⟨b,bj,ck,h1,h2,h3,h4⟩:=hx;have hg:=y5 (P:=P) (H.mm b bj ck h2).1 (by simp);have hl:=gD h3;refine aM.same H (u:=.int .i64 ks.length) ?_ (by simp[V]);simp at hl;simp[execOp,ho,resolve,invoke,builtin,Builtin.len_,h1,run_underlying hu,goInt,hg,hl]
 ·simp only[V]at hx;obtain⟨_,b,sz,hρ,h1⟩:=hx;obtain⟨_,h2⟩:=H.ob j _ hj;obtain⟨bj,ck,h3,h4,h5⟩:=h2 b sz 0 hρ;have hg:=y5 (P:=P) h3 (by simp);have hl:=Gh h4;refine aM.same H (u:=.int .i64 es.length) ?_ (by simp[V]);simp at hl;simp[execOp,ho,resolve,invoke,builtin,Builtin.len_,h1,run_underlying hu,goInt,hg,hl]
end
theorem modify_eq_set{α:Type}{f:α->α}:∀{l:List α}{i:Nat}{a:α},l[i]? =some a->l.modify i f=l.set i (f a)
 |[],i,a,h=>by simp at h
 |b::l,0,a,h=>by simp at h;subst h;simp
 |b::l,i+1,a,h=>by simp at h;simp[modify_eq_set h]
theorem Z3{α:Type}{f:α->α}{l:List α}{i:Nat}(h:l[i]? =none):l.modify i f=l:=by
 apply iC;intro n;rw[AT]
 by_cases hn:i=n
 ·subst hn;simp[h]
 ·simp[hn]
def rl(g':G)(h:List Ob)(w:World)(g:G)(i:Nat):Prop:=
 ∀k E es gr fl sh,h[i]? =some (.row k E es gr fl sh)->∀b sz st,g.ρ i=some (b,sz,st)->∀o v,(gr.getD 0-st)*k<=o->o<(es.length-st)*k->w.cell? ⟨b,o,none⟩=some v->g'.M b o=some v
section
variable{P:Program}{Γ:Nat->Option AV}{N:Env}{g:G}{h:List Ob}{w:World}{r:Operand->Value}{o:Oper}{t:List AV}
theorem Ext.more{g':G}{i k:Nat}{E:TypeId}{es:List AV}{gr:Option Nat}{fl sh:Bool}(hi:h[i]? =some (.row k E es gr fl sh))(hρ:g'.ρ=g.ρ)(hMM:g'.MM=g.MM)(hM:∀b o v,g.M b o=some v->g'.M b o=some v):
 Ext h.length g h g' (h.set i (.row k E es gr fl true)):=by
 have h1:=Ext.qw (g:=g) (E':=E) (es':=es) (gr':=gr) (fl':=fl) (sh':=true) (ρ':=g.ρ i) hi (aQ _) (fun off m _ h1=>⟨h1,rfl,fun _ h=>h⟩);rw[de]at h1;refine h1.trans ?_
 exact⟨hM,fun b x hx=>by rw[hMM];exact hx,fun j vs _ hj=>⟨⟨_,hj⟩,fun x hx=>by rw[hρ];exact hx⟩,fun j es fl _ hj=>⟨⟨_,_,hj⟩,fun x hx=>by rw[hρ];exact hx⟩,
  fun j es fl _ hj=>⟨⟨_,_,hj⟩,fun x hx=>by rw[hρ];exact hx⟩,fun j st q fn t ps a b _ hj=>⟨⟨_,_,hj⟩,fun x hx=>by rw[hρ];exact hx⟩,fun j l _ hj=>⟨⟨_,hj⟩,fun x hx=>by rw[hρ];exact hx⟩,
  fun j k E es gr fl sh _ hj=>⟨_,_,_,_,_,hj,aQ _,fun _ _ _ hk=>⟨hk,rfl,fun x hx=>by rw[hρ];exact hx⟩⟩⟩
theorem acH(H:Inv P Γ N g h w)(i:Nat):∃g',g'.ρ=g.ρ/\g'.MM=g.MM/\(∀b o v,g.M b o=some v->g'.M b o=some v)/\Inv P Γ N g' (h.modify i eS) w/\Ext h.length g h g' (h.modify i eS)/\rl g' h w g i/\
 ∀(j:Nat)(k:Nat)(E:TypeId)(es:List AV)(gr:Option Nat)(fl sh:Bool),h[j]? =some (Ob.row k E es gr fl sh)->∃sh',(h.modify i eS)[j]? =some (Ob.row k E es gr fl sh'):=by
 by_cases hrow:∃k E es gr fl sh,h[i]? =some (.row k E es gr fl sh)
 ·obtain⟨k,E,es,gr,fl,sh,hi⟩:=hrow;have hmod:h.modify i eS=h.set i (.row k E es gr fl true):=modify_eq_set hi;rw[hmod];have hil:=aV hi
  have hrows:∀(j:Nat)(k':Nat)(E':TypeId)(es':List AV)(gr':Option Nat)(fl' sh':Bool),h[j]? =some (Ob.row k' E' es' gr' fl' sh')->∃sh'',(h.set i (Ob.row k E es gr fl true))[j]? =some (Ob.row k' E' es' gr' fl' sh''):=by
   intro j k' E' es' gr' fl' sh' hj
   by_cases hji:j=i
   ·subst hji;rw[hi]at hj;simp only[ak,Ob.row.injEq]at hj;obtain⟨rfl,rfl,rfl,rfl,rfl,rfl⟩:=hj;exact⟨true,eI hil⟩
   ·exact⟨sh',by rw[dM (by omega)];exact hj⟩
  cases hρ:g.ρ i with
  |none=>
   have hE:Ext h.length g h g (h.set i (.row k E es gr fl true)):=Ext.more hi rfl rfl (fun _ _ _ h=>h);refine⟨g,rfl,rfl,fun _ _ _ h=>h,?_,hE,?_,hrows⟩
   ·have:=Inv.set (r:=none) (w':=w) H (o':=.row k E es gr fl true) hil (by rw[<-hρ,de];exact hE) rfl rfl rfl (fun _ _ _=>rfl) (aQ _) (by simp)
     (fun b y o v hy _=>by rw[hρ]at hy;cases hy) (by simp) (by
      rw[<-hρ,de];have:=oa (w':=w) hE rfl (fun _ _ _=>rfl) (H.ob i _ hi)
      simpa only [OV]using this)
    rw[<-hρ,de]at this;exact this
   ·intro k' E' es' gr' fl' sh' _ b sz st hb
    rw[hρ]at hb;cases hb
  |some y=>
   obtain⟨b,sz,st⟩:=y;have hob:=H.ob i _ hi;simp only[OV]at hob;rw[hρ]at hob;simp only at hob;obtain⟨hk0,hK,hfl,hgl,hst,c,Eb,fz,vs,hw,hsz,hfree,hVE,hcells⟩:=hob
   let g':G:={g with M:=fun b' o=>if b'=b/\(gr.getD 0-st)*k<=o/\o<(es.length-st)*k then c[o]? else g.M b' o}
   have hMc:∀o v,g.M b o=some v->c[o]? =some v:=fun o v hv=>by
    have:=H.mem b o v hv;rwa[cell_of_row w b o c Eb fz hw]at this
   have hM:∀b' o v,g.M b' o=some v->g'.M b' o=some v:=by
    intro b' o v hv;simp only[g']
    split
    ·rename_i hc;rw[hc.1]at hv;exact hMc o v hv
    ·exact hv
   have hE:Ext h.length g h g' (h.set i (.row k E es gr fl true)):=Ext.more hi rfl rfl hM;refine⟨g',rfl,rfl,hM,?_,hE,?_,hrows⟩
   ·refine⟨H.os,H.tape,H.output,H.fN,H.own,H.inj,fun j hj=>H.pP j (by rwa[jZ]at hj),?_,H.mm,?_,?_,?_,?_,H.jX,H.l6⟩
    ·intro b' o v hv;simp only[g']at hv
     split at hv
     ·rename_i hc;rw[hc.1,cell_of_row w b o c Eb fz hw];exact hv
     ·exact H.mem b' o v hv
    ·intro j b' sz' st' o v hj hv;have hj':g.ρ j=some (b',sz',st'):=hj
     have hold:g.M b' o=some v->∃k' E' es' gr' fl',(h.set i (.row k E es gr fl true))[j]? =some (.row k' E' es' gr' fl' true)/\o<(es'.length-st')*k':=by
      intro hv';obtain⟨k',E',es',gr',fl',h1,h2⟩:=H.eP j b' sz' st' o v hj' hv'
      by_cases hji:j=i
      ·subst hji;rw[hi]at h1;simp only[ak,Ob.row.injEq]at h1;obtain⟨rfl,rfl,rfl,rfl,rfl,rfl⟩:=h1;exact⟨_,_,_,_,_,eI hil,h2⟩
      ·exact⟨k',E',es',gr',fl',by rw[dM (by omega)];exact h1,h2⟩
     simp only[g']at hv
     split at hv
     ·rename_i hc;have hji:j=i:=H.inj j i b _ _ (by rw[<-hc.1];exact hj') hρ;subst hji;rw[hρ]at hj';simp only[ak,bY]at hj';obtain⟨_,_,rfl⟩:=hj';exact⟨_,_,_,_,_,eI hil,hc.2.2⟩
     ·exact hold hv
    ·intro j q hj
     by_cases hji:j=i
     ·subst hji;rw[eI hil]at hj
      cases hj
      have:=oa (w':=w) hE rfl (fun _ _ _=>rfl) (H.ob j _ hi);simpa only [OV]using this
     ·rw[dM (by omega)]at hj;exact oa hE rfl (fun _ _ _=>rfl) (H.ob j q hj)
    ·intro n a hn;obtain⟨h1,vs,h2,h3⟩:=H.lZ n a hn;exact⟨h1,vs,cF hE (dB h2) h2,fun j hj=>hM _ _ _ (h3 j hj)⟩
    ·intro b' o v B hv hB;simp only[g']at hv
     split at hv
     ·rename_i hc;have:=(H.own i b _ hρ).1;rw[hc.1,this]at hB
      cases hB
     ·exact H.mK b' o v B hv hB
   ·intro k' E' es' gr' fl' sh' hi' b' sz' st' hb' o v h1 h2 h3;rw[hi]at hi';simp only[ak,Ob.row.injEq]at hi';obtain⟨rfl,rfl,rfl,rfl,rfl,rfl⟩:=hi';rw[hρ]at hb';simp only[ak,bY]at hb';obtain⟨rfl,rfl,rfl⟩:=hb';simp only[g'];rw[if_pos ⟨trivial,h1,h2⟩,<-cell_of_row w b o c Eb fz hw];exact h3
 ·have hmod:h.modify i eS=h:=by
   cases hi:h[i]? with
   |none=>exact Z3 hi
   |some q=>
    rw[modify_eq_set hi]
    have:eS q=q:=by
     cases q<;>first|rfl|exact absurd ⟨_,_,_,_,_,_,hi⟩ hrow
    rw[this];apply iC;intro n;rw[pX]
    by_cases hn:i=n
    ·subst hn;rw[if_pos rfl,if_pos (aV hi),hi]
    ·simp[hn]
  rw[hmod];refine⟨g,rfl,rfl,fun _ _ _ h=>h,H,Ext.refl _ _ _,?_,fun j k E es gr fl sh hj=>⟨sh,hj⟩⟩;intro k E es gr fl sh hi;exact absurd ⟨_,_,_,_,_,_,hi⟩ hrow
theorem lC:∀(is:List Nat)(h:List Ob),(share is h).length=h.length
 |[],_=>rfl
 |i::is,h=>by simp[share,lC is]
theorem o9:∀(is:List Nat){g:G}{h:List Ob},Inv P Γ N g h w->∃g',g'.ρ=g.ρ/\g'.MM=g.MM/\(∀b o v,g.M b o=some v->g'.M b o=some v)/\Inv P Γ N g' (share is h) w/\Ext h.length g h g' (share is h)/\
 ∀i∈is,rl g' h w g i
 |[],g,h,H=>⟨g,rfl,rfl,fun _ _ _ h=>h,H,Ext.refl _ _ _,by simp⟩
 |i::is,g,h,H=>by
  obtain⟨g1,hρ1,hMM1,hM1,H1,hE1,hC1,hr1⟩:=acH H i;obtain⟨g2,hρ2,hMM2,hM2,H2,hE2,hC2⟩:=o9 is H1
  have hl:(h.modify i eS).length=h.length:=by simp
  rw[hl]at hE2;refine⟨g2,hρ2.trans hρ1,hMM2.trans hMM1,fun b o v hv=>hM2 b o v (hM1 b o v hv),H2,hE1.trans hE2,?_⟩;intro j hj
  rcases bz.1 hj with rfl|hj
  ·intro k E es gr fl sh hi b sz st hb o v h1 h2 h3;exact hM2 _ _ _ (hC1 k E es gr fl sh hi b sz st hb o v h1 h2 h3)
  ·intro k E es gr fl sh hi b sz st hb o v h1 h2 h3;obtain⟨sh',hi'⟩:=hr1 j k E es gr fl sh hi;exact hC2 j hj k E es gr fl sh' hi' b sz st (by rw[hρ1];exact hb) o v h1 h2 h3
theorem acV(H:Inv P Γ N g h w){g':G}{h':List Ob}(x:Ext h.length g h g' h'){i off n:Nat}{u:Value}(hc:rl g' h w g i)(hv:V g h (.sl i off n) u){p:Nat×List AV}(ht:wa h (.sl i off n)=some p):
 V g' h' (.list false p.1 p.2) u:=by
 simp only[wa]at ht
 split at ht
 ·rename_i k E es gr sh hi
  split at ht
  ·rename_i hok;simp only[ak]at ht;subst ht;have hrow:=NF H hv hi hok;obtain⟨hK,a,cap,vs,rfl,hVE,hmem⟩:=hrow;have hob:=H.ob i _ hi;simp only[OV]at hob;obtain⟨hk0,_,hfl,hgl,hb⟩:=hob
   have hle:off+n<=es.length:=by
    cases gr with
    |none=>simpa[cM]using hok
    |some lo=>simp only[cM,ay,aZ,mU]at hok;omega
   have hln:((es.drop off).take n).length=n:=by simp;omega
   have hokl:cA ((es.drop off).take n) k=true:=qf (hfl trivial) (fun e he=>j0 (lv he));simp only[V]at hv⊢;obtain⟨k2,E2,es2,gr2,fl2,sh2,hi2,_,a2,cap2,he2,hcap,_,hq⟩:=hv;rw[hi]at hi2;simp only[ak,Ob.row.injEq]at hi2;obtain⟨rfl,rfl,rfl,rfl,rfl,rfl⟩:=hi2;simp only[Value.slice.injEq,w_]at he2;obtain⟨rfl,rfl⟩:=he2;refine⟨hokl,a,cap,by rw[hln],by simp,by rw[hln];exact hcap,?_⟩
   by_cases h0:n=0
   ·left;apply lr.1;omega
   ·right
    rcases(hq hok).2 with⟨h1,_⟩|⟨b,sz,st,hρ,hst,rfl,hcs⟩
    ·exact absurd h1 h0
    ·rcases hmem with h1|⟨b',p',he,hm⟩
     ·exact absurd h1 h0
     ·simp only[ak,Addr.mk.injEq,pR]at he;obtain⟨rfl,rfl⟩:=he
      have hlo:gr.getD 0<=off:=by
       cases gr with
       |none=>simp
       |some lo=>simp only[cM,ay,aZ]at hok;simpa using hok.1
      have hst2:st<=gr.getD 0:=by rw[hρ]at hb;exact hb.1
      refine⟨b,(off-st)*k,vs,rfl,gE x (kU hVE) hVE,fun j hj=>?_⟩;have hvl:=ja (kM hokl) hVE;rw[hln]at hvl;refine hc k E es gr true sh hi b sz st hρ _ _ ?_ ?_ (hm j _ (aR hj))
      ·exact sL (ma _ (by omega)) (Nat.le_add_right _ _)
      ·have:(off-st)*k+n*k<=(es.length-st)*k:=by rw[<-gA];exact ma _ (by omega)
       omega
  ·simp at ht
 ·simp at ht
mutual
theorem ub(H:Inv P Γ N g h w){g':G}{h':List Ob}(x:Ext h.length g h g' h'):∀{a a':AV}{u:Value},(∀i∈rowsOf a,rl g' h w g i)->V g h a u->view h a=some a'->V g' h' a' u
 |.undef,a',u,_,hv,ha|.bool _,a',u,_,hv,ha|.int _ _,a',u,_,hv,ha|.str _,a',u,_,hv,ha|.jT,a',u,_,hv,ha|.dp,a',u,_,hv,ha|.dS,a',u,_,hv,ha
 |.eN,a',u,_,hv,ha|.eA _ _,a',u,_,hv,ha=>by
  simp only[view,ak]at ha;subst ha;exact gG x (lT hv) hv
 |.du ks us,a',u,_,hv,ha=>by
  simp only[view]at ha
  split at ha
  ·simp only[ak]at ha;subst ha;exact gG x (lT hv) hv
  ·simp at ha
 |.list f k es,a',u,_,hv,ha=>by
  simp only[view,ak]at ha;subst ha;have h1:=gG x (lT hv) hv;simp only[V]at h1⊢;obtain⟨h2,a,cap,h3,_,h4,h5⟩:=h1;exact⟨h2,a,cap,h3,by simp,h4,h5⟩
 |.sl i off n,a',u,hc,hv,ha=>by
  simp only[view,cf]at ha;obtain⟨p,hp,rfl⟩:=ha;exact acV H x (hc i (by simp[rowsOf])) hv hp
 |.own _ _ _,_,_,_,hv,_=>by simp only[V]at hv
 |.ptr _ _,_,_,_,_,ha|.mp _,_,_,_,_,ha|.it _,_,_,_,_,ha|.cY _,_,_,_,_,ha|.di _ _ _ _,_,_,_,_,ha=>by simp[view]at ha
 |.agg cs,a',u,hc,hv,ha=>by
  simp only[view,cf]at ha;obtain⟨cs',h1,rfl⟩:=ha;simp only[V]at hv⊢;obtain⟨vs,rfl,h2⟩:=hv;exact⟨vs,rfl,tO H x (by simpa only [rowsOf]using hc) h2 h1⟩
 |.aH cs,a',u,hc,hv,ha=>by
  simp only[view,cf]at ha;obtain⟨cs',h1,rfl⟩:=ha;simp only[V]at hv⊢;obtain⟨vs,rfl,h2⟩:=hv;exact⟨vs,rfl,tO H x (by simpa only [rowsOf]using hc) h2 h1⟩
 |.fn f a b,a',u,hc,hv,ha=>by
  simp only[view]at ha
  split at ha
  ·rename_i a2 b2 h1 h2;simp only[ak]at ha;subst ha;simp only[V]at hv⊢;obtain⟨xs,ys,rfl,h3,h4⟩:=hv;simp only[rowsOf,aT]at hc;exact⟨xs,ys,rfl,tO H x (fun i hi=>hc i (Or.inl hi)) h3 h1,tO H x (fun i hi=>hc i (Or.inr hi)) h4 h2⟩
  ·simp at ha
 |.bT t a,a',u,hc,hv,ha=>by
  simp only[view,cf]at ha;obtain⟨b,h1,rfl⟩:=ha;simp only[V]at hv⊢;obtain⟨y,rfl,h2⟩:=hv;exact⟨y,rfl,ub H x (by simpa only [rowsOf]using hc) h2 h1⟩
theorem tO(H:Inv P Γ N g h w){g':G}{h':List Ob}(x:Ext h.length g h g' h'):∀{as as':List AV}{us:List Value},(∀i∈bZ as,rl g' h w g i)->VL g h as us->cq h as=some as'->VL g' h' as' us
 |[],as',us,_,hv,ha=>by
  simp only[cq,ak]at ha;subst ha;simpa only [VL]using hv
 |a::as,as',us,hc,hv,ha=>by
  simp only[cq]at ha
  split at ha
  ·rename_i a2 as2 h1 h2;simp only[ak]at ha;subst ha;simp only[VL]at hv⊢;obtain⟨u,us',rfl,h3,h4⟩:=hv;simp only[bZ,aT]at hc;exact⟨u,us',rfl,ub H x (fun i hi=>hc i (Or.inl hi)) h3 h1,tO H x (fun i hi=>hc i (Or.inr hi)) h4 h2⟩
  ·simp at ha
end
mutual
theorem Cg(H:Inv P Γ N g h w):∀{a a':AV}{u:Value},V g h a u->view h a=some a'->aG 0 a'=true
 |.undef,_,_,_,ha|.bool _,_,_,_,ha|.int _ _,_,_,_,ha|.str _,_,_,_,ha|.jT,_,_,_,ha|.dp,_,_,_,ha|.dS,_,_,_,ha
 |.eN,_,_,_,ha|.eA _ _,_,_,_,ha=>by
  simp only[view,ak]at ha;subst ha;rfl
 |.du ks us,_,_,_,ha=>by
  simp only[view]at ha
  split at ha
  ·rename_i hb;simp only[ak]at ha;subst ha;simpa only [aG]using hb
  ·simp at ha
 |.list f k es,_,_,hv,ha=>by
  simp only[view,ak]at ha;subst ha;simp only[V]at hv;simp only[aG];exact jI hv.1
 |.sl i off n,_,_,hv,ha=>by
  simp only[view,cf]at ha;obtain⟨p,hp,rfl⟩:=ha;simp only[wa]at hp
  split at hp
  ·rename_i k E es gr sh hi
   split at hp
   ·simp only[ak]at hp;subst hp;have hob:=H.ob i _ hi;simp only[OV]at hob;obtain⟨_,_,hfl,_⟩:=hob;simp only[aG];exact jI (qf (hfl trivial) (fun e he=>j0 (lv he)))
   ·simp at hp
  ·simp at hp
 |.own _ _ _,_,_,hv,_=>by simp only[V]at hv
 |.ptr _ _,_,_,_,ha|.mp _,_,_,_,ha|.it _,_,_,_,ha|.cY _,_,_,_,ha|.di _ _ _ _,_,_,_,ha=>by simp[view]at ha
 |.agg cs,_,_,hv,ha=>by
  simp only[view,cf]at ha;obtain⟨cs',h1,rfl⟩:=ha;simp only[V]at hv;obtain⟨vs,rfl,h2⟩:=hv
  simp only[aG];exact tH H h2 h1
 |.aH cs,_,_,hv,ha=>by
  simp only[view,cf]at ha;obtain⟨cs',h1,rfl⟩:=ha;simp only[V]at hv;obtain⟨vs,rfl,h2⟩:=hv
  simp only[aG];exact tH H h2 h1
 |.fn f a b,_,_,hv,ha=>by
  simp only[view]at ha
  split at ha
  ·rename_i a2 b2 h1 h2;simp only[ak]at ha;subst ha;simp only[V]at hv;obtain⟨xs,ys,rfl,h3,h4⟩:=hv
   simp only[aG,ay];exact⟨tH H h3 h1,tH H h4 h2⟩
  ·simp at ha
 |.bT t a,_,_,hv,ha=>by
  simp only[view,cf]at ha;obtain⟨b,h1,rfl⟩:=ha;simp only[V]at hv;obtain⟨y,rfl,h2⟩:=hv
  simp only[aG];exact Cg H h2 h1
theorem tH(H:Inv P Γ N g h w):∀{as as':List AV}{us:List Value},VL g h as us->cq h as=some as'->aK 0 as'=true
 |[],_,_,_,ha=>by
  simp only[cq,ak]at ha;subst ha;rfl
 |a::as,_,_,hv,ha=>by
  simp only[cq]at ha
  split at ha
  ·rename_i a2 as2 h1 h2;simp only[ak]at ha;subst ha;simp only[VL]at hv;obtain⟨u,us',rfl,h3,h4⟩:=hv
   simp only[aK,ay];exact⟨Cg H h3 h1,tH H h4 h2⟩
  ·simp at ha
end
theorem C1{α β:Type}{R S:α->β->Prop}:∀{l:List α}{m:List β},F2 R l m->(∀a b,R a b->S a b)->F2 S l m
 |_,_,.nil,_=>.nil
 |_,_,.cons h1 h2,hs=>.cons (hs _ _ h1) (C1 h2 hs)
theorem Mz:∀{ps ps':List (Nat×AV)}{parts:List (Nat×Value)}{g:G}{h h':List Ob},Inv P Γ N g h w->F2 (fun(p:Nat×AV) (q:Nat×Value)=>p.1=q.1/\V g h p.2 q.2) ps parts->pg h ps=some (ps',h')->
 ∃g',Inv P Γ N g' h' w/\h'.length=h.length/\Ext h.length g h g' h'/\F2 (fun(p:Nat×AV) (q:Nat×Value)=>p.1=q.1/\V g' h' p.2 q.2) ps' parts
 |[],ps',parts,g,h,h',H,hf,hp=>by
  cases hf
  simp only[pg,ak,bY]at hp;obtain⟨rfl,rfl⟩:=hp;exact⟨g,H,rfl,Ext.refl _ _ _,.nil⟩
 |(i,v)::ps,ps',parts,g,h,h',H,hf,hp=>by
  cases hf with
  |cons hq hf=>
   rename_i q parts;simp only[pg]at hp
   split at hp
   ·rename_i v' hv'
    split at hp
    ·rename_i ps2 h2 hp2;simp only[ak,bY]at hp;obtain⟨rfl,rfl⟩:=hp;obtain⟨g1,_,_,_,H1,hE1,hC1⟩:=o9 (rowsOf v) H;have hv1:=ub H hE1 hC1 hq.2 hv';obtain⟨g2,H2,hl2,hE2,hF2⟩:=Mz H1 (C1 hf fun a b hab=>⟨hab.1,gG hE1 (lT hab.2) hab.2⟩) hp2;rw[lC]at hl2 hE2;refine⟨g2,H2,hl2,hE1.trans hE2,.cons ⟨hq.1,?_⟩ hF2⟩;have:=lT hv1;rw[lC]at this;exact gG hE2 this hv1
    ·simp at hp
   ·simp at hp
theorem FN{k:Nat}:∀{ps:List (Nat×AV)}{parts:List (Nat×Value)}{es es':List AV}{zs:Array Value},F2 (fun(p:Nat×AV) (q:Nat×Value)=>p.1=q.1/\V g h p.2 q.2) ps parts->oq k es ps=some es'->
 ei k es->VE g h es zs.toList->∃us,Instr.fill (fun i=>some (i*k,k)) zs parts=some us/\VE g h es' us.toList/\ei k es'/\es'.length=es.length
 |[],parts,es,es',zs,hf,hp,hk,hv=>by
  cases hf
  simp only[oq,ak]at hp;subst hp;exact⟨zs,rfl,hv,hk,rfl⟩
 |(i,v)::ps,parts,es,es',zs,hf,hp,hk,hv=>by
  cases hf with
  |cons hq hf=>
   rename_i q parts;obtain⟨j,u⟩:=q;obtain⟨hij,hu⟩:=hq;simp only at hij hu;subst hij;simp only[oq]at hp
   split at hp
   ·rename_i hc;obtain⟨hil,hvk,hvo⟩:=hc;have hcells:=qy (rJ hvo) hu;have hul:=gD hcells
    have hu1:u.cells.toList.length=k:=by rw[hul,hvk]
    have hzl:=ja hk hv
    have hzs:zs.size=es.length*k:=by simpa using hzl
    have hik:i*k+k<=es.length*k:=by
     have:i*k+k=(i+1)*k:=by rw[gA,Nat.one_mul]
     rw[this];exact ma _ (by omega)
    have hset:=Io hk hv hil hu hu1;have hfold:=G1 (i*k) u.cells.toList 0 zs (by rw[hzs];omega)
    have hzip:u.cells.zipIdx.foldl (fun cs (x:Value×Nat)=>cs.setIfInBounds (i*k+x.2) x.1) zs=(u.cells.toList.zipIdx 0).foldl (fun cs (x:Value×Nat)=>cs.setIfInBounds (i*k+x.2) x.1) zs:=by
     rw[<-ES,Array.toList_zipIdx]
    obtain⟨us,h1,h2,h3,h4⟩:=FN (zs:=u.cells.zipIdx.foldl (fun cs (x:Value×Nat)=>cs.setIfInBounds (i*k+x.2) x.1) zs) hf hp (by
     intro e he
     rcases pT he with he|rfl
     ·exact hk e he
     ·exact⟨hvk,hvo⟩) (by
     rw[hzip,hfold,gZ]
     exact hset)
    refine⟨us,?_,h2,h3,by rw[h4,jZ]⟩;simp only[Instr.fill]
    have hus:u.cells.size=k:=by simpa using hu1
    rw[if_neg (by simp only[ff,aZ,ne_eq,not_or,ET];omega)];exact h1
   ·simp at hp
theorem Inv.imm(H:Inv P Γ N g h w)(c:Array Value)(E:TypeId):∃g',g'.ρ=g.ρ/\g'.MM=g.MM/\(∀b o v,g.M b o=some v->g'.M b o=some v)/\Inv P Γ N g' h (w.alloc (.cells c E))/\Ext h.length g h g' h/\
 ∀j v,c[j]? =some v->g'.M w.heap.size j=some v:=by
 let g':G:={g with M:=fun b o=>if b=w.heap.size then c[o]? else g.M b o}
 have hM:∀b o v,g.M b o=some v->g'.M b o=some v:=by
  intro b o v hv;have:b<w.heap.size:=wY (H.mem b o v hv);simp only[g'];rw[if_neg (by omega)];exact hv
 have hE:Ext h.length g h g' h:=⟨hM,fun b x hx=>hx,fun j vs _ hj=>⟨⟨_,hj⟩,fun x hx=>hx⟩,fun j es fl _ hj=>⟨⟨_,_,hj⟩,fun x hx=>hx⟩,
  fun j es fl _ hj=>⟨⟨_,_,hj⟩,fun x hx=>hx⟩,fun j st q fn t ps a b _ hj=>⟨⟨_,_,hj⟩,fun x hx=>hx⟩,fun j l _ hj=>⟨⟨_,hj⟩,fun x hx=>hx⟩,
  fun j k E es gr fl sh _ hj=>⟨_,_,_,_,_,hj,aQ _,fun _ _ _ hk=>⟨hk,rfl,fun x hx=>hx⟩⟩⟩
 have hw:∀b,b<w.heap.size->(w.alloc (.cells c E)).heap[b]? =w.heap[b]? :=zo _ _
 have hltk:∀{b B},w.heap[b]? =some B->b<w.heap.size:=fun{b B} hb=>(Array.getElem?_eq_some_iff.1 hb).1
 refine⟨g',rfl,rfl,hM,?_,hE,?_⟩
 ·refine⟨H.os,H.tape,H.output,fun b o hb=>by rw[hw b (hltk (H.fN b o hb))];exact H.fN b o hb,fun i b x hi=>⟨(H.own i b x hi).1,by have:=(H.own i b x hi).2;simp;omega⟩,H.inj,H.pP,?_,?_,?_,?_,?_,?_,H.jX,H.l6⟩
  ·intro b o v hv;simp only[g']at hv
   split at hv
   ·rename_i hb;subst hb;have:=cell_of_row (w.alloc (.cells c E)) w.heap.size o c E (0,0) (mi _ _)
    rw[this];exact hv
   ·have h0:=H.mem b o v hv;rw[ve (hw b (wY h0))];exact h0
  ·intro b es ck hb;obtain⟨h1,h2⟩:=H.mm b es ck hb;exact⟨by rw[hw b (hltk h1)];exact h1,h2⟩
  ·intro i b sz st o v hi hv;simp only[g']at hv
   split at hv
   ·rename_i hb;have:=(H.own i b _ hi).2;omega
   ·exact H.eP i b sz st o v hi hv
  ·intro i q hi;exact oa hE rfl (fun b y hb=>hw b (H.own i b y hb).2) (H.ob i q hi)
  ·intro n a hn;obtain⟨h1,vs,h2,h3⟩:=H.lZ n a hn;exact⟨h1,vs,cF hE (dB h2) h2,fun j hj=>hM _ _ _ (h3 j hj)⟩
  ·intro b o v B hv hB;simp only[g']at hv
   split at hv
   ·rename_i hb;have:=hltk (H.fN b B hB);omega
   ·exact H.mK b o v B hv hB
 ·intro j v hv;simp only[g',cy];exact hv
theorem ag4(H:Inv P Γ N g h w){ty e:TypeId}{n:Nat}{ps:Array (Nat×Operand)}(ho:o.op=.buildSlice ty n ps)(hu:P.underlying ty=some (.slice e)){k:Nat}(hk:bB P e=some k)(hk0:0<k)
 {z:AV}(hz:eg P e=some z)(hzo:lp k z=true)(hnk:n*k<=2^24)(he:∀x,V g h (ax t (av x)) (r x)){ps':List (Nat×AV)}{h':List Ob}
 (hp:pg h ((ps.toList.map fun q=>(q.1,av q.2)).map fun q=>(q.1,ax t q.2))=some (ps',h')){es:List AV}(hf:oq k (List.replicate n z) ps'=some es)(hok:cA es k=true):
 aM P Γ N r o w g h h' (some (.list true k es)):=by
 obtain⟨zv,hzr,rfl⟩:=vx hz;simp only[lp,ay,aZ]at hzo;obtain⟨⟨hzk,hz1⟩,hzb⟩:=hzo;have hzk':=vl hzk
 have hF:F2 (fun(p:Nat×AV) (q:Nat×Value)=>p.1=q.1/\V g h p.2 q.2) ((ps.toList.map fun q=>(q.1,av q.2)).map fun q=>(q.1,ax t q.2)) (ps.map fun q=>(q.1,r q.2)).toList:=by
  rw[Array.toList_map,iB];generalize ps.toList=l
  induction l with
  |nil=>exact .nil
  |cons q l ih=>exact .cons ⟨rfl,he q.2⟩ ih
 obtain⟨g1,H1,hl1,hE1,hF1⟩:=Mz H hF hp;have hVE0:=u_ (oc g1 h' zv) n;have hzl:=vn hzk' n
 let zs:Array Value:=(Array.range (n*k)).map fun i=>(if n*k=0 then#[]else zv.cells)[i%(if n*k=0 then#[]else zv.cells).size]!
 have hzs:zs.toList=(List.replicate n zv.cells.toList).flatten:=by
  simp only[zs]
  by_cases hnk0:n*k=0
  ·have:n=0:=by
    rcases Lr.1 hnk0 with h1|h1
    ·exact h1
    ·omega
   simp[this]
  ·simp only[hnk0,da,hzk'];exact hzl
 obtain⟨us,h1,h2,h3,h4⟩:=FN (zs:=zs) hF1 hf (kM (uT hzk hz1 hzb n)) (by rw[hzs];exact hVE0);obtain⟨g2,hρ2,hMM2,hM2,H2,hE2,hN2⟩:=Inv.imm H1 us e;rw[hl1]at hE2
 have hlen:es.length=n:=by rw[h4,pW]
 refine⟨g2,_,_,?_,H2,hE1.trans hE2,.slice (some ⟨w.heap.size,0,none⟩) n n,rfl,?_⟩
 ·have hrun:(Instr.buildSlice ty n (ps.map fun q=>(q.1,r q.2))).run P w=.ok (.slice (some ⟨w.heap.size,0,none⟩) n n) (w.alloc (.cells us e)):=by
   simp only[Instr.buildSlice,Sem.run_bind,run_underlying hu,Result.andThen_ok,jq hk];rw[if_neg (by omega)]
   by_cases hnk0:n*k=0
   ·have hzs0:zs=(Array.range (n*k)).map fun i=>(#[]:Array Value)[i%(#[]:Array Value).size]! :=by simp only[zs,hnk0,cy]
    rw[hzs0]at h1;rw[if_pos hnk0];simp only[Sem.run_bind,Sem.run_pure,Result.andThen_ok];rw[h1];simp[newRow]
   ·have hzs0:zs=(Array.range (n*k)).map fun i=>zv.cells[i%zv.cells.size]! :=by simp only[zs,hnk0,da]
    rw[hzs0]at h1;rw[if_neg hnk0];simp only[Sem.run_bind,hzr,Sem.run_pure,Result.andThen_ok];rw[h1];simp[newRow]
  simp only[execOp,ho];rw[Sem.run_bind,hrun];rfl
 ·simp only[V];refine⟨hok,some ⟨w.heap.size,0,none⟩,n,by rw[hlen],fun _=>hlen.symm,by omega,Or.inr ⟨w.heap.size,0,us.toList,rfl,gE hE2 (by have:=kU h2;rwa[hl1]at this) h2,fun j hj=>?_⟩⟩;rw[iZ];apply hN2;rw[<-xe,aR hj]
theorem aeG{f:Bool}{k:Nat}{es:List AV}{a:Option Addr}{n cap l u s:Nat}(hv:V g h (.list f k es) (.slice a n cap))(hlu:l<=u)(hu:u<=es.length)(hk:k=s\/es=[]):
 V g h (.list true k ((es.take u).drop l)) (.slice (if u=l then a else a.map (·.add (l*s))) (u-l) (u-l)):=by
 simp only[V]at hv⊢;obtain⟨hok,a',cap',he,hf,hcap,h3⟩:=hv;simp only[Value.slice.injEq]at he;obtain⟨rfl,rfl,rfl⟩:=he
 have hln:((es.take u).drop l).length=u-l:=by simp;omega
 refine⟨qf hok (fun e he=>lv (j0 he)),(if u=l then a else a.map (·.add (l*s))),u-l,by rw[hln],fun _=>hln.symm,by omega,?_⟩
 by_cases hul:u=l
 ·left;apply lr.1;omega
 ·right
  have hne:es≠[]:=by rintro rfl;simp at hu;omega
  rcases h3 with h3|⟨b,p,vs,rfl,h4,h5⟩
  ·exact absurd h3 hne
  ·have hks:k=s:=hk.resolve_right hne;subst hks;have hK:=kM hok;have h6:=vN (fun e he=>hK e (lv he)) (zM hK h4 u) l;refine⟨b,p+l*k,_,?_,h6,?_⟩
   ·rw[if_neg hul];simp[lF]
   ·intro j hj;rw[List.getElem_drop,w9,lx];exact h5 _ _
theorem abD(H:Inv P Γ N g h w){ty e:TypeId}{x hi mx:Operand}{lo:Option Operand}(ho:o.op=.slice ty x lo (some hi) (some mx))(hu:P.underlying ty=some (.slice e)){s:Nat}(hs:bB P e=some s)
 {a:AV}(hx:V g h a (r x)){f:Bool}{k:Nat}{es:List AV}(hv:view h a=some (.list f k es))(he:∀x,V g h (ax t (av x)) (r x)){l u:Nat}(hl:bound t 0 (lo.map av)=some l)
 (hh:bound t 0 (some (av hi))=some u)(hm:bound t 0 (some (av mx))=some u)(hlu:l<=u/\u<=es.length/\(k=s\/es=[])):
 aM P Γ N r o w g h (share (rowsOf a) h) (some (.list true k ((es.take u).drop l))):=by
 obtain⟨g1,_,_,_,H1,hE1,hC1⟩:=o9 (rowsOf a) H;have hv1:=ub H hE1 hC1 hx hv;have hv0:=hv1;simp only[V]at hv0;obtain⟨_,ad,cap,hrx,_,hcap,_⟩:=hv0;rw[hrx]at hv1;refine⟨g1,w,_,?_,H1,hE1,_,rfl,aeG hv1 hlu.1 hlu.2.1 hlu.2.2⟩;have b1:=qg (r:=r) (x:=lo) hl he;have b2:=qg (r:=r) (x:=some hi) hh he;have b3:=qg (r:=r) (x:=some mx) hm he;simp only[dm]at b2 b3;obtain⟨k2,h2⟩:=b2;obtain⟨k3,h3⟩:=b3
 have hb:(Instr.sliceBounds true es.length cap (lo.map r) (some (.int k2 u)) (some (.int k3 u))).run P w=.ok (l,u,u) w:=by
  cases lo with
  |none=>
   simp only[uC]at b1⊢;subst b1;simp only[Instr.sliceBounds,Sem.run_bind];rw[run_sliceBound w k3 u cap _ (by omega) (by omega)];simp only[Result.andThen_ok,dX];rw[run_sliceBound w k2 u u _ (by omega) (by omega)];simp
  |some lo=>
   simp only[dm]at b1⊢;obtain⟨k1,h1⟩:=b1;rw[h1];simp only[Instr.sliceBounds,Sem.run_bind];rw[run_sliceBound w k3 u cap _ (by omega) (by omega)];simp only[Result.andThen_ok,dX];rw[run_sliceBound w k2 u u _ (by omega) (by omega)];simp only[Result.andThen_ok,dX];rw[run_sliceBound w k1 l u _ (by omega) (by omega)];simp
 simp[execOp,ho,hrx,h2,h3,Instr.sliceAt,Instr.slice,run_underlying hu,jq hs,hb]
theorem Zp{α:Type}{l:List α}{i:Nat}{a:α}(hi:l[i]? =some a):l.set i a=l:=by
 apply iC;intro n;rw[pX]
 by_cases hn:i=n
 ·subst hn;rw[if_pos rfl,if_pos (aV hi),hi]
 ·simp[hn]
theorem afg(H:Inv P Γ N g h w){s d e:TypeId}{x:Operand}(ho:o.op=.convert s d x)(hsd:s=d)(hs:P.underlying s=some (.slice e))(he:P.underlying e=some (.int .u8))
 {i n k:Nat}{E:TypeId}{es:List AV}{fl sh:Bool}(hi:h[i]? =some (.row k E es none fl sh))(hne:n=es.length)(hx:V g h (.sl i 0 n) (r x))(hn:n≠0):aM P Γ N r o w g h h (some (.sl i 0 n)):=by
 subst hsd;have hx0:=hx;simp only[V]at hx;obtain⟨k',E',es',gr,fl',sh',hi',hle,ad,cap,hrx,hcap,hbn,hq⟩:=hx;rw[hi]at hi';simp only[ak,Ob.row.injEq]at hi';obtain⟨rfl,rfl,rfl,rfl,rfl,rfl⟩:=hi'
 rcases(hq (by simp[cM,hne])).2 with⟨h0,_⟩|⟨b,sz,st,hρ,hst,rfl,hcs⟩
 ·exact absurd h0 hn
 have hil:=aV hi;have hob:=H.ob i _ hi;simp only[OV]at hob;rw[hρ]at hob;simp only at hob;obtain⟨hk0,hK,hfl,hgl,hst',c,Eb,fz,vs,hw,hsz,hfree,hVE,hcells⟩:=hob;have hlt:b<w.heap.size:=(H.own i b _ hρ).2
 have hblk:(w.freeze ⟨b,c.size,none⟩ 1).heap[b]? =some (.cells c Eb (if fz.1==fz.2 then(c.size,c.size+1)else(min fz.1 c.size,max fz.2 (c.size+1)))):=by
  simp only[World.freeze,Nat.one_ne_zero,da,Array.getElem?_modify,cy,hw,dm]
 have hoth:∀b',b'≠b->(w.freeze ⟨b,c.size,none⟩ 1).heap[b']? =w.heap[b']? :=by
  intro b' hb';simp only[World.freeze,Nat.one_ne_zero,da,Array.getElem?_modify];rw[if_neg (by omega)]
 have hfree':nG c (if fz.1==fz.2 then(c.size,c.size+1)else(min fz.1 c.size,max fz.2 (c.size+1))):=by
  rcases hfree with hf|hf
  ·simp[hf];exact Or.inr (aQ _)
  ·split
   ·exact Or.inr (aQ _)
   ·exact Or.inr (by simp;omega)
 have hsame:=Zp hi;refine⟨g,w.freeze ⟨b,c.size,none⟩ 1,.value (r x),?_,?_,Ext.refl _ _ _,r x,rfl,hx0⟩
 ·have hshape:w.shape? b=some (Eb,c.size):=by simp[World.shape?,hw]
  simp[execOp,ho,hrx,convert,run_underlying hs,run_underlying he,markStringish,hshape]
 ·have:=Inv.set (r:=g.ρ i) (w':=w.freeze ⟨b,c.size,none⟩ 1) H (o':=.row k E es none fl sh) hil (by rw[de,hsame];exact Ext.refl _ _ _) rfl rfl rfl
   (fun b' _ hne=>hoth b' (fun e=>hne (sz,st) (by rw[e];exact hρ))) (by simp[World.freeze]) (fun b' y hy=>⟨Or.inl ⟨y,hy⟩,by simp[World.freeze];exact(H.own i b' y hy).2⟩)
   (by
    intro b' y q v hy hv;rw[hρ]at hy;simp only[ak,bY]at hy;obtain⟨rfl,_⟩:=hy;have h0:=H.mem b q v hv;rw[cell_of_row w b q c Eb fz hw]at h0
    rw[cell_of_row _ b q c Eb _ hblk,h0])
   (by
    intro b' sz' st' q v hy hv;obtain⟨k3,E3,es3,gr3,fl3,h5,h6⟩:=H.eP i b' sz' st' q v hy hv;rw[hi]at h5;simp only[ak,Ob.row.injEq]at h5;obtain⟨rfl,rfl,rfl,rfl,rfl,rfl⟩:=h5
    exact⟨_,_,_,_,_,rfl,h6⟩)
   (by
    rw[de,hsame];simp only[OV];refine⟨hk0,hK,hfl,hgl,?_⟩;rw[hρ]
    exact⟨hst',c,Eb,_,vs,hblk,hsz,hfree',hVE,hcells⟩)
  rwa[de,hsame]at this
end
def DR(g:G)(h:List Ob):dF->Deferred->Prop
 |.call f args,d=>∃cap,d.target=.fn (.func f) cap/\VL g h args (d.args++cap).toList
 |.mark i,d=>(∃l,h[i]? =some (.bD l))/\∃b sz,g.ρ i=some (b,sz,0)/\d={target:=.collected b,args:=#[]}
section
variable{P:Program}{Γ:Nat->Option AV}{N:Env}{g:G}{h:List Ob}{w:World}{a:Act}{o:Oper}{t:List AV}
theorem BA{f:FuncId}(hb:az P f=true)(args:Array Value)(w:World):(callFunc f args).run P w=.ok (.enter f args) w:=by
 unfold az at hb
 split at hb
 ·rename_i fn hf;simp only[ay,bne_iff_ne,ne_eq]at hb
  have h1:(fn.name== "runtime.NumGoroutine")=false:=by simpa using hb.2
  have h2:fn.body.isNone=false:=by cases hb2:fn.body<;>simp_all
  simp only[callFunc,Sem.run_bind,run_program,Result.andThen_ok,hf,h1,h2,eH,da];rfl
 ·simp at hb
theorem BR{ty:TypeId}{f f':FuncId}{ptr:Bool}{q:Option (Bool×Nat)}(hc:Di P ty f ptr=some (f',q)):f'=f/\∃d,P.underlying ty=some d/\(∀ms,d≠.interface ms)/\
 ((∃e,d=.pointer e/\((ptr=true/\q=none)\/(ptr=false/\∃a s,gU P e=some a/\bB P e=some s/\q=some (a,s))))\/((∀e,d≠.pointer e)/\ptr=false/\q=none)):=by
 unfold Di at hc
 cases hu:P.underlying ty with
 |none=>simp[hu]at hc
 |some d=>
  rw[hu]at hc
  cases d<;>simp only[reduceCtorEq]at hc
  case pointer e=>
   cases ptr
   ·simp only[eH,da]at hc
    split at hc
    ·rename_i a s h1 h2;simp only[ak,bY]at hc;exact⟨hc.1.symm,_,rfl,by simp,Or.inl ⟨e,rfl,Or.inr ⟨rfl,a,s,h1,h2,hc.2.symm⟩⟩⟩
    ·simp at hc
   ·simp only[cy,ak,bY]at hc;exact⟨hc.1.symm,_,rfl,by simp,Or.inl ⟨e,rfl,Or.inl ⟨rfl,hc.2.symm⟩⟩⟩
  all_goals
   cases ptr
   ·simp only[eH,da,ak,bY]at hc;exact⟨hc.1.symm,_,rfl,by simp,Or.inr ⟨by simp,rfl,hc.2.symm⟩⟩
   ·simp at hc
theorem Gg{ty:TypeId}{name:String}{f:FuncId}{q:Option (Bool×Nat)}(hc:jR P ty name=some (f,q)):∃i m ptr,P.info? ty=some i/\i.methods.find? (·.name==name)=some m/\m.func=some (f,ptr)/\m.path.toList=[]/\
 Di P ty f ptr=some (f,q):=by
 unfold jR at hc
 cases hi:P.info? ty with
 |none=>simp[hi]at hc
 |some i=>
  rw[hi]at hc;simp only at hc
  cases hm:i.methods.find? (·.name==name)with
  |none=>simp[hm]at hc
  |some m=>
   rw[hm]at hc;simp only at hc
   cases hf:m.func with
   |none=>simp[hf]at hc
   |some fp=>
    obtain⟨f',ptr⟩:=fp;rw[hf]at hc;simp only at hc
    by_cases hp:m.path.isEmpty=true
    ·rw[if_pos hp]at hc;have hff:=(BR hc).1;subst hff;exact⟨i,m,ptr,rfl,hm,hf,by simpa using hp,hc⟩
    ·rw[if_neg hp]at hc
     cases hc
theorem BG{ty:TypeId}{name:String}{v:AV}{args:List AV}{res:R}(hc:ow P Γ h ty name v args=res):res=.bad\/∃f q,jR P ty name=some (f,q)/\
 ((q=none/\res=.call f (v::args))\/∃agg sz i o x,q=some (agg,sz)/\v=.ptr i o/\qQ Γ h agg sz (.ptr i o)=some x/\res=.call f (x::args)):=by
 unfold ow at hc
 split at hc
 ·rename_i f h1;exact Or.inr ⟨f,none,h1,Or.inl ⟨rfl,hc.symm⟩⟩
 ·rename_i f agg sz h1
  split at hc
  ·rename_i i o
   split at hc
   ·rename_i x hx;exact Or.inr ⟨f,_,h1,Or.inr ⟨agg,sz,i,o,x,rfl,rfl,hx,hc.symm⟩⟩
   ·exact Or.inl hc.symm
  ·exact Or.inl hc.symm
 ·exact Or.inl hc.symm
theorem acS(H:Inv P Γ N g h w){r:Operand->Value}{x:Operand}(ho:o.op=.nilCheck x){m:String}{ty:TypeId}{v:AV}{b:List AV}{f:FuncId}(hc:jR P ty m=some (f,none))(ha:V g h (.fn (.method m) [.bT ty v] b) (r x)):
 aM P Γ N r o w g h h (some (.fn (.method m) [.bT ty v] b)):=by
 refine aM.same H (u:=r x) ?_ ha;simp only[V,VL]at ha;obtain⟨xs,ys,hx,⟨u,us,rfl,⟨y,rfl,hy⟩,rfl⟩,h2⟩:=ha;obtain⟨i,mm,ptr,hi,hm,hf,hp,hr⟩:=Gg hc;obtain⟨_,d,hu,hni,hd⟩:=BR hr;have hfuel:P.types.size+Made.depth=(P.types.size+99)+1:=rfl
 have hna:(nilAhead (P.types.size+Made.depth) ty y m).run P w=.ok (some false) w:=by
  rw[hfuel,nilAhead];simp only[Sem.run_bind,typeInfo,run_program,Result.andThen_ok,hi,Sem.run_pure,hm,hp,followBlind,hf]
  rcases hd with⟨e,rfl,⟨rfl,_⟩|⟨_,_,_,_,_,hq⟩⟩|⟨hne,rfl,_⟩
  ·rfl
  ·cases hq
  ·cases d with
   |pointer e=>exact absurd rfl (hne e)
   |_=>simp[run_underlying hu]
 simp[execOp,ho,hx,hna]
theorem Mu(H:Inv P Γ N g h w){ty:TypeId}{name:String}{v:AV}{args:List AV}{f:FuncId}{bs:List AV}(hc:ow P Γ h ty name v args=.call f bs)(hb:az P f=true){u:Value}{us:List Value}(hv:V g h v u)(ha:VL g h args us):
 ∃xs,(callMethod (.iface ty u) name us.toArray).run P w=.ok (.enter f xs.toArray) w/\VL g h bs xs:=by
 rcases BG hc with h0|⟨f',q,hcm,hq⟩
 ·cases h0
 obtain⟨i,m,ptr,hi,hm,hf,hp,hr⟩:=Gg hcm;obtain⟨_,d,hu,_,hd⟩:=BR hr
 have hpe:m.path.isEmpty=true:=by simpa using hp
 have hfuel:P.types.size+Made.depth=(P.types.size+99)+1:=rfl
 have hdone:∀(x:Value)(y:AV),(receiverAt ty (.val u) ptr (some ((name.splitOn ".").getLastD name))).run P w=.ok x w->f'=f->bs=y::args->V g h y x->
  ∃xs,(callMethod (.iface ty u) name us.toArray).run P w=.ok (.enter f xs.toArray) w/\VL g h bs xs:=by
  intro x y hx hff hbs hy;subst hff;refine⟨x::us,?_,?_⟩
  ·simp only[callMethod,Sem.run_bind,run_program,Result.andThen_ok];rw[hfuel,method];simp only[Sem.run_bind,typeInfo,run_program,Result.andThen_ok,hi,Sem.run_pure,hm,hp,follow,hf,hpe,cy,hx];rw[BA hb];congr 2;apply iY;simp
  ·rw[hbs];simp only[VL];exact⟨x,us,rfl,hy,ha⟩
 rcases hd with⟨e,rfl,hd|⟨rfl,agg',s',hag,hsz,hqs⟩⟩|⟨hne,rfl,rfl⟩
 ·obtain⟨rfl,rfl⟩:=hd
  rcases hq with⟨_,hq⟩|⟨_,_,_,_,_,hq,_⟩
  ·simp only[R.call.injEq]at hq;refine hdone u v ?_ hq.1.symm hq.2 hv;simp[receiverAt,run_underlying hu,Place.get]
  ·cases hq
 ·rcases hq with⟨hq,_⟩|⟨agg,sz,i',o',x,hq,rfl,hx,hq2⟩
  ·rw[hq]at hqs;cases hqs
  ·rw[hq]at hqs;simp only[ak,bY]at hqs;obtain⟨rfl,rfl⟩:=hqs;simp only[R.call.injEq]at hq2;obtain⟨ad,y,hu1,hu2,hu3⟩:=FV H hag hsz hv hx;refine hdone y x ?_ hq2.1.symm hq2.2 hu3;subst hu1;have hss:(Builtin.ssaWrapNilChk_ #[ty] ty #[.pointer (some ad),strVal "",strVal ((name.splitOn ".").getLastD name)]).run P w=.ok (.pointer (some ad)) w:=rfl;have has:(asAddr (.pointer (some ad))).run P w=.ok ad w:=rfl;simp only[receiverAt,Sem.run_bind,run_underlying hu,Place.get,Sem.run_pure,Result.andThen_ok];simp only[hss,Result.andThen_ok,has,hu2]
 ·rcases hq with⟨_,hq⟩|⟨_,_,_,_,_,hq,_⟩
  ·simp only[R.call.injEq]at hq;refine hdone u v ?_ hq.1.symm hq.2 hv
   cases d<;>first
    |exact absurd rfl (hne _)
    |simp[receiverAt,run_underlying hu,Place.get]
  ·cases hq
def fR(P:Program)(Γ:Nat->Option AV)(N:Env)(g:G)(h:List Ob)(w:World)(r:Operand->Value)(o:Oper):R->Prop
 |.val v h'=>aM P Γ N r o w g h h' (some v)
 |.skip h'=>aM P Γ N r o w g h h' none
 |.dv v=>∃u,(execOp r o).run P w=.halt (.panic u) w/\V g h v u
 |.call f args=>az P f=true->∃us,(execOp r o).run P w=.ok (.enter f us.toArray) w/\VL g h args us
 |.sH=>(execOp r o).run P w=.ok .recover w
 |.bD f args=>∃d,(execOp r o).run P w=.ok (.defer d) w/\DR g h (.call f args) d
 |.yield l args=>∃b us,(execOp r o).run P w=(Instr.yield b us.toArray).run P w/\V g h (.cY l) (.func (.yield b) #[] #[])/\VL g h args us
 |.either=>∃c:Bool,aM P Γ N r o w g h h (some (.bool c))
 |.bad=>True
theorem Iu(he:∀x,V g h (ax t (av x)) (a.eval x))(xs:Array Operand):VL g h ((xs.toList.map av).map (ax t)) (xs.toList.map a.eval):=by
 rw[iB];exact qG he _
theorem aaB(H:Inv P Γ N g h w)(he:∀x,V g h (ax t (av x)) (a.eval x)){f:Operand}{xs:Array Operand}{ts:Array TypeId}(ho:o.op=.call ⟨.value f,xs,ts⟩):
 fR P Γ N g h w a.eval o (aB P Γ t h (.call (av f) (xs.toList.map av))):=by
 have hf:=he f;have hxs:=Iu he xs;simp only[aB]
 split
 ·
  rename_i n fs cs hv;rw[hv]at hf;simp only[V]at hf;obtain⟨us,vs,hfe,h1,h2⟩:=hf;intro hb;refine⟨us++xs.toList.map a.eval++vs,?_,lD (lD h1 hxs) h2⟩;simp only[execOp,ho,resolve,Sem.run_bind,hfe,Deferred.ofValue,Sem.run_pure,Result.andThen_ok,invoke,BA hb];congr 2;apply iY;simp
 ·
  rename_i ty name fs cs hv;rw[hv]at hf;simp only[V]at hf;obtain⟨us,vs,hfe,h1,h2⟩:=hf
  split
  ·rename_i sH as hsp;have h3:=lD h1 hxs;rw[hsp]at h3;simp only[VL]at h3;obtain⟨u,us',h4,h5,h6⟩:=h3
   cases hcm:ow P Γ h ty name sH as<;>simp only[fR]
   case call f' bs=>
    intro hb;obtain⟨ys,h7,h8⟩:=Mu H hcm hb h5 h6;refine⟨ys,?_,h8⟩
    have hd:∃d,P.underlying ty=some d/\∀ms,d≠.interface ms:=by
     rcases BG hcm with h0|⟨f2,q,hcm2,_⟩
     ·cases h0
     obtain⟨_,_,_,_,_,_,_,hr⟩:=Gg hcm2;obtain⟨_,d,hu,hne,_⟩:=BR hr;exact⟨d,hu,hne⟩
    obtain⟨d,hd,hne⟩:=hd
    have hargs:us.toArray++xs.map a.eval=(u::us').toArray:=by
     apply iY;simpa using h4
    simp only[execOp,ho,resolve,Sem.run_bind,hfe,Deferred.ofValue,Sem.run_pure,Result.andThen_ok,invoke,hargs,pU,ry,run_underlying hd]
    have hex:(u::us').toArray.extract 1 (u::us').toArray.size=us'.toArray:=by apply iY;simp
    rw[hex]
    cases d<;>first
     |exact absurd rfl (hne _)
     |exact h7
   all_goals (rcases BG hcm with h0|⟨_,_,_,⟨_,h0⟩|⟨_,_,_,_,_,_,_,_,h0⟩⟩<;>first|cases h0|trivial)
  ·trivial
 ·rename_i l hv;rw[hv]at hf;have hf0:=hf;simp only[V]at hf;obtain⟨hl,b,sz,hρ,hfe⟩:=hf;refine⟨b,xs.toList.map a.eval,?_,by rw[hfe]at hf0;exact hf0,hxs⟩;simp only[execOp,ho,resolve,Sem.run_bind,hfe,Deferred.ofValue,Sem.run_pure,Result.andThen_ok,invoke];congr 2;apply iY;simp
 ·trivial
theorem Zj(H:Inv P Γ N g h w)(he:∀x,V g h (ax t (av x)) (a.eval x)){x:Operand}{name:String}{xs:Array Operand}{ts:Array TypeId}(ho:o.op=.call ⟨.invoke x name,xs,ts⟩):
 fR P Γ N g h w a.eval o (aB P Γ t h (.invoke (av x) name (xs.toList.map av))):=by
 have hx:=he x;have hxs:=Iu he xs;simp only[aB]
 split
 ·rename_i ty v hv;rw[hv]at hx;simp only[V]at hx;obtain⟨u,hxe,hvu⟩:=hx
  cases hcm:ow P Γ h ty name v ((xs.toList.map av).map (ax t))<;>simp only[fR]
  case call f' bs=>
   intro hb;obtain⟨ys,h7,h8⟩:=Mu H hcm hb hvu hxs;refine⟨ys,?_,h8⟩
   have hargs:#[a.eval x]++xs.map a.eval=(a.eval x::xs.toList.map a.eval).toArray:=by
    apply iY;simp
   have hex:(a.eval x::xs.toList.map a.eval).toArray.extract 1 (a.eval x::xs.toList.map a.eval).toArray.size=(xs.toList.map a.eval).toArray:=by apply iY;simp;rw[cR (by simp)]
   simp only[execOp,ho,resolve,Sem.run_bind,Sem.run_pure,Result.andThen_ok,invoke,hargs,pU,ry,hex];rw[hxe];exact h7
  all_goals (rcases BG hcm with h0|⟨_,_,_,⟨_,h0⟩|⟨_,_,_,_,_,_,_,_,h0⟩⟩<;>first|cases h0|trivial)
 ·trivial
end
section
variable{P:Program}{Γ:Nat->Option AV}{N:Env}{g:G}{h:List Ob}{w:World}{a:Act}{o:Oper}{t:List AV}
theorem H7{k:Nat}{z:AV}(h:lp k z=true):z.cells.length=k/\cm z.cells=true/\aK 0 z.cells=true:=by
 simp only[lp,ay,aZ]at h;exact⟨h.1.1,h.1.2,h.2⟩
theorem B9{t e:TypeId}(h:lQ P t=some e):P.underlying t=some (.slice e):=by
 unfold lQ at h
 split at h
 ·rename_i e' hu;simp only[ak]at h;subst h;exact hu
 ·simp at h
theorem L6{k b:Nat}{E:TypeId}{x:AV}{ys:List AV}{fl:Bool}{res:R}(hres:iH h k E b x ys fl=res):res=.bad\/∃v h',res=.val v h':=by
 unfold iH at hres
 cases x<;>try (exact Or.inl hres.symm)
 case list f k' es=>
  cases f
  ·exact Or.inl hres.symm
  ·simp only at hres
   split at hres
   ·cases ys
    ·exact Or.inr ⟨_,_,hres.symm⟩
    ·exact Or.inr ⟨_,_,hres.symm⟩
   ·exact Or.inl hres.symm
 case sl i off n=>
  simp only at hres
  split at hres
  ·split at hres
   ·split at hres
    ·exact Or.inr ⟨_,_,hres.symm⟩
    ·split at hres
     ·exact Or.inr ⟨_,_,hres.symm⟩
     ·exact Or.inl hres.symm
   ·exact Or.inl hres.symm
  ·exact Or.inl hres.symm
theorem ac0(H:Inv P Γ N g h w)(he:∀x,V g h (ax t (av x)) (a.eval x)){x:Operand}{sT:TypeId}(ho:o.op=.call ⟨.builtin .clear,#[x],#[sT]⟩){ao:AO}
 (hc:nz P ⟨.builtin .clear,#[x],#[sT]⟩=some ao):fR P Γ N g h w a.eval o (aB P Γ t h ao):=by
 simp only[nz]at hc
 cases hE:lQ P sT with
 |none=>simp[hE]at hc
 |some e=>
  cases hK:bB P e with
  |none=>simp[hE,hK]at hc
  |some k=>
   cases hZ:eg P e with
   |none=>simp[hE,hK,hZ]at hc
   |some z=>
    by_cases h0:k=0\/lp k z=false
    ·simp[hE,hK,hZ,h0]at hc
    ·simp only[not_or,AU]at h0;obtain⟨hk0,hzo⟩:=h0;obtain⟨hz1,hz2,hz3⟩:=H7 hzo;have ht:=B9 hE;simp[hE,hK,hZ,hk0,hzo]at hc;subst hc;have hx:=he x;simp only[aB]
     split
     ·rename_i i off n hxe
      split
      ·rename_i k' E es fl hi
       split
       ·rename_i hcc;obtain⟨rfl,hle⟩:=hcc;rw[hxe]at hx;exact ad6 H ho ht hK (by omega) hZ hz1 hz2 hz3 hx hi hle
       ·trivial
      ·trivial
     ·trivial
theorem abf(H:Inv P Γ N g h w)(he:∀x,V g h (ax t (av x)) (a.eval x)){x y:Operand}{sT u:TypeId}(ho:o.op=.call ⟨.builtin .append,#[x,y],#[sT,u]⟩){ao:AO}
 (hc:nz P ⟨.builtin .append,#[x,y],#[sT,u]⟩=some ao):fR P Γ N g h w a.eval o (aB P Γ t h ao):=by
 simp only[nz]at hc
 cases hE:lQ P sT with
 |none=>simp[hE]at hc
 |some e=>
  cases hK:bB P e with
  |none=>simp[hE,hK]at hc
  |some k=>
   cases hB:ml P e with
   |none=>simp[hE,hK,hB]at hc
   |some b=>
    cases hZ:eg P e with
    |none=>simp[hE,hK,hB,hZ]at hc
    |some z=>
     by_cases h0:k=0\/b=0\/lp k z=false
     ·simp[hE,hK,hB,hZ,h0]at hc
     ·simp only[not_or,AU]at h0;obtain⟨hk0,hb0,hzo⟩:=h0;obtain⟨hz1,hz2,hz3⟩:=H7 hzo;have ht:=B9 hE
      cases hU:P.underlying u with
      |none=>simp[hE,hU]at hc
      |some d=>
       by_cases hd:∃j,d=.int j
       ·obtain⟨j,rfl⟩:=hd;simp[hE,hK,hB,hZ,hk0,hb0,hzo,hU]at hc;subst hc;simp only[aB]
        split
        ·rename_i i m hm
         split
         ·rename_i hmm;have hy:=he y;rw[hm]at hy
          have hr:∀{res:R},iH h k e b (ax t (av x)) (List.replicate m.toNat z) true=res->fR P Γ N g h w a.eval o res:=by
           intro res hres
           rcases L6 hres with rfl|⟨v,h',rfl⟩
           ·trivial
           have hmB:m*b<=2^48:=by
            have h2:(m.toNat*b:Nat)<=2^47:=by
             unfold iH at hres
             split at hres
             ·split at hres
              ·rename_i hc2;have:=hc2.1;rw[pW]at this;exact sL (ma _ (Nat.le_add_left _ _)) this
              ·cases hres
             ·split at hres
              ·split at hres
               ·rename_i hc2;have:=hc2.2.2.2;rw[pW]at this;exact sL (ma _ (Nat.le_add_left _ _)) this
               ·cases hres
              ·cases hres
             ·cases hres
            have h3:m=(m.toNat:Int):=by omega
            rw[h3];have h4:((m.toNat*b:Nat):Int)<=((2^47:Nat):Int):=Int.ofNat_le.2 h2;simp only[Int.natCast_mul]at h4
            have h5:((2^47:Nat):Int)<=2^48:=by decide
            omega
           exact aa8 H ho ht hK (by omega) hB hb0 hZ hz1 hz2 hz3 hU (he x) (ey hy) hmm.1 hmm.2 hmB hres
          exact hr rfl
         ·trivial
        ·trivial
       ·have hd':∀j,d≠.int j:=fun j hj=>hd ⟨j,hj⟩
        have hao:ao=.append k e b (av x) (av y):=by
         cases d<;>first
          |exact absurd rfl (hd' _)
          |(simp[hE,hK,hB,hZ,hk0,hb0,hzo,hU]at hc;exact hc.symm)
        subst hao
        have hr:∀{ys:List AV}{fl:Bool}{res:R}{k2:Nat},iH h k2 e b (ax t (av x)) ys fl=res->(∀v h',res=.val v h'->aM P Γ N a.eval o w g h h' (some v))->fR P Γ N g h w a.eval o res:=by
         intro ys fl res k2 hres hv
         rcases L6 hres with rfl|⟨v,h',rfl⟩
         ·trivial
         ·exact hv _ _ rfl
        have hy:=he y;simp only[aB]
        split
        ·rename_i f k' es hes
         split
         ·rename_i hkk;rw[hes]at hy
          exact hr rfl fun v h' hres=>GZ H ho ht hK (by omega) hB hb0 hZ hz1 hU hd' (he x) hy (Or.inl ⟨f,k',es,rfl,hkk,hres⟩)
         ·trivial
        ·rename_i i q n hes;rw[hes]at hy
         split
         ·rename_i k' es kr Er esr grr flr shr hte hi
          split
          ·rename_i hkk;subst hkk
           have hkr:kr=k':=by
            simp only[kS,hi]at hte
            split at hte
            ·simp only[ak,bY]at hte;exact hte.1
            ·simp at hte
           subst hkr
           exact hr rfl fun v h' hres=>GZ H ho ht hK (by omega) hB hb0 hZ hz1 hU hd' (he x) hy (Or.inr (Or.inl ⟨i,q,n,es,_,_,_,_,_,rfl,hte,hi,hres⟩))
          ·trivial
         ·trivial
        ·rename_i s hes;rw[hes]at hy
         split
         ·rename_i hk1;subst hk1
          exact hr rfl fun v h' hres=>GZ H ho ht hK (by omega) hB hb0 hZ hz1 hU hd' (he x) hy (Or.inr (Or.inr ⟨s,rfl,rfl,hres⟩))
         ·trivial
        ·trivial
theorem XT(d:Nat)(t e:TypeId)(a:Option Addr)(l c:Nat)(h:P.underlying t=some (.slice e))(w:World):(Op.equalIn (d+1) t (.slice a l c) (.slice none 0 0)).run P w=.ok a.isNone w:=by
 cases a<;>simp[Op.equalIn,run_underlying h]
theorem Yq(t e:TypeId)(a:Option Addr)(l c:Nat)(h:P.underlying t=some (.slice e))(w:World):(Op.equal t (.slice a l c) (.slice none 0 0)).run P w=.ok a.isNone w:=XT 9999 t e a l c h w
theorem ND(H:Inv P Γ N g h w)(he:∀x,V g h (ax t (av x)) (a.eval x)){x:Operand}{ty ty' e:TypeId}{neg:Bool}(ho:o.op=.binOp (if neg then .neq else .eql) ty x (.const (.slice none 0 0)) ty')
 (hu:P.underlying ty=some (.slice e)):fR P Γ N g h w a.eval o (aB P Γ t h (.km neg (av x))):=by
 have hx:=he x
 have hcase:∀{n:Nat},pA (ax t (av x))=some n->∃ad cap,a.eval x=.slice ad n cap/\(0<n->∃b p,ad=some ⟨b,p,none⟩):=by
  intro n hn
  cases hv:ax t (av x)<;>simp only[hv,pA,ak,reduceCtorEq]at hn
  ·rw[hv]at hx;simp only[V]at hx;obtain⟨_,ad,cap,h1,_,_,h3⟩:=hx;subst hn;refine⟨ad,cap,h1,fun hpos=>?_⟩
   rcases h3 with rfl|⟨b,p,_,rfl,_⟩
   ·simp at hpos
   ·exact⟨b,p,rfl⟩
  ·rw[hv]at hx;simp only[V]at hx;obtain⟨_,_,_,_,_,_,_,_,ad,cap,h1,_,h3,_⟩:=hx;subst hn;exact⟨ad,cap,h1,h3⟩
 have hrun:∀{ad:Option Addr}{n cap:Nat},a.eval x=.slice ad n cap->(execOp a.eval o).run P w=.ok (.value (.bool (if neg then !ad.isNone else ad.isNone))) w:=by
  intro ad n cap hxe;have hc0:a.eval (.const (.slice none 0 0))=.slice none 0 0:=rfl;have hq:=Yq (P:=P) ty e ad n cap hu w;simp only[execOp,ho,hc0,hxe]
  cases neg
  ·simp only[eH,da];rw[Sem.run_bind,Sem.run_bind,g_ (by simp) (by simp)];simp only[Result.andThen_ok];rw[tF (by rfl) hq];rfl
  ·simp only[cy];rw[Sem.run_bind,Sem.run_bind,g_ (by simp) (by simp)];simp only[Result.andThen_ok];rw[tA (by rfl) hq];rfl
 simp only[aB]
 split
 ·rename_i n hn;obtain⟨ad,cap,h1,h2⟩:=hcase hn;obtain⟨b,p,rfl⟩:=h2 (by omega);refine aM.same H (hrun h1) ?_
  cases neg<;>simp[V]
 ·rename_i hn;obtain⟨ad,cap,h1,_⟩:=hcase hn;exact⟨_,aM.same H (hrun h1) (by simp only[V];rfl)⟩
 ·trivial
theorem ae8(H:Inv P Γ N g h w)(he:∀x,V g h (ax t (av x)) (a.eval x)){x:Operand}{ty:TypeId}(ho:o.op=.call ⟨.builtin .len,#[x],#[ty]⟩){ao:AO}(hc:nz P ⟨.builtin .len,#[x],#[ty]⟩=some ao):
 fR P Γ N g h w a.eval o (aB P Γ t h ao):=by
 have hx:=he x;simp only[nz]at hc
 split at hc
 ·rename_i hu;simp only[ak]at hc;subst hc;simp only[aB]
  split
  ·rename_i s hs;rw[hs]at hx;exact zZ H ho (Or.inl ⟨s,hu,jP hx,rfl⟩)
  ·trivial
 ·rename_i e hu;simp only[ak]at hc;subst hc;simp only[aB]
  split
  ·rename_i f k es hs;rw[hs]at hx;simp only[V]at hx;obtain⟨_,ad,cap,h1,_⟩:=hx;exact zZ H ho (Or.inr (Or.inl ⟨e,ad,cap,hu,h1⟩))
  ·rename_i i q n hs;rw[hs]at hx;simp only[V]at hx;obtain⟨_,_,_,_,_,_,_,_,ad,cap,h1,_⟩:=hx;exact zZ H ho (Or.inr (Or.inl ⟨e,ad,cap,hu,h1⟩))
  ·trivial
 ·rename_i n e hu;simp only[ak]at hc;subst hc;exact zZ H ho (Or.inr (Or.inr (Or.inl ⟨e,hu⟩)))
 ·rename_i k e hu;simp only[ak]at hc;subst hc;simp only[aB]
  split
  ·rename_i hs;exact GO H ho hu hx (Or.inl ⟨hs,rfl⟩)
  ·rename_i ks vs hs;exact GO H ho hu hx (Or.inr (Or.inl ⟨ks,vs,hs,rfl⟩))
  ·rename_i j hs
   split
   ·rename_i es fl hj;exact GO H ho hu hx (Or.inr (Or.inr ⟨j,es,fl,hs,hj,rfl⟩))
   ·trivial
  ·trivial
 ·simp at hc
theorem za{c:Call}{b:Builtin}(hb:c.callee=.builtin b){xs:List Operand}{ts:List TypeId}(hx:c.args.toList=xs)(ht:c.argTypes.toList=ts):c=⟨.builtin b,xs.toArray,ts.toArray⟩:=by
 cases c
 simp only at hb hx ht;subst hb;congr 1
 ·apply iY;simpa using hx
 ·apply iY;simpa using ht
theorem aao(H:Inv P Γ N g h w)(he:∀x,V g h (ax t (av x)) (a.eval x)){c:Call}(ho:o.op=.call c){b:Builtin}(hb:c.callee=.builtin b){ao:AO}(hc:nz P c=some ao):
 fR P Γ N g h w a.eval o (aB P Γ t h ao):=by
 have hc0:=hc;simp only[nz,hb]at hc
 split at hc
 ·
  rename_i x ty hx ht;have hcc:=za hb hx ht;rw[hcc]at ho hc0;exact ae8 H he ho hc0
 ·
  rename_i x ty hx ht;have hcc:=za hb hx ht;rw[hcc]at ho
  split at hc
  ·rename_i e hu;simp only[ak]at hc;subst hc;have hv:=he x;simp only[aB]
   split
   ·rename_i k es hs;rw[hs]at hv;simp only[V]at hv;obtain⟨_,ad,cap,h1,h2,_⟩:=hv;have:=ahJ H ho hu h1;rwa[h2 trivial]at this
   ·trivial
  ·simp at hc
 ·
  rename_i x y ty u hx ht;have hcc:=za hb hx ht;rw[hcc]at ho hc0;exact abf H he ho hc0
 ·
  rename_i m k ty u hx ht;have hcc:=za hb hx ht;rw[hcc]at ho
  split at hc
  ·rename_i key et hu;simp only[cf]at hc;obtain⟨e,hk,rfl⟩:=hc;have hm:=he m;have hkk:=he k;simp only[aB]
   split
   ·rename_i j hj
    split
    ·rename_i es fl hjo
     split
     ·trivial
     ·rename_i hkey
      split
      ·rename_i es' hd;rw[hj]at hm;exact abR H ho hu hk hm hjo hkk (by simpa using hkey) hd
      ·trivial
    ·trivial
   ·trivial
  ·simp at hc
 ·
  rename_i x ty hx ht;have hcc:=za hb hx ht;rw[hcc]at ho hc0;exact ac0 H he ho hc0
 ·
  rename_i xs _;simp only[ak]at hc;subst hc
  have hcc:c=⟨.builtin .min,c.args,c.argTypes⟩:=by cases c;simp only at hb;subst hb;rfl
  rw[hcc]at ho;simp only[aB]
  split
  ·rename_i v vs hvs
   split
   ·rename_i u hu;exact ahr H ho he hvs hu
   ·trivial
  ·trivial
 ·
  rename_i xs _;simp only[ak]at hc;subst hc
  have hcc:c=⟨.builtin .max,c.args,c.argTypes⟩:=by cases c;simp only at hb;subst hb;rfl
  rw[hcc]at ho;simp only[aB]
  split
  ·rename_i v vs hvs
   split
   ·rename_i u hu;exact agY H ho he hvs hu
   ·trivial
  ·trivial
 ·
  rename_i hx;simp only[ak]at hc;subst hc;simp only[aB,fR]
  have hcc:c=⟨.builtin .recover,c.args,c.argTypes⟩:=by cases c;simp only at hb;subst hb;rfl
  rw[hcc]at ho;simp[execOp,ho,resolve,invoke,builtin]
 ·simp at hc
end
section
variable{P:Program}{Γ:Nat->Option AV}{N:Env}{g:G}{h:List Ob}{w:World}{a:Act}{o:Oper}{t:List AV}
theorem v8{p:AV}{v:Value}(hv:V g h p v)(hp:match p with|.ptr _ _|.di _ _ _ _|.eA _ _=>True|_=>False):∃b m,v=.pointer (some ⟨b,m,none⟩)/\
 ∀n,V g h (match p with|.ptr i q=>.ptr i (q+n)|.di x k i q=>.di x k i (q+n)|.eA i q=>.eA i (q+n)|x=>x) (.pointer (some ⟨b,m+n,none⟩)):=by
 match p,hv,hp with
 |.ptr i q,hv,_=>
  simp only[V]at hv;obtain⟨h1,b,sz,hρ,rfl⟩:=hv;exact⟨b,q,rfl,fun n=>by simp only[V];exact⟨h1,b,sz,hρ,rfl⟩⟩
 |.di x k i q,hv,_=>
  simp only[V]at hv;obtain⟨u,b,m,h1,h2,h3,rfl⟩:=hv;exact⟨b,m+i*k+q,rfl,fun n=>by simp only[V];exact⟨u,b,m,h1,h2,h3,by rw[lx]⟩⟩
 |.eA i q,hv,_=>
  simp only[V]at hv;subst hv;exact⟨i,q,rfl,fun n=>by simp only[V]⟩
def ajc(ck:CK)(q:Option Bool)(h:List Ob):R:=
 match ck with
 |.eql=>match q with
  |some b=>.val (.bool b) h
  |none=>.bad
 |.neq=>match q with
  |some b=>.val (.bool !b) h
  |none=>.bad
 |_=>.bad
theorem abZ(H:Inv P Γ N g h w)(he:∀x,V g h (ax t (av x)) (a.eval x)){op:BinOp}{ty ty':TypeId}{x y:Operand}(ho:o.op=.binOp op ty x y ty'){ao:AO}(hc:b_ P o=some ao):
 fR P Γ N g h w a.eval o (aB P Γ t h ao):=by
 have hx:=he x;have hy:=he y;simp only[b_,ho]at hc
 have hcmp:∀{ck:CK}{e:EK},sy op=some ck->qD P ty=some e->e≠.sc .int->fR P Γ N g h w a.eval o (aB P Γ t h (.cmp ck e (av x) (av y))):=by
  intro ck e h1 h2 h3
  have heq:∀{b:Bool},ck=.eql->cj e (ax t (av x)) (ax t (av y))=some b->aM P Γ N a.eval o w g h h (some (.bool b)):=by
   intro b hck hb;subst hck
   have hop:op=.eql:=by cases op<;>simp only[sy,ak,reduceCtorEq]at h1;rfl
   subst hop;exact ahT H ho h2 hb hx hy
  have hne:∀{b:Bool},ck=.neq->cj e (ax t (av x)) (ax t (av y))=some b->aM P Γ N a.eval o w g h h (some (.bool !b)):=by
   intro b hck hb;subst hck
   have hop:op=.neq:=by cases op<;>simp only[sy,ak,reduceCtorEq]at h1;rfl
   subst hop;exact aht H ho h2 hb hx hy
  have hao:aB P Γ t h (.cmp ck e (av x) (av y))=ajc ck (cj e (ax t (av x)) (ax t (av y))) h:=by
   rcases e with(s|ss|_|_)
   ·cases s
    ·exact absurd rfl h3
    ·cases ck<;>rfl
    ·cases ck<;>rfl
   ·cases ck<;>rfl
   ·cases ck<;>rfl
   ·cases ck<;>rfl
  rw[hao]
  cases hq:cj e (ax t (av x)) (ax t (av y))with
  |none=>cases ck<;>trivial
  |some b=>
   cases ck
   ·exact heq rfl hq
   ·exact hne rfl hq
   all_goals trivial
 split at hc
 ·
  rename_i k hu
  split at hc
  ·rename_i ck hck;simp only[ak]at hc;subst hc;simp only[aB]
   split
   ·rename_i k1 p k2 q h1 h2;rw[h1]at hx;rw[h2]at hy
    split
    ·rename_i hkk;subst hkk;exact afW H ho hck (ey hx) (ey hy)
    ·trivial
   ·trivial
  ·rename_i hck;simp only[cf]at hc;obtain⟨ib,hib,rfl⟩:=hc;simp only[aB]
   split
   ·rename_i k1 p k2 q h1 h2;rw[h1]at hx;rw[h2]at hy
    split
    ·rename_i hkk
     split
     ·rename_i n hn;exact agW H ho hib (ey hx) (ey hy) hkk hn
     ·trivial
    ·trivial
   ·trivial
 ·
  rename_i hu
  split at hc
  ·rename_i hadd;subst hadd;simp only[ak]at hc;subst hc;simp only[aB]
   split
   ·rename_i p q h1 h2;rw[h1]at hx;rw[h2]at hy
    split
    ·rename_i hl;exact acC H ho (jP hx) (jP hy) hl
    ·trivial
   ·trivial
  ·split at hc
   ·rename_i ck e hck hek;simp only[ak]at hc;subst hc;refine hcmp hck hek ?_
    rintro rfl
    unfold qD at hek
    split at hek
    ·rename_i s hs;simp only[ak,EK.sc.injEq]at hek;subst hek;obtain⟨_,h1⟩:=qa hs;obtain⟨k,hk⟩:=h1;rw[hu]at hk
     cases hk
    ·split at hek<;>try (simp at hek)
     all_goals (split at hek<;>simp at hek)
   ·simp at hc
 ·
  rename_i e hu
  split at hc
  ·simp only[ak]at hc;subst hc;exact ND H he (neg:=false) ho hu
  ·simp only[ak]at hc;subst hc;exact ND H he (neg:=true) ho hu
  ·simp at hc
 ·rename_i hni hns hnl
  split at hc
  ·rename_i ck e hck hek;simp only[ak]at hc;subst hc;refine hcmp hck hek ?_
   rintro rfl
   unfold qD at hek
   split at hek
   ·rename_i s hs;simp only[ak,EK.sc.injEq]at hek;subst hek;obtain⟨_,h1⟩:=qa hs;obtain⟨k,hk⟩:=h1;exact hni k hk
   ·split at hek<;>try (simp at hek)
    all_goals (split at hek<;>simp at hek)
  ·simp at hc
theorem Z1(H:Inv P Γ N g h w)(he:∀x,V g h (ax t (av x)) (a.eval x)){s d:TypeId}{x:Operand}(ho:o.op=.convert s d x){ao:AO}(hc:b_ P o=some ao):
 fR P Γ N g h w a.eval o (aB P Γ t h ao):=by
 have hx:=he x;simp only[b_,ho]at hc
 split at hc
 ·rename_i j k hs hd;simp only[ak]at hc;subst hc;simp only[aB]
  split
  ·rename_i k' n h1;rw[h1]at hx;exact aff H ho hs hd (ey hx)
  ·trivial
 ·rename_i hs hd;simp only[ak]at hc;subst hc;simp only[aB]
  split
  ·rename_i l h1;rw[h1]at hx;exact afq H ho hs hd (jP hx)
  ·trivial
 ·rename_i e hs hd
  split at hc
  ·rename_i hee
   split at hc
   ·simp only[ak]at hc;subst hc;simp only[aB]
    split
    ·rename_i l h1;rw[h1]at hx
     split
     ·exact aaE H ho hs hd hee (jP hx) e
     ·trivial
    ·trivial
   ·simp at hc
  ·simp at hc
 ·rename_i e' e hs hd
  split at hc
  ·rename_i hee
   split at hc
   ·rename_i hsd;simp only[ak]at hc;subst hc;simp only[aB]
    split
    ·rename_i i q n h1;rw[h1]at hx
     split
     ·rename_i E es fl sh hi
      split
      ·trivial
      ·rename_i hcond;simp only[not_or,ET]at hcond;obtain⟨h2,h3,h4⟩:=hcond;subst h3;subst hsd;exact afg H ho rfl hd hee hi h4 hx h2
     ·trivial
    ·trivial
   ·simp at hc
  ·simp at hc
 ·rename_i e hs hd
  split at hc
  ·rename_i hee;simp only[ak]at hc;subst hc;simp only[aB]
   split
   ·rename_i es hes
    split
    ·rename_i l hl;exact aeO H ho hs hee hd hx hes hl
    ·trivial
   ·trivial
  ·simp at hc
 ·simp at hc
theorem ac2(H:Inv P Γ N g h w)(he:∀x,V g h (ax t (av x)) (a.eval x)){ty:TypeId}{x:Operand}{lo hi mx:Option Operand}(ho:o.op=.slice ty x lo hi mx){ao:AO}(hc:b_ P o=some ao):
 fR P Γ N g h w a.eval o (aB P Γ t h ao):=by
 have hx:=he x
 cases mx with
 |none=>
  simp only[b_,ho]at hc
  split at hc
  ·rename_i hu;simp only[ak]at hc;subst hc;simp only[aB]
   split
   ·rename_i s h1;rw[h1]at hx
    split
    ·rename_i l u hl hh
     split
     ·rename_i hlu;exact ZO H ho hu (jP hx) he hl hh hlu
     ·trivial
    ·trivial
   ·trivial
  ·rename_i e hu
   split at hc
   ·rename_i k hk;simp only[ak]at hc;subst hc;simp only[aB]
    split
    ·rename_i f k' es h1;rw[h1]at hx
     split
     ·rename_i l u hl hh
      split
      ·rename_i hlu;exact Y4 H ho hu hk hx he hl hh hlu
      ·trivial
     ·trivial
    ·rename_i i q n h1;rw[h1]at hx
     split
     ·rename_i l u hl hh
      split
      ·rename_i hlu
       split
       ·rename_i k' E es gr fl sh hi'
        split
        ·rename_i hkk;obtain⟨rfl,hok⟩:=hkk;exact ZZ H ho hu hk hx he hl hh hlu hi' hok
        ·trivial
       ·trivial
      ·trivial
     ·trivial
    ·trivial
   ·simp at hc
  ·simp at hc
 |some mx=>
  cases hi with
  |none=>simp[b_,ho]at hc
  |some hi=>
   simp only[b_,ho]at hc
   split at hc
   ·rename_i e hu
    split at hc
    ·rename_i k hk;simp only[ak]at hc;subst hc;simp only[aB]
     split
     ·rename_i f k' es h1
      split
      ·rename_i l u m hl hh hm
       split
       ·rename_i hlu;obtain⟨h2,h3,rfl,h4⟩:=hlu;exact abD H ho hu hk hx h1 he hl hh hm ⟨h2,h3,h4⟩
       ·trivial
      ·trivial
     ·trivial
    ·simp at hc
   ·simp at hc
end
section
variable{P:Program}{Γ:Nat->Option AV}{N:Env}{g:G}{h:List Ob}{w:World}{a:Act}{o:Oper}{t:List AV}
theorem Oq(H:Inv P Γ N g h w)(he:∀x,V g h (ax t (av x)) (a.eval x)){ty:TypeId}{x i:Operand}(ho:o.op=.indexAddr ty x i\/o.op=.index ty x i){ao:AO}(hc:b_ P o=some ao):
 fR P Γ N g h w a.eval o (aB P Γ t h ao):=by
 have hx:=he x;have hi:=he i
 rcases ho with ho|ho
 ·simp only[b_,ho]at hc
  split at hc
  ·rename_i e hu
   split at hc
   ·rename_i k hk;simp only[ak]at hc;subst hc;simp only[aB]
    split
    ·rename_i m q n hm hn;rw[hn]at hi
     split
     ·rename_i hq;exact acJ H ho hu hk hx hm (ey hi) hq
     ·trivial
    ·trivial
   ·simp at hc
  ·rename_i n e hu
   split at hc
   ·rename_i k hk;simp only[ak]at hc;subst hc;simp only[aB]
    split
    ·rename_i q n' hn;rw[hn]at hi
     split
     ·rename_i hq
      split
      ·rename_i j m hp;rw[hp]at hx;obtain⟨b,mm,hxe,hadd⟩:=v8 hx trivial;exact F_ H ho hu hk hxe (ey hi) hq (hadd _)
      ·rename_i u k' j m hp;rw[hp]at hx;obtain⟨b,mm,hxe,hadd⟩:=v8 hx trivial;exact F_ H ho hu hk hxe (ey hi) hq (hadd _)
      ·rename_i j m hp;rw[hp]at hx;obtain⟨b,mm,hxe,hadd⟩:=v8 hx trivial;exact F_ H ho hu hk hxe (ey hi) hq (hadd _)
      ·trivial
     ·trivial
    ·trivial
   ·simp at hc
  ·simp at hc
 ·simp only[b_,ho]at hc
  split at hc
  ·rename_i hu;simp only[ak]at hc;subst hc;simp only[aB]
   split
   ·rename_i s q n hs hn;rw[hs]at hx;rw[hn]at hi
    split
    ·rename_i h0
     split
     ·rename_i b hb;exact aeN H ho hu (jP hx) (ey hi) h0 hb
     ·trivial
    ·trivial
   ·trivial
  ·rename_i n e hu
   cases hA:gU P e with
   |none=>simp[hA]at hc
   |some agg=>
    cases hS:bB P e with
    |none=>simp[hA,hS]at hc
    |some sz=>
     simp[hA,hS]at hc;subst hc;simp only[aB]
     split
     ·rename_i cs q m hs hn;rw[hs]at hx;rw[hn]at hi
      split
      ·rename_i hq
       split
       ·rename_i v hv;exact aeD H ho hu hA hS hx (ey hi) hq hv
       ·trivial
      ·trivial
     ·trivial
  ·simp at hc
theorem NX(H:Inv P Γ N g h w)(he:∀x,V g h (ax t (av x)) (a.eval x)){ty:TypeId}{x:Operand}{i:Nat}(ho:o.op=.fieldAddr ty x i\/o.op=.field ty x i){ao:AO}(hc:b_ P o=some ao):
 fR P Γ N g h w a.eval o (aB P Γ t h ao):=by
 have hx:=he x
 rcases ho with ho|ho
 ·simp only[b_,ho]at hc
  split at hc
  ·rename_i fs hu
   split at hc
   ·rename_i f hf
    split at hc
    ·rename_i k hk;simp only[ak]at hc;subst hc;simp only[aB]
     split
     ·rename_i j m hp;rw[hp]at hx;obtain⟨b,mm,hxe,hadd⟩:=v8 hx trivial;exact IC H ho hu hf hk hxe (hadd _)
     ·rename_i u k' j m hp;rw[hp]at hx;obtain⟨b,mm,hxe,hadd⟩:=v8 hx trivial;exact IC H ho hu hf hk hxe (hadd _)
     ·rename_i j m hp;rw[hp]at hx;obtain⟨b,mm,hxe,hadd⟩:=v8 hx trivial;exact IC H ho hu hf hk hxe (hadd _)
     ·trivial
    ·simp at hc
   ·simp at hc
  ·simp at hc
 ·simp only[b_,ho]at hc
  split at hc
  ·rename_i fs hu
   split at hc
   ·rename_i f hf
    cases hA:gU P f.type with
    |none=>simp[hA]at hc
    |some agg=>
     cases hS:bB P f.type with
     |none=>simp[hA,hS]at hc
     |some sz=>
      simp[hA,hS]at hc;subst hc;simp only[aB]
      split
      ·rename_i cs hs;rw[hs]at hx
       split
       ·rename_i v hv;exact agX H ho hu hf hA hS hx hv
       ·trivial
      ·trivial
   ·simp at hc
  ·simp at hc
theorem Qx(H:Inv P Γ N g h w)(he:∀x,V g h (ax t (av x)) (a.eval x)){ty:TypeId}{m k x:Operand}(ho:o.op=.mapUpdate ty m k x\/o.op=.insert ty m k x){ao:AO}(hc:b_ P o=some ao):
 fR P Γ N g h w a.eval o (aB P Γ t h ao):=by
 have hm:=he m;have hk:=he k;have hx:=he x
 have hc':∃key et e,P.underlying ty=some (.map key et)/\jr P key=some e/\ao=.bM e (av m) (av k) (av x):=by
  rcases ho with ho|ho
  all_goals
   simp only[b_,ho]at hc
   split at hc
   ·rename_i key et hu;simp only[cf]at hc;obtain⟨e,hke,rfl⟩:=hc;exact⟨key,et,e,hu,hke,rfl⟩
   ·simp at hc
 obtain⟨key,et,e,hu,hke,rfl⟩:=hc';simp only[aB]
 split
 ·rename_i j hj;rw[hj]at hm
  split
  ·rename_i es fl hjo
   split
   ·trivial
   ·rename_i hkey
    split
    ·rename_i es' hp;exact ahm H ho hu hke hm hjo hk (by simpa using hkey) hx hp
    ·trivial
  ·trivial
 ·trivial
theorem aaw(H:Inv P Γ N g h w)(he:∀x,V g h (ax t (av x)) (a.eval x)){ty:TypeId}{x i:Operand}{ok:Bool}(ho:o.op=.lookup ty x i ok){ao:AO}(hc:b_ P o=some ao):
 fR P Γ N g h w a.eval o (aB P Γ t h ao):=by
 have hx:=he x;have hi:=he i;simp only[b_,ho]at hc
 split at hc
 ·rename_i key et hu
  cases hK:jr P key with
  |none=>simp[hK]at hc
  |some e=>
   cases hZ:eg P et with
   |none=>simp[hK,hZ]at hc
   |some z=>
    simp[hK,hZ]at hc;subst hc
    have hgo:∀{es:List (AV×AV)},((ax t (av x)=.dp/\es=[])\/(∃ks vs,ax t (av x)=.du ks vs/\es=ks.zip vs)\/∃j fl,ax t (av x)=.mp j/\h[j]? =some (.map es fl))->
     fR P Γ N g h w a.eval o (if isKey e (ax t (av i))=false then .bad else match eT e (ax t (av i)) es with
      |some (some v)=>.val (if ok then .aH [v,.bool true]else v) h
      |some none=>.val (if ok then .aH [z,.bool false]else z) h
      |none=>.bad):=by
     intro es hes
     split
     ·trivial
     ·rename_i hkey
      split
      ·rename_i v hf;exact NT H ho hu hK hZ hi (by simpa using hkey) hx hes hf rfl
      ·rename_i hf;exact NT H ho hu hK hZ hi (by simpa using hkey) hx hes hf rfl
      ·trivial
    simp only[aB]
    cases hv:ax t (av x)<;>simp only[hv]at hgo⊢<;>first
     |trivial
     |skip
    ·exact hgo (Or.inl ⟨trivial,rfl⟩)
    ·rename_i j
     cases hj:h[j]? with
     |none=>trivial
     |some q=>
      cases q<;>first
       |trivial
       |exact hgo (Or.inr (Or.inr ⟨j,_,rfl,hj⟩))
    ·exact hgo (Or.inr (Or.inl ⟨_,_,rfl,rfl⟩))
 ·simp at hc
theorem N6(H:Inv P Γ N g h w)(ht:VL g h t a.tmps.toList){ao:AO}(hc:b_ P o=some ao):fR P Γ N g h w a.eval o (aB P Γ t h ao):=by
 have he:∀x,V g h (ax t (av x)) (a.eval x):=fun x=>DC ht x
 have hc0:=hc
 cases ho:o.op with
 |move x=>
  simp only[b_,ho,ak]at hc;subst hc;exact R_ H (Or.inl ho) (he x)
 |assign x=>
  simp only[b_,ho]at hc
  split at hc
  ·cases hE:lQ P o.type with
   |none=>simp[hE]at hc
   |some e=>
    cases hS:bB P e with
    |none=>simp[hE,hS]at hc
    |some k=>
     by_cases hk:k=0
     ·simp[hE,hS,hk]at hc
     ·simp[hE,hS,hk]at hc;subst hc;exact ac7 H ho rfl (by omega) e
  ·simp only[ak]at hc;subst hc;exact R_ H (Or.inr ho) (he x)
 |pick c x y=>
  simp only[b_,ho,ak]at hc;subst hc;have h1:=he c;simp only[aB]
  split
  ·rename_i hb;rw[hb]at h1;exact Qh H ho (mq h1) (he x)
  ·rename_i hb;rw[hb]at h1;exact Qh H ho (mq h1) (he y)
  ·trivial
 |alloc ty=>
  simp only[b_,ho]at hc
  cases hZ:(P.info? ty).bind (·.zero)with
  |none=>simp[hZ]at hc
  |some zv=>
   cases hC:De P 8 ty with
   |none=>simp[hZ,hC]at hc
   |some as=>
    cases hF:qX as zv.cells.toList with
    |none=>simp[hZ,hC,hF]at hc
    |some z=>
     simp[hZ,hC,hF]at hc;subst hc;exact aep H ho hZ hF
 |box ty x=>
  simp only[b_,ho]at hc
  cases hS:bB P ty with
  |none=>simp[hS]at hc
  |some n=>
   simp[hS]at hc;subst hc;simp only[aB]
   split
   ·rename_i h1;exact ag3 H ho (he x) h1.2
   ·trivial
 |build ty ps=>
  simp only[b_,ho]at hc
  cases hZ:eg P ty with
  |none=>simp[hZ]at hc
  |some z=>
   by_cases hpl:zu P ty=true
   ·cases hP:qI P ty ps.toList with
    |none=>simp[hZ,hpl,hP]at hc
    |some aps=>
     simp[hZ,hpl,hP]at hc;subst hc;simp only[aB]
     split
     ·rename_i cs hf;exact ad9 H ho hZ hpl hP he hf
     ·trivial
   ·simp[hZ,hpl]at hc
 |buildSlice ty n ps=>
  simp only[b_,ho]at hc
  cases hE:lQ P ty with
  |none=>simp[hE]at hc
  |some e=>
   cases hS:bB P e with
   |none=>simp[hE,hS]at hc
   |some k=>
    cases hZ:eg P e with
    |none=>simp[hE,hS,hZ]at hc
    |some z=>
     by_cases h0:k=0\/n*k>2^24\/lp k z=false
     ·simp[hE,hS,hZ,h0]at hc
     ·simp only[not_or,AU]at h0;obtain⟨hk0,hnk,hzo⟩:=h0
      have hc2:ao=.lit k (List.replicate n z) (ps.toList.map fun q=>(q.1,av q.2)):=by
       simp only[hE,hS,hZ,pY,kH]at hc;rw[if_neg (by simp only[not_or,AU];exact⟨hk0,hnk,hzo⟩)]at hc;simp only[ak]at hc;exact hc.symm
      subst hc2;simp only[aB]
      split
      ·rename_i ps' h' hp
       split
       ·rename_i es hf
        split
        ·rename_i hok;exact ag4 H ho (B9 hE) hS (by omega) hZ hzo (by omega) he hp hf hok
        ·trivial
       ·trivial
      ·trivial
 |insert ty m k x=>exact Qx H he (Or.inr ho) hc
 |load ty x=>
  simp only[b_,ho]at hc
  cases hA:gU P ty with
  |none=>simp[hA]at hc
  |some agg=>
   cases hS:bB P ty with
   |none=>simp[hA,hS]at hc
   |some sz=>
    simp[hA,hS]at hc;subst hc;simp only[aB]
    split
    ·rename_i v hv;exact agk H ho hA hS (he x) hv
    ·trivial
 |store ty p x=>
  simp only[b_,ho]at hc
  cases hS:bB P ty with
  |none=>simp[hS]at hc
  |some sz=>
   simp[hS]at hc;subst hc;simp only[aB]
   split
   ·rename_i h' hs;exact aeX H ho hS (he p) (he x) hs
   ·trivial
 |nilCheck x=>
  simp only[b_,ho,ak]at hc;subst hc;have hx:=he x;simp only[aB]
  split
  ·rename_i hv;rw[hv]at hx;exact zw H ho hx trivial
  ·rename_i hv;rw[hv]at hx;exact zw H ho hx trivial
  ·rename_i hv;rw[hv]at hx;exact zw H ho hx trivial
  ·rename_i hv;rw[hv]at hx;exact zw H ho hx trivial
  ·rename_i hv;rw[hv]at hx;exact zw H ho hx trivial
  ·rename_i hv
   split
   ·rename_i hcm;rw[hv]at hx;exact acS H ho hcm hx
   ·trivial
  ·trivial
 |binOp op ty x y ty'=>exact abZ H he ho hc
 |unOp op ty x=>
  have hx:=he x;simp only[b_,ho]at hc
  cases op<;>simp only[ak,reduceCtorEq]at hc
  all_goals
   subst hc;simp only[aB]
   split
  ·rename_i hv;rw[hv]at hx;exact ahZ H ho (ey hx)
  ·trivial
  ·rename_i hv;rw[hv]at hx;exact aeW H ho (ey hx)
  ·trivial
  ·rename_i hv;rw[hv]at hx;exact ahP H ho (mq hx)
  ·trivial
 |convert s d x=>exact Z1 H he ho hc
 |makeInterface ty x=>
  simp only[b_,ho]at hc
  split at hc
  ·simp at hc
  ·simp at hc
  ·rename_i d hd hd';simp only[ak]at hc;subst hc
   cases hu:P.underlying ty with
   |none=>exact absurd hu hd'
   |some d=>exact abb H ho hu (fun ms hms=>hd ms (by rw[hu,hms])) (he x)
 |makeFunc f xs ys=>
  simp only[b_,ho,ak]at hc;subst hc;exact acP H ho he
 |makeMap ty r=>
  cases r with
  |some r=>simp[b_,ho]at hc
  |none=>
   simp only[b_,ho]at hc
   split at hc
   ·simp only[ak]at hc;subst hc;exact adX H ho
   ·simp at hc
 |makeSlice ty x y=>
  simp only[b_,ho]at hc
  cases hE:lQ P ty with
  |none=>simp[hE]at hc
  |some e=>
   cases hS:bB P e with
   |none=>simp[hE,hS]at hc
   |some k=>
    cases hZ:eg P e with
    |none=>simp[hE,hS,hZ]at hc
    |some z=>
     cases hB:ml P e with
     |none=>
      simp[hE,hS,hZ,hB]at hc
     |some b=>
      by_cases h0:k=0\/lp k z=false
      ·simp[hE,hS,hZ,h0]at hc
      ·have hc2:ao=.mkSlice k e b z (av x) (av y):=by
        simp only[hE,hS,hZ,hB,pY,kH]at hc;rw[if_neg h0]at hc;simp only[ak]at hc;exact hc.symm
       simp only[not_or,AU]at h0;obtain⟨hk0,hzo⟩:=h0;obtain⟨hz1,hz2,hz3⟩:=H7 hzo;subst hc2;have hx:=he x;have hy:=he y;simp only[aB]
       split
       ·rename_i i n j c hn hm;rw[hn]at hx;rw[hm]at hy
        split
        ·rename_i hcc;obtain⟨h1,rfl,h3,h4⟩:=hcc;exact aaL H ho (B9 hE) hS (by omega) hB hZ hz1 hz2 hz3 (ey hx) (ey hy) h1 h4 h3 e
        ·trivial
       ·trivial
 |slice ty x lo hi mx=>exact ac2 H he ho hc
 |fieldAddr ty x i=>exact NX H he (Or.inl ho) hc
 |field ty x i=>exact NX H he (Or.inr ho) hc
 |indexAddr ty x i=>exact Oq H he (Or.inl ho) hc
 |index ty x i=>exact Oq H he (Or.inr ho) hc
 |lookup ty x i ok=>exact aaw H he ho hc
 |mapUpdate ty m k x=>exact Qx H he (Or.inl ho) hc
 |range ty x=>
  simp only[b_,ho]at hc
  split at hc
  ·rename_i hu;simp only[ak]at hc;subst hc;have hx:=he x;simp only[aB]
   split
   ·rename_i s hs;rw[hs]at hx;exact aeM H ho hu (jP hx)
   ·trivial
  ·simp at hc
 |next x isStr=>
  cases isStr
  ·simp[b_,ho]at hc
  ·simp only[b_,ho,ak]at hc;subst hc;have hx:=he x;simp only[aB]
   split
   ·rename_i i hv;rw[hv]at hx
    split
    ·rename_i s pos hi;have:=af7 H ho hx hi
     split
     ·rename_i hlt;exact this.1 hlt
     ·rename_i hlt;exact this.2 hlt
    ·trivial
   ·trivial
 |typeAssert x ty' ty ok=>
  simp only[b_,ho]at hc
  split at hc
  ·simp at hc
  ·simp at hc
  ·rename_i hd hd'
   cases hZ:eg P ty with
   |none=>simp[hZ]at hc
   |some z=>
    simp[hZ]at hc;subst hc
    cases hu:P.underlying ty with
    |none=>exact absurd hu hd'
    |some d=>
     have hne:∀ms,d≠.interface ms:=fun ms hms=>hd ms (by rw[hu,hms])
     have hx:=he x;simp only[aB]
     split
     ·rename_i u v hv;rw[hv]at hx
      split
      ·rename_i huv;exact F7 H ho hu hne hZ hx (Or.inl ⟨u,v,rfl,Or.inl ⟨huv,rfl⟩⟩)
      ·rename_i huv
       split
       ·rename_i hok;exact F7 H ho hu hne hZ hx (Or.inl ⟨u,v,rfl,Or.inr ⟨huv,hok,rfl⟩⟩)
       ·trivial
     ·rename_i hv;rw[hv]at hx
      split
      ·rename_i hok;exact F7 H ho hu hne hZ hx (Or.inr ⟨rfl,hok,rfl⟩)
      ·trivial
     ·trivial
 |extract x i=>
  simp only[b_,ho,ak]at hc;subst hc;have hx:=he x;simp only[aB]
  split
  ·rename_i vs hv;rw[hv]at hx
   split
   ·rename_i v hi;exact aaH H ho hx hi
   ·trivial
  ·trivial
 |call c=>
  simp only[b_,ho]at hc;obtain⟨callee,xs,ts⟩:=c
  cases callee with
  |value f=>
   simp only[nz,ak]at hc;subst hc;exact aaB H he ho
  |invoke x name=>
   simp only[nz,ak]at hc;subst hc;exact Zj H he ho
  |builtin b=>exact aao H he ho rfl hc
 |defer c=>
  simp only[b_,ho]at hc;obtain⟨callee,xs,ts⟩:=c
  cases callee with
  |value f=>
   simp only[ak]at hc;subst hc;have hf:=he f;have hxs:=Iu he xs;simp only[aB]
   split
   ·rename_i n fs cs hv;rw[hv]at hf;simp only[V]at hf;obtain⟨us,vs,hfe,h1,h2⟩:=hf;refine⟨{target:=.fn (.func n) vs.toArray,args:=us.toArray++xs.map a.eval},?_,vs.toArray,rfl,?_⟩
    ·simp[execOp,ho,resolve,hfe,Deferred.ofValue]
    ·have:=lD (lD h1 hxs) h2;simpa using this
   ·trivial
  |invoke x name=>simp at hc
  |builtin b=>simp at hc
 |panic x=>
  simp only[b_,ho,ak]at hc;subst hc;have hx:=he x;simp only[aB]
  split
  ·rename_i ty v hv;rw[hv]at hx;refine⟨a.eval x,?_,hx⟩;simp only[V]at hx;obtain⟨y,hxe,_⟩:=hx;simp[execOp,ho,hxe,Instr.panic]
  ·trivial
 |_=>simp[b_,ho]at hc
end
section
variable{P:Program}{w w':World}{cs:List Frame}{fn:FuncId}{tmps:Array Value}{k:List Item}{ds:List Deferred}{kd:CallKind}{ro:Option Nat}
def aI(fn:FuncId)(tmps:Array Value)(todo:List Item)(ds:List Deferred)(kd:CallKind)(ro:Option Nat)(md:FrameMode:=.run):Frame:=
 {fn,tmps,todo,defers:=ds,mode:=md,kind:=kd,roundOf:=ro}
theorem agR:step P (lone (aI fn tmps (.code .skip::k) ds kd ro) cs w)=.next (lone (aI fn tmps k ds kd ro) cs w):=
 step_lone_go (by simp[stepG,stepG.exec,aI])
theorem adn{l:Nat}:step P (lone (aI fn tmps (.code (.label l)::k) ds kd ro) cs w)=.next (lone (aI fn tmps k ds kd ro) cs w):=
 step_lone_go (by simp[stepG,stepG.exec,aI])
theorem abj{id:Nat}:step P (lone (aI fn tmps (.inBlock id::k) ds kd ro) cs w)=.next (lone (aI fn tmps k ds kd ro) cs w):=
 step_lone_go (by simp[stepG,stepG.exec,aI])
theorem ahY{x y:Code}:step P (lone (aI fn tmps (.code (.seq x y)::k) ds kd ro) cs w)=.next (lone (aI fn tmps (.code x::.code y::k) ds kd ro) cs w):=
 step_lone_go (by simp[stepG,stepG.exec,aI])
theorem Py{todo:List Item}{md:FrameMode}:(aI fn tmps todo ds kd ro md).eval=(⟨tmps,ds⟩:Act).eval:=by
 funext x;cases x<;>rfl
theorem afH{c:Operand}{x y:Code}{b:Bool}(h:(⟨tmps,ds⟩:Act).eval c=.bool b):
 step P (lone (aI fn tmps (.code (.cond c x y)::k) ds kd ro) cs w)=.next (lone (aI fn tmps (.code (if b then x else y)::k) ds kd ro) cs w):=
 step_lone_go (by
  have:=congrFun (Py (fn:=fn) (tmps:=tmps) (ds:=ds) (kd:=kd) (ro:=ro) (todo:=.code (.cond c x y)::k) (md:=.run)) c;simp only[aI]at this
  simp[stepG,stepG.exec,aI,this,h])
theorem ad4{id:Nat}{c:Code}:step P (lone (aI fn tmps (.code (.block id c)::k) ds kd ro) cs w)=.next (lone (aI fn tmps (.code c::.inBlock id::k) ds kd ro) cs w):=
 step_lone_go (by simp[stepG,stepG.exec,aI])
theorem afZ{c:Code}:step P (lone (aI fn tmps (.code (.loop c)::k) ds kd ro) cs w)=.next (lone (aI fn tmps (.code c::.inLoop c::k) ds kd ro) cs w):=
 step_lone_go (by simp[stepG,stepG.exec,aI])
theorem ab6{c:Code}:step P (lone (aI fn tmps (.inLoop c::k) ds kd ro) cs w)=.next (lone (aI fn tmps (.code c::.inLoop c::k) ds kd ro) cs w):=
 step_lone_go (by simp[stepG,stepG.exec,aI])
theorem afL{id:Nat}{k':List Item}(h:exitTo id k=some k'):step P (lone (aI fn tmps (.code (.exit id)::k) ds kd ro) cs w)=.next (lone (aI fn tmps k' ds kd ro) cs w):=
 step_lone_go (by simp[stepG,stepG.exec,aI,h])
theorem ahK:step P (lone (aI fn tmps (.code .ret::k) ds kd none) cs w)=.next (lone (aI fn tmps (.code .ret::k) ds kd none .returning) cs w):=
 step_lone_go (by simp[stepG,stepG.exec,aI])
theorem ahw:step P (lone (aI fn tmps [] ds kd none) cs w)=.next (lone (aI fn tmps [] ds kd none .returning) cs w):=
 step_lone_go (by simp[stepG,stepG.exec,aI])
theorem ab0{id:Nat}{ops:Array Oper}:step P (lone (aI fn tmps (.code (.region id ops false)::k) ds kd ro) cs w)=.next (lone (aI fn tmps (.inRegion ops (List.range ops.size)::k) ds kd ro) cs w):=
 step_lone_go (by simp[stepG,stepG.exec,aI])
theorem Il{id:Nat}{ops:Array Oper}:step P (lone (aI fn tmps (.code (.region id ops true)::k) ds kd ro) cs w)=
 .next (lone (aI fn tmps (.inRegion ops (Region.schedule (P.follows .mixedOrders) ops (w.tape w.drawn (.order fn id)))::k) ds kd ro) cs w.drew):=
 step_lone_go (by simp[stepG,stepG.exec,aI,choose,Sem.run,Question.forced,Question.cut])
theorem ZB{ops:Array Oper}:step P (lone (aI fn tmps (.inRegion ops []::k) ds kd ro) cs w)=.next (lone (aI fn tmps k ds kd ro) cs w):=
 step_lone_go (by simp[stepG,stepG.exec,aI])
def mJ(tmps:Array Value)(d:Option Tmp)(v:Value):Array Value:=
 match d with
 |some d=>tmps.setIfInBounds d v
 |none=>tmps
theorem y4{ops:Array Oper}{i:Nat}{rest:List Nat}(v:Value):(aI fn tmps (.inRegion ops (i::rest)::k) ds kd ro).finish v=aI fn (mJ tmps ((ops[i]?).bind (·.dst)) v) (.inRegion ops rest::k) ds kd ro:=by
 simp only[Frame.finish,aI,mJ]
 cases(ops[i]?).bind (·.dst)<;>rfl
theorem acU{ops:Array Oper}{i:Nat}{rest:List Nat}{o:Oper}(ho:ops[i]? =some o)(h:Region.wanted o (yielded ops tmps)=false):
 step P (lone (aI fn tmps (.inRegion ops (i::rest)::k) ds kd ro) cs w)=.next (lone (aI fn (mJ tmps o.dst undef) (.inRegion ops rest::k) ds kd ro) cs w):=by
 have:=y4 (fn:=fn) (tmps:=tmps) (k:=k) (ds:=ds) (kd:=kd) (ro:=ro) (ops:=ops) (i:=i) (rest:=rest) undef;rw[ho,kH]at this;rw[<-this];refine step_lone_go ?_;simp only[aI]at*;simp[stepG,stepG.exec,ho,h]
theorem ui{ops:Array Oper}{i:Nat}{rest:List Nat}{o:Oper}(ho:ops[i]? =some o)(hw:Region.wanted o (yielded ops tmps)=true)(hd:ro=none\/∀c,o.op≠.defer c):
 stepG P true {frame:=aI fn tmps (.inRegion ops (i::rest)::k) ds kd ro,callers:=cs,status:=.running,dying:=none} w=
  stepG.apply P true (aI fn tmps (.inRegion ops (i::rest)::k) ds kd ro) cs none (execOp (⟨tmps,ds⟩:Act).eval o) w:=by
 have he:=Py (fn:=fn) (tmps:=tmps) (ds:=ds) (kd:=kd) (ro:=ro) (todo:=.inRegion ops (i::rest)::k) (md:=.run);simp only[aI]at he
 cases ro with
 |none=>simp[stepG,stepG.exec,stepG.oper,Frame.oper?,aI,ho,hw,he]
 |some l=>
  have hd:=hd.resolve_left (by simp);simp only[stepG,stepG.exec,stepG.oper,Frame.oper?,aI,ho,hw,dm,j4,cy]
  cases hop:o.op<;>simp only[he]
  exact absurd hop (hd _)
theorem Hi{ops:Array Oper}{i:Nat}{rest:List Nat}{o:Oper}(ho:ops[i]? =some o)(hw:Region.wanted o (yielded ops tmps)=true)(hd:ro=none\/∀c,o.op≠.defer c){v:Value}
 (hr:(execOp (⟨tmps,ds⟩:Act).eval o).run P w=.ok (.value v) w'):
 step P (lone (aI fn tmps (.inRegion ops (i::rest)::k) ds kd ro) cs w)=.next (lone (aI fn (mJ tmps o.dst v) (.inRegion ops rest::k) ds kd ro) cs w'):=by
 have:=y4 (fn:=fn) (tmps:=tmps) (k:=k) (ds:=ds) (kd:=kd) (ro:=ro) (ops:=ops) (i:=i) (rest:=rest) v;rw[ho,kH]at this;rw[<-this];refine step_lone_go ?_;rw[ui ho hw hd];simp[stepG.apply,hr]
theorem aaI{ops:Array Oper}{i:Nat}{rest:List Nat}{o:Oper}(ho:ops[i]? =some o)(hw:Region.wanted o (yielded ops tmps)=true)(hd:ro=none\/∀c,o.op≠.defer c)
 (hr:(execOp (⟨tmps,ds⟩:Act).eval o).run P w=.ok .skip w'):
 step P (lone (aI fn tmps (.inRegion ops (i::rest)::k) ds kd ro) cs w)=.next (lone (aI fn (mJ tmps o.dst undef) (.inRegion ops rest::k) ds kd ro) cs w'):=by
 have:=y4 (fn:=fn) (tmps:=tmps) (k:=k) (ds:=ds) (kd:=kd) (ro:=ro) (ops:=ops) (i:=i) (rest:=rest) undef;rw[ho,kH]at this;rw[<-this];refine step_lone_go ?_;rw[ui ho hw hd];simp[stepG.apply,hr]
theorem aeP{ops:Array Oper}{i:Nat}{rest:List Nat}{o:Oper}(ho:ops[i]? =some o)(hw:Region.wanted o (yielded ops tmps)=true)(hd:ro=none\/∀c,o.op≠.defer c){f:FuncId}{args:Array Value}
 (hr:(execOp (⟨tmps,ds⟩:Act).eval o).run P w=.ok (.enter f args) w'):
 step P (lone (aI fn tmps (.inRegion ops (i::rest)::k) ds kd ro) cs w)=.next (lone (Frame.enter P f args .normal) (aI fn tmps (.inRegion ops (i::rest)::k) ds kd ro::cs) w'):=by
 refine step_lone_go ?_;rw[ui ho hw hd];simp[stepG.apply,hr,aI]
theorem adC{ops:Array Oper}{i:Nat}{rest:List Nat}{o:Oper}(ho:ops[i]? =some o)(hw:Region.wanted o (yielded ops tmps)=true)(hd:ro=none\/∀c,o.op≠.defer c){l:Nat}{f:FuncId}{ts:Array Value}{x y:Code}
 (hr:(execOp (⟨tmps,ds⟩:Act).eval o).run P w=.ok (.round l f ts x y) w'):
 step P (lone (aI fn tmps (.inRegion ops (i::rest)::k) ds kd ro) cs w)=.next (lone (aI f ts [.code x,.beginRound,.code y] [] .normal (some l)) (aI fn tmps (.inRegion ops (i::rest)::k) ds kd ro::cs) w'):=by
 refine step_lone_go ?_;rw[ui ho hw hd];simp[stepG.apply,hr,aI,Frame.round]
theorem adL{ops:Array Oper}{i:Nat}{rest:List Nat}{o:Oper}(ho:ops[i]? =some o)(hw:Region.wanted o (yielded ops tmps)=true)(hd:ro=none\/∀c,o.op≠.defer c){v:Value}
 (hr:(execOp (⟨tmps,ds⟩:Act).eval o).run P w=.halt (.panic v) w'):
 step P (lone (aI fn tmps (.inRegion ops (i::rest)::k) ds kd ro) cs w)=.next (lone (aI fn tmps (.inRegion ops (i::rest)::k) ds kd ro (.panicking [{v,recovered:=false}])) cs w'):=by
 refine step_lone_go ?_;rw[ui ho hw hd];simp[stepG.apply,hr,aI,Frame.raise]
theorem P8{ops:Array Oper}{i:Nat}{rest:List Nat}{o:Oper}(ho:ops[i]? =some o)(hw:Region.wanted o (yielded ops tmps)=true){d:Deferred}
 (hr:(execOp (⟨tmps,ds⟩:Act).eval o).run P w=.ok (.defer d) w'):
 step P (lone (aI fn tmps (.inRegion ops (i::rest)::k) ds kd none) cs w)=.next (lone (aI fn (mJ tmps o.dst undef) (.inRegion ops rest::k) (d::ds) kd none) cs w'):=by
 have:=y4 (fn:=fn) (tmps:=tmps) (k:=k) (ds:=d::ds) (kd:=kd) (ro:=none) (ops:=ops) (i:=i) (rest:=rest) undef;rw[ho,kH]at this;rw[<-this];refine step_lone_go ?_;rw[ui ho hw (Or.inl rfl)];simp[stepG.apply,hr,aI]
theorem Gf{ops:Array Oper}{i:Nat}{rest:List Nat}{o:Oper}(ho:ops[i]? =some o)(hw:Region.wanted o (yielded ops tmps)=true)
 (hr:(execOp (⟨tmps,ds⟩:Act).eval o).run P w=.ok .recover w'){v:Value}{cs':List Frame}
 (ht:tryRecover (aI fn tmps (.inRegion ops (i::rest)::k) ds kd none) cs=some (v,cs')\/(tryRecover (aI fn tmps (.inRegion ops (i::rest)::k) ds kd none) cs=none/\v=.nilIface/\cs'=cs)):
 step P (lone (aI fn tmps (.inRegion ops (i::rest)::k) ds kd none) cs w)=.next (lone (aI fn (mJ tmps o.dst v) (.inRegion ops rest::k) ds kd none) cs' w'):=by
 have:=y4 (fn:=fn) (tmps:=tmps) (k:=k) (ds:=ds) (kd:=kd) (ro:=none) (ops:=ops) (i:=i) (rest:=rest) v;rw[ho,kH]at this;rw[<-this];refine step_lone_go ?_;rw[ui ho hw (Or.inl rfl)]
 rcases ht with ht|⟨ht,rfl,rfl⟩
 ·have hro:(aI fn tmps (.inRegion ops (i::rest)::k) ds kd none).roundOf=none:=rfl;simp[stepG.apply,hr,hro,ht]
 ·have hro:(aI fn tmps (.inRegion ops (i::rest)::k) ds kd none).roundOf=none:=rfl;simp[stepG.apply,hr,hro,ht]
theorem P4{f:Operand}{ps:Array Tmp}{x y:Code}{l:Nat}{mark:List Deferred}{w1:World}{g:FuncId}{args:Array Value}
 (h1:(Instr.enterLoop fn tmps ps x y ro).run P w=.ok (l,mark) w1)
 (h2:((do let d<-resolve (⟨tmps,ds⟩:Act).eval {callee:=.value f,args:=#[.const (.func (.yield l) #[] #[])],argTypes:=#[]} 0;invoke d.target d.args):Sem Next).run P w1=.ok (.enter g args) w'):
 step P (lone (aI fn tmps (.code (.rangeFunc f ps x y)::k) ds kd ro) cs w)=.next (lone (Frame.enter P g args .normal) (aI fn tmps (.inRangeFunc l::k) (mark++ds) kd ro::cs) w'):=by
 have he:({fn:=fn,tmps:=tmps,todo:=.inRangeFunc l::k,defers:=mark++ds,mode:=.run,kind:=kd,roundOf:=ro}:Frame).eval=(⟨tmps,ds⟩:Act).eval:=by
  funext z;cases z<;>rfl
 refine step_lone_go ?_;simp only[stepG,stepG.exec,aI,Sem.runT_eq,h1,GStep.bare_after];simp only[stepG.apply,Sem.runT_eq,cy,GStep.bare_after,he,h2];rfl
theorem YV{b:Nat}(hr:(Instr.beginRound b).run P w=.ok () w'):step P (lone (aI fn tmps (.beginRound::k) ds kd (some b)) cs w)=.next (lone (aI fn tmps k ds kd (some b)) cs w'):=by
 refine step_lone_go ?_;simp[stepG,stepG.exec,aI,stepG.apply,hr,Frame.finish]
theorem Z8{l:Nat}{j:Option Code}(hr:(Instr.endLoop l).run P w=.ok j w'):step P (lone (aI fn tmps (.endRangeFunc l::k) ds kd ro) cs w)=.next (lone (aI fn tmps ((j.map Item.code).toList++k) ds kd ro) cs w'):=by
 refine step_lone_go ?_;simp[stepG,stepG.exec,aI,hr]
theorem Y0{b:Nat}{j:Option Code}{todo:List Item}(hj:(todo=[]/\j=none)\/(∃k,todo=.code .ret::k/\j=some .ret)\/(∃id k,todo=.code (.exit id)::k/\exitTo id k=none/\j=some (.exit id))){c:Frame}{v:Value}
 (hr:(Instr.endRound b j).run P w=.ok v w'):step P (lone (aI fn tmps todo ds .normal (some b)) (c::cs) w)=.next (lone (c.finish v) cs w'):=by
 refine step_lone_go ?_
 rcases hj with⟨rfl,rfl⟩|⟨k,rfl,rfl⟩|⟨id,k,rfl,he,rfl⟩
 ·simp[stepG,stepG.exec,aI,hr,doReturn]
 ·simp[stepG,stepG.exec,aI,hr,doReturn]
 ·simp[stepG,stepG.exec,aI,hr,doReturn,he]
theorem agd{b:Nat}{md:FrameMode}(hmd:md≠.run){todo:List Item}{calls:List Deferred}(hr:(Instr.takeDeferred b).run P w=.ok calls w'):
 step P (lone (aI fn tmps todo ({target:=.collected b,args:=#[]}::ds) kd ro md) cs w)=.next (lone (aI fn tmps todo (calls++ds) kd ro md) cs w'):=by
 refine step_lone_go ?_
 cases md<;>first
  |exact absurd rfl hmd
  |simp[stepG,aI,unwind,hr]
theorem agP{md:FrameMode}(hmd:md≠.run){todo:List Item}{d:Deferred}(hn:d.target≠.nil)(hc:∀b,d.target≠.collected b){f:FuncId}{args:Array Value}(hr:(invoke d.target d.args).run P w=.ok (.enter f args) w'):
 step P (lone (aI fn tmps todo (d::ds) kd ro md) cs w)=.next (lone (Frame.enter P f args .deferred) (aI fn tmps todo ds kd ro md::cs) w'):=by
 refine step_lone_go ?_;obtain⟨target,dargs⟩:=d;simp only at hn hc hr
 have hnn:((match target with|.nil=>true|_=>false):Bool)=false:=by cases target<;>first|rfl|exact absurd rfl hn
 cases md<;>first
  |exact absurd rfl hmd
  |(cases target<;>first
   |exact absurd rfl hn
   |exact absurd rfl (hc _)
   |simp[stepG,aI,unwind,callDeferred,hr])
theorem abJ{todo:List Item}{F:Func}(hF:P.funcs[fn]? =some F){v:Value}(hr:(results F tmps).run P w=.ok v w){c:Frame}:
 step P (lone (aI fn tmps todo [] .normal ro .returning) (c::cs) w)=.next (lone (c.finish v) cs w):=by
 refine step_lone_go ?_;simp[stepG,aI,unwind,hF,hr,doReturn]
theorem GM{todo:List Item}{F:Func}(hF:P.funcs[fn]? =some F){v:Value}(hr:(results F tmps).run P w=.ok v w){c c':Frame}
 (hc:(∃u,c.mode=.panicking [{v:=u,recovered:=true}]/\c'={c with mode:=.returning})\/((c.mode=.returning\/∃u,c.mode=.panicking [{v:=u,recovered:=false}])/\c'=c)):
 step P (lone (aI fn tmps todo [] .deferred ro .returning) (c::cs) w)=.next (lone c' cs w):=by
 refine step_lone_go ?_
 rcases hc with⟨u,hm,rfl⟩|⟨hm|⟨u,hm⟩,rfl⟩
 ·simp[stepG,aI,unwind,hF,hr,doReturn,hm]
 ·simp[stepG,aI,unwind,hF,hr,doReturn,hm]
 ·simp[stepG,aI,unwind,hF,hr,doReturn,hm]
theorem acQ{todo:List Item}{F:Func}(hF:P.funcs[fn]? =some F){ch:List PanicEntry}{c:Frame}:
 step P (lone (aI fn tmps todo [] kd ro (.panicking ch)) (c::cs) w)=.next (lone (c.raise ch) cs w):=by
 refine step_lone_go ?_;simp[stepG,aI,unwind,Frame.catches,hF]
end
def I5(P:Program)(ops:Array Oper)(gs:List AG)(todo:List Nat):Prop:=F2 (fun(g:AG) (i:Nat)=>∃o,ops[i]? =some o/\oN P ops.toList o=some g) gs todo
def LR(g:G)(h:List Ob)(l b:Nat):Prop:=Iz h l/\∃sz,g.ρ l=some (b,sz,0)
def IR(P:Program)(g:G)(h:List Ob):List It->List Item->Prop
 |[],[]=>True
 |.code a::k,.code c::k'=>CR P c a/\IR P g h k k'
 |.inBlock i _::k,.inBlock j::k'=>i=j/\IR P g h k k'
 |.inLoop _ a::k,.inLoop c::k'=>CR P c a/\IR P g h k k'
 |.ops gs::k,.inRegion ops todo::k'=>I5 P ops gs todo/\IR P g h k k'
 |.jN l::k,.inRangeFunc b::k'=>LR g h l b/\IR P g h k k'
 |.vJ l::k,.endRangeFunc b::k'=>LR g h l b/\IR P g h k k'
 |.beginRound::k,.beginRound::k'=>IR P g h k k'
 |_,_=>False
def MR(g:G)(h:List Ob):Md->FrameMode->Prop
 |.run,m=>m=.run
 |.ret,m=>m=.returning
 |.dv v rc,m=>∃u,m=.panicking [{v:=u,recovered:=rc}]/\V g h v u
def KR(g:G)(h:List Ob):FK->CallKind->Option Nat->Prop
 |.norm,k,ro=>k=.normal/\ro=none
 |.bD,k,ro=>k=.deferred/\ro=none
 |.round l,k,ro=>k=.normal/\∃b,ro=some b/\LR g h l b
structure lX(P:Program)(g:G)(h:List Ob)(f:Fr)(fr:Frame):Prop where
 md:MR g h f.md fr.mode
 fn:fr.fn=f.fn
 its:IR P g h f.its fr.todo
 t:VL g h f.t fr.tmps.toList
 ds:F2 (DR g h) f.ds fr.defers
 kind:KR g h f.kind fr.kind fr.roundOf
 is:∃fn,P.funcs[f.fn]? =some fn
def pE(n:Nat):FK->Bool
 |.round l=>decide (l<n)
 |_=>true
def sf(n:Nat):Md->Bool
 |.dv v _=>aG n v
 |_=>true
def k9(n:Nat)(f:Fr):Bool:=aK n f.t&&k_ n f.ds&&gQ n f.its&&pE n f.kind&&sf n f.md
def SR(P:Program)(g:G)(h:List Ob)(f0:FuncId):Nat->List Fr->List Frame->Prop
 |_,[],fs=>fs=[]
 |n,f::up,fs=>∃fr fs',fs=fr::fs'/\lX P g h f fr/\k9 n f=true/\f.base<=n/\(up=[]->f.fn=f0/\f.kind=.norm)/\SR P g h f0 f.base up fs'
def c_(P:Program)(Γ:Nat->Option AV)(N:Env)(g0:G)(f0:FuncId)(cs0:List Frame):ar->Machine->Prop
 |.fr f up h,m=>∃g w fr fs,m=lone fr (fs++cs0) w/\Inv P Γ N g h w/\(∀b o v,g0.M b o=some v->g.M b o=some v)/\SR P g h f0 h.length (f::up) (fr::fs)
 |.cl c args up h,m=>∃g w vs fs,m=lone (Frame.enter P c vs .normal) (fs++cs0) w/\Inv P Γ N g h w/\(∀b o v,g0.M b o=some v->g.M b o=some v)/\VL g h args vs.toList/\az P c=true/\
  SR P g h f0 h.length up fs/\(up=[]->c=f0)
 |.back (c::up) v h,m=>∃g w u fr fs,m=lone (fr.finish u) (fs++cs0) w/\Inv P Γ N g h w/\(∀b o v,g0.M b o=some v->g.M b o=some v)/\V g h v u/\SR P g h f0 h.length (c::up) (fr::fs)
 |.back [] v h,m=>∃g w u fr,m=lone fr cs0 w/\Inv P Γ N g h w/\(∀b o v,g0.M b o=some v->g.M b o=some v)/\V g h v u/\fr.fn=f0/\fr.leaving P w (.returned u)
 |.die (c::up) v h,m=>∃g w u fr fs,m=lone (fr.raise [{v:=u,recovered:=false}]) (fs++cs0) w/\Inv P Γ N g h w/\(∀b o v,g0.M b o=some v->g.M b o=some v)/\V g h v u/\SR P g h f0 h.length (c::up) (fr::fs)
 |.die [] v h,m=>∃g w u fr,m=lone fr cs0 w/\Inv P Γ N g h w/\(∀b o v,g0.M b o=some v->g.M b o=some v)/\V g h v u/\fr.fn=f0/\fr.leaving P w (.panicked [{v:=u,recovered:=false}])
 |.bad,_=>True
section
variable{P:Program}{Γ:Nat->Option AV}{N:Env}{g g':G}{h h':List Ob}{w:World}
theorem Ic{n:Nat}(x:Ext n g h g' h'){l b:Nat}(hl:l<n)(h1:LR g h l b):LR g' h' l b:=by
 obtain⟨⟨st,j,fn,t,ps,p,q,hi⟩,sz,hρ⟩:=h1;obtain⟨⟨st',j',h1⟩,h2⟩:=x.loop l st j fn t ps p q hl hi;exact⟨⟨_,_,_,_,_,_,_,h1⟩,sz,h2 _ hρ⟩
theorem lH{n:Nat}(x:Ext n g h g' h'):∀{k:List It}{k':List Item},gQ n k=true->IR P g h k k'->IR P g' h' k k'
 |[],[],_,_=>trivial
 |[],_::_,_,h1=>by simp only[IR]at h1
 |it::k,[],_,h1=>by cases it<;>simp only[IR]at h1
 |it::k,im::k',hb,h1=>by
  cases it<;>cases im<;>simp only[IR]at h1⊢
  ·exact⟨h1.1,lH x (by simpa only [gQ]using hb) h1.2⟩
  ·exact⟨h1.1,lH x (by simpa only [gQ]using hb) h1.2⟩
  ·exact⟨h1.1,lH x (by simpa only [gQ]using hb) h1.2⟩
  ·exact⟨h1.1,lH x (by simpa only [gQ]using hb) h1.2⟩
  ·simp only[gQ,ay,aZ]at hb;exact⟨Ic x hb.1 h1.1,lH x hb.2 h1.2⟩
  ·simp only[gQ,ay,aZ]at hb;exact⟨Ic x hb.1 h1.1,lH x hb.2 h1.2⟩
  ·exact lH x (by simpa only [gQ]using hb) h1
theorem H3{n:Nat}(x:Ext n g h g' h'){d:dF}{d':Deferred}(hb:(match d with|.call _ args=>aK n args|.mark i=>decide (i<n))=true)(h1:DR g h d d'):DR g' h' d d':=by
 cases d with
 |call f args=>
  obtain⟨cap,h2,h3⟩:=h1;exact⟨cap,h2,cF x hb h3⟩
 |mark i=>
  obtain⟨⟨l,hi⟩,b,sz,hρ,h2⟩:=h1;simp only[aZ]at hb;obtain⟨h3,h4⟩:=x.bD i l hb hi;exact⟨h3,b,sz,h4 _ hρ,h2⟩
theorem zz{n:Nat}(x:Ext n g h g' h'):∀{ds:List dF}{ds':List Deferred},k_ n ds=true->F2 (DR g h) ds ds'->F2 (DR g' h') ds ds'
 |_,_,_,.nil=>.nil
 |.call f args::ds,_,hb,.cons h1 h2=>by
  simp only[k_,ay]at hb;exact .cons (H3 x hb.1 h1) (zz x hb.2 h2)
 |.mark i::ds,_,hb,.cons h1 h2=>by
  simp only[k_,ay]at hb;exact .cons (H3 x hb.1 h1) (zz x hb.2 h2)
theorem Qs{n:Nat}(x:Ext n g h g' h'){m:Md}{m':FrameMode}(hb:sf n m=true)(h1:MR g h m m'):MR g' h' m m':=by
 cases m with
 |run=>exact h1
 |ret=>exact h1
 |dv v rc=>obtain⟨u,h2,h3⟩:=h1;exact⟨u,h2,gG x hb h3⟩
theorem Ij{n:Nat}(x:Ext n g h g' h'){k:FK}{c:CallKind}{ro:Option Nat}(hb:pE n k=true)(h1:KR g h k c ro):KR g' h' k c ro:=by
 cases k with
 |norm=>exact h1
 |bD=>exact h1
 |round l=>
  obtain⟨h2,b,h3,h4⟩:=h1;simp only[pE,aZ]at hb;exact⟨h2,b,h3,Ic x hb h4⟩
theorem B1{n:Nat}(x:Ext n g h g' h'){f:Fr}{fr:Frame}(hb:k9 n f=true)(h1:lX P g h f fr):lX P g' h' f fr:=by
 simp only[k9,ay]at hb;obtain⟨⟨⟨⟨b1,b2⟩,b3⟩,b4⟩,b5⟩:=hb;exact⟨Qs x b5 h1.md,h1.fn,lH x b3 h1.its,cF x b1 h1.t,zz x b2 h1.ds,Ij x b4 h1.kind,h1.is⟩
theorem GU{n m:Nat}(h:n<=m):∀{ds:List dF},k_ n ds=true->k_ m ds=true
 |[],_=>rfl
 |.call _ _::ds,hb=>by simp only[k_,ay]at hb⊢;exact⟨rO h hb.1,GU h hb.2⟩
 |.mark _::ds,hb=>by simp only[k_,ay,aZ]at hb⊢;exact⟨by omega,GU h hb.2⟩
theorem Gv{n m:Nat}(h:n<=m):∀{k:List It},gQ n k=true->gQ m k=true
 |[],_=>rfl
 |it::k,hb=>by
  cases it<;>simp only[gQ,ay,aZ]at hb⊢<;>first
   |exact Gv h hb
   |exact⟨by omega,Gv h hb.2⟩
theorem acM{n m:Nat}(h:n<=m){f:Fr}(hb:k9 n f=true):k9 m f=true:=by
 simp only[k9,ay]at hb⊢;obtain⟨⟨⟨⟨b1,b2⟩,b3⟩,b4⟩,b5⟩:=hb;refine⟨⟨⟨⟨rO h b1,GU h b2⟩,Gv h b3⟩,?_⟩,?_⟩
 ·cases hk:f.kind<;>simp only[hk,pE,aZ]at b4⊢;omega
 ·cases hm:f.md<;>simp only[hm,sf]at b5⊢;exact zC h b5
theorem h_{f0:FuncId}:∀{n m:Nat}{l:List Fr}{fs:List Frame},Ext n g h g' h'->n<=m->SR P g h f0 n l fs->SR P g' h' f0 m l fs
 |_,_,[],_,_,_,h1=>h1
 |n,m,f::up,fs,x,hnm,h1=>by
  obtain⟨fr,fs',h2,h3,h4,h5,h6,h7⟩:=h1;exact⟨fr,fs',h2,B1 x h4 h3,acM hnm h4,by omega,h6,h_ (x.mono h5) (aQ _) h7⟩
theorem mo:∀{k:List It}{k':List Item},IR P g h k k'->gQ h.length k=true
 |[],_,_=>rfl
 |it::k,[],h1=>by cases it<;>simp only[IR]at h1
 |it::k,im::k',h1=>by
  cases it<;>cases im<;>simp only[IR]at h1<;>simp only[gQ]
  ·exact mo h1.2
  ·exact mo h1.2
  ·exact mo h1.2
  ·exact mo h1.2
  ·simp only[ay,aZ];exact⟨aV h1.1.1.choose_spec.choose_spec.choose_spec.choose_spec.choose_spec.choose_spec.choose_spec,mo h1.2⟩
  ·simp only[ay,aZ];exact⟨aV h1.1.1.choose_spec.choose_spec.choose_spec.choose_spec.choose_spec.choose_spec.choose_spec,mo h1.2⟩
  ·exact mo h1
theorem CM:∀{ds:List dF}{ds':List Deferred},F2 (DR g h) ds ds'->k_ h.length ds=true
 |_,_,.nil=>rfl
 |_,_,.cons (a:=a) h1 h2=>by
  cases a<;>simp only[k_,ay,aZ]
  ·obtain⟨_,_,h3⟩:=h1;exact⟨dB h3,CM h2⟩
  ·obtain⟨⟨_,h3⟩,_⟩:=h1;exact⟨aV h3,CM h2⟩
theorem qm{f:Fr}{fr:Frame}(h1:lX P g h f fr):k9 h.length f=true:=by
 simp only[k9,ay];refine⟨⟨⟨⟨dB h1.t,CM h1.ds⟩,mo h1.its⟩,?_⟩,?_⟩
 ·have:=h1.kind
  cases hk:f.kind<;>simp only[hk,KR,pE,aZ]at this⊢
  obtain⟨_,b,_,⟨_,_,_,_,_,_,_,h3⟩,_⟩:=this;exact aV h3
 ·have:=h1.md
  cases hm:f.md<;>simp only[hm,MR,sf]at this⊢
  obtain⟨u,_,h2⟩:=this;exact lT h2
theorem rN{id:Nat}:∀{k:List It}{k':List Item},IR P g h k k'->match pv id k with|some (q,_)=>∃q',exitTo id k'=some q'/\IR P g h q q'|none=>exitTo id k'=none
 |[],[],_=>rfl
 |[],_::_,h1=>by simp only[IR]at h1
 |it::k,[],h1=>by cases it<;>simp only[IR]at h1
 |it::k,im::k',h1=>by
  cases it<;>cases im<;>simp only[IR]at h1<;>simp only[pv,exitTo]
  ·exact rN h1.2
  ·rename_i i m j;obtain⟨rfl,h2⟩:=h1
   by_cases hij:i=id
   ·simp only[hij,cy,Ls];exact⟨k',rfl,h2⟩
   ·have:(i==id)=false:=by simp[hij]
    simp only[hij,da,this,eH];exact rN h2
  ·exact rN h1.2
  ·exact rN h1.2
  ·exact rN h1.2
  ·exact rN h1.2
  ·exact rN h1
theorem oe{t:List AV}{tmps:Array Value}(ht:VL g h t tmps.toList){d:Option Nat}{a:AV}{v:Value}(ha:V g h a v):VL g h (a_ t d a) (mJ tmps d v).toList:=by
 cases d with
 |none=>exact ht
 |some d=>simp only[a_,mJ,Lp];exact qz d ht ha
theorem Bx{ops:Array Oper}{o:Oper}{ag:AG}(hc:oN P ops.toList o=some ag){t:List AV}{tmps:Array Value}(ht:VL g h t tmps.toList){b:Bool}(hw:dO t ag.guard=some b):
 Region.wanted o (yielded ops tmps)=b/\b_ P o=some ag.op/\ag.dst=o.dst:=by
 unfold oN at hc
 cases hg:C2 ops.toList o with
 |none=>simp[hg]at hc
 |some gd=>
  cases hcop:b_ P o with
  |none=>simp[hg,hcop]at hc
  |some ao=>
   simp[hg,hcop]at hc;subst hc;refine⟨?_,rfl,rfl⟩;simp only at hw;unfold C2 at hg;unfold Region.wanted
   split at hg
   ·rename_i hgn;simp only[ak]at hg;subst hg;simp only[dO,ak]at hw;rw[hgn];exact hw
   ·rename_i j bb hgn
    split at hg
    ·rename_i d hd;simp only[ak]at hg;subst hg;rw[hgn];simp only
     have hd':ops[j]?.bind (·.dst)=some d:=by simpa using hd
     have hv:=t_ d ht;simp only[dO]at hw;unfold yielded;rw[hd'];simp only[kH]
     split at hw
     ·rename_i x hx;rw[hx]at hv;simp only[ak]at hw;have hv2:=mq hv
      have hv3:tmps[d]? =some (.bool x):=by
       rw[bq]at hv2
       cases hq:tmps.toList[d]? with
       |none=>rw[hq]at hv2;simp[undef]at hv2
       |some q=>rw[hq]at hv2;simp at hv2;subst hv2;simpa using hq
      rw[hv3];simp only;rw[<-hw]
      cases x<;>cases bb<;>rfl
     ·rename_i hx;rw[hx]at hv;simp only[ak]at hw;subst hw;simp only[V,VL]at hv;obtain⟨vs,hv2,rfl⟩:=hv
      have hv3:∀x,tmps[d]? ≠some (.bool x):=by
       intro x hx2;rw[bq]at hv2
       have:tmps.toList[d]? =some (.bool x):=by simpa using hx2
       rw[this]at hv2;simp at hv2
      split
      ·rename_i x hx2;exact absurd hx2 (hv3 x)
      ·rfl
     ·simp at hw
    ·simp at hg
end
theorem Sj{α β:Type}{R:α->β->Prop}:∀{as:List α}{bs:List β},as.length=bs.length->(∀(i:Nat)(a:α)(b:β),as[i]? =some a->bs[i]? =some b->R a b)->F2 R as bs
 |[],[],_,_=>.nil
 |a::as,b::bs,hl,hr=>.cons (hr 0 a b rfl rfl) (Sj (by simpa using hl) fun i a b ha hb=>hr (i+1) a b (by simpa using ha) (by simpa using hb))
 |[],_::_,hl,_=>by simp at hl
 |_::_,[],hl,_=>by simp at hl
theorem zi{α β:Type}{f:α->Option β}:∀{l:List α}{r:List β},l.mapM f=some r->r.length=l.length/\∀(i:Nat)(b:β),r[i]? =some b->∃a,l[i]? =some a/\f a=some b
 |[],r,h=>by simp at h;subst h;simp
 |a::l,r,h=>by
  rw[sO]at h
  cases ha:f a with
  |none=>simp[ha]at h
  |some b=>
   cases hl:l.mapM f with
   |none=>simp[ha,hl]at h
   |some bs=>
    simp[ha,hl]at h;subst h;obtain⟨h1,h2⟩:=zi hl;refine⟨by simp[h1],fun i c hc=>?_⟩
    cases i with
    |zero=>simp at hc;subst hc;exact⟨a,rfl,ha⟩
    |succ i=>simpa using h2 i c (by simpa using hc)
theorem agr{P:Program}{ops:Array Oper}{gs:List AG}(h:ops.toList.mapM (oN P ops.toList)=some gs):I5 P ops gs (List.range ops.size):=by
 obtain⟨h1,h2⟩:=zi h
 refine Sj (by simp[h1]) fun i g j hg hj=>?_
 obtain⟨o,ho,hc⟩:=h2 i g hg
 have hij:i=j:=by
  have h3:=db.1 hj;obtain⟨_,h3⟩:=h3;simpa using h3
 subst hij;exact⟨o,by simpa using ho,hc⟩
structure St(P:Program)(Γ:Nat->Option AV)(N:Env)(g0:G)(f0:FuncId)(g:G)(h:List Ob)(w:World)(f:Fr)(up:List Fr)(tmps:Array Value)(todo:List Item)(ds:List Deferred)(kd:CallKind)(ro:Option Nat)(fs:List Frame):Prop where
 H:Inv P Γ N g h w
 M:∀b o v,g0.M b o=some v->g.M b o=some v
 its:IR P g h f.its todo
 t:VL g h f.t tmps.toList
 ds:F2 (DR g h) f.ds ds
 kind:KR g h f.kind kd ro
 is:∃fn,P.funcs[f.fn]? =some fn
 b:f.base<=h.length
 z:up=[]->f.fn=f0/\f.kind=.norm
 s:SR P g h f0 f.base up fs
section
variable{P:Program}{Γ:Nat->Option AV}{N:Env}{g0:G}{f0:FuncId}{cs0:List Frame}{g:G}{h:List Ob}{w:World}{f:Fr}{up:List Fr}{tmps:Array Value}{todo:List Item}{ds:List Deferred}{kd:CallKind}{ro:Option Nat}{fs:List Frame}
theorem St.rel(S:St P Γ N g0 f0 g h w f up tmps todo ds kd ro fs){md:FrameMode}(hm:MR g h f.md md):lX P g h f (aI f.fn tmps todo ds kd ro md):=⟨hm,rfl,S.its,S.t,S.ds,S.kind,S.is⟩
theorem St.sr(S:St P Γ N g0 f0 g h w f up tmps todo ds kd ro fs){md:FrameMode}(hm:MR g h f.md md):SR P g h f0 h.length (f::up) (aI f.fn tmps todo ds kd ro md::fs):=
 ⟨_,_,rfl,S.rel hm,qm (S.rel hm),S.b,S.z,S.s⟩
theorem St.kE(S:St P Γ N g0 f0 g h w f up tmps todo ds kd ro fs){md:FrameMode}(hm:MR g h f.md md):c_ P Γ N g0 f0 cs0 (.fr f up h) (lone (aI f.fn tmps todo ds kd ro md) (fs++cs0) w):=
 ⟨g,w,_,fs,rfl,S.H,S.M,S.sr hm⟩
theorem ag1{k:FK}{c:CallKind}{ro:Option Nat}(h1:KR g h k c ro):pE h.length k=true:=by
 cases k with
 |norm|bD=>rfl
 |round l=>
  obtain⟨_,b,_,⟨_,_,_,_,_,_,_,h3⟩,_⟩:=h1;simp only[pE,aZ];exact aV h3
theorem St.mono(S:St P Γ N g0 f0 g h w f up tmps todo ds kd ro fs){g':G}{h':List Ob}{w':World}(H':Inv P Γ N g' h' w')(x:Ext h.length g h g' h')(hl:h.length<=h'.length):St P Γ N g0 f0 g' h' w' f up tmps todo ds kd ro fs:=
 ⟨H',fun b o v hv=>x.M _ _ _ (S.M b o v hv),lH x (mo S.its) S.its,cF x (dB S.t) S.t,zz x (CM S.ds) S.ds,
  Ij x (ag1 S.kind) S.kind,
  S.is,sL S.b hl,S.z,h_ (x.mono S.b) (aQ _) S.s⟩
theorem St.to(S:St P Γ N g0 f0 g h w f up tmps todo ds kd ro fs){its:List It}{todo':List Item}{t:List AV}{tmps':Array Value}{ads:List dF}{ds':List Deferred}{m:Md}
 (h1:IR P g h its todo')(h2:VL g h t tmps'.toList)(h3:F2 (DR g h) ads ds'):St P Γ N g0 f0 g h w {f with its:=its,t:=t,ds:=ads,md:=m} up tmps' todo' ds' kd ro fs:=
 ⟨S.H,S.M,h1,h2,h3,S.kind,S.is,S.b,S.z,S.s⟩
theorem c_.inv{m:Machine}(h1:c_ P Γ N g0 f0 cs0 (.fr f up h) m):∃g w tmps todo ds kd ro md fs,m=lone (aI f.fn tmps todo ds kd ro md) (fs++cs0) w/\St P Γ N g0 f0 g h w f up tmps todo ds kd ro fs/\MR g h f.md md:=by
 obtain⟨g,w,fr,fs,rfl,H,hM,fr',fs',heq,hr,hbl,hb,h0,hs⟩:=h1
 cases heq
 obtain⟨fn,tmps,todo,ds,md,kd,ro⟩:=fr;obtain⟨r1,r2,r3,r4,r5,r6,r7⟩:=hr;simp only at r1 r2 r3 r4 r5 r6 r7;subst r2;exact⟨g,w,tmps,todo,ds,kd,ro,md,fs,rfl,⟨H,hM,r3,r4,r5,r6,r7,hb,h0,hs⟩,r1⟩
theorem zL(H:Inv P Γ N g h w){l b sz:Nat}(hρ:g.ρ l=some (b,sz,0)){st:LoopState}{j:Jump}{fn:FuncId}{t:List AV}{ps:List Nat}{p q:aj}(hi:h[l]? =some (.loop st j fn t ps p q)):
 ∃L:Loop,w.heap[b]? =some (.loop L)/\L.state=st/\JR j L.pending/\L.fn=fn/\VL g h t L.tmps.toList/\L.params.toList=ps/\CR P L.assign p/\CR P L.body q/\(∃F,P.funcs[fn]? =some F)/\
  ∀st' j' c',JR j' c'->Inv P Γ N g (h.set l (.loop st' j' fn t ps p q)) (w.putObj b (.loop {L with state:=st',pending:=c'}))/\Ext h.length g h g (h.set l (.loop st' j' fn t ps p q)):=by
 obtain⟨L,h1,h2,h3,h4,h5,h6,h7,h8,h9⟩:=H.ob l _ hi b sz 0 hρ;refine⟨L,h1,h2,h3,h4,h5,h6,h7,h8,h9,fun st' j' c' hj=>?_⟩;have hk:sameKind (.loop st j fn t ps p q) (.loop st' j' fn t ps p q):=⟨rfl,rfl,rfl,rfl,rfl⟩;have hE:=Ext.vM (g:=g) hi hk;refine⟨Inv.Am H hi hρ hk ?_,hE⟩;intro b' sz' st'' hb';rw[hρ]at hb';simp only[ak,bY]at hb';obtain⟨rfl,_⟩:=hb';exact⟨_,zh _ (H.own l b _ hρ).2,rfl,hj,h4,cF hE (dB h5) h5,h6,h7,h8,h9⟩
theorem Inv.RX(H:Inv P Γ N g h w){o':Ob}{B:Obj}(hob:OV P (g.bM h.length (some (w.heap.size,0,0))) (h++[o']) (w.alloc B) h.length o'):
 Inv P Γ N (g.bM h.length (some (w.heap.size,0,0))) (h++[o']) (w.alloc B):=
 H.push rfl rfl rfl (zo w B) (by simp) (by
  intro b' x hx;simp only[ak,bY]at hx;obtain⟨rfl,_⟩:=hx
  simp) hob (by simp)
theorem NM(H:Inv P Γ N g h w){fn:FuncId}{t:List AV}{tmps:Array Value}{ps:Array Tmp}{c d:Code}{p q:aj}(k:Nat)(ht:VL g h t tmps.toList)(hp:CR P c p)(hq:CR P d q)(hf:∃F,P.funcs[fn]? =some F):
 ∃g',Inv P Γ N g' (h++[.loop .ready .none fn t ps.toList p q]) (w.alloc (.loop {state:=.ready,pending:=none,fn,tmps,params:=ps,assign:=c,body:=d,defers:=k}))/\Ext h.length g h g' (h++[.loop .ready .none fn t ps.toList p q])/\
  LR g' (h++[.loop .ready .none fn t ps.toList p q]) h.length w.heap.size:=by
 have hE:=Ext.push (g:=g) (h:=h) [.loop .ready .none fn t ps.toList p q] (some (w.heap.size,0,0));refine⟨_,H.RX ?_,hE,⟨_,_,_,_,_,_,_,rQ _ _ _⟩,0,dd _ _ _⟩;intro b sz st hb;rw[dd]at hb;simp only[ak,bY]at hb;obtain⟨rfl,_⟩:=hb;exact⟨_,mi _ _,rfl,rfl,rfl,cF hE (dB ht) ht,rfl,hp,hq,hf⟩
theorem aet(H:Inv P Γ N g h w):
 ∃g',Inv P Γ N g' (h++[.bD true]) (w.alloc (.deferred (some [])))/\Ext h.length g h g' (h++[.bD true])/\DR g' (h++[.bD true]) (.mark h.length) {target:=.collected w.heap.size,args:=#[]}:=by
 have hE:=Ext.push (g:=g) (h:=h) [.bD true] (some (w.heap.size,0,0));refine⟨_,H.RX ?_,hE,⟨_,rQ _ _ _⟩,_,_,dd _ _ _,rfl⟩;intro b sz st hb;rw[dd]at hb;simp only[ak,bY]at hb;obtain⟨rfl,_⟩:=hb;exact mi _ _
theorem SJ{l b:Nat}(h1:LR g h l b):V g h (.cY l) (.func (.yield b) #[] #[]):=by
 obtain⟨h2,sz,h3⟩:=h1
 simp only[V];exact⟨h2,b,sz,h3,rfl⟩
def JT:Jump->List Item->Prop
 |.none,t=>t=[]
 |.ret,t=>∃k,t=.code .ret::k
 |.exit id,t=>∃k,t=.code (.exit id)::k/\exitTo id k=none
theorem Hc{c:Fr}{v:AV}{u:Value}{fr:Frame}(H:Inv P Γ N g h w)(hM:∀b o v,g0.M b o=some v->g.M b o=some v)(hv:V g h v u)(hs:SR P g h f0 h.length (c::up) (fr::fs)):
 c_ P Γ N g0 f0 cs0 (.back (c::up) v h) (lone (fr.finish u) (fs++cs0) w):=⟨g,w,u,fr,fs,rfl,H,hM,hv,hs⟩
theorem FR(S:St P Γ N g0 f0 g h w f up tmps todo ds kd ro fs){j:Jump}(hj:JT j todo):
 ∃m',Steps P (lone (aI f.fn tmps todo ds kd ro) (fs++cs0) w) m'/\c_ P Γ N g0 f0 cs0 (leave f up h j) m':=by
 have hk:=S.kind;obtain⟨fmd,ffn,fits,ft,fds,fk,fb⟩:=f;unfold leave
 cases fk with
 |round l=>
  obtain⟨rfl,b,rfl,hL⟩:=hk;obtain⟨⟨st,pj,fn,t,ps,p,q,hi⟩,sz,hρ⟩:=hL;simp only[hi]
  cases up with
  |nil=>have:=(S.z rfl).2;cases this
  |cons c up=>
   have hs:=S.s;obtain⟨fr,fs',rfl,h1,h2,h3,h4,h5⟩:=hs;obtain⟨L,hL1,hL2,hL3,hL4,hL5,hL6,hL7,hL8,_,hset⟩:=zL S.H hρ hi
   obtain⟨c',hc',hjc⟩:∃c':Option Code,JR j c'/\((todo=[]/\c'=none)\/(∃k,todo=.code .ret::k/\c'=some .ret)\/(∃id k,todo=.code (.exit id)::k/\exitTo id k=none/\c'=some (.exit id))):=by
    cases j with
    |none=>exact⟨none,rfl,Or.inl ⟨hj,rfl⟩⟩
    |ret=>obtain⟨k,hk⟩:=hj;exact⟨_,rfl,Or.inr (Or.inl ⟨k,hk,rfl⟩)⟩
    |exit id=>obtain⟨k,hk,he⟩:=hj;exact⟨_,rfl,Or.inr (Or.inr ⟨id,k,hk,he,rfl⟩)⟩
   have hjn:c'.isNone=decide (j=Jump.none):=by
    cases j<;>simp only[JR]at hc'<;>subst hc'<;>rfl
   obtain⟨H',x⟩:=hset (if c'.isNone then .ready else .done) j c' hc';refine⟨_,.one (Y0 hjc (run_endRound c' hL1)),?_⟩;rw[show(if j=Jump.none then LoopState.ready else LoopState.done)=(if c'.isNone then .ready else .done) by rw[hjn];simp,show(j==Jump.none)=c'.isNone by rw[hjn];rfl];exact Hc H' (fun b o v hv=>x.M _ _ _ (S.M b o v hv)) (by simp[V]) (h_ (x.mono S.b) (by rw[jZ];exact S.b) S.s)
 |norm|bD=>
  obtain⟨_,rfl⟩:=hk
  cases j with
  |none=>
   cases hj
   exact⟨_,.one ahw,St.kE (f:=⟨.ret,_,_,_,_,_,_⟩) ⟨S.H,S.M,S.its,S.t,S.ds,S.kind,S.is,S.b,S.z,S.s⟩ rfl⟩
  |ret=>
   obtain⟨k,rfl⟩:=hj;exact⟨_,.one ahK,St.kE (f:=⟨.ret,_,_,_,_,_,_⟩) ⟨S.H,S.M,S.its,S.t,S.ds,S.kind,S.is,S.b,S.z,S.s⟩ rfl⟩
  |exit id=>exact⟨_,.refl _ _,by trivial⟩
end
end Go.AM
