/- The abstract machine: append, copy, new slices. -/
import Derived.Test.YtihmomicdpkabaaGreatDoorAMa
import Derived.RangeFuncRecord
import Derived.RangeFuncNested
set_option linter.unusedSimpArgs false
set_option linter.unusedVariables false
namespace Go.AM
open Go.RowKit
def m7(e:TypeId)(size:Nat)(base:Option Addr)(sLen sCap n:Nat)(zeros:Bool)(s x:Value)(appended:Sem (Array Value)):Sem Value:=do
 let need:=sLen+n
 if need<=sCap then
  let new<-appended
  if let some a:=base then storeCells (a.add (sLen*size)) new.toList
  pure (.slice base need sCap)
 else
  if(need:Int)>IntKind.i64.max/\(zeros\/(<-typeInfo e).bytes=0)then runtimePanic (.error "growslice: len out of range")
  if Builtin.nextslicecap need sCap*(<-typeInfo e).bytes>2^48 then(if zeros then runtimePanic (.error "growslice: len out of range")else do
   if !(<-Builtin.mayShare size sLen n base x)then mark .noRoom
   unsupported (.resourceLimit "append: a slice or a string whose bytes no memory bears"))
  let newCap<-choose (.appendCap need sCap e)
  askRoom (newCap*(<-typeInfo e).bytes)
  let k9<-Builtin.firstCells size sLen s
  let new<-appended
  let rest:=Builtin.zeroCells (<-zeroValue e).cells (newCap-need)
  pure (.slice (some (<-newRow e (k9++new++rest))) need newCap)
section
variable{P:Program}{w:World}
theorem DT{sT u ty e:TypeId}{k:Nat}(ht:P.underlying sT=some (.slice e))(hk:bz P e=some k){d:TypeDesc}(hu:P.underlying u=some d)(hd:∀j,d≠.int j){base:Option Addr}{sLen sCap n:Nat}{x:Value}
 (hn:(Builtin.lenOf x).run P w=.ok n w):
 (Builtin.append_ #[sT,u] ty #[.slice base sLen sCap,x]).run P w=(m7 e k base sLen sCap n false (.slice base sLen sCap) x (Builtin.firstCells k n x)).run P w:=by
 unfold Builtin.append_;simp only[oB,pU,mW]
 cases d<;>first
  |exact absurd rfl (hd _)
  |(simp only[Sem.run_bind,run_underlying ht,Result.andThen_ok,iD hk,run_underlying hu,Sem.run_pure,ec,db,hn,m7,vt,cy]
    rfl)
theorem VA{sT u ty e:TypeId}{k B:Nat}(ht:P.underlying sT=some (.slice e))(hk:bz P e=some k)(hB:lE P e=some B){j:IntKind}(hu:P.underlying u=some (.int j)){base:Option Addr}{sLen sCap:Nat}
 {i:IntKind}{m:Int}(h0:0<=m)(hm:m<=2^47)(hmB:m*B<=2^48):
 (Builtin.append_ #[sT,u] ty #[.slice base sLen sCap,.int i m]).run P w=(m7 e k base sLen sCap m.toNat true (.slice base sLen sCap) (.int i m)
  (if m.toNat*k=0 then pure #[]else do pure (Builtin.zeroCells (<-zeroValue e).cells m.toNat))).run P w:=by
 have hwr:IntKind.i64.wrap m=m:=IntWalk.i64_in _ (by omega)
 have hti:∃i,P.info? e=some i/\i.bytes=B:=by
  unfold lE at hB
  cases hi:P.info? e with
  |none=>simp[hi]at hB
  |some i=>simp[hi]at hB;exact⟨i,rfl,hB⟩
 obtain⟨ti,hti,hbt⟩:=hti
 have hty:(typeInfo e).run P w=.ok ti w:=by simp[typeInfo,hti]
 unfold Builtin.append_;simp only[oB,pU,mW];simp only[Sem.run_bind,run_underlying ht,Result.andThen_ok,iD hk,run_underlying hu,Sem.run_pure];simp only[cy,Sem.run_bind,asInt,asIntOf,Sem.run_pure,Result.andThen_ok,hwr];rw[if_neg (by omega)];simp only[Sem.run_bind,hty,Result.andThen_ok,hbt];rw[if_neg (by omega)];simp only[m7,pS,ec,db];rfl
theorem J7{e:TypeId}{k sLen sCap n:Nat}{z:Bool}{s x:Value}{ap:Sem (Array Value)}{news:Array Value}(hap:ap.run P w=.ok news w){b p:Nat}{c:Array Value}{E:TypeId}{fz:Nat×Nat}
 (hb:w.heap[b]? =some (.cells c E fz))(hf:mI c fz)(hl:p+sLen*k+news.size<=c.size)(h1:∀v∈news.toList,v.oneCell'=true)(hn:sLen+n<=sCap):
 (m7 e k (some ⟨b,p,none⟩) sLen sCap n z s x ap).run P w=.ok (.slice (some ⟨b,p,none⟩) (sLen+n) sCap) (w.setRow b (ea c.toList (p+sLen*k) news.toList).toArray):=by
 have h3:=zV P b (p+sLen*k) E fz news.toList 0 c w hb hf (by simpa using hl) h1;rw[ic]at h3;simp only[m7];rw[if_pos hn];simp only[Sem.run_bind,hap,Result.andThen_ok,kJ,h3,Sem.run_pure];rfl
theorem V5{e:TypeId}{k sLen sCap:Nat}{z:Bool}{s x:Value}{base:Option Addr}{ap:Sem (Array Value)}(hap:ap.run P w=.ok #[] w)(hn:sLen<=sCap):
 (m7 e k base sLen sCap 0 z s x ap).run P w=.ok (.slice base sLen sCap) w:=by
 simp only[m7,ic];rw[if_pos hn];simp only[Sem.run_bind,hap,Result.andThen_ok]
 cases base with
 |none=>simp
 |some a=>simp[storeCells]
theorem VC{e:TypeId}{k B sLen sCap n:Nat}{z:Bool}{s x:Value}{base:Option Addr}{ap:Sem (Array Value)}{olds news:Array Value}{zv:Value}(hap:ap.run P w.drew=.ok news w.drew)(hB:lE P e=some B)(hB0:B≠0)
 (hzr:∀w,(zeroValue e).run P w=.ok zv w)(hn:sCap<sLen+n)(hnB:(sLen+n)*B<=2^47)(hold:(Builtin.firstCells k sLen s).run P w.drew=.ok olds w.drew):
 ∃cap,sLen+n<=cap/\(m7 e k base sLen sCap n z s x ap).run P w=
  .ok (.slice (some ⟨w.heap.size,0,none⟩) (sLen+n) cap) (w.drew.alloc (.cells (olds++news++Builtin.zeroCells zv.cells (cap-(sLen+n))) e)):=by
 have hti:∃i,P.info? e=some i/\i.bytes=B:=by
  unfold lE at hB
  cases hi:P.info? e with
  |none=>simp[hi]at hB
  |some i=>simp[hi]at hB;exact⟨i,rfl,hB⟩
 obtain⟨ti,hti,hbt⟩:=hti
 have hty:∀w,(typeInfo e).run P w=.ok ti w:=fun w=>by simp[typeInfo,hti]
 have hnn:sLen+n<=2^47:=by
  have:(sLen+n)*1<=(sLen+n)*B:=Nat.mul_le_mul_left _ (by omega);omega
 refine⟨grownCap w (sLen+n) sCap e,?_,?_⟩
 ·simp[grownCap,Question.cut]
 ·have h1:¬(((sLen+n:Nat):Int)>IntKind.i64.max/\(z=true\/ti.bytes=0)):=by
   rw[IntKind.max_i64];rintro⟨h,_⟩;omega
  have h2:¬(Builtin.nextslicecap (sLen+n) sCap*ti.bytes>2^48):=by
   rw[hbt];have:=growslice_fits hn (bytes:=B) (by simpa using hnB);omega
  simp only[m7];rw[if_neg (by omega)];simp only[Sem.run_bind,hty,Result.andThen_ok];rw[if_neg h1];simp only[Sem.run_bind,hty,Result.andThen_ok];rw[if_neg h2];simp only[Sem.run_bind,run_choose,Question.forced,ec,db,World.drew_eq,Result.andThen_ok,hty,run_askRoom,hold,hap,hzr,newRow,run_newObj,Sem.run_pure];rfl
end
section
variable{P:Program}{Γ:Nat->Option AV}{N:Env}{g:G}{h:List Ob}{w:World}{r:Operand->Value}{o:Oper}{t:List AV}
theorem Ex{k:Nat}:∀{es:List AV}{vs:List Value},dQ k es->VE g h es vs->∀v∈vs,v.oneCell'=true
 |[],vs,_,hv=>by simp only[VE]at hv;subst hv;simp
 |e::es,vs,hk,hv=>by
  simp only[VE]at hv;obtain⟨v,vs',h1,rfl,hr⟩:=hv;have he:=hk e (by simp);intro u hu
  rcases bn.1 hu with hu|hu
  ·exact DS he.2 (o8 (p9 he.2) h1) u hu
  ·exact Ex (fun x hx=>hk x (by simp[hx])) hr u hu
theorem Inv.drew(H:Inv P Γ N g h w):Inv P Γ N g h w.drew:=H.world rfl rfl rfl rfl
theorem MQ(H:Inv P Γ N g h w){a:AV}{base:Option Addr}{n cap k:Nat}(hv:V g h a (.slice base n cap)){es:List AV}(he:j0 h a=some (k,es)):
 es.length=n/\∃olds:Array Value,(Builtin.firstCells k n (.slice base n cap)).run P w=.ok olds w/\VE g h es olds.toList:=by
 obtain⟨hK,ad,cap',vs,hs,h1,h2⟩:=wi H hv he;simp only[Value.slice.injEq]at hs;obtain⟨rfl,rfl,rfl⟩:=hs;refine⟨rfl,vs.toArray,?_,by simpa using h1⟩;have hl:=ig hK h1
 rcases h2 with rfl|⟨b,p,rfl,h3⟩
 ·simp only[VE]at h1;subst h1
  cases base with
  |none=>simp[run_firstCells_none]
  |some b=>exact run_firstCells_some w k 0 b 0 cap [] (by simp) (by simp)
 ·exact run_firstCells_some w k es.length ⟨b,p,none⟩ es.length cap vs hl (fun j v hj=>by rw[kJ];exact h3 j v hj)
theorem z_(H:Inv P Γ N g h w){e:TypeId}{k B:Nat}(hk:0<k)(hB:lE P e=some B)(hB0:B≠0){zv:Value}(hzr:∀w,(zeroValue e).run P w=.ok zv w)(hzk:zv.cells.size=k)
 {z:Bool}{s x:Value}{ap:Sem (Array Value)}{news:Array Value}{ys:List AV}{f_:Bool}
 (hop:∀base sLen sCap,s=.slice base sLen sCap->(execOp r o).run P w=((m7 e k base sLen sCap ys.length z s x ap).run P w).andThen fun v w=>.ok (.value v) w)
 (hap:∀w':World,w'.heap=w.heap->ap.run P w'=.ok news w')(hys:VE g h ys news.toList)(hyk:dQ k ys)(hyf:f_=true->cq ys k=true)
 {a v:AV}{h':List Ob}{E:TypeId}(ha:V g h a s)(hA:gK h k E B a ys f_=.val v h'):aJ P Γ N r o w g h h' (some v):=by
 have hnl:news.size=ys.length*k:=by have:=ig hyk hys;simpa using this
 have hnone:=Ex hyk hys
 have hgrow:∀(base:Option Addr)(sLen sCap:Nat)(es:List AV)(olds:Array Value),s=.slice base sLen sCap->sCap<sLen+ys.length->(sLen+ys.length)*B<=2^47->
  (Builtin.firstCells k sLen s).run P w.drew=.ok olds w.drew->VE g h es olds.toList->dQ k es->es.length=sLen->
  ∃cap rest,sLen+ys.length<=cap/\(execOp r o).run P w=.ok (.value (.slice (some ⟨w.heap.size,0,none⟩) (sLen+ys.length) cap)) (w.drew.alloc (.cells ((olds.toList++news.toList)++rest).toArray e))/\
   cap*k<=((olds.toList++news.toList)++rest).length:=by
  intro base sLen sCap es olds hs hlt hb hold hE hK hl;obtain⟨cap,hc,hrun⟩:=VC (x:=x) (z:=z) (base:=base) (hap w.drew rfl) hB hB0 hzr hlt hb hold;have hol:=ig hK hE;refine⟨cap,(Builtin.zeroCells zv.cells (cap-(sLen+ys.length))).toList,hc,?_,?_⟩
  ·rw[hop base sLen sCap hs,hrun];simp only[Result.andThen_ok];congr 3;apply ia;simp
  ·have:(Builtin.zeroCells zv.cells (cap-(sLen+ys.length))).size=(cap-(sLen+ys.length))*k:=by simp[Builtin.zeroCells,hzk]
   simp only[bQ,vv,this,hnl];simp at hol;rw[hol,hl,<-fH,<-fH];exact ll _ (by omega)
 have hsame:∀base sLen sCap,s=.slice base sLen sCap->sLen<=sCap->ys=[]->(execOp r o).run P w=.ok (.value s) w:=by
  intro base sLen sCap hs hle hy;subst hy
  have hn0:news=#[]:=by apply ia;simp only[VE]at hys;simpa using hys
  rw[hop base sLen sCap hs,du,V5 (by rw[hap w rfl,hn0]) hle,hs];rfl
 cases a<;>simp only[gK,reduceCtorEq]at hA
 case list f k' es=>
  cases f<;>simp only[reduceCtorEq]at hA
  split at hA
  ·rename_i hc;obtain⟨hcb,hkk⟩:=hc;have ha0:=ha;simp only[V]at ha0;obtain⟨hok,base,cap,hs,hcap,_,_⟩:=ha0;have hcap:=hcap trivial
   split at hA
   ·simp only[R.val.injEq]at hA;obtain⟨rfl,rfl⟩:=hA;exact aJ.same H (hsame base _ _ hs (by omega) rfl) ha
   ·rename_i y ys';simp only[R.val.injEq]at hA;obtain⟨rfl,rfl⟩:=hA
    have hK:dQ k es:=by
     rcases hkk with rfl|rfl
     ·exact jX hok
     ·intro e he;simp at he
    have hokk:cq es k=true:=by
     rcases hkk with rfl|rfl
     ·exact hok
     ·rfl
    have hte:j0 h (.list true k' es)=some (k',es):=rfl
    have hold:∃olds:Array Value,(Builtin.firstCells k es.length s).run P w.drew=.ok olds w.drew/\VE g h es olds.toList:=by
     rcases hkk with rfl|rfl
     ·rw[hs]at ha⊢;exact(MQ H.drew ha hte).2
     ·rw[hs];refine⟨#[],?_,by simp[VE]⟩
      cases base with
      |none=>simp[run_firstCells_none]
      |some b=>simpa using run_firstCells_some (P:=P) w.drew k 0 b 0 cap [] (by simp) (by simp)
    obtain⟨olds,hold,hEo⟩:=hold;obtain⟨cap',rest,h1,h2,h3⟩:=hgrow base es.length cap es olds hs (by simp;omega) hcb hold hEo hK rfl;have hVE:=oS hEo hys
    have hKK:dQ k (es++y::ys'):=by
     intro e he
     rcases bn.1 he with he|he
     ·exact hK e he
     ·exact hyk e he
    refine aJ.make (w':=w.drew) H rfl rfl rfl rfl (sz:=((olds.toList++news.toList)++rest).length) h2 ?_ (by simp) ?_
    ·exact Br (P:=P) hk hKK (fun hf=>tt.2 ⟨hokk,hyf hf⟩) (cX _ _ _) (lx w.drew _) rfl (ud _) (fL (Ext.push _ _) (j4 hVE) hVE)
    ·have:=AL (h:=h) (g':=g.bI h.length (some (w.heap.size,((olds.toList++news.toList)++rest).length,0))) (k:=k) (E:=E) (es:=es++y::ys') (os:=[]) (fl:=f_) (sh:=false) (cX _ _ _) (cap:=cap') (by simpa using h1) h3;simpa using this
  ·simp at hA
 case sl i off n=>
  split at hA
  ·rename_i k' E' es gr fl sh hi
   split at hA
   ·rename_i hc;obtain⟨rfl,rfl,hok,hcb⟩:=hc;have hil:=aZ hi;have ha0:=ha;simp only[V]at ha0;obtain⟨k2,E2,es2,gr2,fl2,sh2,hi2,hle,base,cap,hs,hcap,hbn,hq⟩:=ha0;rw[hi]at hi2;simp only[ak,Ob.row.injEq]at hi2;obtain⟨rfl,rfl,rfl,rfl,rfl,rfl⟩:=hi2;obtain⟨hlc,hq⟩:=hq hok;have hob:=H.ob i _ hi;simp only[OV]at hob;obtain⟨_,hK,hfl,hgl,hb⟩:=hob
    have hlo:gr.getD 0<=off:=by
     cases gr with
     |none=>simp
     |some lo=>simp only[cH,av,bj]at hok;simpa using hok.1
    split at hA
    ·rename_i hend;simp only[R.val.injEq]at hA;obtain⟨rfl,rfl⟩:=hA
     by_cases hy0:ys=[]
     ·subst hy0;simp only[eS,List.isEmpty_nil,cy,du,ic];have hset:h.set i (.row k' E' es gr (fl&&f_) sh)=h.set i (.row k' E' es gr (fl&&f_) sh):=rfl
      have hE:Ext h.length g h g (h.set i (.row k' E' es gr (fl&&f_) sh)):=by
       have:=Ext.o6 (g:=g) (E':=E') (es':=es) (gr':=gr) (fl':=fl&&f_) (sh':=sh) (ρ':=g.ρ i) hi (aT _) (fun off' m _ h1=>⟨h1,rfl,fun _ h=>h⟩);rwa[cY]at this
      refine⟨g,w,_,hsame base n cap hs hcap rfl,?_,hE,_,rfl,fN hE (kX ha) ha⟩
      have:=Inv.set (r:=g.ρ i) (w':=w) H hil (by rw[cY];exact hE) rfl rfl rfl (fun _ _ _=>rfl) (aT _) (fun b' y hy=>⟨Or.inl ⟨y,hy⟩,(H.own i b' y hy).2⟩)
       (fun b y o v _ hv=>H.mem b o v hv) (by
        intro b sz st o v hy hv;obtain⟨k3,E3,es3,gr3,fl3,h5,h6⟩:=H.eo i b sz st o v hy hv;rw[hi]at h5;simp only[ak,Ob.row.injEq]at h5;obtain⟨rfl,rfl,rfl,rfl,rfl,rfl⟩:=h5
        exact⟨_,_,_,_,_,rfl,h6⟩)
       (by
        rw[cY];have:=m8 (w':=w) hE rfl (fun _ _ _=>rfl) (H.ob i _ hi);simp only[OV]at this⊢
        exact⟨this.1,this.2.1,fun hf=>this.2.2.1 (by simp only[av]at hf;exact hf.1),this.2.2.2⟩)
      rwa[cY]at this
     ·have hyl:0<ys.length:=pV.2 hy0
      have hemp:ys.isEmpty=false:=by cases ys<;>simp at hy0⊢
      rw[hemp];simp only[ec,db]
      have hKK:dQ k' (es++ys):=by
       intro e he
       rcases bn.1 he with he|he
       ·exact hK e he
       ·exact hyk e he
      have hflf:(fl&&f_)=true->cq (es++ys) k'=true:=fun hf=>by
       simp only[av]at hf;exact tt.2 ⟨hfl hf.1,hyf hf.2⟩
      by_cases hfit:n+ys.length<=cap
      ·
       rcases hq with⟨h0,h00⟩|⟨b,sz,st,hρ,hst,rfl,hcs⟩
       ·omega
       rw[hρ]at hb;simp only at hb;obtain⟨hst',c,Eb,fz,vs,hw,hsz,hfree,hVE,hcells⟩:=hb
       have hm:(off-st)*k'+n*k'+news.size<=c.size:=by
        rw[hnl,hsz,<-fH,<-fH];exact qY (ll _ (by omega)) hcs
       have hrun:=J7 (e:=e) (k:=k') (sLen:=n) (sCap:=cap) (n:=ys.length) (z:=z) (s:=s) (x:=x) (hap w rfl) (p:=(off-st)*k') hw hfree hm hnone hfit
       have hE:Ext h.length g h g (h.set i (.row k' E' (es++ys) (some off) (fl&&f_) sh)):=by
        have:=Ext.o6 (g:=g) (E':=E') (es':=es++ys) (gr':=some off) (fl':=fl&&f_) (sh':=sh) (ρ':=g.ρ i) hi (by simp) (by
         intro off' m hom h1;simp only[cH,av,l0,bQ]at h1
         omega)
        rwa[cY]at this
       have hm2:(off-st)*k'+n*k'+news.toList.length<=c.toList.length:=by simpa using hm
       have hsl:=p8 hm2;refine⟨g,_,_,by rw[hop _ _ _ hs,hrun];rfl,Inv.write H hil hρ hw hE ?_ ?_ ?_,hE,_,rfl,?_⟩
       ·intro o v hv;obtain⟨k3,E3,es3,gr3,fl3,h5,h6⟩:=H.eo i b sz st o v hρ hv;rw[hi]at h5;simp only[ak,Ob.row.injEq]at h5;obtain⟨rfl,rfl,rfl,rfl,rfl,rfl⟩:=h5
        have e1:(off-st)*k'+n*k'=(es.length-st)*k':=by rw[<-fH];congr 1;omega
        rw[oB,m6 hm2,if_pos (by omega)];simp
       ·intro sz' st' o v hy hv;obtain⟨k3,E3,es3,gr3,fl3,h5,h6⟩:=H.eo i b sz' st' o v hy hv;rw[hi]at h5;simp only[ak,Ob.row.injEq]at h5;obtain⟨rfl,rfl,rfl,rfl,rfl,rfl⟩:=h5;refine⟨_,_,_,_,_,rfl,kv h6 (ll _ (by simp;omega))⟩
       ·simp only[OV];refine⟨hk,hKK,hflf,by simp;omega,?_⟩;rw[hρ];simp only[jU]
        have hdrop:(es++ys).drop off=es.drop off++ys:=by rw[List.drop_append_of_le_length (by omega)]
        have hKd:dQ k' (es.drop (gr.getD 0)):=fun x hx=>hK x (jo hx)
        have hV1:=uw hKd hVE (off-gr.getD 0);rw[List.drop_drop,show gr.getD 0+(off-gr.getD 0)=off by omega]at hV1;have hV2:=oS hV1 hys;refine⟨hst,(ea c.toList ((off-st)*k'+n*k') news.toList).toArray,Eb,fz,vs.drop ((off-gr.getD 0)*k')++news.toList,setRow_heap w b c _ Eb fz hw,?_,tZ hfree ?_,?_,?_⟩
        ·simp only[pT];rw[hsl];simpa using hsz
        ·simp only[pT];rw[hsl];simp
        ·rw[hdrop];exact fL hE (j4 hV2) hV2
        ·intro j hj;have hvl:=ig hKd hVE
         have hvl2:vs.length=(es.length-gr.getD 0)*k':=by rw[hvl];simp
         have e2:vs.length-(off-gr.getD 0)*k'=n*k':=by
          rw[hvl2,<-Nat.sub_mul];congr 1;omega
         rw[oB,m6 hm2]
         by_cases hjn:j<n*k'
         ·rw[if_pos (by omega),Jr (by simp;omega),List.getElem_drop];have h5:=hcells ((off-gr.getD 0)*k'+j) (by omega);rw[<-h5]
          have e3:(gr.getD 0-st)*k'+(off-gr.getD 0)*k'=(off-st)*k':=by rw[<-fH];congr 1;omega
          rw[vw];congr 1;omega
         ·rw[if_neg (by omega)];simp only[bQ,Ds,e2]at hj;rw[if_pos (by omega),Dw (by simp;omega)];rw[bm (by omega)];congr 1;simp only[Ds,e2];congr 1;omega
       ·simp only[V];refine⟨k',E',es++ys,some off,fl&&f_,sh,eu hil,by simp;omega,_,cap,rfl,hfit,fun _=>⟨_,_,rfl⟩,fun _=>⟨by simp;omega,Or.inr ⟨b,sz,st,hρ,hst,rfl,hcs⟩⟩⟩
      ·
       have hte:j0 h (.sl i off n)=some (k',(es.drop off).take n):=by simp only[j0,hi,hok,cy]
       have htl:(es.drop off).take n=es.drop off:=by rw[bR (by simp;omega)]
       rw[htl]at hte;rw[hs]at ha;obtain⟨hl5,olds,hold,hEo⟩:=MQ H.drew ha hte
       have hKd:dQ k' (es.drop off):=fun x hx=>hK x (jo hx)
       obtain⟨cap',rest,h1,h2,h3⟩:=hgrow base n cap (es.drop off) olds hs (by omega) hcb (by rw[hs];exact hold) hEo hKd hl5;have hVE:=oS hEo hys
       have hE:Ext h.length g h (g.bI i (some (w.heap.size,((olds.toList++news.toList)++rest).length,off))) (h.set i (.row k' E' (es++ys) (some off) (fl&&f_) sh)):=
        Ext.o6 hi (by simp) (by
         intro off' m hom h1;simp only[cH,av,l0,bQ]at h1
         omega)
       refine⟨_,_,_,h2,Inv.set H hil hE rfl rfl rfl (fun b hb _=>by rw[w8 _ _ _ (by simpa using hb)];rfl) (by simp) ?_ ?_ ?_ ?_,hE,_,rfl,?_⟩
       ·intro b x hx;simp only[ak,bT]at hx;obtain⟨rfl,_⟩:=hx;exact⟨Or.inr (aT _),by simp⟩
       ·intro b y o v hy hv;rw[tA (w8 _ _ _ (by simpa using(H.own i b y hy).2))];exact H.mem b o v hv
       ·intro b sz st o v hx hv;simp only[ak,bT]at hx;obtain⟨rfl,_⟩:=hx;have:w.heap.size<w.heap.size:=vo (H.mem _ o v hv);omega
       ·simp only[OV];refine⟨hk,hKK,hflf,by simp;omega,?_⟩;rw[cX];simp only[jU];refine⟨aT _,_,e,(0,0),olds.toList++news.toList,lx w.drew _,by simp,ud _,?_,?_⟩
        ·rw[List.drop_append_of_le_length (by omega)];exact fL hE (j4 hVE) hVE
        ·intro j hj;rw[Dx,vp,iS,oB,cV hj,bm hj]
       ·simp only[V]
        refine⟨k',E',es++ys,some off,fl&&f_,sh,eu hil,by simp;omega,_,cap',rfl,h1,fun _=>⟨_,_,rfl⟩,
         fun _=>⟨by simp;omega,Or.inr ⟨w.heap.size,_,off,cX _ _ _,aT _,by simp,by simpa using h3⟩⟩⟩
    ·rename_i hend
     split at hA
     ·rename_i hc2;obtain⟨hfit2,rfl⟩:=hc2;simp only[R.val.injEq]at hA;obtain⟨rfl,rfl⟩:=hA
      rcases hq with⟨h0,h00⟩|⟨b,sz,st,hρ,hst,rfl,hcs⟩
      ·omega
      rw[hρ]at hb;simp only at hb;obtain⟨hst',c,Eb,fz,vs,hw,hsz,hfree,hVE,hcells⟩:=hb
      have hfit:n+ys.length<=cap:=by omega
      have hm:(off-st)*k'+n*k'+news.size<=c.size:=by
       rw[hnl,hsz,<-fH,<-fH];exact qY (ll _ (by omega)) hcs
      have hrun:=J7 (e:=e) (k:=k') (sLen:=n) (sCap:=cap) (n:=ys.length) (z:=z) (s:=s) (x:=x) (hap w rfl) (p:=(off-st)*k') hw hfree hm hnone hfit
      have hnewlen:(es.take (off+n)++ys++es.drop (off+n+ys.length)).length=es.length:=by simp;omega
      have hgrn:gr=none:=by
       cases gr with
       |none=>rfl
       |some lo=>simp only[cH,av,l0]at hok;omega
      subst hgrn;simp only[sS,Nat.zero_sub,vp,iS,eT,Nat.le_zero_eq]at*;subst hst'
      have hE:Ext h.length g h g (h.set i (.row k' E' (es.take (off+n)++ys++es.drop (off+n+ys.length)) none (fl&&f_) false)):=by
       have:=Ext.o6 (g:=g) (E':=E') (es':=es.take (off+n)++ys++es.drop (off+n+ys.length)) (gr':=none) (fl':=fl&&f_) (sh':=false) (ρ':=g.ρ i) hi (by omega) (by
        intro off' m hom h1
        refine⟨by simpa[cH]using hom,hnewlen,fun _ h=>h⟩)
       rwa[cY]at this
      have hm2:(off-0)*k'+n*k'+news.toList.length<=c.toList.length:=by simpa using hm
      have hsl:=p8 hm2
      have hnoM:∀o v,g.M b o=some v->False:=by
       intro o v hv;obtain⟨_,_,_,_,_,h5,_⟩:=H.eo i b sz 0 o v hρ hv;rw[hi]at h5;simp at h5
      have hKn:dQ k' (es.take (off+n)++ys++es.drop (off+n+ys.length)):=by
       intro e he;simp only[bn]at he
       rcases he with(he|he)|he
       ·exact hK e (jT he)
       ·exact hyk e he
       ·exact hK e (jo he)
      refine⟨g,_,_,by rw[hop _ _ _ hs,hrun];rfl,Inv.write H hil hρ hw hE (fun o v hv=>(hnoM o v hv).elim) (fun sz' st' o v _ hv=>(hnoM o v hv).elim) ?_,hE,_,rfl,?_⟩
      ·simp only[OV];refine⟨hk,hKn,?_,by simp,?_⟩
       ·intro hf;simp only[av]at hf;rw[tt,tt];exact⟨⟨oR (hfl hf.1) (fun e he=>jT he),hyf hf.2⟩,oR (hfl hf.1) (fun e he=>jo he)⟩
       ·rw[hρ];simp only[sS,Nat.zero_sub,vp,iS,eT];have hV2:=oS (oS (xt hK hVE (off+n)) hys) (uw hK hVE (off+n+ys.length));have hvl:=ig hK hVE;refine⟨aT _,(ea c.toList ((off-0)*k'+n*k') news.toList).toArray,Eb,fz,_,setRow_heap w b c _ Eb fz hw,?_,tZ hfree ?_,fL hE (j4 hV2) hV2,?_⟩
        ·simp only[pT];rw[hsl];simpa using hsz
        ·simp only[pT];rw[hsl];simp
        ·intro j hj
         have e1:(off+n)*k'=(off-0)*k'+n*k':=by rw[fH];simp
         have e2:(off+n+ys.length)*k'=(off-0)*k'+n*k'+news.toList.length:=by rw[fH,e1];simp[hnl]
         have hvm:(off-0)*k'+n*k'+news.toList.length<=vs.length:=by
          rw[<-e2,hvl];exact ll _ (by omega)
         have hsp:vs.take ((off+n)*k')++news.toList++vs.drop ((off+n+ys.length)*k')=ea vs ((off-0)*k'+n*k') news.toList:=by
          rw[e1,e2];rfl
         have hj2:=m6 hvm j
         have hj3:j<vs.length:=by
          have:j<(ea vs ((off-0)*k'+n*k') news.toList).length:=by rw[<-hsp];exact hj
          rwa[p8 hvm]at this
         rw[oB,m6 hm2,<-bm hj,hsp,hj2]
         by_cases h7:j<(off-0)*k'+n*k'
         ·rw[if_pos h7,if_pos h7,bm hj3,<-hcells j hj3];simp
         ·rw[if_neg h7,if_neg h7]
          by_cases h8:j<(off-0)*k'+n*k'+news.toList.length
          ·rw[if_pos h8,if_pos h8]
          ·rw[if_neg h8,if_neg h8,bm hj3,<-hcells j hj3];simp
      ·simp only[V];refine⟨k',E',_,none,fl&&f_,false,eu hil,by omega,_,cap,rfl,hfit,fun _=>⟨_,_,rfl⟩,fun _=>⟨by omega,Or.inr ⟨b,sz,0,hρ,hst,rfl,hcs⟩⟩⟩
     ·simp at hA
   ·simp at hA
  ·simp at hA
end
section
variable{P:Program}{Γ:Nat->Option AV}{N:Env}{g:G}{h:List Ob}{w:World}{r:Operand->Value}{o:Oper}{t:List AV}
theorem Ko{x y:Operand}{sT u:TypeId}(ho:o.op=.call ⟨.builtin .append,#[x,y],#[sT,u]⟩):
 (execOp r o).run P w=((Builtin.append_ #[sT,u] o.type #[r x,r y]).run P w).andThen fun v w=>.ok (.value v) w:=by
 simp[execOp,ho,resolve,invoke,builtin]
theorem aeI(b:UInt8):V g h (eY b) (.int .u8 b.toNat):=by simp[eY,V]
theorem A8:∀s:List UInt8,VE g h (s.map eY) (s.map fun b=>Value.int .u8 b.toNat)
 |[]=>by simp[VE]
 |b::s=>by
  simp only[cd,VE];exact⟨_,s.map fun b=>Value.int .u8 b.toNat,aeI b,rfl,A8 s⟩
theorem v8:∀s:List UInt8,cq (s.map eY) 1=true
 |[]=>rfl
 |b::s=>by simp[cq,eY,AV.cells,b9,AV.one,aK,aI,v8 s]
theorem tL{zv:Value}{k:Nat}(h1:(fQ zv).cells.length=k):zv.cells.size=k:=by
 have:=fK (D8 (⟨fun _=>none,fun _ _=>none,fun _=>none⟩:G) [] zv);simp at this;omega
theorem tS{t:TypeId}{z:AV}(h:dM P t=some z):∃v,(∀w,(zeroValue t).run P w=.ok v w)/\z=fQ v:=by
 unfold dM at h
 cases hi:P.info? t with
 |none=>simp[hi]at h
 |some i=>
  cases hz:i.zero with
  |none=>simp[hi,hz]at h
  |some v=>simp[hi,hz]at h;exact⟨v,fun w=>by simp[zeroValue,typeInfo,hi,hz],h.symm⟩
theorem E9(H:Inv P Γ N g h w){x y:Operand}{sT u e:TypeId}(ho:o.op=.call ⟨.builtin .append,#[x,y],#[sT,u]⟩)(ht:P.underlying sT=some (.slice e)){k B:Nat}(hk:bz P e=some k)(hk0:0<k)
 (hB:lE P e=some B)(hB0:B≠0){z:AV}(hz:dM P e=some z)(hzk:z.cells.length=k){d:TypeDesc}(hu:P.underlying u=some d)(hd:∀j,d≠.int j)
 {a b v:AV}{h':List Ob}(hx:V g h a (r x))(hy:V g h b (r y)){E:TypeId}
 (hA:(∃f k' es,b=.list f k' es/\(k'=k\/es=[])/\gK h k E B a es true=.val v h')\/
  (∃i q n es E' es' gr fl sh,b=.sl i q n/\j0 h b=some (k,es)/\h[i]? =some (.row k E' es' gr fl sh)/\gK h k E B a es fl=.val v h')\/
  (∃s:List UInt8,b=.str s/\k=1/\gK h 1 E B a (s.map eY) true=.val v h')):aJ P Γ N r o w g h h' (some v):=by
 obtain⟨zv,hzr,rfl⟩:=tS hz;have hzk':=tL hzk;have hex:=Ko (P:=P) (w:=w) (r:=r) ho
 rcases hA with⟨f,k',es,rfl,hkk,hA⟩|⟨i,q,n,es,E',es',gr,fl,sh,rfl,hte,hi,hA⟩|⟨s,rfl,rfl,hA⟩
 ·have hok:cq es k=true:=by
   have hy0:=hy;simp only[V]at hy0
   rcases hkk with rfl|rfl
   ·exact hy0.1
   ·rfl
  have hte:j0 h (.list f k' es)=some (k',es):=rfl;have hy0:=hy;simp only[V]at hy0;obtain⟨_,ad,cap,hs,_,_,_⟩:=hy0
  have hnews:∃news:Array Value,VE g h es news.toList/\∀w':World,w'.heap=w.heap->(Builtin.firstCells k es.length (r y)).run P w'=.ok news w':=by
   rcases hkk with rfl|rfl
   ·obtain⟨hK,ad2,cap2,vs,hs2,h1,h2⟩:=wi H hy hte;refine⟨vs.toArray,by simpa using h1,fun w' hw'=>?_⟩;rw[hs2];have hl:=ig hK h1
    rcases h2 with rfl|⟨b,p,rfl,h3⟩
    ·simp only[VE]at h1;subst h1
     cases ad2 with
     |none=>simp[run_firstCells_none]
     |some b=>simpa using run_firstCells_some (P:=P) w' k' 0 b 0 cap2 [] (by simp) (by simp)
    ·exact run_firstCells_some w' k' es.length ⟨b,p,none⟩ es.length cap2 vs hl (fun j v hj=>by rw[kJ];have:=h3 j v hj;simpa only [World.cell?,hw']using this)
   ·refine⟨#[],by simp[VE],fun w' _=>?_⟩;rw[hs]
    cases ad with
    |none=>simp[run_firstCells_none]
    |some b=>simpa using run_firstCells_some (P:=P) w' k 0 b 0 cap [] (by simp) (by simp)
  obtain⟨news,hE,hap⟩:=hnews;refine z_ H hk0 hB hB0 hzr hzk' (z:=false) (x:=r y) ?_ hap hE (jX hok) (fun _=>hok) hx hA;intro base sLen sCap hsx;rw[hex,hsx,DT ht hk hu hd (n:=es.length) (by rw[hs];simp[Builtin.lenOf])]
 ·obtain⟨hK,ad2,cap2,vs,hs2,h1,h2⟩:=wi H hy hte;have hob:=H.ob i _ hi;simp only[OV]at hob;obtain⟨_,hK',hfl,_⟩:=hob
  have hsub:∀e∈es,e∈es':=by
   simp only[j0,hi]at hte
   split at hte
   ·simp only[ak,bT,vr]at hte;subst hte
    exact fun e he=>jo (jT he)
   ·simp at hte
  have hl:=ig hK h1;refine z_ H hk0 hB hB0 hzr hzk' (z:=false) (x:=r y) (news:=vs.toArray) (ap:=Builtin.firstCells k es.length (r y)) ?_ ?_ (by simpa using h1) hK (fun hf=>oR (hfl hf) hsub) hx hA
  ·intro base sLen sCap hsx;rw[hex,hsx,DT ht hk hu hd (n:=es.length) (by rw[hs2];simp[Builtin.lenOf])]
  ·intro w' hw';rw[hs2]
   rcases h2 with rfl|⟨b,p,rfl,h3⟩
   ·simp only[VE]at h1;subst h1
    cases ad2 with
    |none=>simp[run_firstCells_none]
    |some b=>simpa using run_firstCells_some (P:=P) w' k 0 b 0 cap2 [] (by simp) (by simp)
   ·exact run_firstCells_some w' k es.length ⟨b,p,none⟩ es.length cap2 vs hl (fun j v hj=>by rw[kJ];have:=h3 j v hj;simpa only [World.cell?,hw']using this)
 ·rw[jc hy]at hex
  refine z_ H hk0 hB hB0 hzr hzk' (z:=false) (x:=.string ⟨s.toArray⟩) (news:=(s.map fun b=>Value.int .u8 b.toNat).toArray) (ap:=Builtin.firstCells 1 (s.map eY).length (.string ⟨s.toArray⟩)) ?_ ?_
   (by simpa using A8 s) (jX (v8 s)) (fun _=>v8 s) hx hA
  ·intro base sLen sCap hsx;rw[hex,hsx,DT ht hk hu hd (n:=(s.map eY).length) (by simp[Builtin.lenOf,ui])]
  ·intro w' _;simp only[Builtin.firstCells,iB,KH,List.take_length,eT,Sem.run_pure];congr 1;apply ia;simp
theorem tK{zc:Array Value}{k:Nat}(hk:zc.size=k):∀n:Nat,((Array.range (n*k)).map fun i=>zc[i%k]!).toList=(List.replicate n zc.toList).flatten
 |0=>by simp
 |n+1=>by
  have ih:=tK hk n;simp only[Array.toList_map,Array.toList_range]at ih⊢;rw[List.replicate_succ',List.flatten_append,<-ih,fH,Nat.one_mul,List.range_add,iT,iz];congr 1;simp only[List.flatten_cons,List.flatten_nil,eS];apply List.ext_getElem
  ·simp[hk]
  ·intro i h1 h2;simp only[iB,zm]at h1;simp only[List.getElem_map,List.getElem_range,Function.comp_apply,Array.getElem_toList];rw[Nat.add_comm,Nat.add_mul_mod_self_right,Nat.mod_eq_of_lt h1,getElem!_pos _ _ (by omega)]
theorem YS(H:Inv P Γ N g h w){x y:Operand}{sT u e:TypeId}(ho:o.op=.call ⟨.builtin .append,#[x,y],#[sT,u]⟩)(ht:P.underlying sT=some (.slice e)){k B:Nat}(hk:bz P e=some k)(hk0:0<k)
 (hB:lE P e=some B)(hB0:B≠0){z:AV}(hz:dM P e=some z)(hzk:z.cells.length=k)(hz1:b9 z.cells=true)(hzb:aK 0 z.cells=true){j:IntKind}(hu:P.underlying u=some (.int j))
 {a v:AV}{h':List Ob}(hx:V g h a (r x)){i:IntKind}{m:Int}(hy:r y=.int i m)(h0:0<=m)(hm:m<=2^47)(hmB:m*B<=2^48){E:TypeId}
 (hA:gK h k E B a (List.replicate m.toNat z) true=.val v h'):aJ P Γ N r o w g h h' (some v):=by
 obtain⟨zv,hzr,rfl⟩:=tS hz;have hzk':=tL hzk;have hex:=Ko (P:=P) (w:=w) (r:=r) ho;have hVE:=tz (nb g h zv) m.toNat;have hok:=tg hzk hz1 hzb m.toNat
 refine z_ H hk0 hB hB0 hzr hzk' (z:=true) (x:=.int i m) (news:=(List.replicate m.toNat zv.cells.toList).flatten.toArray)
  (ap:=if m.toNat*k=0 then pure #[]else do pure (Builtin.zeroCells (<-zeroValue e).cells m.toNat)) ?_ ?_ (by simpa using hVE) (jX hok) (fun _=>hok) hx hA
 ·intro base sLen sCap hsx;rw[hex,hsx,hy,VA ht hk hB hu h0 hm hmB,pW]
 ·intro w' _
  by_cases hmk:m.toNat*k=0
  ·rw[if_pos hmk]
   have:m.toNat=0:=by
    rcases Js.1 hmk with h1|h1
    ·exact h1
    ·omega
   simp[this]
  ·rw[if_neg hmk];simp only[Sem.run_bind,hzr,Result.andThen_ok,Sem.run_pure];congr 1;apply ia;have:=tK hzk' m.toNat;simpa[Builtin.zeroCells,hzk']using this
theorem abY(H:Inv P Γ N g h w){x:Operand}{sT e:TypeId}(ho:o.op=.call ⟨.builtin .clear,#[x],#[sT]⟩)(ht:P.underlying sT=some (.slice e)){k:Nat}(hk:bz P e=some k)(hk0:0<k)
 {z:AV}(hz:dM P e=some z)(hzk:z.cells.length=k)(hz1:b9 z.cells=true)(hzb:aK 0 z.cells=true){i off n:Nat}(hx:V g h (.sl i off n) (r x)){E:TypeId}{es:List AV}{fl:Bool}
 (hi:h[i]? =some (.row k E es none fl false))(hle:off+n<=es.length):aJ P Γ N r o w g h (h.set i (.row k E (es.take off++List.replicate n z++es.drop (off+n)) none fl false)) (some (.aB [])):=by
 obtain⟨zv,hzr,rfl⟩:=tS hz;have hzk':=tL hzk;have hys:=tz (nb g h zv) n;have hyok:=tg hzk hz1 hzb n;have hyk:=jX hyok;have hil:=aZ hi;have hx0:=hx;simp only[V]at hx0;obtain⟨k2,E2,es2,gr2,fl2,sh2,hi2,hle2,base,cap,hs,hcap,hbn,hq⟩:=hx0;rw[hi]at hi2;simp only[ak,Ob.row.injEq]at hi2;obtain⟨rfl,rfl,rfl,rfl,rfl,rfl⟩:=hi2;obtain⟨hlc,hq⟩:=hq (by simpa[cH]using hle);have hob:=H.ob i _ hi;simp only[OV]at hob;obtain⟨_,hK,hfl,hgl,hb⟩:=hob
 have hnewlen:(es.take off++List.replicate n (fQ zv)++es.drop (off+n)).length=es.length:=by simp;omega
 have hE:Ext h.length g h g (h.set i (.row k E (es.take off++List.replicate n (fQ zv)++es.drop (off+n)) none fl false)):=by
  have:=Ext.o6 (g:=g) (E':=E) (es':=es.take off++List.replicate n (fQ zv)++es.drop (off+n)) (gr':=none) (fl':=fl) (sh':=false) (ρ':=g.ρ i) hi (by omega) (by
   intro off' m hom h1
   refine⟨by simpa[cH]using hom,hnewlen,fun _ h=>h⟩)
  rwa[cY]at this
 have hKn:dQ k (es.take off++List.replicate n (fQ zv)++es.drop (off+n)):=by
  intro e he;simp only[bn]at he
  rcases he with(he|he)|he
  ·exact hK e (jT he)
  ·exact hyk e he
  ·exact hK e (jo he)
 have hfln:fl=true->cq (es.take off++List.replicate n (fQ zv)++es.drop (off+n)) k=true:=by
  intro hf;rw[tt,tt];exact⟨⟨oR (hfl hf) (fun e he=>jT he),hyok⟩,oR (hfl hf) (fun e he=>jo he)⟩
 have hex:∀base cap,r x=.slice base n cap->(execOp r o).run P w=((Builtin.clear_ #[sT] o.type #[r x]).run P w).andThen fun v w=>.ok (.value v) w:=by
  intro base cap _;simp only[execOp,ho,resolve,invoke,builtin,Sem.run_bind,Sem.run_pure,Result.andThen_ok,List.map_toArray,cd,lp]
 rcases hq with⟨h0,h00⟩|⟨b,sz,st,hρ,hst,rfl,hcs⟩
 ·subst h0
  have hsame:h.set i (.row k E (es.take off++List.replicate 0 (fQ zv)++es.drop (off+0)) none fl false)=h:=by
   apply jq;intro m
   by_cases hm:i=m
   ·subst hm;rw[eu hil,hi];simp
   ·rw[dB hm]
  rw[hsame];refine aJ.same H (u:=.tuple #[]) ?_ (by simp only[V,VL];exact⟨[],rfl,rfl⟩);rw[hex _ _ hs,hs];simp[Builtin.clear_,run_underlying ht]
  cases base<;>simp
 ·by_cases hn0:n=0
  ·subst hn0
   have hsame:h.set i (.row k E (es.take off++List.replicate 0 (fQ zv)++es.drop (off+0)) none fl false)=h:=by
    apply jq;intro m
    by_cases hm:i=m
    ·subst hm;rw[eu hil,hi];simp
    ·rw[dB hm]
   rw[hsame];refine aJ.same H (u:=.tuple #[]) ?_ (by simp only[V,VL];exact⟨[],rfl,rfl⟩);rw[hex _ _ hs,hs];simp[Builtin.clear_,run_underlying ht]
  ·rw[hρ]at hb;simp only at hb;obtain⟨hst',c,Eb,fz,vs,hw,hsz,hfree,hVE,hcells⟩:=hb;simp only[sS,Nat.zero_sub,vp,iS,eT,Nat.le_zero_eq]at*;subst hst'
   have hnl:(List.replicate n zv.cells.toList).flatten.length=n*k:=by
    have:=ig hyk hys;simpa using this
   have hm:off*k+(List.replicate n zv.cells.toList).flatten.length<=c.size:=by
    rw[hnl,hsz,<-fH]
    have h1:(off+cap)*k<=sz:=by simpa using hcs
    exact qY (ll _ (by omega)) h1
   have h3:=zV P b ((off-0)*k) Eb fz (List.replicate n zv.cells.toList).flatten 0 c w hw hfree (by simpa using hm) (Ex hyk hys)
   have hzl:(Builtin.zeroCells zv.cells n).toList=(List.replicate n zv.cells.toList).flatten:=by
    have:=tK hzk' n;simpa[Builtin.zeroCells,hzk']using this
   have hrun:(execOp r o).run P w=.ok (.value (.tuple #[])) (w.setRow b (ea c.toList (off*k) (List.replicate n zv.cells.toList).flatten).toArray):=by
    rw[hex _ _ hs,hs];have hn1:∃m,n=m+1:=⟨n-1,by omega⟩;obtain⟨m,rfl⟩:=hn1;rw[ic]at h3;simp only[Builtin.clear_,oB,pU,Sem.run_bind,run_underlying ht,Result.andThen_ok,hzr,hzl,h3,Sem.run_pure];simp[ea]
   have hm2:off*k+(List.replicate n zv.cells.toList).flatten.length<=c.toList.length:=by simpa using hm
   have hsl:=p8 hm2
   have hnoM:∀o v,g.M b o=some v->False:=by
    intro o v hv;obtain⟨_,_,_,_,_,h5,_⟩:=H.eo i b sz 0 o v hρ hv;rw[hi]at h5;simp at h5
   refine⟨g,_,_,hrun,Inv.write H hil hρ hw hE (fun o v hv=>(hnoM o v hv).elim) (fun sz' st' o v _ hv=>(hnoM o v hv).elim) ?_,hE,_,rfl,by simp only[V,VL];exact⟨[],rfl,rfl⟩⟩;simp only[OV];refine⟨hk0,hKn,hfln,by simp,?_⟩;rw[hρ];simp only[sS,Nat.zero_sub,vp,iS,eT];have hV2:=oS (oS (xt hK hVE off) hys) (uw hK hVE (off+n));have hvl:=ig hK hVE;refine⟨aT _,(ea c.toList (off*k) (List.replicate n zv.cells.toList).flatten).toArray,Eb,fz,_,setRow_heap w b c _ Eb fz hw,?_,tZ hfree ?_,fL hE (j4 hV2) hV2,?_⟩
   ·simp only[pT];rw[hsl];simpa using hsz
   ·simp only[pT];rw[hsl];simp
   ·intro j hj
    have e2:(off+n)*k=off*k+(List.replicate n zv.cells.toList).flatten.length:=by rw[fH,hnl]
    have hvm:off*k+(List.replicate n zv.cells.toList).flatten.length<=vs.length:=by
     rw[<-e2,hvl];exact ll _ (by omega)
    have hsp:vs.take (off*k)++(List.replicate n zv.cells.toList).flatten++vs.drop ((off+n)*k)=ea vs (off*k) (List.replicate n zv.cells.toList).flatten:=by
     rw[e2];rfl
    have hj2:=m6 hvm j
    have hj3:j<vs.length:=by
     have:j<(ea vs (off*k) (List.replicate n zv.cells.toList).flatten).length:=by rw[<-hsp];exact hj
     rwa[p8 hvm]at this
    rw[oB,m6 hm2,<-bm hj,hsp,hj2]
    by_cases h7:j<off*k
    ·rw[if_pos h7,if_pos h7,bm hj3,<-hcells j hj3];simp
    ·rw[if_neg h7,if_neg h7]
     by_cases h8:j<off*k+(List.replicate n zv.cells.toList).flatten.length
     ·rw[if_pos h8,if_pos h8]
     ·rw[if_neg h8,if_neg h8,bm hj3,<-hcells j hj3];simp
theorem YU(H:Inv P Γ N g h w){x y:Operand}{ty e:TypeId}(ho:o.op=.makeSlice ty x y)(ht:P.underlying ty=some (.slice e)){k B:Nat}(hk:bz P e=some k)(hk0:0<k)
 (hB:lE P e=some B){z:AV}(hz:dM P e=some z)(hzk:z.cells.length=k)(hz1:b9 z.cells=true)(hzb:aK 0 z.cells=true){i j:IntKind}{n:Int}
 (hx:r x=.int i n)(hy:r y=.int j n)(h0:0<=n)(hn:n<=2^47)(hnB:n*B<=2^47)(E:TypeId):
 aJ P Γ N r o w g h (h++[.row k E (List.replicate n.toNat z) none true false]) (some (.sl h.length 0 n.toNat)):=by
 obtain⟨zv,hzr,rfl⟩:=tS hz;have hzk':=tL hzk
 have hti:∃i,P.info? e=some i/\i.bytes=B:=by
  unfold lE at hB
  cases hi:P.info? e with
  |none=>simp[hi]at hB
  |some i=>simp[hi]at hB;exact⟨i,rfl,hB⟩
 obtain⟨ti,hti,hbt⟩:=hti
 have hty:∀w,(typeInfo e).run P w=.ok ti w:=fun w=>by simp[typeInfo,hti]
 have hwr:IntKind.i64.wrap n=n:=IntWalk.i64_in _ (by omega);have hok:=tg hzk hz1 hzb n.toNat;have hVE:=tz (nb g h zv) n.toNat;have hzl:=tK hzk' n.toNat
 have hBn:(ti.bytes:Int)*n<=2^47:=by rw[hbt,Int.mul_comm];exact hnB
 have hrun:(Instr.makeSlice ty (r x) (r y)).run P w=.ok (.slice (some ⟨w.heap.size,0,none⟩) n.toNat n.toNat) (w.alloc (.cells ((List.replicate n.toNat zv.cells.toList).flatten++[]).toArray e)):=by
  simp only[Instr.makeSlice,Sem.run_bind,run_underlying ht,Result.andThen_ok,hx,hy,asInt,asIntOf,Sem.run_pure,hty,hwr]
  have h1:(decide (n<0)||decide ((ti.bytes:Int)*n>2^48))=false:=by
   simp only[jV,jr];omega
  have h2:(decide (n<0)||decide ((ti.bytes:Int)*n>2^48)||decide (n<0)||decide (n>n))=false:=by
   rw[h1];simp;omega
  rw[if_neg (by rw[h2];simp)];simp only[Sem.run_bind,run_askRoom,Result.andThen_ok,iD hk]
  by_cases hmk:n.toNat*k=0
  ·have hn0:n.toNat=0:=by
    rcases Js.1 hmk with h1|h1
    ·exact h1
    ·omega
   rw[if_pos hmk]
   have e0:Array.map (fun _:Nat=>(default:Value)) (Array.range 0)=#[]:=by apply ia;simp
   simp[newRow,hn0,e0]
  ·rw[if_neg hmk];simp only[Sem.run_bind,hzr,Result.andThen_ok,newRow,run_newObj,Sem.run_pure,hzk'];congr 4;apply ia;rw[hzl];simp
 have hsz:((List.replicate n.toNat zv.cells.toList).flatten++[]).length=n.toNat*k:=by simp[hzk']
 refine aJ.make (w':=w) H rfl rfl rfl rfl (sz:=n.toNat*k) (by simp only[execOp,ho];rw[Sem.run_bind,hrun];rfl) ?_ (by simp) ?_
 ·exact Br (P:=P) hk0 (jX hok) (fun _=>hok) (cX _ _ _) (lx w _) hsz.symm (ud _) (fL (Ext.push _ _) (j4 hVE) hVE)
 ·have:=AL (h:=h) (g':=g.bI h.length (some (w.heap.size,n.toNat*k,0))) (k:=k) (E:=E) (es:=List.replicate n.toNat (fQ zv)) (os:=[]) (fl:=true) (sh:=false) (cX _ _ _) (cap:=n.toNat) (by simp) (aT _);simpa using this
theorem Zc(w:World)(c:Array Value)(E:TypeId):(w.alloc (.cells c E)).freeze ⟨w.heap.size,c.size,none⟩ 1=w.alloc (.cells c E (c.size,c.size+1)):=by
 simp only[World.freeze,World.alloc];simp only[Nat.one_ne_zero,db];congr 1;apply Array.ext
 ·simp
 ·intro i h1 h2;simp only[Array.getElem_modify,Array.getElem_push];simp at h2
  by_cases hi:i<w.heap.size
  ·have:¬w.heap.size=i:=by omega
   simp[hi,this]
  ·have:i=w.heap.size:=by omega
   subst this;simp
theorem Za(H:Inv P Γ N g h w){s d e:TypeId}{x:Operand}(ho:o.op=.convert s d x)(hs:P.underlying s=some .string)(hd:P.underlying d=some (.slice e))(he:P.underlying e=some (.int .u8))
 {l:List UInt8}(hx:r x=.string ⟨l.toArray⟩)(E:TypeId):aJ P Γ N r o w g h (h++[.row 1 E (l.map eY) none true false]) (some (.sl h.length 0 l.length)):=by
 have hcap:∃cap,l.length<=cap/\(Question.appendCap l.length 0 e).cut (w.tape w.drawn (.appendCap l.length 0 e))=cap:=⟨_,by simp[Question.cut],rfl⟩;obtain⟨cap,hcap,hcut⟩:=hcap
 have hrun:(convert s d (r x)).run P w=.ok (.slice (some ⟨w.heap.size,0,none⟩) l.length cap)
  (w.drew.alloc (.cells ((l.map fun b:UInt8=>Value.int .u8 b.toNat)++List.replicate (cap-l.length) (Value.int .u8 0)).toArray e (cap,cap+1))):=by
  have hsize:((l.map fun b:UInt8=>Value.int .u8 b.toNat)++List.replicate (cap-l.length) (Value.int .u8 0)).toArray.size=cap:=by simp;omega
  have hshape:(w.drew.alloc (.cells ((l.map fun b:UInt8=>Value.int .u8 b.toNat)++List.replicate (cap-l.length) (Value.int .u8 0)).toArray e)).shape? w.heap.size=some (e,cap):=by
   have:=lx w.drew (.cells ((l.map fun b:UInt8=>Value.int .u8 b.toNat)++List.replicate (cap-l.length) (Value.int .u8 0)).toArray e);simp only[World.shape?];rw[show w.heap.size=w.drew.heap.size from rfl,this];simp only[hsize]
  have hfr:=Zc w.drew ((l.map fun b:UInt8=>Value.int .u8 b.toNat)++List.replicate (cap-l.length) (Value.int .u8 0)).toArray e;rw[hsize]at hfr;simp only[convert,Sem.run_bind,run_underlying hs,run_underlying hd,Result.andThen_ok,hx,run_underlying he];simp only[Conv.stringToBytes,Sem.run_bind,run_choose,Question.forced,ec,db,ui,hcut,Result.andThen_ok,newRow,run_newObj,Sem.run_pure,World.drew_eq,World.alloc_eq]
  have harr:(Array.map (fun b:UInt8=>Value.int .u8 b.toNat) l.toArray++Array.replicate (cap-l.length) (Value.int .u8 0))=((l.map fun b:UInt8=>Value.int .u8 b.toNat)++List.replicate (cap-l.length) (Value.int .u8 0)).toArray:=by
   apply ia;simp
  rw[harr];simp only[markStringish,Sem.run_bind,run_shape,World.size_drew,hshape,Result.andThen_ok,run_freeze];rw[show(⟨w.heap.size,cap,none⟩:Addr)=⟨w.drew.heap.size,cap,none⟩from rfl,hfr]
 refine aJ.make (w':=w.drew) H rfl rfl rfl rfl (sz:=cap) (by simp only[execOp,ho];rw[Sem.run_bind,hrun];rfl) ?_ (by simp) ?_
 ·exact Br (P:=P) (Nat.zero_lt_one) (jX (v8 l)) (fun _=>v8 l) (cX _ _ _) (lx w.drew _) (by simp;omega) (Or.inr (by simp;omega)) (fL (Ext.push _ _) (j4 (A8 (g:=g) l)) (A8 l))
 ·have:=AL (h:=h) (g':=g.bI h.length (some (w.heap.size,cap,0))) (k:=1) (E:=E) (es:=l.map eY) (os:=[]) (fl:=true) (sh:=false) (cX _ _ _) (cap:=cap) (by simpa using hcap) (by simp);simpa using this
end
def sameKind:Ob->Ob->Prop
 |.cells _,.cells _=>True
 |.map _ _,.map _ _=>True
 |.gQ _ _,.gQ _ _=>True
 |.loop _ _ fn t ps a b,.loop _ _ fn' t' ps' a' b'=>fn=fn'/\t=t'/\ps=ps'/\a=a'/\b=b'
 |.bA _,.bA _=>True
 |_,_=>False
def jL(w:World)(b:Nat)(o:Obj):World:={w with heap:=w.heap.setIfInBounds b o}
theorem aa7(w:World)(b:Nat)(o:Obj):(jL w b o).heap.size=w.heap.size:=by simp[jL]
theorem wR{w:World}{b:Nat}(o:Obj)(h:b<w.heap.size):(jL w b o).heap[b]? =some o:=by simp[jL,h]
theorem YH(w:World){b b':Nat}(o:Obj)(h:b'≠b):(jL w b o).heap[b']? =w.heap[b']? :=by
 simp only[jL];rw[sU];rw[if_neg (by omega)]
section
variable{P:Program}{Γ:Nat->Option AV}{N:Env}{g:G}{h:List Ob}{w:World}{r:Operand->Value}{o:Oper}{t:List AV}
theorem Ext.uh{i:Nat}{o o':Ob}(hi:h[i]? =some o)(hk:sameKind o o'):Ext h.length g h g (h.set i o'):=by
 have hil:=aZ hi;have hs:=eu (l:=h) (i:=i) (a:=o') hil
 have ho:∀{j x},j≠i->h[j]? =some x->(h.set i o')[j]? =some x:=fun{j x} hj hx=>by rw[dB (by omega)];exact hx
 refine⟨fun _ _ _ x=>x,fun _ _ x=>x,?_,?_,?_,?_,?_,?_⟩
 ·intro j us _ hj
  by_cases hji:j=i
  ·subst hji
   rw[hi]at hj;cases hj
   cases o'<;>simp only[sameKind]at hk
   exact⟨⟨_,hs⟩,fun _ x=>x⟩
  ·exact⟨⟨us,ho hji hj⟩,fun _ x=>x⟩
 ·intro j es fl _ hj
  by_cases hji:j=i
  ·subst hji
   rw[hi]at hj;cases hj
   cases o'<;>simp only[sameKind]at hk
   exact⟨⟨_,_,hs⟩,fun _ x=>x⟩
  ·exact⟨⟨_,_,ho hji hj⟩,fun _ x=>x⟩
 ·intro j s p _ hj
  by_cases hji:j=i
  ·subst hji
   rw[hi]at hj;cases hj
   cases o'<;>simp only[sameKind]at hk
   exact⟨⟨_,_,hs⟩,fun _ x=>x⟩
  ·exact⟨⟨_,_,ho hji hj⟩,fun _ x=>x⟩
 ·intro j st q fn t ps a b _ hj
  by_cases hji:j=i
  ·subst hji
   rw[hi]at hj;cases hj
   cases o'<;>simp only[sameKind]at hk
   obtain⟨rfl,rfl,rfl,rfl,rfl⟩:=hk;exact⟨⟨_,_,hs⟩,fun _ x=>x⟩
  ·exact⟨⟨_,_,ho hji hj⟩,fun _ x=>x⟩
 ·intro j l _ hj
  by_cases hji:j=i
  ·subst hji
   rw[hi]at hj;cases hj
   cases o'<;>simp only[sameKind]at hk
   exact⟨⟨_,hs⟩,fun _ x=>x⟩
  ·exact⟨⟨_,ho hji hj⟩,fun _ x=>x⟩
 ·intro j k E es gr fl sh _ hj
  have hji:j≠i:=by
   rintro rfl;rw[hi]at hj;cases hj
   cases o'<;>simp only[sameKind]at hk
  exact⟨_,_,_,_,_,ho hji hj,aT _,fun _ _ _ hk=>⟨hk,rfl,fun _ x=>x⟩⟩
theorem Inv.xS{i b:Nat}{x:Nat×Nat}{o o':Ob}{B:Obj}(H:Inv P Γ N g h w)(hi:h[i]? =some o)(hρ:g.ρ i=some (b,x))(hk:sameKind o o')(hob:OV P g (h.set i o') (jL w b B) i o'):
 Inv P Γ N g (h.set i o') (jL w b B):=by
 have hlt:b<w.heap.size:=(H.own i b x hρ).2;have hE:=Ext.uh (g:=g) hi hk
 have hnoM:∀o v,g.M b o=some v->False:=by
  intro q v hv;obtain⟨sz,st⟩:=x;obtain⟨_,_,_,_,_,h5,_⟩:=H.eo i b sz st q v hρ hv;rw[hi]at h5
  cases h5
  simp only[sameKind]at hk
 have:=Inv.set (r:=g.ρ i) (w':=jL w b B) H (aZ hi) (by rw[cY];exact hE) rfl rfl rfl (fun b' _ hne=>YH w B (fun e=>hne x (by rw[e];exact hρ))) (by simp[jL])
  (fun b' y hy=>⟨Or.inl ⟨y,hy⟩,by rw[aa7];exact(H.own i b' y hy).2⟩) (by
   intro b' y q v hy hv;rw[hρ]at hy;simp only[ak,bT]at hy;obtain⟨rfl,_⟩:=hy
   exact(hnoM q v hv).elim)
  (by
   intro b' sz st q v hy hv;rw[hρ]at hy
   have hbb:b'=b:=by simp only[ak,bT]at hy;exact hy.1.symm
   subst hbb
   exact(hnoM q v hv).elim)
  (by rw[cY];exact hob)
 rwa[cY]at this
theorem wH{b:Nat}{B:Obj}(h:w.heap[b]? =some B)(hc:∀c e f,B≠.cells c e f):(getObj b).run P w=.ok B w:=by
 simp only[getObj,Sem.run,h]
theorem wz{b:Nat}{B B':Obj}(h:w.heap[b]? =some B)(hc:∀c e f,B≠.cells c e f):(setObj b B').run P w=.ok () (jL w b B'):=by
 simp only[setObj,Sem.run,h]
 cases B<;>first|rfl|exact absurd rfl (hc _ _ _)
theorem aea(H:Inv P Γ N g h w){x:Operand}(ho:o.op=.next x true){i:Nat}(hx:V g h (.it i) (r x)){s:List UInt8}{pos:Nat}(hi:h[i]? =some (.gQ s pos)):
 (pos<s.length->aJ P Γ N r o w g h (h.set i (.gQ s (pos+(Utf8.decode ⟨s.toArray⟩ pos).2))) (some (.aB [.bool true,.int .i64 pos,.int .i32 (Utf8.decode ⟨s.toArray⟩ pos).1])))/\
 (¬pos<s.length->aJ P Γ N r o w g h h (some (.aB [.bool false]))):=by
 simp only[V]at hx;obtain⟨_,b,sz,hρ,hrx⟩:=hx;have hb:w.heap[b]? =some (.stringIter ⟨s.toArray⟩ pos):=H.ob i _ hi b sz 0 hρ;have hg:=wH (P:=P) hb (by simp);constructor
 ·intro hlt;have hk:sameKind (.gQ s pos) (.gQ s (pos+(Utf8.decode ⟨s.toArray⟩ pos).2)):=trivial;refine⟨g,jL w b (.stringIter ⟨s.toArray⟩ (pos+(Utf8.decode ⟨s.toArray⟩ pos).2)),.value (.tuple #[.bool true,goInt pos,.int .i32 (Utf8.decode ⟨s.toArray⟩ pos).1]),?_,Inv.xS H hi hρ hk ?_,Ext.uh hi hk,.tuple #[.bool true,goInt pos,.int .i32 (Utf8.decode ⟨s.toArray⟩ pos).1],rfl,?_⟩
  ·have hst:=wz (P:=P) (B':=.stringIter ⟨s.toArray⟩ (pos+(Utf8.decode ⟨s.toArray⟩ pos).2)) hb (by simp);simp[execOp,ho,hrx,Instr.next,hg,ui,hlt,hst]
  ·intro b' sz' st' hb';rw[hρ]at hb';simp only[ak,bT]at hb';obtain⟨rfl,_⟩:=hb';exact wR _ (H.own i b _ hρ).2
  ·simp only[V,VL];exact⟨[.bool true,goInt pos,.int .i32 (Utf8.decode ⟨s.toArray⟩ pos).1],rfl,_,_,rfl,rfl,_,_,rfl,rfl,_,_,rfl,rfl,rfl⟩
 ·intro hlt;refine aJ.same H (u:=.tuple #[.bool false]) ?_ (by simp only[V,VL];exact⟨[.bool false],rfl,_,_,rfl,rfl,rfl⟩);simp[execOp,ho,hrx,Instr.next,hg,ui,hlt]
theorem Mo{s:SK}{a b:AV}(h1:eL s a b=some true){x y:Value}(hx:V g h a x)(hy:V g h b y):x=y/\∀n,Instr.sameBits n x y=true:=by
 cases s<;>cases a<;>cases b<;>simp only[eL,reduceCtorEq,ak]at h1
 ·split at h1
  ·rename_i hk;subst hk;simp only[ak,l0]at h1;subst h1;rw[dW hx,dW hy];exact⟨rfl,fun n=>by cases n<;>simp[Instr.sameBits]⟩
  ·simp at h1
 ·simp only[l0]at h1;subst h1;rw[jc hx,jc hy];exact⟨rfl,fun n=>by cases n<;>simp[Instr.sameBits,L2]⟩
 ·simp only[l0]at h1;subst h1;rw[lF hx,lF hy];exact⟨rfl,fun n=>by cases n<;>simp[Instr.sameBits]⟩
theorem Ln:∀{ss:List SK}{as bs:List AV}{xs ys:List Value},gp ss as bs=some true->VL g h as xs->VL g h bs ys->xs=ys/\∀n,(xs.zip ys).all (fun(x,y)=>Instr.sameBits n x y)=true
 |[],[],[],xs,ys,_,hx,hy=>by simp only[VL]at hx hy;subst hx;subst hy;exact⟨rfl,fun _=>rfl⟩
 |[],_::_,_,_,_,h1,_,_=>by simp[gp]at h1
 |[],[],_::_,_,_,h1,_,_=>by simp[gp]at h1
 |_::_,[],_,_,_,h1,_,_=>by simp[gp]at h1
 |_::_,_::_,[],_,_,h1,_,_=>by simp[gp]at h1
 |s::ss,a::as,b::bs,xs,ys,h1,hx,hy=>by
  simp only[VL]at hx hy;obtain⟨x,xs',rfl,hx1,hx2⟩:=hx;obtain⟨y,ys',rfl,hy1,hy2⟩:=hy;simp only[gp]at h1
  split at h1
  ·rename_i he;obtain⟨rfl,h2⟩:=Mo he hx1 hy1;obtain⟨rfl,h3⟩:=Ln h1 hx2 hy2;exact⟨rfl,fun n=>by simp[h2];simpa using h3 n⟩
  ·simp at h1
  ·simp at h1
theorem YB{P:Program}{ty:TypeId}{e:EK}(hk:iE P ty=some e){a b:AV}(h1:cn e a b=some true){x y:Value}(hx:V g h a x)(hy:V g h b y):x=y/\Instr.sameBits 10000 x y=true:=by
 unfold iE at hk
 split at hk
 ·simp only[ak]at hk;subst hk;obtain⟨h2,h3⟩:=Mo h1 hx hy;exact⟨h2,h3 _⟩
 ·simp only[bY]at hk;obtain⟨ss,_,rfl⟩:=hk
  cases a<;>cases b<;>simp only[cn,reduceCtorEq]at h1
  split at h1
  ·simp only[V]at hx hy;obtain⟨xs,rfl,hx⟩:=hx;obtain⟨ys,rfl,hy⟩:=hy;obtain⟨rfl,h2⟩:=Ln h1 hx hy;refine⟨rfl,?_⟩;have:=h2 9999
   show((xs.toArray.size==xs.toArray.size)&&(xs.toArray.toList.zip xs.toArray.toList).all fun(x,y)=>Instr.sameBits 9999 x y)=true
   simpa using this
  ·simp at h1
theorem KF{e:EK}{k:AV}:∀{es:List (AV×AV)}{i:Nat},findAt e k es=some (some i)->∃x,es[i]? =some x/\cn e k x.1=some true
 |[],i,h1=>by simp[findAt]at h1
 |(a,v)::es,i,h1=>by
  simp only[findAt]at h1
  split at h1
  ·rename_i he;simp only[ak]at h1;subst h1;exact⟨(a,v),rfl,he⟩
  ·simp only[bY]at h1;obtain⟨p,hp,h2⟩:=h1;obtain⟨j,rfl,rfl⟩:=h2;obtain⟨x,h3,h4⟩:=KF hp;exact⟨x,by simpa using h3,h4⟩
  ·simp at h1
theorem D6:∀{as:List AV}{vs:List Value}(i:Nat),VL g h as vs->VL g h (as.eraseIdx i) (vs.eraseIdx i)
 |[],vs,i,hv=>by simp only[VL]at hv;subst hv;simp[VL]
 |a::as,vs,i,hv=>by
  simp only[VL]at hv;obtain⟨v,vs',rfl,h1,h2⟩:=hv
  cases i with
  |zero=>simpa using h2
  |succ i=>simp only[List.eraseIdx_cons_succ,VL];exact⟨v,_,rfl,h1,D6 i h2⟩
theorem vZ{α β:Type}(f:α->β):∀(l:List α)(i:Nat),(l.eraseIdx i).map f=(l.map f).eraseIdx i
 |[],i=>by simp
 |a::l,0=>by simp
 |a::l,i+1=>by simp[vZ f l i]
theorem wX{n:Nat}:∀{l:List AV},aK n l=true↔∀a∈l,aI n a=true
 |[]=>by simp[aK]
 |a::l=>by simp[aK,wX (l:=l)]
theorem afF(H:Inv P Γ N g h w){ty kt et:TypeId}{m k x:Operand}(ho:o.op=.mapUpdate ty m k x\/o.op=.insert ty m k x)(hu:P.underlying ty=some (.map kt et)){e:EK}(hk:iE P kt=some e)
 {j:Nat}(hm:V g h (.mp j) (r m)){es es':List (AV×AV)}{fl:Bool}(hj:h[j]? =some (.map es fl)){a b:AV}(ha:V g h a (r k))(hkey:isKey e a=true)(hb:V g h b (r x))(hp:ir e a b es=some es'):
 aJ P Γ N r o w g h (h.set j (.map es' (fl&&aI 0 b))) none:=by
 simp only[V]at hm;obtain⟨_,bk,sz,hρ,hrm⟩:=hm;obtain⟨hfl,hob⟩:=H.ob j _ hj;obtain⟨bg,ck,hw,hks,hvs⟩:=hob bk sz 0 hρ;have hkk:sameKind (.map es fl) (.map es' (fl&&aI 0 b)):=trivial;have hE:=Ext.uh (g:=g) hj hkk;obtain⟨p,hp1,hp2⟩:=NF hp;have hf:=run_findKey hk ha hks hp1 w;have hck:=run_checkKey hk hkey ha false w;have hg:=wH (P:=P) hw (by simp);have hlen:=Ey hks;have hbk:=(H.own j bk _ hρ).2
 have hfl':(fl&&aI 0 b)=true->aK 0 (es'.map (·.2))=true:=by
  intro h1;simp only[av]at h1;have h2:=wX.1 (hfl h1.1);rw[wX];intro y hy
  cases p with
  |none=>
   simp only at hp2;subst hp2;simp only[iT,cd,lp,bn,dG]at hy
   rcases hy with hy|rfl
   ·exact h2 y hy
   ·exact h1.2
  |some i=>
   obtain⟨_,rfl⟩:=hp2;rw[pX]at hy
   rcases oA hy with hy|rfl
   ·exact h2 y hy
   ·exact h1.2
 have hdone:∀(ents':Array MapEntry)(ck':Nat),VL g h (es'.map (·.1)) (ents'.toList.map (·.key))->VL g h (es'.map (·.2)) (ents'.toList.map (·.val))->
  (Instr.mapUpdate ty (r m) (r k) (r x)).run P w=.ok () (jL w bk (.map ents' ck'))->aJ P Γ N r o w g h (h.set j (.map es' (fl&&aI 0 b))) none:=by
  intro ents' ck' h1 h2 hrun;refine⟨g,jL w bk (.map ents' ck'),_,?_,Inv.xS H hj hρ hkk ⟨hfl',?_⟩,hE,rfl⟩
  ·rcases ho with ho|ho<;>simp[execOp,ho,hrun]
  ·intro b' sz' st' hb';rw[hρ]at hb';simp only[ak,bT]at hb';obtain⟨rfl,_⟩:=hb';exact⟨ents',ck',wR _ hbk,cA hE (dm h1) h1,cA hE (dm h2) h2⟩
 cases p with
 |none=>
  simp only at hp2;subst hp2;refine hdone (bg.push {key:=r k,val:=r x,born:=ck}) (ck+1) ?_ ?_ ?_
  ·simp only[iT,cd,lp,Array.toList_push];exact kH hks (by simp only[VL];exact⟨_,_,rfl,ha,rfl⟩)
  ·simp only[iT,cd,lp,Array.toList_push];exact kH hvs (by simp only[VL];exact⟨_,_,rfl,hb,rfl⟩)
  ·simp only[Option.bind_none]at hf;have hs:=wz (P:=P) (B':=.map (bg.push {key:=r k,val:=r x,born:=ck}) (ck+1)) hw (by simp);simp[Instr.mapUpdate,run_underlying hu,hrm,hg,hck,hf,hs]
 |some i=>
  obtain⟨hil,rfl⟩:=hp2;obtain⟨y,hy1,hy2⟩:=KF hp1
  have hile:i<bg.size:=by have:bg.toList.length=es.length:=hlen;simp at this;omega
  have hge:bg[i]? =some bg[i]:=jt hile;obtain⟨q,hq1,hq2⟩:=qk (i:=i) (a:=y.1) hks (by simp[hy1]);simp only[vu,vw,hge,dv,ak]at hq1;subst hq1;obtain⟨hkq,hsb⟩:=YB hk hy2 ha hq2;rw[<-hkq]at hsb;refine hdone (bg.modify i fun e=>{e with key:=r k,val:=r x}) ck ?_ ?_ ?_
  ·have:(bg.modify i fun e=>{e with key:=r k,val:=r x}).toList.map (·.key)=(bg.toList.map (·.key)).set i (r k):=by
    rw[Array.toList_modify];apply jq;intro n;simp only[vu,zn,nH,iB,vv]
    by_cases hn:i=n
    ·subst hn;simp[hile]
    ·simp[hn]
   rw[this,pX];exact o9 i hks ha
  ·have:(bg.modify i fun e=>{e with key:=r k,val:=r x}).toList.map (·.val)=(bg.toList.map (·.val)).set i (r x):=by
    rw[Array.toList_modify];apply jq;intro n;simp only[vu,zn,nH,iB,vv]
    by_cases hn:i=n
    ·subst hn;simp[hile]
    ·simp[hn]
   rw[this,pX];exact o9 i hvs hb
  ·have hs:=wz (P:=P) (B':=.map (bg.modify i fun e=>{e with key:=r k,val:=r x}) ck) hw (by simp);simp only[kx,vw,hge,dv]at hf
   have hkt:(Instr.keyThatStays bg[i].key (r k)).run P w=.ok (r k) w:=by
    unfold Instr.keyThatStays;rw[<-hkq,hsb];simp
   simp[Instr.mapUpdate,run_underlying hu,hrm,hg,hck,hf,hge,hkt,hs]
theorem ZE(H:Inv P Γ N g h w){mt u kt et:TypeId}{m k:Operand}(ho:o.op=.call ⟨.builtin .delete,#[m,k],#[mt,u]⟩)(hu:P.underlying mt=some (.map kt et)){e:EK}(hk:iE P kt=some e)
 {j:Nat}(hm:V g h (.mp j) (r m)){es es':List (AV×AV)}{fl:Bool}(hj:h[j]? =some (.map es fl)){a:AV}(ha:V g h a (r k))(hkey:isKey e a=true)(hp:mA e a es=some es'):
 aJ P Γ N r o w g h (h.set j (.map es' fl)) (some (.aB [])):=by
 simp only[V]at hm;obtain⟨_,bk,sz,hρ,hrm⟩:=hm;obtain⟨hfl,hob⟩:=H.ob j _ hj;obtain⟨bg,ck,hw,hks,hvs⟩:=hob bk sz 0 hρ;have hkk:sameKind (.map es fl) (.map es' fl):=trivial;have hE:=Ext.uh (g:=g) hj hkk;obtain⟨p,hp1,hp2⟩:=MP hp;have hf:=run_findKey hk ha hks hp1 w
 have hck:=fun em=>run_checkKey hk hkey ha em w
 have hg:=wH (P:=P) hw (by simp);have hlen:=Ey hks;have hbk:=(H.own j bk _ hρ).2
 have hdone:∀(ents':Array MapEntry),(∀e∈es',e∈es)->VL g h (es'.map (·.1)) (ents'.toList.map (·.key))->VL g h (es'.map (·.2)) (ents'.toList.map (·.val))->
  (Builtin.delete_ #[mt,u] o.type #[r m,r k]).run P w=.ok (.tuple #[]) (jL w bk (.map ents' ck))->aJ P Γ N r o w g h (h.set j (.map es' fl)) (some (.aB [])):=by
  intro ents' hsub h1 h2 hrun;refine⟨g,jL w bk (.map ents' ck),_,?_,Inv.xS H hj hρ hkk ⟨?_,?_⟩,hE,_,rfl,by simp only[V,VL];exact⟨[],rfl,rfl⟩⟩
  ·simp only[execOp,ho,resolve,invoke,builtin,Sem.run_bind,Sem.run_pure,Result.andThen_ok,List.map_toArray,cd,lp,hrun]
  ·intro hf';have h3:=wX.1 (hfl hf');rw[wX];intro y hy;obtain⟨q,hq,rfl⟩:=cF.1 hy;exact h3 _ (cF.2 ⟨q,hsub q hq,rfl⟩)
  ·intro b' sz' st' hb';rw[hρ]at hb';simp only[ak,bT]at hb';obtain⟨rfl,_⟩:=hb';exact⟨ents',ck,wR _ hbk,cA hE (dm h1) h1,cA hE (dm h2) h2⟩
 cases p with
 |none=>
  simp only at hp2;subst hp2;have hs:=wz (P:=P) (B':=.map bg ck) hw (by simp);refine hdone bg (fun _ h=>h) hks hvs ?_;simp only[Option.bind_none]at hf;simp[Builtin.delete_,run_underlying hu,hrm,hg,hck,hf,hs]
 |some i=>
  obtain⟨hil,rfl⟩:=hp2
  have hile:i<bg.size:=by have:bg.toList.length=es.length:=hlen;simp at this;omega
  have hge:bg[i]? =some bg[i]:=jt hile;have hs:=wz (P:=P) (B':=.map (bg.eraseIdxIfInBounds i) ck) hw (by simp)
  have hel:(bg.eraseIdxIfInBounds i).toList=bg.toList.eraseIdx i:=by
   rw[Array.eraseIdxIfInBounds,dif_pos hile,Array.toList_eraseIdx]
  refine hdone (bg.eraseIdxIfInBounds i) (fun _ h=>List.mem_of_mem_eraseIdx h) ?_ ?_ ?_
  ·rw[hel,vZ,vZ];exact D6 i hks
  ·rw[hel,vZ,vZ];exact D6 i hvs
  ·simp only[kx,vw,hge,dv]at hf;simp[Builtin.delete_,run_underlying hu,hrm,hg,hck,hf,hs]
theorem EV(H:Inv P Γ N g h w){x:Operand}{ty kt et:TypeId}(ho:o.op=.call ⟨.builtin .len,#[x],#[ty]⟩)(hu:P.underlying ty=some (.map kt et)){a:AV}(hx:V g h a (r x)){n:Nat}
 (ha:(a=.c_/\n=0)\/(∃ks vs,a=.dg ks vs/\n=ks.length)\/∃j es fl,a=.mp j/\h[j]? =some (.map es fl)/\n=es.length):aJ P Γ N r o w g h h (some (.int .i64 n)):=by
 rcases ha with⟨rfl,rfl⟩|⟨ks,vs,rfl,rfl⟩|⟨j,es,fl,rfl,hj,rfl⟩
 ·simp only[V]at hx;exact xE H ho (Or.inr (Or.inr (Or.inr ⟨_,_,hu,hx,rfl⟩)))
 ·simp only[V]at hx;obtain⟨b,bg,ck,h1,h2,h3,h4⟩:=hx;have hg:=wH (P:=P) (H.mm b bg ck h2).1 (by simp);have hl:=fK h3;refine aJ.same H (u:=.int .i64 ks.length) ?_ (by simp[V]);simp at hl;simp[execOp,ho,resolve,invoke,builtin,Builtin.len_,h1,run_underlying hu,goInt,hg,hl]
 ·simp only[V]at hx;obtain⟨_,b,sz,hρ,h1⟩:=hx;obtain⟨_,h2⟩:=H.ob j _ hj;obtain⟨bg,ck,h3,h4,h5⟩:=h2 b sz 0 hρ;have hg:=wH (P:=P) h3 (by simp);have hl:=Ey h4;refine aJ.same H (u:=.int .i64 es.length) ?_ (by simp[V]);simp at hl;simp[execOp,ho,resolve,invoke,builtin,Builtin.len_,h1,run_underlying hu,goInt,hg,hl]
end
theorem modify_eq_set{α:Type}{f:α->α}:∀{l:List α}{i:Nat}{a:α},l[i]? =some a->l.modify i f=l.set i (f a)
 |[],i,a,h=>by simp at h
 |b::l,0,a,h=>by simp at h;subst h;simp
 |b::l,i+1,a,h=>by simp at h;simp[modify_eq_set h]
theorem X4{α:Type}{f:α->α}{l:List α}{i:Nat}(h:l[i]? =none):l.modify i f=l:=by
 apply jq;intro n;rw[zn]
 by_cases hn:i=n
 ·subst hn;simp[h]
 ·simp[hn]
def pN(g':G)(h:List Ob)(w:World)(g:G)(i:Nat):Prop:=
 ∀k E es gr fl sh,h[i]? =some (.row k E es gr fl sh)->∀b sz st,g.ρ i=some (b,sz,st)->∀o v,(gr.getD 0-st)*k<=o->o<(es.length-st)*k->w.cell? ⟨b,o,none⟩=some v->g'.M b o=some v
section
variable{P:Program}{Γ:Nat->Option AV}{N:Env}{g:G}{h:List Ob}{w:World}{r:Operand->Value}{o:Oper}{t:List AV}
theorem Ext.more{g':G}{i k:Nat}{E:TypeId}{es:List AV}{gr:Option Nat}{fl sh:Bool}(hi:h[i]? =some (.row k E es gr fl sh))(hρ:g'.ρ=g.ρ)(hMM:g'.MM=g.MM)(hM:∀b o v,g.M b o=some v->g'.M b o=some v):
 Ext h.length g h g' (h.set i (.row k E es gr fl true)):=by
 have h1:=Ext.o6 (g:=g) (E':=E) (es':=es) (gr':=gr) (fl':=fl) (sh':=true) (ρ':=g.ρ i) hi (aT _) (fun off m _ h1=>⟨h1,rfl,fun _ h=>h⟩);rw[cY]at h1;refine h1.trans ?_
 exact⟨hM,fun b x hx=>by rw[hMM];exact hx,fun j vs _ hj=>⟨⟨_,hj⟩,fun x hx=>by rw[hρ];exact hx⟩,fun j es fl _ hj=>⟨⟨_,_,hj⟩,fun x hx=>by rw[hρ];exact hx⟩,
  fun j es fl _ hj=>⟨⟨_,_,hj⟩,fun x hx=>by rw[hρ];exact hx⟩,fun j st q fn t ps a b _ hj=>⟨⟨_,_,hj⟩,fun x hx=>by rw[hρ];exact hx⟩,fun j l _ hj=>⟨⟨_,hj⟩,fun x hx=>by rw[hρ];exact hx⟩,
  fun j k E es gr fl sh _ hj=>⟨_,_,_,_,_,hj,aT _,fun _ _ _ hk=>⟨hk,rfl,fun x hx=>by rw[hρ];exact hx⟩⟩⟩
theorem aau(H:Inv P Γ N g h w)(i:Nat):∃g',g'.ρ=g.ρ/\g'.MM=g.MM/\(∀b o v,g.M b o=some v->g'.M b o=some v)/\Inv P Γ N g' (h.modify i gI) w/\Ext h.length g h g' (h.modify i gI)/\pN g' h w g i/\
 ∀(j:Nat)(k:Nat)(E:TypeId)(es:List AV)(gr:Option Nat)(fl sh:Bool),h[j]? =some (Ob.row k E es gr fl sh)->∃sh',(h.modify i gI)[j]? =some (Ob.row k E es gr fl sh'):=by
 by_cases hrow:∃k E es gr fl sh,h[i]? =some (.row k E es gr fl sh)
 ·obtain⟨k,E,es,gr,fl,sh,hi⟩:=hrow;have hmod:h.modify i gI=h.set i (.row k E es gr fl true):=modify_eq_set hi;rw[hmod];have hil:=aZ hi
  have hrows:∀(j:Nat)(k':Nat)(E':TypeId)(es':List AV)(gr':Option Nat)(fl' sh':Bool),h[j]? =some (Ob.row k' E' es' gr' fl' sh')->∃sh'',(h.set i (Ob.row k E es gr fl true))[j]? =some (Ob.row k' E' es' gr' fl' sh''):=by
   intro j k' E' es' gr' fl' sh' hj
   by_cases hji:j=i
   ·subst hji;rw[hi]at hj;simp only[ak,Ob.row.injEq]at hj;obtain⟨rfl,rfl,rfl,rfl,rfl,rfl⟩:=hj;exact⟨true,eu hil⟩
   ·exact⟨sh',by rw[dB (by omega)];exact hj⟩
  cases hρ:g.ρ i with
  |none=>
   have hE:Ext h.length g h g (h.set i (.row k E es gr fl true)):=Ext.more hi rfl rfl (fun _ _ _ h=>h);refine⟨g,rfl,rfl,fun _ _ _ h=>h,?_,hE,?_,hrows⟩
   ·have:=Inv.set (r:=none) (w':=w) H (o':=.row k E es gr fl true) hil (by rw[<-hρ,cY];exact hE) rfl rfl rfl (fun _ _ _=>rfl) (aT _) (by simp)
     (fun b y o v hy _=>by rw[hρ]at hy;cases hy) (by simp) (by
      rw[<-hρ,cY];have:=m8 (w':=w) hE rfl (fun _ _ _=>rfl) (H.ob i _ hi)
      simpa only [OV]using this)
    rw[<-hρ,cY]at this;exact this
   ·intro k' E' es' gr' fl' sh' _ b sz st hb
    rw[hρ]at hb;cases hb
  |some y=>
   obtain⟨b,sz,st⟩:=y;have hob:=H.ob i _ hi;simp only[OV]at hob;rw[hρ]at hob;simp only at hob;obtain⟨hk0,hK,hfl,hgl,hst,c,Eb,fz,vs,hw,hsz,hfree,hVE,hcells⟩:=hob
   let g':G:={g with M:=fun b' o=>if b'=b/\(gr.getD 0-st)*k<=o/\o<(es.length-st)*k then c[o]? else g.M b' o}
   have hMc:∀o v,g.M b o=some v->c[o]? =some v:=fun o v hv=>by
    have:=H.mem b o v hv;rwa[cell_of_row w b o c Eb fz hw]at this
   have hM:∀b' o v,g.M b' o=some v->g'.M b' o=some v:=by
    intro b' o v hv;simp only[g']
    split
    ·rename_i hc;rw[hc.1]at hv;exact hMc o v hv
    ·exact hv
   have hE:Ext h.length g h g' (h.set i (.row k E es gr fl true)):=Ext.more hi rfl rfl hM;refine⟨g',rfl,rfl,hM,?_,hE,?_,hrows⟩
   ·refine⟨H.os,H.tape,H.output,H.gu,H.own,H.inj,fun j hj=>H.ot j (by rwa[jn]at hj),?_,H.mm,?_,?_,?_,?_,H.jk⟩
    ·intro b' o v hv;simp only[g']at hv
     split at hv
     ·rename_i hc;rw[hc.1,cell_of_row w b o c Eb fz hw];exact hv
     ·exact H.mem b' o v hv
    ·intro j b' sz' st' o v hj hv;have hj':g.ρ j=some (b',sz',st'):=hj
     have hold:g.M b' o=some v->∃k' E' es' gr' fl',(h.set i (.row k E es gr fl true))[j]? =some (.row k' E' es' gr' fl' true)/\o<(es'.length-st')*k':=by
      intro hv';obtain⟨k',E',es',gr',fl',h1,h2⟩:=H.eo j b' sz' st' o v hj' hv'
      by_cases hji:j=i
      ·subst hji;rw[hi]at h1;simp only[ak,Ob.row.injEq]at h1;obtain⟨rfl,rfl,rfl,rfl,rfl,rfl⟩:=h1;exact⟨_,_,_,_,_,eu hil,h2⟩
      ·exact⟨k',E',es',gr',fl',by rw[dB (by omega)];exact h1,h2⟩
     simp only[g']at hv
     split at hv
     ·rename_i hc;have hji:j=i:=H.inj j i b _ _ (by rw[<-hc.1];exact hj') hρ;subst hji;rw[hρ]at hj';simp only[ak,bT]at hj';obtain⟨_,_,rfl⟩:=hj';exact⟨_,_,_,_,_,eu hil,hc.2.2⟩
     ·exact hold hv
    ·intro j q hj
     by_cases hji:j=i
     ·subst hji;rw[eu hil]at hj
      cases hj
      have:=m8 (w':=w) hE rfl (fun _ _ _=>rfl) (H.ob j _ hi);simpa only [OV]using this
     ·rw[dB (by omega)]at hj;exact m8 hE rfl (fun _ _ _=>rfl) (H.ob j q hj)
    ·intro n a hn;obtain⟨h1,vs,h2,h3⟩:=H.kZ n a hn;exact⟨h1,vs,cA hE (dm h2) h2,fun j hj=>hM _ _ _ (h3 j hj)⟩
    ·intro b' o v B hv hB;simp only[g']at hv
     split at hv
     ·rename_i hc;have:=(H.own i b _ hρ).1;rw[hc.1,this]at hB
      cases hB
     ·exact H.mK b' o v B hv hB
   ·intro k' E' es' gr' fl' sh' hi' b' sz' st' hb' o v h1 h2 h3;rw[hi]at hi';simp only[ak,Ob.row.injEq]at hi';obtain⟨rfl,rfl,rfl,rfl,rfl,rfl⟩:=hi';rw[hρ]at hb';simp only[ak,bT]at hb';obtain⟨rfl,rfl,rfl⟩:=hb';simp only[g'];rw[if_pos ⟨trivial,h1,h2⟩,<-cell_of_row w b o c Eb fz hw];exact h3
 ·have hmod:h.modify i gI=h:=by
   cases hi:h[i]? with
   |none=>exact X4 hi
   |some q=>
    rw[modify_eq_set hi]
    have:gI q=q:=by
     cases q<;>first|rfl|exact absurd ⟨_,_,_,_,_,_,hi⟩ hrow
    rw[this];apply jq;intro n;rw[nH]
    by_cases hn:i=n
    ·subst hn;rw[if_pos rfl,if_pos (aZ hi),hi]
    ·simp[hn]
  rw[hmod];refine⟨g,rfl,rfl,fun _ _ _ h=>h,H,Ext.refl _ _ _,?_,fun j k E es gr fl sh hj=>⟨sh,hj⟩⟩;intro k E es gr fl sh hi;exact absurd ⟨_,_,_,_,_,_,hi⟩ hrow
theorem kF:∀(is:List Nat)(h:List Ob),(share is h).length=h.length
 |[],_=>rfl
 |i::is,h=>by simp[share,kF is]
theorem nP:∀(is:List Nat){g:G}{h:List Ob},Inv P Γ N g h w->∃g',g'.ρ=g.ρ/\g'.MM=g.MM/\(∀b o v,g.M b o=some v->g'.M b o=some v)/\Inv P Γ N g' (share is h) w/\Ext h.length g h g' (share is h)/\
 ∀i∈is,pN g' h w g i
 |[],g,h,H=>⟨g,rfl,rfl,fun _ _ _ h=>h,H,Ext.refl _ _ _,by simp⟩
 |i::is,g,h,H=>by
  obtain⟨g1,hρ1,hMM1,hM1,H1,hE1,hC1,hr1⟩:=aau H i;obtain⟨g2,hρ2,hMM2,hM2,H2,hE2,hC2⟩:=nP is H1
  have hl:(h.modify i gI).length=h.length:=by simp
  rw[hl]at hE2;refine⟨g2,hρ2.trans hρ1,hMM2.trans hMM1,fun b o v hv=>hM2 b o v (hM1 b o v hv),H2,hE1.trans hE2,?_⟩;intro j hj
  rcases bw.1 hj with rfl|hj
  ·intro k E es gr fl sh hi b sz st hb o v h1 h2 h3;exact hM2 _ _ _ (hC1 k E es gr fl sh hi b sz st hb o v h1 h2 h3)
  ·intro k E es gr fl sh hi b sz st hb o v h1 h2 h3;obtain⟨sh',hi'⟩:=hr1 j k E es gr fl sh hi;exact hC2 j hj k E es gr fl sh' hi' b sz st (by rw[hρ1];exact hb) o v h1 h2 h3
theorem aaf(H:Inv P Γ N g h w){g':G}{h':List Ob}(x:Ext h.length g h g' h'){i off n:Nat}{u:Value}(hc:pN g' h w g i)(hv:V g h (.sl i off n) u){p:Nat×List AV}(ht:uG h (.sl i off n)=some p):
 V g' h' (.list false p.1 p.2) u:=by
 simp only[uG]at ht
 split at ht
 ·rename_i k E es gr sh hi
  split at ht
  ·rename_i hok;simp only[ak]at ht;subst ht;have hrow:=LN H hv hi hok;obtain⟨hK,a,cap,vs,rfl,hVE,hmem⟩:=hrow;have hob:=H.ob i _ hi;simp only[OV]at hob;obtain⟨hk0,_,hfl,hgl,hb⟩:=hob
   have hle:off+n<=es.length:=by
    cases gr with
    |none=>simpa[cH]using hok
    |some lo=>simp only[cH,av,bj,l0]at hok;omega
   have hln:((es.drop off).take n).length=n:=by simp;omega
   have hokl:cq ((es.drop off).take n) k=true:=oR (hfl trivial) (fun e he=>jo (jT he));simp only[V]at hv⊢;obtain⟨k2,E2,es2,gr2,fl2,sh2,hi2,_,a2,cap2,he2,hcap,_,hq⟩:=hv;rw[hi]at hi2;simp only[ak,Ob.row.injEq]at hi2;obtain⟨rfl,rfl,rfl,rfl,rfl,rfl⟩:=hi2;simp only[Value.slice.injEq,vr]at he2;obtain⟨rfl,rfl⟩:=he2;refine⟨hokl,a,cap,by rw[hln],by simp,by rw[hln];exact hcap,?_⟩
   by_cases h0:n=0
   ·left;apply ku.1;omega
   ·right
    rcases(hq hok).2 with⟨h1,_⟩|⟨b,sz,st,hρ,hst,rfl,hcs⟩
    ·exact absurd h1 h0
    ·rcases hmem with h1|⟨b',p',he,hm⟩
     ·exact absurd h1 h0
     ·simp only[ak,Addr.mk.injEq,ow]at he;obtain⟨rfl,rfl⟩:=he
      have hlo:gr.getD 0<=off:=by
       cases gr with
       |none=>simp
       |some lo=>simp only[cH,av,bj]at hok;simpa using hok.1
      have hst2:st<=gr.getD 0:=by rw[hρ]at hb;exact hb.1
      refine⟨b,(off-st)*k,vs,rfl,fL x (j4 hVE) hVE,fun j hj=>?_⟩;have hvl:=ig (jX hokl) hVE;rw[hln]at hvl;refine hc k E es gr true sh hi b sz st hρ _ _ ?_ ?_ (hm j _ (bm hj))
      ·exact qY (ll _ (by omega)) (Nat.le_add_right _ _)
      ·have:(off-st)*k+n*k<=(es.length-st)*k:=by rw[<-fH];exact ll _ (by omega)
       omega
  ·simp at ht
 ·simp at ht
mutual
theorem r9(H:Inv P Γ N g h w){g':G}{h':List Ob}(x:Ext h.length g h g' h'):∀{a a':AV}{u:Value},(∀i∈rowsOf a,pN g' h w g i)->V g h a u->view h a=some a'->V g' h' a' u
 |.undef,a',u,_,hv,ha|.bool _,a',u,_,hv,ha|.int _ _,a',u,_,hv,ha|.str _,a',u,_,hv,ha|.iM,a',u,_,hv,ha|.c_,a',u,_,hv,ha|.c9,a',u,_,hv,ha
 |.er,a',u,_,hv,ha|.dX _ _,a',u,_,hv,ha=>by
  simp only[view,ak]at ha;subst ha;exact fN x (kX hv) hv
 |.dg ks us,a',u,_,hv,ha=>by
  simp only[view]at ha
  split at ha
  ·simp only[ak]at ha;subst ha;exact fN x (kX hv) hv
  ·simp at ha
 |.list f k es,a',u,_,hv,ha=>by
  simp only[view,ak]at ha;subst ha;have h1:=fN x (kX hv) hv;simp only[V]at h1⊢;obtain⟨h2,a,cap,h3,_,h4,h5⟩:=h1;exact⟨h2,a,cap,h3,by simp,h4,h5⟩
 |.sl i off n,a',u,hc,hv,ha=>by
  simp only[view,bY]at ha;obtain⟨p,hp,rfl⟩:=ha;exact aaf H x (hc i (by simp[rowsOf])) hv hp
 |.own _ _ _,_,_,_,hv,_=>by simp only[V]at hv
 |.ptr _ _,_,_,_,_,ha|.mp _,_,_,_,_,ha|.it _,_,_,_,_,ha|.cR _,_,_,_,_,ha|.cZ _ _ _ _,_,_,_,_,ha=>by simp[view]at ha
 |.agg cs,a',u,hc,hv,ha=>by
  simp only[view,bY]at ha;obtain⟨cs',h1,rfl⟩:=ha;simp only[V]at hv⊢;obtain⟨vs,rfl,h2⟩:=hv;exact⟨vs,rfl,rX H x (by simpa only [rowsOf]using hc) h2 h1⟩
 |.aB cs,a',u,hc,hv,ha=>by
  simp only[view,bY]at ha;obtain⟨cs',h1,rfl⟩:=ha;simp only[V]at hv⊢;obtain⟨vs,rfl,h2⟩:=hv;exact⟨vs,rfl,rX H x (by simpa only [rowsOf]using hc) h2 h1⟩
 |.fn f a b,a',u,hc,hv,ha=>by
  simp only[view]at ha
  split at ha
  ·rename_i a2 b2 h1 h2;simp only[ak]at ha;subst ha;simp only[V]at hv⊢;obtain⟨xs,ys,rfl,h3,h4⟩:=hv;simp only[rowsOf,bn]at hc;exact⟨xs,ys,rfl,rX H x (fun i hi=>hc i (Or.inl hi)) h3 h1,rX H x (fun i hi=>hc i (Or.inr hi)) h4 h2⟩
  ·simp at ha
 |.b_ t a,a',u,hc,hv,ha=>by
  simp only[view,bY]at ha;obtain⟨b,h1,rfl⟩:=ha;simp only[V]at hv⊢;obtain⟨y,rfl,h2⟩:=hv;exact⟨y,rfl,r9 H x (by simpa only [rowsOf]using hc) h2 h1⟩
theorem rX(H:Inv P Γ N g h w){g':G}{h':List Ob}(x:Ext h.length g h g' h'):∀{as as':List AV}{us:List Value},(∀i∈bS as,pN g' h w g i)->VL g h as us->bZ h as=some as'->VL g' h' as' us
 |[],as',us,_,hv,ha=>by
  simp only[bZ,ak]at ha;subst ha;simpa only [VL]using hv
 |a::as,as',us,hc,hv,ha=>by
  simp only[bZ]at ha
  split at ha
  ·rename_i a2 as2 h1 h2;simp only[ak]at ha;subst ha;simp only[VL]at hv⊢;obtain⟨u,us',rfl,h3,h4⟩:=hv;simp only[bS,bn]at hc;exact⟨u,us',rfl,r9 H x (fun i hi=>hc i (Or.inl hi)) h3 h1,rX H x (fun i hi=>hc i (Or.inr hi)) h4 h2⟩
  ·simp at ha
end
mutual
theorem A7(H:Inv P Γ N g h w):∀{a a':AV}{u:Value},V g h a u->view h a=some a'->aI 0 a'=true
 |.undef,_,_,_,ha|.bool _,_,_,_,ha|.int _ _,_,_,_,ha|.str _,_,_,_,ha|.iM,_,_,_,ha|.c_,_,_,_,ha|.c9,_,_,_,ha
 |.er,_,_,_,ha|.dX _ _,_,_,_,ha=>by
  simp only[view,ak]at ha;subst ha;rfl
 |.dg ks us,_,_,_,ha=>by
  simp only[view]at ha
  split at ha
  ·rename_i hb;simp only[ak]at ha;subst ha;simpa only [aI]using hb
  ·simp at ha
 |.list f k es,_,_,hv,ha=>by
  simp only[view,ak]at ha;subst ha;simp only[V]at hv;simp only[aI];exact iV hv.1
 |.sl i off n,_,_,hv,ha=>by
  simp only[view,bY]at ha;obtain⟨p,hp,rfl⟩:=ha;simp only[uG]at hp
  split at hp
  ·rename_i k E es gr sh hi
   split at hp
   ·simp only[ak]at hp;subst hp;have hob:=H.ob i _ hi;simp only[OV]at hob;obtain⟨_,_,hfl,_⟩:=hob;simp only[aI];exact iV (oR (hfl trivial) (fun e he=>jo (jT he)))
   ·simp at hp
  ·simp at hp
 |.own _ _ _,_,_,hv,_=>by simp only[V]at hv
 |.ptr _ _,_,_,_,ha|.mp _,_,_,_,ha|.it _,_,_,_,ha|.cR _,_,_,_,ha|.cZ _ _ _ _,_,_,_,ha=>by simp[view]at ha
 |.agg cs,_,_,hv,ha=>by
  simp only[view,bY]at ha;obtain⟨cs',h1,rfl⟩:=ha;simp only[V]at hv;obtain⟨vs,rfl,h2⟩:=hv
  simp only[aI];exact rN H h2 h1
 |.aB cs,_,_,hv,ha=>by
  simp only[view,bY]at ha;obtain⟨cs',h1,rfl⟩:=ha;simp only[V]at hv;obtain⟨vs,rfl,h2⟩:=hv
  simp only[aI];exact rN H h2 h1
 |.fn f a b,_,_,hv,ha=>by
  simp only[view]at ha
  split at ha
  ·rename_i a2 b2 h1 h2;simp only[ak]at ha;subst ha;simp only[V]at hv;obtain⟨xs,ys,rfl,h3,h4⟩:=hv
   simp only[aI,av];exact⟨rN H h3 h1,rN H h4 h2⟩
  ·simp at ha
 |.b_ t a,_,_,hv,ha=>by
  simp only[view,bY]at ha;obtain⟨b,h1,rfl⟩:=ha;simp only[V]at hv;obtain⟨y,rfl,h2⟩:=hv
  simp only[aI];exact A7 H h2 h1
theorem rN(H:Inv P Γ N g h w):∀{as as':List AV}{us:List Value},VL g h as us->bZ h as=some as'->aK 0 as'=true
 |[],_,_,_,ha=>by
  simp only[bZ,ak]at ha;subst ha;rfl
 |a::as,_,_,hv,ha=>by
  simp only[bZ]at ha
  split at ha
  ·rename_i a2 as2 h1 h2;simp only[ak]at ha;subst ha;simp only[VL]at hv;obtain⟨u,us',rfl,h3,h4⟩:=hv
   simp only[aK,av];exact⟨A7 H h3 h1,rN H h4 h2⟩
  ·simp at ha
end
theorem Bv{α β:Type}{R S:α->β->Prop}:∀{l:List α}{m:List β},F2 R l m->(∀a b,R a b->S a b)->F2 S l m
 |_,_,.nil,_=>.nil
 |_,_,.cons h1 h2,hs=>.cons (hs _ _ h1) (Bv h2 hs)
theorem KJ:∀{ps ps':List (Nat×AV)}{parts:List (Nat×Value)}{g:G}{h h':List Ob},Inv P Γ N g h w->F2 (fun(p:Nat×AV) (q:Nat×Value)=>p.1=q.1/\V g h p.2 q.2) ps parts->nU h ps=some (ps',h')->
 ∃g',Inv P Γ N g' h' w/\h'.length=h.length/\Ext h.length g h g' h'/\F2 (fun(p:Nat×AV) (q:Nat×Value)=>p.1=q.1/\V g' h' p.2 q.2) ps' parts
 |[],ps',parts,g,h,h',H,hf,hp=>by
  cases hf
  simp only[nU,ak,bT]at hp;obtain⟨rfl,rfl⟩:=hp;exact⟨g,H,rfl,Ext.refl _ _ _,.nil⟩
 |(i,v)::ps,ps',parts,g,h,h',H,hf,hp=>by
  cases hf with
  |cons hq hf=>
   rename_i q parts;simp only[nU]at hp
   split at hp
   ·rename_i v' hv'
    split at hp
    ·rename_i ps2 h2 hp2;simp only[ak,bT]at hp;obtain⟨rfl,rfl⟩:=hp;obtain⟨g1,_,_,_,H1,hE1,hC1⟩:=nP (rowsOf v) H;have hv1:=r9 H hE1 hC1 hq.2 hv';obtain⟨g2,H2,hl2,hE2,hF2⟩:=KJ H1 (Bv hf fun a b hab=>⟨hab.1,fN hE1 (kX hab.2) hab.2⟩) hp2;rw[kF]at hl2 hE2;refine⟨g2,H2,hl2,hE1.trans hE2,.cons ⟨hq.1,?_⟩ hF2⟩;have:=kX hv1;rw[kF]at this;exact fN hE2 this hv1
    ·simp at hp
   ·simp at hp
theorem D4{k:Nat}:∀{ps:List (Nat×AV)}{parts:List (Nat×Value)}{es es':List AV}{zs:Array Value},F2 (fun(p:Nat×AV) (q:Nat×Value)=>p.1=q.1/\V g h p.2 q.2) ps parts->nq k es ps=some es'->
 dQ k es->VE g h es zs.toList->∃us,Instr.fill (fun i=>some (i*k,k)) zs parts=some us/\VE g h es' us.toList/\dQ k es'/\es'.length=es.length
 |[],parts,es,es',zs,hf,hp,hk,hv=>by
  cases hf
  simp only[nq,ak]at hp;subst hp;exact⟨zs,rfl,hv,hk,rfl⟩
 |(i,v)::ps,parts,es,es',zs,hf,hp,hk,hv=>by
  cases hf with
  |cons hq hf=>
   rename_i q parts;obtain⟨j,u⟩:=q;obtain⟨hij,hu⟩:=hq;simp only at hij hu;subst hij;simp only[nq]at hp
   split at hp
   ·rename_i hc;obtain⟨hil,hvk,hvo⟩:=hc;have hcells:=o8 (p9 hvo) hu;have hul:=fK hcells
    have hu1:u.cells.toList.length=k:=by rw[hul,hvk]
    have hzl:=ig hk hv
    have hzs:zs.size=es.length*k:=by simpa using hzl
    have hik:i*k+k<=es.length*k:=by
     have:i*k+k=(i+1)*k:=by rw[fH,Nat.one_mul]
     rw[this];exact ll _ (by omega)
    have hset:=Gz hk hv hil hu hu1;have hfold:=EZ (i*k) u.cells.toList 0 zs (by rw[hzs];omega)
    have hzip:u.cells.zipIdx.foldl (fun cs (x:Value×Nat)=>cs.setIfInBounds (i*k+x.2) x.1) zs=(u.cells.toList.zipIdx 0).foldl (fun cs (x:Value×Nat)=>cs.setIfInBounds (i*k+x.2) x.1) zs:=by
     rw[<-Dt,Array.toList_zipIdx]
    obtain⟨us,h1,h2,h3,h4⟩:=D4 (zs:=u.cells.zipIdx.foldl (fun cs (x:Value×Nat)=>cs.setIfInBounds (i*k+x.2) x.1) zs) hf hp (by
     intro e he
     rcases oA he with he|rfl
     ·exact hk e he
     ·exact⟨hvk,hvo⟩) (by
     rw[hzip,hfold,ic]
     exact hset)
    refine⟨us,?_,h2,h3,by rw[h4,jn]⟩;simp only[Instr.fill]
    have hus:u.cells.size=k:=by simpa using hu1
    rw[if_neg (by simp only[fa,bj,ne_eq,not_or,Jp];omega)];exact h1
   ·simp at hp
theorem Inv.imm(H:Inv P Γ N g h w)(c:Array Value)(E:TypeId):∃g',g'.ρ=g.ρ/\g'.MM=g.MM/\(∀b o v,g.M b o=some v->g'.M b o=some v)/\Inv P Γ N g' h (w.alloc (.cells c E))/\Ext h.length g h g' h/\
 ∀j v,c[j]? =some v->g'.M w.heap.size j=some v:=by
 let g':G:={g with M:=fun b o=>if b=w.heap.size then c[o]? else g.M b o}
 have hM:∀b o v,g.M b o=some v->g'.M b o=some v:=by
  intro b o v hv;have:b<w.heap.size:=vo (H.mem b o v hv);simp only[g'];rw[if_neg (by omega)];exact hv
 have hE:Ext h.length g h g' h:=⟨hM,fun b x hx=>hx,fun j vs _ hj=>⟨⟨_,hj⟩,fun x hx=>hx⟩,fun j es fl _ hj=>⟨⟨_,_,hj⟩,fun x hx=>hx⟩,
  fun j es fl _ hj=>⟨⟨_,_,hj⟩,fun x hx=>hx⟩,fun j st q fn t ps a b _ hj=>⟨⟨_,_,hj⟩,fun x hx=>hx⟩,fun j l _ hj=>⟨⟨_,hj⟩,fun x hx=>hx⟩,
  fun j k E es gr fl sh _ hj=>⟨_,_,_,_,_,hj,aT _,fun _ _ _ hk=>⟨hk,rfl,fun x hx=>hx⟩⟩⟩
 have hw:∀b,b<w.heap.size->(w.alloc (.cells c E)).heap[b]? =w.heap[b]? :=w8 _ _
 have hltk:∀{b B},w.heap[b]? =some B->b<w.heap.size:=fun{b B} hb=>(Array.getElem?_eq_some_iff.1 hb).1
 refine⟨g',rfl,rfl,hM,?_,hE,?_⟩
 ·refine⟨H.os,H.tape,H.output,fun b o hb=>by rw[hw b (hltk (H.gu b o hb))];exact H.gu b o hb,fun i b x hi=>⟨(H.own i b x hi).1,by have:=(H.own i b x hi).2;simp;omega⟩,H.inj,H.ot,?_,?_,?_,?_,?_,?_,H.jk⟩
  ·intro b o v hv;simp only[g']at hv
   split at hv
   ·rename_i hb;subst hb;have:=cell_of_row (w.alloc (.cells c E)) w.heap.size o c E (0,0) (lx _ _)
    rw[this];exact hv
   ·have h0:=H.mem b o v hv;rw[tA (hw b (vo h0))];exact h0
  ·intro b es ck hb;obtain⟨h1,h2⟩:=H.mm b es ck hb;exact⟨by rw[hw b (hltk h1)];exact h1,h2⟩
  ·intro i b sz st o v hi hv;simp only[g']at hv
   split at hv
   ·rename_i hb;have:=(H.own i b _ hi).2;omega
   ·exact H.eo i b sz st o v hi hv
  ·intro i q hi;exact m8 hE rfl (fun b y hb=>hw b (H.own i b y hb).2) (H.ob i q hi)
  ·intro n a hn;obtain⟨h1,vs,h2,h3⟩:=H.kZ n a hn;exact⟨h1,vs,cA hE (dm h2) h2,fun j hj=>hM _ _ _ (h3 j hj)⟩
  ·intro b o v B hv hB;simp only[g']at hv
   split at hv
   ·rename_i hb;have:=hltk (H.gu b B hB);omega
   ·exact H.mK b o v B hv hB
 ·intro j v hv;simp only[g',cy];exact hv
theorem ae0(H:Inv P Γ N g h w){ty e:TypeId}{n:Nat}{ps:Array (Nat×Operand)}(ho:o.op=.buildSlice ty n ps)(hu:P.underlying ty=some (.slice e)){k:Nat}(hk:bz P e=some k)(hk0:0<k)
 {z:AV}(hz:dM P e=some z)(hzo:kp k z=true)(hnk:n*k<=2^24)(he:∀x,V g h (ax t (au x)) (r x)){ps':List (Nat×AV)}{h':List Ob}
 (hp:nU h ((ps.toList.map fun q=>(q.1,au q.2)).map fun q=>(q.1,ax t q.2))=some (ps',h')){es:List AV}(hf:nq k (List.replicate n z) ps'=some es)(hok:cq es k=true):
 aJ P Γ N r o w g h h' (some (.list true k es)):=by
 obtain⟨zv,hzr,rfl⟩:=tS hz;simp only[kp,av,bj]at hzo;obtain⟨⟨hzk,hz1⟩,hzb⟩:=hzo;have hzk':=tL hzk
 have hF:F2 (fun(p:Nat×AV) (q:Nat×Value)=>p.1=q.1/\V g h p.2 q.2) ((ps.toList.map fun q=>(q.1,au q.2)).map fun q=>(q.1,ax t q.2)) (ps.map fun q=>(q.1,r q.2)).toList:=by
  rw[Array.toList_map,iz];generalize ps.toList=l
  induction l with
  |nil=>exact .nil
  |cons q l ih=>exact .cons ⟨rfl,he q.2⟩ ih
 obtain⟨g1,H1,hl1,hE1,hF1⟩:=KJ H hF hp;have hVE0:=tz (nb g1 h' zv) n;have hzl:=tK hzk' n
 let zs:Array Value:=(Array.range (n*k)).map fun i=>(if n*k=0 then#[]else zv.cells)[i%(if n*k=0 then#[]else zv.cells).size]!
 have hzs:zs.toList=(List.replicate n zv.cells.toList).flatten:=by
  simp only[zs]
  by_cases hnk0:n*k=0
  ·have:n=0:=by
    rcases Js.1 hnk0 with h1|h1
    ·exact h1
    ·omega
   simp[this]
  ·simp only[hnk0,db,hzk'];exact hzl
 obtain⟨us,h1,h2,h3,h4⟩:=D4 (zs:=zs) hF1 hf (jX (tg hzk hz1 hzb n)) (by rw[hzs];exact hVE0);obtain⟨g2,hρ2,hMM2,hM2,H2,hE2,hN2⟩:=Inv.imm H1 us e;rw[hl1]at hE2
 have hlen:es.length=n:=by rw[h4,pW]
 refine⟨g2,_,_,?_,H2,hE1.trans hE2,.slice (some ⟨w.heap.size,0,none⟩) n n,rfl,?_⟩
 ·have hrun:(Instr.buildSlice ty n (ps.map fun q=>(q.1,r q.2))).run P w=.ok (.slice (some ⟨w.heap.size,0,none⟩) n n) (w.alloc (.cells us e)):=by
   simp only[Instr.buildSlice,Sem.run_bind,run_underlying hu,Result.andThen_ok,iD hk];rw[if_neg (by omega)]
   by_cases hnk0:n*k=0
   ·have hzs0:zs=(Array.range (n*k)).map fun i=>(#[]:Array Value)[i%(#[]:Array Value).size]! :=by simp only[zs,hnk0,cy]
    rw[hzs0]at h1;rw[if_pos hnk0];simp only[Sem.run_bind,Sem.run_pure,Result.andThen_ok];rw[h1];simp[newRow]
   ·have hzs0:zs=(Array.range (n*k)).map fun i=>zv.cells[i%zv.cells.size]! :=by simp only[zs,hnk0,db]
    rw[hzs0]at h1;rw[if_neg hnk0];simp only[Sem.run_bind,hzr,Sem.run_pure,Result.andThen_ok];rw[h1];simp[newRow]
  simp only[execOp,ho];rw[Sem.run_bind,hrun];rfl
 ·simp only[V];refine⟨hok,some ⟨w.heap.size,0,none⟩,n,by rw[hlen],fun _=>hlen.symm,by omega,Or.inr ⟨w.heap.size,0,us.toList,rfl,fL hE2 (by have:=j4 h2;rwa[hl1]at this) h2,fun j hj=>?_⟩⟩;rw[iS];apply hN2;rw[<-vw,bm hj]
theorem acb{f:Bool}{k:Nat}{es:List AV}{a:Option Addr}{n cap l u s:Nat}(hv:V g h (.list f k es) (.slice a n cap))(hlu:l<=u)(hu:u<=es.length)(hk:k=s\/es=[]):
 V g h (.list true k ((es.take u).drop l)) (.slice (if u=l then a else a.map (·.add (l*s))) (u-l) (u-l)):=by
 simp only[V]at hv⊢;obtain⟨hok,a',cap',he,hf,hcap,h3⟩:=hv;simp only[Value.slice.injEq]at he;obtain⟨rfl,rfl,rfl⟩:=he
 have hln:((es.take u).drop l).length=u-l:=by simp;omega
 refine⟨oR hok (fun e he=>jT (jo he)),(if u=l then a else a.map (·.add (l*s))),u-l,by rw[hln],fun _=>hln.symm,by omega,?_⟩
 by_cases hul:u=l
 ·left;apply ku.1;omega
 ·right
  have hne:es≠[]:=by rintro rfl;simp at hu;omega
  rcases h3 with h3|⟨b,p,vs,rfl,h4,h5⟩
  ·exact absurd h3 hne
  ·have hks:k=s:=hk.resolve_right hne;subst hks;have hK:=jX hok;have h6:=uw (fun e he=>hK e (jT he)) (xt hK h4 u) l;refine⟨b,p+l*k,_,?_,h6,?_⟩
   ·rw[if_neg hul];simp[kJ]
   ·intro j hj;rw[List.getElem_drop,ox,nF];exact h5 _ _
theorem ZX(H:Inv P Γ N g h w){ty e:TypeId}{x hi mx:Operand}{lo:Option Operand}(ho:o.op=.slice ty x lo (some hi) (some mx))(hu:P.underlying ty=some (.slice e)){s:Nat}(hs:bz P e=some s)
 {a:AV}(hx:V g h a (r x)){f:Bool}{k:Nat}{es:List AV}(hv:view h a=some (.list f k es))(he:∀x,V g h (ax t (au x)) (r x)){l u:Nat}(hl:bound t 0 (lo.map au)=some l)
 (hh:bound t 0 (some (au hi))=some u)(hm:bound t 0 (some (au mx))=some u)(hlu:l<=u/\u<=es.length/\(k=s\/es=[])):
 aJ P Γ N r o w g h (share (rowsOf a) h) (some (.list true k ((es.take u).drop l))):=by
 obtain⟨g1,_,_,_,H1,hE1,hC1⟩:=nP (rowsOf a) H;have hv1:=r9 H hE1 hC1 hx hv;have hv0:=hv1;simp only[V]at hv0;obtain⟨_,ad,cap,hrx,_,hcap,_⟩:=hv0;rw[hrx]at hv1;refine⟨g1,w,_,?_,H1,hE1,_,rfl,acb hv1 hlu.1 hlu.2.1 hlu.2.2⟩;have b1:=oO (r:=r) (x:=lo) hl he;have b2:=oO (r:=r) (x:=some hi) hh he;have b3:=oO (r:=r) (x:=some mx) hm he;simp only[dv]at b2 b3;obtain⟨k2,h2⟩:=b2;obtain⟨k3,h3⟩:=b3
 have hb:(Instr.sliceBounds true es.length cap (lo.map r) (some (.int k2 u)) (some (.int k3 u))).run P w=.ok (l,u,u) w:=by
  cases lo with
  |none=>
   simp only[sO]at b1⊢;subst b1;simp only[Instr.sliceBounds,Sem.run_bind];rw[run_sliceBound w k3 u cap _ (by omega) (by omega)];simp only[Result.andThen_ok,gb];rw[run_sliceBound w k2 u u _ (by omega) (by omega)];simp
  |some lo=>
   simp only[dv]at b1⊢;obtain⟨k1,h1⟩:=b1;rw[h1];simp only[Instr.sliceBounds,Sem.run_bind];rw[run_sliceBound w k3 u cap _ (by omega) (by omega)];simp only[Result.andThen_ok,gb];rw[run_sliceBound w k2 u u _ (by omega) (by omega)];simp only[Result.andThen_ok,gb];rw[run_sliceBound w k1 l u _ (by omega) (by omega)];simp
 simp[execOp,ho,hrx,h2,h3,Instr.sliceAt,Instr.slice,run_underlying hu,iD hs,hb]
theorem Xg{α:Type}{l:List α}{i:Nat}{a:α}(hi:l[i]? =some a):l.set i a=l:=by
 apply jq;intro n;rw[nH]
 by_cases hn:i=n
 ·subst hn;rw[if_pos rfl,if_pos (aZ hi),hi]
 ·simp[hn]
theorem ado(H:Inv P Γ N g h w){s d e:TypeId}{x:Operand}(ho:o.op=.convert s d x)(hsd:s=d)(hs:P.underlying s=some (.slice e))(he:P.underlying e=some (.int .u8))
 {i n k:Nat}{E:TypeId}{es:List AV}{fl sh:Bool}(hi:h[i]? =some (.row k E es none fl sh))(hne:n=es.length)(hx:V g h (.sl i 0 n) (r x))(hn:n≠0):aJ P Γ N r o w g h h (some (.sl i 0 n)):=by
 subst hsd;have hx0:=hx;simp only[V]at hx;obtain⟨k',E',es',gr,fl',sh',hi',hle,ad,cap,hrx,hcap,hbn,hq⟩:=hx;rw[hi]at hi';simp only[ak,Ob.row.injEq]at hi';obtain⟨rfl,rfl,rfl,rfl,rfl,rfl⟩:=hi'
 rcases(hq (by simp[cH,hne])).2 with⟨h0,_⟩|⟨b,sz,st,hρ,hst,rfl,hcs⟩
 ·exact absurd h0 hn
 have hil:=aZ hi;have hob:=H.ob i _ hi;simp only[OV]at hob;rw[hρ]at hob;simp only at hob;obtain⟨hk0,hK,hfl,hgl,hst',c,Eb,fz,vs,hw,hsz,hfree,hVE,hcells⟩:=hob;have hlt:b<w.heap.size:=(H.own i b _ hρ).2
 have hblk:(w.freeze ⟨b,c.size,none⟩ 1).heap[b]? =some (.cells c Eb (if fz.1==fz.2 then(c.size,c.size+1)else(min fz.1 c.size,max fz.2 (c.size+1)))):=by
  simp only[World.freeze,Nat.one_ne_zero,db,Array.getElem?_modify,cy,hw,dv]
 have hoth:∀b',b'≠b->(w.freeze ⟨b,c.size,none⟩ 1).heap[b']? =w.heap[b']? :=by
  intro b' hb';simp only[World.freeze,Nat.one_ne_zero,db,Array.getElem?_modify];rw[if_neg (by omega)]
 have hfree':mI c (if fz.1==fz.2 then(c.size,c.size+1)else(min fz.1 c.size,max fz.2 (c.size+1))):=by
  rcases hfree with hf|hf
  ·simp[hf];exact Or.inr (aT _)
  ·split
   ·exact Or.inr (aT _)
   ·exact Or.inr (by simp;omega)
 have hsame:=Xg hi;refine⟨g,w.freeze ⟨b,c.size,none⟩ 1,.value (r x),?_,?_,Ext.refl _ _ _,r x,rfl,hx0⟩
 ·have hshape:w.shape? b=some (Eb,c.size):=by simp[World.shape?,hw]
  simp[execOp,ho,hrx,convert,run_underlying hs,run_underlying he,markStringish,hshape]
 ·have:=Inv.set (r:=g.ρ i) (w':=w.freeze ⟨b,c.size,none⟩ 1) H (o':=.row k E es none fl sh) hil (by rw[cY,hsame];exact Ext.refl _ _ _) rfl rfl rfl
   (fun b' _ hne=>hoth b' (fun e=>hne (sz,st) (by rw[e];exact hρ))) (by simp[World.freeze]) (fun b' y hy=>⟨Or.inl ⟨y,hy⟩,by simp[World.freeze];exact(H.own i b' y hy).2⟩)
   (by
    intro b' y q v hy hv;rw[hρ]at hy;simp only[ak,bT]at hy;obtain⟨rfl,_⟩:=hy;have h0:=H.mem b q v hv;rw[cell_of_row w b q c Eb fz hw]at h0
    rw[cell_of_row _ b q c Eb _ hblk,h0])
   (by
    intro b' sz' st' q v hy hv;obtain⟨k3,E3,es3,gr3,fl3,h5,h6⟩:=H.eo i b' sz' st' q v hy hv;rw[hi]at h5;simp only[ak,Ob.row.injEq]at h5;obtain⟨rfl,rfl,rfl,rfl,rfl,rfl⟩:=h5
    exact⟨_,_,_,_,_,rfl,h6⟩)
   (by
    rw[cY,hsame];simp only[OV];refine⟨hk0,hK,hfl,hgl,?_⟩;rw[hρ]
    exact⟨hst',c,Eb,_,vs,hblk,hsz,hfree',hVE,hcells⟩)
  rwa[cY,hsame]at this
end
def DR(g:G)(h:List Ob):dt->Deferred->Prop
 |.call f args,d=>∃cap,d.target=.fn (.func f) cap/\VL g h args (d.args++cap).toList
 |.mark i,d=>(∃l,h[i]? =some (.bA l))/\∃b sz,g.ρ i=some (b,sz,0)/\d={target:=.collected b,args:=#[]}
section
variable{P:Program}{Γ:Nat->Option AV}{N:Env}{g:G}{h:List Ob}{w:World}{a:Act}{o:Oper}{t:List AV}
theorem Aa{f:FuncId}(hb:ar P f=true)(args:Array Value)(w:World):(callFunc f args).run P w=.ok (.enter f args) w:=by
 unfold ar at hb
 split at hb
 ·rename_i fn hf;simp only[av,bne_iff_ne,ne_eq]at hb
  have h1:(fn.name== "runtime.NumGoroutine")=false:=by simpa using hb.2
  have h2:fn.body.isNone=false:=by cases hb2:fn.body<;>simp_all
  simp only[callFunc,Sem.run_bind,run_program,Result.andThen_ok,hf,h1,h2,ec,db];rfl
 ·simp at hb
theorem Ev{ty:TypeId}{f f':FuncId}{ptr:Bool}{q:Option (Bool×Nat)}(hc:BT P ty f ptr=some (f',q)):f'=f/\∃d,P.underlying ty=some d/\(∀ms,d≠.interface ms)/\
 ((∃e,d=.pointer e/\((ptr=true/\q=none)\/(ptr=false/\∃a s,fW P e=some a/\bz P e=some s/\q=some (a,s))))\/((∀e,d≠.pointer e)/\ptr=false/\q=none)):=by
 unfold BT at hc
 cases hu:P.underlying ty with
 |none=>simp[hu]at hc
 |some d=>
  rw[hu]at hc
  cases d<;>simp only[reduceCtorEq]at hc
  case pointer e=>
   cases ptr
   ·simp only[ec,db]at hc
    split at hc
    ·rename_i a s h1 h2;simp only[ak,bT]at hc;exact⟨hc.1.symm,_,rfl,by simp,Or.inl ⟨e,rfl,Or.inr ⟨rfl,a,s,h1,h2,hc.2.symm⟩⟩⟩
    ·simp at hc
   ·simp only[cy,ak,bT]at hc;exact⟨hc.1.symm,_,rfl,by simp,Or.inl ⟨e,rfl,Or.inl ⟨rfl,hc.2.symm⟩⟩⟩
  all_goals
   cases ptr
   ·simp only[ec,db,ak,bT]at hc;exact⟨hc.1.symm,_,rfl,by simp,Or.inr ⟨by simp,rfl,hc.2.symm⟩⟩
   ·simp at hc
theorem Lh{ty:TypeId}{name:String}{f:FuncId}{q:Option (Bool×Nat)}(hc:mw P ty name=some (f,q)):∃i m ptr,P.info? ty=some i/\i.methods.find? (·.name==name)=some m/\m.func=some (f,ptr)/\m.path.toList=[]/\
 BT P ty f ptr=some (f,q):=by
 unfold mw at hc
 cases hi:P.info? ty with
 |none=>simp[hi]at hc
 |some i=>
  rw[hi]at hc;simp only at hc
  cases hm:i.methods.find? (·.name==name)with
  |none=>simp[hm]at hc
  |some m=>
   rw[hm]at hc;simp only at hc
   cases hf:m.func with
   |none=>simp[hf]at hc
   |some fp=>
    obtain⟨f',ptr⟩:=fp;rw[hf]at hc;simp only at hc
    by_cases hp:m.path.isEmpty=true
    ·rw[if_pos hp]at hc;have hff:=(Ev hc).1;subst hff;exact⟨i,m,ptr,rfl,hm,hf,by simpa using hp,hc⟩
    ·rw[if_neg hp]at hc
     cases hc
theorem Ap{ty:TypeId}{name:String}{v:AV}{args:List AV}{res:R}(hc:nn P Γ h ty name v args=res):res=.bad\/∃f q,mw P ty name=some (f,q)/\
 ((q=none/\res=.call f (v::args))\/∃agg sz i o x,q=some (agg,sz)/\v=.ptr i o/\pw Γ h agg sz (.ptr i o)=some x/\res=.call f (x::args)):=by
 unfold nn at hc
 split at hc
 ·rename_i f h1;exact Or.inr ⟨f,none,h1,Or.inl ⟨rfl,hc.symm⟩⟩
 ·rename_i f agg sz h1
  split at hc
  ·rename_i i o
   split at hc
   ·rename_i x hx;exact Or.inr ⟨f,_,h1,Or.inr ⟨agg,sz,i,o,x,rfl,rfl,hx,hc.symm⟩⟩
   ·exact Or.inl hc.symm
  ·exact Or.inl hc.symm
 ·exact Or.inl hc.symm
theorem KA(H:Inv P Γ N g h w){ty:TypeId}{name:String}{v:AV}{args:List AV}{f:FuncId}{bs:List AV}(hc:nn P Γ h ty name v args=.call f bs)(hb:ar P f=true){u:Value}{us:List Value}(hv:V g h v u)(ha:VL g h args us):
 ∃xs,(callMethod (.iface ty u) name us.toArray).run P w=.ok (.enter f xs.toArray) w/\VL g h bs xs:=by
 rcases Ap hc with h0|⟨f',q,hcm,hq⟩
 ·cases h0
 obtain⟨i,m,ptr,hi,hm,hf,hp,hr⟩:=Lh hcm;obtain⟨_,d,hu,_,hd⟩:=Ev hr
 have hpe:m.path.isEmpty=true:=by simpa using hp
 have hfuel:P.types.size+Made.depth=(P.types.size+99)+1:=rfl
 have hdone:∀(x:Value)(y:AV),(receiverAt ty (.val u) ptr (some ((name.splitOn ".").getLastD name))).run P w=.ok x w->f'=f->bs=y::args->V g h y x->
  ∃xs,(callMethod (.iface ty u) name us.toArray).run P w=.ok (.enter f xs.toArray) w/\VL g h bs xs:=by
  intro x y hx hff hbs hy;subst hff;refine⟨x::us,?_,?_⟩
  ·simp only[callMethod,Sem.run_bind,run_program,Result.andThen_ok];rw[hfuel,method];simp only[Sem.run_bind,typeInfo,run_program,Result.andThen_ok,hi,Sem.run_pure,hm,hp,follow,hf,hpe,cy,hx];rw[Aa hb];congr 2;apply ia;simp
  ·rw[hbs];simp only[VL];exact⟨x,us,rfl,hy,ha⟩
 rcases hd with⟨e,rfl,hd|⟨rfl,agg',s',hag,hsz,hqs⟩⟩|⟨hne,rfl,rfl⟩
 ·obtain⟨rfl,rfl⟩:=hd
  rcases hq with⟨_,hq⟩|⟨_,_,_,_,_,hq,_⟩
  ·simp only[R.call.injEq]at hq;refine hdone u v ?_ hq.1.symm hq.2 hv;simp[receiverAt,run_underlying hu,Place.get]
  ·cases hq
 ·rcases hq with⟨hq,_⟩|⟨agg,sz,i',o',x,hq,rfl,hx,hq2⟩
  ·rw[hq]at hqs;cases hqs
  ·rw[hq]at hqs;simp only[ak,bT]at hqs;obtain⟨rfl,rfl⟩:=hqs;simp only[R.call.injEq]at hq2;obtain⟨ad,y,hu1,hu2,hu3⟩:=Ef H hag hsz hv hx;refine hdone y x ?_ hq2.1.symm hq2.2 hu3;subst hu1;have hss:(Builtin.ssaWrapNilChk_ #[ty] ty #[.pointer (some ad),strVal "",strVal ((name.splitOn ".").getLastD name)]).run P w=.ok (.pointer (some ad)) w:=rfl;have has:(asAddr (.pointer (some ad))).run P w=.ok ad w:=rfl;simp only[receiverAt,Sem.run_bind,run_underlying hu,Place.get,Sem.run_pure,Result.andThen_ok];simp only[hss,Result.andThen_ok,has,hu2]
 ·rcases hq with⟨_,hq⟩|⟨_,_,_,_,_,hq,_⟩
  ·simp only[R.call.injEq]at hq;refine hdone u v ?_ hq.1.symm hq.2 hv
   cases d<;>first
    |exact absurd rfl (hne _)
    |simp[receiverAt,run_underlying hu,Place.get]
  ·cases hq
def eZ(P:Program)(Γ:Nat->Option AV)(N:Env)(g:G)(h:List Ob)(w:World)(r:Operand->Value)(o:Oper):R->Prop
 |.val v h'=>aJ P Γ N r o w g h h' (some v)
 |.skip h'=>aJ P Γ N r o w g h h' none
 |.da v=>∃u,(execOp r o).run P w=.halt (.panic u) w/\V g h v u
 |.call f args=>ar P f=true->∃us,(execOp r o).run P w=.ok (.enter f us.toArray) w/\VL g h args us
 |.qM=>(execOp r o).run P w=.ok .recover w
 |.bA f args=>∃d,(execOp r o).run P w=.ok (.defer d) w/\DR g h (.call f args) d
 |.yield l args=>∃b us,(execOp r o).run P w=(Instr.yield b us.toArray).run P w/\V g h (.cR l) (.func (.yield b) #[] #[])/\VL g h args us
 |.either=>∃c:Bool,aJ P Γ N r o w g h h (some (.bool c))
 |.bad=>True
theorem Gv(he:∀x,V g h (ax t (au x)) (a.eval x))(xs:Array Operand):VL g h ((xs.toList.map au).map (ax t)) (xs.toList.map a.eval):=by
 rw[iz];exact pa he _
theorem ZA(H:Inv P Γ N g h w)(he:∀x,V g h (ax t (au x)) (a.eval x)){f:Operand}{xs:Array Operand}{ts:Array TypeId}(ho:o.op=.call ⟨.value f,xs,ts⟩):
 eZ P Γ N g h w a.eval o (ay P Γ t h (.call (au f) (xs.toList.map au))):=by
 have hf:=he f;have hxs:=Gv he xs;simp only[ay]
 split
 ·
  rename_i n fs cs hv;rw[hv]at hf;simp only[V]at hf;obtain⟨us,vs,hfe,h1,h2⟩:=hf;intro hb;refine⟨us++xs.toList.map a.eval++vs,?_,kH (kH h1 hxs) h2⟩;simp only[execOp,ho,resolve,Sem.run_bind,hfe,Deferred.ofValue,Sem.run_pure,Result.andThen_ok,invoke,Aa hb];congr 2;apply ia;simp
 ·
  rename_i ty name fs cs hv;rw[hv]at hf;simp only[V]at hf;obtain⟨us,vs,hfe,h1,h2⟩:=hf
  split
  ·rename_i qM as hsp;have h3:=kH h1 hxs;rw[hsp]at h3;simp only[VL]at h3;obtain⟨u,us',h4,h5,h6⟩:=h3
   cases hcm:nn P Γ h ty name qM as<;>simp only[eZ]
   case call f' bs=>
    intro hb;obtain⟨ys,h7,h8⟩:=KA H hcm hb h5 h6;refine⟨ys,?_,h8⟩
    have hd:∃d,P.underlying ty=some d/\∀ms,d≠.interface ms:=by
     rcases Ap hcm with h0|⟨f2,q,hcm2,_⟩
     ·cases h0
     obtain⟨_,_,_,_,_,_,_,hr⟩:=Lh hcm2;obtain⟨_,d,hu,hne,_⟩:=Ev hr;exact⟨d,hu,hne⟩
    obtain⟨d,hd,hne⟩:=hd
    have hargs:us.toArray++xs.map a.eval=(u::us').toArray:=by
     apply ia;simpa using h4
    simp only[execOp,ho,resolve,Sem.run_bind,hfe,Deferred.ofValue,Sem.run_pure,Result.andThen_ok,invoke,hargs,oB,pU,run_underlying hd]
    have hex:(u::us').toArray.extract 1 (u::us').toArray.size=us'.toArray:=by apply ia;simp
    rw[hex]
    cases d<;>first
     |exact absurd rfl (hne _)
     |exact h7
   all_goals (rcases Ap hcm with h0|⟨_,_,_,⟨_,h0⟩|⟨_,_,_,_,_,_,_,_,h0⟩⟩<;>first|cases h0|trivial)
  ·trivial
 ·rename_i l hv;rw[hv]at hf;have hf0:=hf;simp only[V]at hf;obtain⟨hl,b,sz,hρ,hfe⟩:=hf;refine⟨b,xs.toList.map a.eval,?_,by rw[hfe]at hf0;exact hf0,hxs⟩;simp only[execOp,ho,resolve,Sem.run_bind,hfe,Deferred.ofValue,Sem.run_pure,Result.andThen_ok,invoke];congr 2;apply ia;simp
 ·trivial
theorem Xc(H:Inv P Γ N g h w)(he:∀x,V g h (ax t (au x)) (a.eval x)){x:Operand}{name:String}{xs:Array Operand}{ts:Array TypeId}(ho:o.op=.call ⟨.invoke x name,xs,ts⟩):
 eZ P Γ N g h w a.eval o (ay P Γ t h (.invoke (au x) name (xs.toList.map au))):=by
 have hx:=he x;have hxs:=Gv he xs;simp only[ay]
 split
 ·rename_i ty v hv;rw[hv]at hx;simp only[V]at hx;obtain⟨u,hxe,hvu⟩:=hx
  cases hcm:nn P Γ h ty name v ((xs.toList.map au).map (ax t))<;>simp only[eZ]
  case call f' bs=>
   intro hb;obtain⟨ys,h7,h8⟩:=KA H hcm hb hvu hxs;refine⟨ys,?_,h8⟩
   have hargs:#[a.eval x]++xs.map a.eval=(a.eval x::xs.toList.map a.eval).toArray:=by
    apply ia;simp
   have hex:(a.eval x::xs.toList.map a.eval).toArray.extract 1 (a.eval x::xs.toList.map a.eval).toArray.size=(xs.toList.map a.eval).toArray:=by apply ia;simp;rw[bR (by simp)]
   simp only[execOp,ho,resolve,Sem.run_bind,Sem.run_pure,Result.andThen_ok,invoke,hargs,oB,pU,hex];rw[hxe];exact h7
  all_goals (rcases Ap hcm with h0|⟨_,_,_,⟨_,h0⟩|⟨_,_,_,_,_,_,_,_,h0⟩⟩<;>first|cases h0|trivial)
 ·trivial
end
section
variable{P:Program}{Γ:Nat->Option AV}{N:Env}{g:G}{h:List Ob}{w:World}{a:Act}{o:Oper}{t:List AV}
theorem F4{k:Nat}{z:AV}(h:kp k z=true):z.cells.length=k/\b9 z.cells=true/\aK 0 z.cells=true:=by
 simp only[kp,av,bj]at h;exact⟨h.1.1,h.1.2,h.2⟩
theorem Aw{t e:TypeId}(h:kT P t=some e):P.underlying t=some (.slice e):=by
 unfold kT at h
 split at h
 ·rename_i e' hu;simp only[ak]at h;subst h;exact hu
 ·simp at h
theorem J_{k b:Nat}{E:TypeId}{x:AV}{ys:List AV}{fl:Bool}{res:R}(hres:gK h k E b x ys fl=res):res=.bad\/∃v h',res=.val v h':=by
 unfold gK at hres
 cases x<;>try (exact Or.inl hres.symm)
 case list f k' es=>
  cases f
  ·exact Or.inl hres.symm
  ·simp only at hres
   split at hres
   ·cases ys
    ·exact Or.inr ⟨_,_,hres.symm⟩
    ·exact Or.inr ⟨_,_,hres.symm⟩
   ·exact Or.inl hres.symm
 case sl i off n=>
  simp only at hres
  split at hres
  ·split at hres
   ·split at hres
    ·exact Or.inr ⟨_,_,hres.symm⟩
    ·split at hres
     ·exact Or.inr ⟨_,_,hres.symm⟩
     ·exact Or.inl hres.symm
   ·exact Or.inl hres.symm
  ·exact Or.inl hres.symm
theorem aaw(H:Inv P Γ N g h w)(he:∀x,V g h (ax t (au x)) (a.eval x)){x:Operand}{sT:TypeId}(ho:o.op=.call ⟨.builtin .clear,#[x],#[sT]⟩){ao:AO}
 (hc:mC P ⟨.builtin .clear,#[x],#[sT]⟩=some ao):eZ P Γ N g h w a.eval o (ay P Γ t h ao):=by
 simp only[mC]at hc
 cases hE:kT P sT with
 |none=>simp[hE]at hc
 |some e=>
  cases hK:bz P e with
  |none=>simp[hE,hK]at hc
  |some k=>
   cases hZ:dM P e with
   |none=>simp[hE,hK,hZ]at hc
   |some z=>
    by_cases h0:k=0\/kp k z=false
    ·simp[hE,hK,hZ,h0]at hc
    ·simp only[not_or,zo]at h0;obtain⟨hk0,hzo⟩:=h0;obtain⟨hz1,hz2,hz3⟩:=F4 hzo;have ht:=Aw hE;simp[hE,hK,hZ,hk0,hzo]at hc;subst hc;have hx:=he x;simp only[ay]
     split
     ·rename_i i off n hxe
      split
      ·rename_i k' E es fl hi
       split
       ·rename_i hcc;obtain⟨rfl,hle⟩:=hcc;rw[hxe]at hx;exact abY H ho ht hK (by omega) hZ hz1 hz2 hz3 hx hi hle
       ·trivial
      ·trivial
     ·trivial
theorem Zl(H:Inv P Γ N g h w)(he:∀x,V g h (ax t (au x)) (a.eval x)){x y:Operand}{sT u:TypeId}(ho:o.op=.call ⟨.builtin .append,#[x,y],#[sT,u]⟩){ao:AO}
 (hc:mC P ⟨.builtin .append,#[x,y],#[sT,u]⟩=some ao):eZ P Γ N g h w a.eval o (ay P Γ t h ao):=by
 simp only[mC]at hc
 cases hE:kT P sT with
 |none=>simp[hE]at hc
 |some e=>
  cases hK:bz P e with
  |none=>simp[hE,hK]at hc
  |some k=>
   cases hB:lE P e with
   |none=>simp[hE,hK,hB]at hc
   |some b=>
    cases hZ:dM P e with
    |none=>simp[hE,hK,hB,hZ]at hc
    |some z=>
     by_cases h0:k=0\/b=0\/kp k z=false
     ·simp[hE,hK,hB,hZ,h0]at hc
     ·simp only[not_or,zo]at h0;obtain⟨hk0,hb0,hzo⟩:=h0;obtain⟨hz1,hz2,hz3⟩:=F4 hzo;have ht:=Aw hE
      cases hU:P.underlying u with
      |none=>simp[hE,hU]at hc
      |some d=>
       by_cases hd:∃j,d=.int j
       ·obtain⟨j,rfl⟩:=hd;simp[hE,hK,hB,hZ,hk0,hb0,hzo,hU]at hc;subst hc;simp only[ay]
        split
        ·rename_i i m hm
         split
         ·rename_i hmm;have hy:=he y;rw[hm]at hy
          have hr:∀{res:R},gK h k e b (ax t (au x)) (List.replicate m.toNat z) true=res->eZ P Γ N g h w a.eval o res:=by
           intro res hres
           rcases J_ hres with rfl|⟨v,h',rfl⟩
           ·trivial
           have hmB:m*b<=2^48:=by
            have h2:(m.toNat*b:Nat)<=2^47:=by
             unfold gK at hres
             split at hres
             ·split at hres
              ·rename_i hc2;have:=hc2.1;rw[pW]at this;exact qY (ll _ (Nat.le_add_left _ _)) this
              ·cases hres
             ·split at hres
              ·split at hres
               ·rename_i hc2;have:=hc2.2.2.2;rw[pW]at this;exact qY (ll _ (Nat.le_add_left _ _)) this
               ·cases hres
              ·cases hres
             ·cases hres
            have h3:m=(m.toNat:Int):=by omega
            rw[h3];have h4:((m.toNat*b:Nat):Int)<=((2^47:Nat):Int):=Int.ofNat_le.2 h2;simp only[Int.natCast_mul]at h4
            have h5:((2^47:Nat):Int)<=2^48:=by decide
            omega
           exact YS H ho ht hK (by omega) hB hb0 hZ hz1 hz2 hz3 hU (he x) (dW hy) hmm.1 hmm.2 hmB hres
          exact hr rfl
         ·trivial
        ·trivial
       ·have hd':∀j,d≠.int j:=fun j hj=>hd ⟨j,hj⟩
        have hao:ao=.append k e b (au x) (au y):=by
         cases d<;>first
          |exact absurd rfl (hd' _)
          |(simp[hE,hK,hB,hZ,hk0,hb0,hzo,hU]at hc;exact hc.symm)
        subst hao
        have hr:∀{ys:List AV}{fl:Bool}{res:R}{k2:Nat},gK h k2 e b (ax t (au x)) ys fl=res->(∀v h',res=.val v h'->aJ P Γ N a.eval o w g h h' (some v))->eZ P Γ N g h w a.eval o res:=by
         intro ys fl res k2 hres hv
         rcases J_ hres with rfl|⟨v,h',rfl⟩
         ·trivial
         ·exact hv _ _ rfl
        have hy:=he y;simp only[ay]
        split
        ·rename_i f k' es hes
         split
         ·rename_i hkk;rw[hes]at hy
          exact hr rfl fun v h' hres=>E9 H ho ht hK (by omega) hB hb0 hZ hz1 hU hd' (he x) hy (Or.inl ⟨f,k',es,rfl,hkk,hres⟩)
         ·trivial
        ·rename_i i q n hes;rw[hes]at hy
         split
         ·rename_i k' es kr Er esr grr flr shr hte hi
          split
          ·rename_i hkk;subst hkk
           have hkr:kr=k':=by
            simp only[j0,hi]at hte
            split at hte
            ·simp only[ak,bT]at hte;exact hte.1
            ·simp at hte
           subst hkr
           exact hr rfl fun v h' hres=>E9 H ho ht hK (by omega) hB hb0 hZ hz1 hU hd' (he x) hy (Or.inr (Or.inl ⟨i,q,n,es,_,_,_,_,_,rfl,hte,hi,hres⟩))
          ·trivial
         ·trivial
        ·rename_i s hes;rw[hes]at hy
         split
         ·rename_i hk1;subst hk1
          exact hr rfl fun v h' hres=>E9 H ho ht hK (by omega) hB hb0 hZ hz1 hU hd' (he x) hy (Or.inr (Or.inr ⟨s,rfl,rfl,hres⟩))
         ·trivial
        ·trivial
theorem VB(d:Nat)(t e:TypeId)(a:Option Addr)(l c:Nat)(h:P.underlying t=some (.slice e))(w:World):(Op.equalIn (d+1) t (.slice a l c) (.slice none 0 0)).run P w=.ok a.isNone w:=by
 cases a<;>simp[Op.equalIn,run_underlying h]
theorem We(t e:TypeId)(a:Option Addr)(l c:Nat)(h:P.underlying t=some (.slice e))(w:World):(Op.equal t (.slice a l c) (.slice none 0 0)).run P w=.ok a.isNone w:=VB 9999 t e a l c h w
theorem LK(H:Inv P Γ N g h w)(he:∀x,V g h (ax t (au x)) (a.eval x)){x:Operand}{ty ty' e:TypeId}{neg:Bool}(ho:o.op=.binOp (if neg then .neq else .eql) ty x (.const (.slice none 0 0)) ty')
 (hu:P.underlying ty=some (.slice e)):eZ P Γ N g h w a.eval o (ay P Γ t h (.jI neg (au x))):=by
 have hx:=he x
 have hcase:∀{n:Nat},om (ax t (au x))=some n->∃ad cap,a.eval x=.slice ad n cap/\(0<n->∃b p,ad=some ⟨b,p,none⟩):=by
  intro n hn
  cases hv:ax t (au x)<;>simp only[hv,om,ak,reduceCtorEq]at hn
  ·rw[hv]at hx;simp only[V]at hx;obtain⟨_,ad,cap,h1,_,_,h3⟩:=hx;subst hn;refine⟨ad,cap,h1,fun hpos=>?_⟩
   rcases h3 with rfl|⟨b,p,_,rfl,_⟩
   ·simp at hpos
   ·exact⟨b,p,rfl⟩
  ·rw[hv]at hx;simp only[V]at hx;obtain⟨_,_,_,_,_,_,_,_,ad,cap,h1,_,h3,_⟩:=hx;subst hn;exact⟨ad,cap,h1,h3⟩
 have hrun:∀{ad:Option Addr}{n cap:Nat},a.eval x=.slice ad n cap->(execOp a.eval o).run P w=.ok (.value (.bool (if neg then !ad.isNone else ad.isNone))) w:=by
  intro ad n cap hxe;have hc0:a.eval (.const (.slice none 0 0))=.slice none 0 0:=rfl;have hq:=We (P:=P) ty e ad n cap hu w;simp only[execOp,ho,hc0,hxe]
  cases neg
  ·simp only[ec,db];rw[Sem.run_bind,Sem.run_bind,gh (by simp) (by simp)];simp only[Result.andThen_ok];rw[rH (by rfl) hq];rfl
  ·simp only[cy];rw[Sem.run_bind,Sem.run_bind,gh (by simp) (by simp)];simp only[Result.andThen_ok];rw[rG (by rfl) hq];rfl
 simp only[ay]
 split
 ·rename_i n hn;obtain⟨ad,cap,h1,h2⟩:=hcase hn;obtain⟨b,p,rfl⟩:=h2 (by omega);refine aJ.same H (hrun h1) ?_
  cases neg<;>simp[V]
 ·rename_i hn;obtain⟨ad,cap,h1,_⟩:=hcase hn;exact⟨_,aJ.same H (hrun h1) (by simp only[V];rfl)⟩
 ·trivial
theorem adF(H:Inv P Γ N g h w)(he:∀x,V g h (ax t (au x)) (a.eval x)){x:Operand}{ty:TypeId}(ho:o.op=.call ⟨.builtin .len,#[x],#[ty]⟩){ao:AO}(hc:mC P ⟨.builtin .len,#[x],#[ty]⟩=some ao):
 eZ P Γ N g h w a.eval o (ay P Γ t h ao):=by
 have hx:=he x;simp only[mC]at hc
 split at hc
 ·rename_i hu;simp only[ak]at hc;subst hc;simp only[ay]
  split
  ·rename_i s hs;rw[hs]at hx;exact xE H ho (Or.inl ⟨s,hu,jc hx,rfl⟩)
  ·trivial
 ·rename_i e hu;simp only[ak]at hc;subst hc;simp only[ay]
  split
  ·rename_i f k es hs;rw[hs]at hx;simp only[V]at hx;obtain⟨_,ad,cap,h1,_⟩:=hx;exact xE H ho (Or.inr (Or.inl ⟨e,ad,cap,hu,h1⟩))
  ·rename_i i q n hs;rw[hs]at hx;simp only[V]at hx;obtain⟨_,_,_,_,_,_,_,_,ad,cap,h1,_⟩:=hx;exact xE H ho (Or.inr (Or.inl ⟨e,ad,cap,hu,h1⟩))
  ·trivial
 ·rename_i n e hu;simp only[ak]at hc;subst hc;exact xE H ho (Or.inr (Or.inr (Or.inl ⟨e,hu⟩)))
 ·rename_i k e hu;simp only[ak]at hc;subst hc;simp only[ay]
  split
  ·rename_i hs;exact EV H ho hu hx (Or.inl ⟨hs,rfl⟩)
  ·rename_i ks vs hs;exact EV H ho hu hx (Or.inr (Or.inl ⟨ks,vs,hs,rfl⟩))
  ·rename_i j hs
   split
   ·rename_i es fl hj;exact EV H ho hu hx (Or.inr (Or.inr ⟨j,es,fl,hs,hj,rfl⟩))
   ·trivial
  ·trivial
 ·simp at hc
theorem wQ{c:Call}{b:Builtin}(hb:c.callee=.builtin b){xs:List Operand}{ts:List TypeId}(hx:c.args.toList=xs)(ht:c.argTypes.toList=ts):c=⟨.builtin b,xs.toArray,ts.toArray⟩:=by
 cases c
 simp only at hb hx ht;subst hb;congr 1
 ·apply ia;simpa using hx
 ·apply ia;simpa using ht
theorem Yc(H:Inv P Γ N g h w)(he:∀x,V g h (ax t (au x)) (a.eval x)){c:Call}(ho:o.op=.call c){b:Builtin}(hb:c.callee=.builtin b){ao:AO}(hc:mC P c=some ao):
 eZ P Γ N g h w a.eval o (ay P Γ t h ao):=by
 have hc0:=hc;simp only[mC,hb]at hc
 split at hc
 ·
  rename_i x ty hx ht;have hcc:=wQ hb hx ht;rw[hcc]at ho hc0;exact adF H he ho hc0
 ·
  rename_i x ty hx ht;have hcc:=wQ hb hx ht;rw[hcc]at ho
  split at hc
  ·rename_i e hu;simp only[ak]at hc;subst hc;have hv:=he x;simp only[ay]
   split
   ·rename_i k es hs;rw[hs]at hv;simp only[V]at hv;obtain⟨_,ad,cap,h1,h2,_⟩:=hv;have:=aeV H ho hu h1;rwa[h2 trivial]at this
   ·trivial
  ·simp at hc
 ·
  rename_i x y ty u hx ht;have hcc:=wQ hb hx ht;rw[hcc]at ho hc0;exact Zl H he ho hc0
 ·
  rename_i m k ty u hx ht;have hcc:=wQ hb hx ht;rw[hcc]at ho
  split at hc
  ·rename_i key et hu;simp only[bY]at hc;obtain⟨e,hk,rfl⟩:=hc;have hm:=he m;have hkk:=he k;simp only[ay]
   split
   ·rename_i j hj
    split
    ·rename_i es fl hjo
     split
     ·trivial
     ·rename_i hkey
      split
      ·rename_i es' hd;rw[hj]at hm;exact ZE H ho hu hk hm hjo hkk (by simpa using hkey) hd
      ·trivial
    ·trivial
   ·trivial
  ·simp at hc
 ·
  rename_i x ty hx ht;have hcc:=wQ hb hx ht;rw[hcc]at ho hc0;exact aaw H he ho hc0
 ·
  rename_i xs _;simp only[ak]at hc;subst hc
  have hcc:c=⟨.builtin .min,c.args,c.argTypes⟩:=by cases c;simp only at hb;subst hb;rfl
  rw[hcc]at ho;simp only[ay]
  split
  ·rename_i v vs hvs
   split
   ·rename_i u hu;exact afS H ho he hvs hu
   ·trivial
  ·trivial
 ·
  rename_i xs _;simp only[ak]at hc;subst hc
  have hcc:c=⟨.builtin .max,c.args,c.argTypes⟩:=by cases c;simp only at hb;subst hb;rfl
  rw[hcc]at ho;simp only[ay]
  split
  ·rename_i v vs hvs
   split
   ·rename_i u hu;exact afp H ho he hvs hu
   ·trivial
  ·trivial
 ·
  rename_i hx;simp only[ak]at hc;subst hc;simp only[ay,eZ]
  have hcc:c=⟨.builtin .recover,c.args,c.argTypes⟩:=by cases c;simp only at hb;subst hb;rfl
  rw[hcc]at ho;simp[execOp,ho,resolve,invoke,builtin]
 ·simp at hc
end
section
variable{P:Program}{Γ:Nat->Option AV}{N:Env}{g:G}{h:List Ob}{w:World}{a:Act}{o:Oper}{t:List AV}
theorem uD{p:AV}{v:Value}(hv:V g h p v)(hp:match p with|.ptr _ _|.cZ _ _ _ _|.dX _ _=>True|_=>False):∃b m,v=.pointer (some ⟨b,m,none⟩)/\
 ∀n,V g h (match p with|.ptr i q=>.ptr i (q+n)|.cZ x k i q=>.cZ x k i (q+n)|.dX i q=>.dX i (q+n)|x=>x) (.pointer (some ⟨b,m+n,none⟩)):=by
 match p,hv,hp with
 |.ptr i q,hv,_=>
  simp only[V]at hv;obtain⟨h1,b,sz,hρ,rfl⟩:=hv;exact⟨b,q,rfl,fun n=>by simp only[V];exact⟨h1,b,sz,hρ,rfl⟩⟩
 |.cZ x k i q,hv,_=>
  simp only[V]at hv;obtain⟨u,b,m,h1,h2,h3,rfl⟩:=hv;exact⟨b,m+i*k+q,rfl,fun n=>by simp only[V];exact⟨u,b,m,h1,h2,h3,by rw[nF]⟩⟩
 |.dX i q,hv,_=>
  simp only[V]at hv;subst hv;exact⟨i,q,rfl,fun n=>by simp only[V]⟩
def aha(ck:CK)(q:Option Bool)(h:List Ob):R:=
 match ck with
 |.eql=>match q with
  |some b=>.val (.bool b) h
  |none=>.bad
 |.neq=>match q with
  |some b=>.val (.bool !b) h
  |none=>.bad
 |_=>.bad
theorem aaY(H:Inv P Γ N g h w)(he:∀x,V g h (ax t (au x)) (a.eval x)){op:BinOp}{ty ty':TypeId}{x y:Operand}(ho:o.op=.binOp op ty x y ty'){ao:AO}(hc:bV P o=some ao):
 eZ P Γ N g h w a.eval o (ay P Γ t h ao):=by
 have hx:=he x;have hy:=he y;simp only[bV,ho]at hc
 have hcmp:∀{ck:CK}{e:EK},qH op=some ck->pd P ty=some e->e≠.sc .int->eZ P Γ N g h w a.eval o (ay P Γ t h (.cmp ck e (au x) (au y))):=by
  intro ck e h1 h2 h3
  have heq:∀{b:Bool},ck=.eql->cn e (ax t (au x)) (ax t (au y))=some b->aJ P Γ N a.eval o w g h h (some (.bool b)):=by
   intro b hck hb;subst hck
   have hop:op=.eql:=by cases op<;>simp only[qH,ak,reduceCtorEq]at h1;rfl
   subst hop;exact afG H ho h2 hb hx hy
  have hne:∀{b:Bool},ck=.neq->cn e (ax t (au x)) (ax t (au y))=some b->aJ P Γ N a.eval o w g h h (some (.bool !b)):=by
   intro b hck hb;subst hck
   have hop:op=.neq:=by cases op<;>simp only[qH,ak,reduceCtorEq]at h1;rfl
   subst hop;exact ae8 H ho h2 hb hx hy
  have hao:ay P Γ t h (.cmp ck e (au x) (au y))=aha ck (cn e (ax t (au x)) (ax t (au y))) h:=by
   rcases e with(s|ss|_|_)
   ·cases s
    ·exact absurd rfl h3
    ·cases ck<;>rfl
    ·cases ck<;>rfl
   ·cases ck<;>rfl
   ·cases ck<;>rfl
   ·cases ck<;>rfl
  rw[hao]
  cases hq:cn e (ax t (au x)) (ax t (au y))with
  |none=>cases ck<;>trivial
  |some b=>
   cases ck
   ·exact heq rfl hq
   ·exact hne rfl hq
   all_goals trivial
 split at hc
 ·
  rename_i k hu
  split at hc
  ·rename_i ck hck;simp only[ak]at hc;subst hc;simp only[ay]
   split
   ·rename_i k1 p k2 q h1 h2;rw[h1]at hx;rw[h2]at hy
    split
    ·rename_i hkk;subst hkk;exact adD H ho hck (dW hx) (dW hy)
    ·trivial
   ·trivial
  ·rename_i hck;simp only[bY]at hc;obtain⟨ib,hib,rfl⟩:=hc;simp only[ay]
   split
   ·rename_i k1 p k2 q h1 h2;rw[h1]at hx;rw[h2]at hy
    split
    ·rename_i hkk
     split
     ·rename_i n hn;exact adi H ho hib (dW hx) (dW hy) hkk hn
     ·trivial
    ·trivial
   ·trivial
 ·
  rename_i hu
  split at hc
  ·rename_i hadd;subst hadd;simp only[ak]at hc;subst hc;simp only[ay]
   split
   ·rename_i p q h1 h2;rw[h1]at hx;rw[h2]at hy
    split
    ·rename_i hl;exact Z' H ho (jc hx) (jc hy) hl
    ·trivial
   ·trivial
  ·split at hc
   ·rename_i ck e hck hek;simp only[ak]at hc;subst hc;refine hcmp hck hek ?_
    rintro rfl
    unfold pd at hek
    split at hek
    ·rename_i s hs;simp only[ak,EK.sc.injEq]at hek;subst hek;obtain⟨_,h1⟩:=oK hs;obtain⟨k,hk⟩:=h1;rw[hu]at hk
     cases hk
    ·split at hek<;>try (simp at hek)
     all_goals (split at hek<;>simp at hek)
   ·simp at hc
 ·
  rename_i e hu
  split at hc
  ·simp only[ak]at hc;subst hc;exact LK H he (neg:=false) ho hu
  ·simp only[ak]at hc;subst hc;exact LK H he (neg:=true) ho hu
  ·simp at hc
 ·rename_i hni hns hnl
  split at hc
  ·rename_i ck e hck hek;simp only[ak]at hc;subst hc;refine hcmp hck hek ?_
   rintro rfl
   unfold pd at hek
   split at hek
   ·rename_i s hs;simp only[ak,EK.sc.injEq]at hek;subst hek;obtain⟨_,h1⟩:=oK hs;obtain⟨k,hk⟩:=h1;exact hni k hk
   ·split at hek<;>try (simp at hek)
    all_goals (split at hek<;>simp at hek)
  ·simp at hc
theorem Ya(H:Inv P Γ N g h w)(he:∀x,V g h (ax t (au x)) (a.eval x)){s d:TypeId}{x:Operand}(ho:o.op=.convert s d x){ao:AO}(hc:bV P o=some ao):
 eZ P Γ N g h w a.eval o (ay P Γ t h ao):=by
 have hx:=he x;simp only[bV,ho]at hc
 split at hc
 ·rename_i j k hs hd;simp only[ak]at hc;subst hc;simp only[ay]
  split
  ·rename_i k' n h1;rw[h1]at hx;exact aes H ho hs hd (dW hx)
  ·trivial
 ·rename_i hs hd;simp only[ak]at hc;subst hc;simp only[ay]
  split
  ·rename_i l h1;rw[h1]at hx;exact aex H ho hs hd (jc hx)
  ·trivial
 ·rename_i e hs hd
  split at hc
  ·rename_i hee
   split at hc
   ·simp only[ak]at hc;subst hc;simp only[ay]
    split
    ·rename_i l h1;rw[h1]at hx
     split
     ·exact Za H ho hs hd hee (jc hx) e
     ·trivial
    ·trivial
   ·simp at hc
  ·simp at hc
 ·rename_i e' e hs hd
  split at hc
  ·rename_i hee
   split at hc
   ·rename_i hsd;simp only[ak]at hc;subst hc;simp only[ay]
    split
    ·rename_i i q n h1;rw[h1]at hx
     split
     ·rename_i E es fl sh hi
      split
      ·trivial
      ·rename_i hcond;simp only[not_or,Jp]at hcond;obtain⟨h2,h3,h4⟩:=hcond;subst h3;subst hsd;exact ado H ho rfl hd hee hi h4 hx h2
     ·trivial
    ·trivial
   ·simp at hc
  ·simp at hc
 ·rename_i e hs hd
  split at hc
  ·rename_i hee;simp only[ak]at hc;subst hc;simp only[ay]
   split
   ·rename_i es hes
    split
    ·rename_i l hl;exact acd H ho hs hee hd hx hes hl
    ·trivial
   ·trivial
  ·simp at hc
 ·simp at hc
theorem ZI(H:Inv P Γ N g h w)(he:∀x,V g h (ax t (au x)) (a.eval x)){ty:TypeId}{x:Operand}{lo hi mx:Option Operand}(ho:o.op=.slice ty x lo hi mx){ao:AO}(hc:bV P o=some ao):
 eZ P Γ N g h w a.eval o (ay P Γ t h ao):=by
 have hx:=he x
 cases mx with
 |none=>
  simp only[bV,ho]at hc
  split at hc
  ·rename_i hu;simp only[ak]at hc;subst hc;simp only[ay]
   split
   ·rename_i s h1;rw[h1]at hx
    split
    ·rename_i l u hl hh
     split
     ·rename_i hlu;exact XA H ho hu (jc hx) he hl hh hlu
     ·trivial
    ·trivial
   ·trivial
  ·rename_i e hu
   split at hc
   ·rename_i k hk;simp only[ak]at hc;subst hc;simp only[ay]
    split
    ·rename_i f k' es h1;rw[h1]at hx
     split
     ·rename_i l u hl hh
      split
      ·rename_i hlu;exact Wy H ho hu hk hx he hl hh hlu
      ·trivial
     ·trivial
    ·rename_i i q n h1;rw[h1]at hx
     split
     ·rename_i l u hl hh
      split
      ·rename_i hlu
       split
       ·rename_i k' E es gr fl sh hi'
        split
        ·rename_i hkk;obtain⟨rfl,hok⟩:=hkk;exact XG H ho hu hk hx he hl hh hlu hi' hok
        ·trivial
       ·trivial
      ·trivial
     ·trivial
    ·trivial
   ·simp at hc
  ·simp at hc
 |some mx=>
  cases hi with
  |none=>simp[bV,ho]at hc
  |some hi=>
   simp only[bV,ho]at hc
   split at hc
   ·rename_i e hu
    split at hc
    ·rename_i k hk;simp only[ak]at hc;subst hc;simp only[ay]
     split
     ·rename_i f k' es h1
      split
      ·rename_i l u m hl hh hm
       split
       ·rename_i hlu;obtain⟨h2,h3,rfl,h4⟩:=hlu;exact ZX H ho hu hk hx h1 he hl hh hm ⟨h2,h3,h4⟩
       ·trivial
      ·trivial
     ·trivial
    ·simp at hc
   ·simp at hc
end
section
variable{P:Program}{Γ:Nat->Option AV}{N:Env}{g:G}{h:List Ob}{w:World}{a:Act}{o:Oper}{t:List AV}
theorem Mi(H:Inv P Γ N g h w)(he:∀x,V g h (ax t (au x)) (a.eval x)){ty:TypeId}{x i:Operand}(ho:o.op=.indexAddr ty x i\/o.op=.index ty x i){ao:AO}(hc:bV P o=some ao):
 eZ P Γ N g h w a.eval o (ay P Γ t h ao):=by
 have hx:=he x;have hi:=he i
 rcases ho with ho|ho
 ·simp only[bV,ho]at hc
  split at hc
  ·rename_i e hu
   split at hc
   ·rename_i k hk;simp only[ak]at hc;subst hc;simp only[ay]
    split
    ·rename_i m q n hm hn;rw[hn]at hi
     split
     ·rename_i hq;exact aac H ho hu hk hx hm (dW hi) hq
     ·trivial
    ·trivial
   ·simp at hc
  ·rename_i n e hu
   split at hc
   ·rename_i k hk;simp only[ak]at hc;subst hc;simp only[ay]
    split
    ·rename_i q n' hn;rw[hn]at hi
     split
     ·rename_i hq
      split
      ·rename_i j m hp;rw[hp]at hx;obtain⟨b,mm,hxe,hadd⟩:=uD hx trivial;exact ED H ho hu hk hxe (dW hi) hq (hadd _)
      ·rename_i u k' j m hp;rw[hp]at hx;obtain⟨b,mm,hxe,hadd⟩:=uD hx trivial;exact ED H ho hu hk hxe (dW hi) hq (hadd _)
      ·rename_i j m hp;rw[hp]at hx;obtain⟨b,mm,hxe,hadd⟩:=uD hx trivial;exact ED H ho hu hk hxe (dW hi) hq (hadd _)
      ·trivial
     ·trivial
    ·trivial
   ·simp at hc
  ·simp at hc
 ·simp only[bV,ho]at hc
  split at hc
  ·rename_i hu;simp only[ak]at hc;subst hc;simp only[ay]
   split
   ·rename_i s q n hs hn;rw[hs]at hx;rw[hn]at hi
    split
    ·rename_i h0
     split
     ·rename_i b hb;exact abq H ho hu (jc hx) (dW hi) h0 hb
     ·trivial
    ·trivial
   ·trivial
  ·rename_i n e hu
   cases hA:fW P e with
   |none=>simp[hA]at hc
   |some agg=>
    cases hS:bz P e with
    |none=>simp[hA,hS]at hc
    |some sz=>
     simp[hA,hS]at hc;subst hc;simp only[ay]
     split
     ·rename_i cs q m hs hn;rw[hs]at hx;rw[hn]at hi
      split
      ·rename_i hq
       split
       ·rename_i v hv;exact abm H ho hu hA hS hx (dW hi) hq hv
       ·trivial
      ·trivial
     ·trivial
  ·simp at hc
theorem LI(H:Inv P Γ N g h w)(he:∀x,V g h (ax t (au x)) (a.eval x)){ty:TypeId}{x:Operand}{i:Nat}(ho:o.op=.fieldAddr ty x i\/o.op=.field ty x i){ao:AO}(hc:bV P o=some ao):
 eZ P Γ N g h w a.eval o (ay P Γ t h ao):=by
 have hx:=he x
 rcases ho with ho|ho
 ·simp only[bV,ho]at hc
  split at hc
  ·rename_i fs hu
   split at hc
   ·rename_i f hf
    split at hc
    ·rename_i k hk;simp only[ak]at hc;subst hc;simp only[ay]
     split
     ·rename_i j m hp;rw[hp]at hx;obtain⟨b,mm,hxe,hadd⟩:=uD hx trivial;exact Gi H ho hu hf hk hxe (hadd _)
     ·rename_i u k' j m hp;rw[hp]at hx;obtain⟨b,mm,hxe,hadd⟩:=uD hx trivial;exact Gi H ho hu hf hk hxe (hadd _)
     ·rename_i j m hp;rw[hp]at hx;obtain⟨b,mm,hxe,hadd⟩:=uD hx trivial;exact Gi H ho hu hf hk hxe (hadd _)
     ·trivial
    ·simp at hc
   ·simp at hc
  ·simp at hc
 ·simp only[bV,ho]at hc
  split at hc
  ·rename_i fs hu
   split at hc
   ·rename_i f hf
    cases hA:fW P f.type with
    |none=>simp[hA]at hc
    |some agg=>
     cases hS:bz P f.type with
     |none=>simp[hA,hS]at hc
     |some sz=>
      simp[hA,hS]at hc;subst hc;simp only[ay]
      split
      ·rename_i cs hs;rw[hs]at hx
       split
       ·rename_i v hv;exact afQ H ho hu hf hA hS hx hv
       ·trivial
      ·trivial
   ·simp at hc
  ·simp at hc
theorem OR(H:Inv P Γ N g h w)(he:∀x,V g h (ax t (au x)) (a.eval x)){ty:TypeId}{m k x:Operand}(ho:o.op=.mapUpdate ty m k x\/o.op=.insert ty m k x){ao:AO}(hc:bV P o=some ao):
 eZ P Γ N g h w a.eval o (ay P Γ t h ao):=by
 have hm:=he m;have hk:=he k;have hx:=he x
 have hc':∃key et e,P.underlying ty=some (.map key et)/\iE P key=some e/\ao=.bI e (au m) (au k) (au x):=by
  rcases ho with ho|ho
  all_goals
   simp only[bV,ho]at hc
   split at hc
   ·rename_i key et hu;simp only[bY]at hc;obtain⟨e,hke,rfl⟩:=hc;exact⟨key,et,e,hu,hke,rfl⟩
   ·simp at hc
 obtain⟨key,et,e,hu,hke,rfl⟩:=hc';simp only[ay]
 split
 ·rename_i j hj;rw[hj]at hm
  split
  ·rename_i es fl hjo
   split
   ·trivial
   ·rename_i hkey
    split
    ·rename_i es' hp;exact afF H ho hu hke hm hjo hk (by simpa using hkey) hx hp
    ·trivial
  ·trivial
 ·trivial
theorem Zu(H:Inv P Γ N g h w)(he:∀x,V g h (ax t (au x)) (a.eval x)){ty:TypeId}{x i:Operand}{ok:Bool}(ho:o.op=.lookup ty x i ok){ao:AO}(hc:bV P o=some ao):
 eZ P Γ N g h w a.eval o (ay P Γ t h ao):=by
 have hx:=he x;have hi:=he i;simp only[bV,ho]at hc
 split at hc
 ·rename_i key et hu
  cases hK:iE P key with
  |none=>simp[hK]at hc
  |some e=>
   cases hZ:dM P et with
   |none=>simp[hK,hZ]at hc
   |some z=>
    simp[hK,hZ]at hc;subst hc
    have hgo:∀{es:List (AV×AV)},((ax t (au x)=.c_/\es=[])\/(∃ks vs,ax t (au x)=.dg ks vs/\es=ks.zip vs)\/∃j fl,ax t (au x)=.mp j/\h[j]? =some (.map es fl))->
     eZ P Γ N g h w a.eval o (if isKey e (ax t (au i))=false then .bad else match ez e (ax t (au i)) es with
      |some (some v)=>.val (if ok then .aB [v,.bool true]else v) h
      |some none=>.val (if ok then .aB [z,.bool false]else z) h
      |none=>.bad):=by
     intro es hes
     split
     ·trivial
     ·rename_i hkey
      split
      ·rename_i v hf;exact LB H ho hu hK hZ hi (by simpa using hkey) hx hes hf rfl
      ·rename_i hf;exact LB H ho hu hK hZ hi (by simpa using hkey) hx hes hf rfl
      ·trivial
    simp only[ay]
    cases hv:ax t (au x)<;>simp only[hv]at hgo⊢<;>first
     |trivial
     |skip
    ·exact hgo (Or.inl ⟨trivial,rfl⟩)
    ·rename_i j
     cases hj:h[j]? with
     |none=>trivial
     |some q=>
      cases q<;>first
       |trivial
       |exact hgo (Or.inr (Or.inr ⟨j,_,rfl,hj⟩))
    ·exact hgo (Or.inr (Or.inl ⟨_,_,rfl,rfl⟩))
 ·simp at hc
theorem Mm(H:Inv P Γ N g h w)(ht:VL g h t a.tmps.toList){ao:AO}(hc:bV P o=some ao):eZ P Γ N g h w a.eval o (ay P Γ t h ao):=by
 have he:∀x,V g h (ax t (au x)) (a.eval x):=fun x=>Cb ht x
 have hc0:=hc
 cases ho:o.op with
 |move x=>
  simp only[bV,ho,ak]at hc;subst hc;exact PU H (Or.inl ho) (he x)
 |assign x=>
  simp only[bV,ho]at hc
  split at hc
  ·cases hE:kT P o.type with
   |none=>simp[hE]at hc
   |some e=>
    cases hS:bz P e with
    |none=>simp[hE,hS]at hc
    |some k=>
     by_cases hk:k=0
     ·simp[hE,hS,hk]at hc
     ·simp[hE,hS,hk]at hc;subst hc;exact aa6 H ho rfl (by omega) e
  ·simp only[ak]at hc;subst hc;exact PU H (Or.inr ho) (he x)
 |pick c x y=>
  simp only[bV,ho,ak]at hc;subst hc;have h1:=he c;simp only[ay]
  split
  ·rename_i hb;rw[hb]at h1;exact N4 H ho (lF h1) (he x)
  ·rename_i hb;rw[hb]at h1;exact N4 H ho (lF h1) (he y)
  ·trivial
 |alloc ty=>
  simp only[bV,ho]at hc
  cases hZ:(P.info? ty).bind (·.zero)with
  |none=>simp[hZ]at hc
  |some zv=>
   cases hC:BI P 8 ty with
   |none=>simp[hZ,hC]at hc
   |some as=>
    cases hF:pA as zv.cells.toList with
    |none=>simp[hZ,hC,hF]at hc
    |some z=>
     simp[hZ,hC,hF]at hc;subst hc;exact acp H ho hZ hF
 |box ty x=>
  simp only[bV,ho]at hc
  cases hS:bz P ty with
  |none=>simp[hS]at hc
  |some n=>
   simp[hS]at hc;subst hc;simp only[ay]
   split
   ·rename_i h1;exact afi H ho (he x) h1.2
   ·trivial
 |build ty ps=>
  simp only[bV,ho]at hc
  cases hZ:dM P ty with
  |none=>simp[hZ]at hc
  |some z=>
   by_cases hpl:xa P ty=true
   ·cases hP:pe P ty ps.toList with
    |none=>simp[hZ,hpl,hP]at hc
    |some aps=>
     simp[hZ,hpl,hP]at hc;subst hc;simp only[ay]
     split
     ·rename_i cs hf;exact abW H ho hZ hpl hP he hf
     ·trivial
   ·simp[hZ,hpl]at hc
 |buildSlice ty n ps=>
  simp only[bV,ho]at hc
  cases hE:kT P ty with
  |none=>simp[hE]at hc
  |some e=>
   cases hS:bz P e with
   |none=>simp[hE,hS]at hc
   |some k=>
    cases hZ:dM P e with
    |none=>simp[hE,hS,hZ]at hc
    |some z=>
     by_cases h0:k=0\/n*k>2^24\/kp k z=false
     ·simp[hE,hS,hZ,h0]at hc
     ·simp only[not_or,zo]at h0;obtain⟨hk0,hnk,hzo⟩:=h0
      have hc2:ao=.lit k (List.replicate n z) (ps.toList.map fun q=>(q.1,au q.2)):=by
       simp only[hE,hS,hZ,oC,kx]at hc;rw[if_neg (by simp only[not_or,zo];exact⟨hk0,hnk,hzo⟩)]at hc;simp only[ak]at hc;exact hc.symm
      subst hc2;simp only[ay]
      split
      ·rename_i ps' h' hp
       split
       ·rename_i es hf
        split
        ·rename_i hok;exact ae0 H ho (Aw hE) hS (by omega) hZ hzo (by omega) he hp hf hok
        ·trivial
       ·trivial
      ·trivial
 |insert ty m k x=>exact OR H he (Or.inr ho) hc
 |load ty x=>
  simp only[bV,ho]at hc
  cases hA:fW P ty with
  |none=>simp[hA]at hc
  |some agg=>
   cases hS:bz P ty with
   |none=>simp[hA,hS]at hc
   |some sz=>
    simp[hA,hS]at hc;subst hc;simp only[ay]
    split
    ·rename_i v hv;exact aeh H ho hA hS (he x) hv
    ·trivial
 |store ty p x=>
  simp only[bV,ho]at hc
  cases hS:bz P ty with
  |none=>simp[hS]at hc
  |some sz=>
   simp[hS]at hc;subst hc;simp only[ay]
   split
   ·rename_i h' hs;exact acO H ho hS (he p) (he x) hs
   ·trivial
 |nilCheck x=>
  simp only[bV,ho,ak]at hc;subst hc;have hx:=he x;simp only[ay]
  split
  ·rename_i hv;rw[hv]at hx;exact xe H ho hx trivial
  ·rename_i hv;rw[hv]at hx;exact xe H ho hx trivial
  ·rename_i hv;rw[hv]at hx;exact xe H ho hx trivial
  ·rename_i hv;rw[hv]at hx;exact xe H ho hx trivial
  ·rename_i hv;rw[hv]at hx;exact xe H ho hx trivial
  ·trivial
 |binOp op ty x y ty'=>exact aaY H he ho hc
 |unOp op ty x=>
  have hx:=he x;simp only[bV,ho]at hc
  cases op<;>simp only[ak,reduceCtorEq]at hc
  all_goals
   subst hc;simp only[ay]
   split
  ·rename_i hv;rw[hv]at hx;exact afm H ho (dW hx)
  ·trivial
  ·rename_i hv;rw[hv]at hx;exact abA H ho (dW hx)
  ·trivial
  ·rename_i hv;rw[hv]at hx;exact afx H ho (lF hx)
  ·trivial
 |convert s d x=>exact Ya H he ho hc
 |makeInterface ty x=>
  simp only[bV,ho]at hc
  split at hc
  ·simp at hc
  ·simp at hc
  ·rename_i d hd hd';simp only[ak]at hc;subst hc
   cases hu:P.underlying ty with
   |none=>exact absurd hu hd'
   |some d=>exact YG H ho hu (fun ms hms=>hd ms (by rw[hu,hms])) (he x)
 |makeFunc f xs ys=>
  simp only[bV,ho,ak]at hc;subst hc;exact ZS H ho he
 |makeMap ty r=>
  cases r with
  |some r=>simp[bV,ho]at hc
  |none=>
   simp only[bV,ho]at hc
   split at hc
   ·simp only[ak]at hc;subst hc;exact acD H ho
   ·simp at hc
 |makeSlice ty x y=>
  simp only[bV,ho]at hc
  cases hE:kT P ty with
  |none=>simp[hE]at hc
  |some e=>
   cases hS:bz P e with
   |none=>simp[hE,hS]at hc
   |some k=>
    cases hZ:dM P e with
    |none=>simp[hE,hS,hZ]at hc
    |some z=>
     cases hB:lE P e with
     |none=>
      simp[hE,hS,hZ,hB]at hc
     |some b=>
      by_cases h0:k=0\/kp k z=false
      ·simp[hE,hS,hZ,h0]at hc
      ·have hc2:ao=.mkSlice k e b z (au x) (au y):=by
        simp only[hE,hS,hZ,hB,oC,kx]at hc;rw[if_neg h0]at hc;simp only[ak]at hc;exact hc.symm
       simp only[not_or,zo]at h0;obtain⟨hk0,hzo⟩:=h0;obtain⟨hz1,hz2,hz3⟩:=F4 hzo;subst hc2;have hx:=he x;have hy:=he y;simp only[ay]
       split
       ·rename_i i n j c hn hm;rw[hn]at hx;rw[hm]at hy
        split
        ·rename_i hcc;obtain⟨h1,rfl,h3,h4⟩:=hcc;exact YU H ho (Aw hE) hS (by omega) hB hZ hz1 hz2 hz3 (dW hx) (dW hy) h1 h4 h3 e
        ·trivial
       ·trivial
 |slice ty x lo hi mx=>exact ZI H he ho hc
 |fieldAddr ty x i=>exact LI H he (Or.inl ho) hc
 |field ty x i=>exact LI H he (Or.inr ho) hc
 |indexAddr ty x i=>exact Mi H he (Or.inl ho) hc
 |index ty x i=>exact Mi H he (Or.inr ho) hc
 |lookup ty x i ok=>exact Zu H he ho hc
 |mapUpdate ty m k x=>exact OR H he (Or.inl ho) hc
 |range ty x=>
  simp only[bV,ho]at hc
  split at hc
  ·rename_i hu;simp only[ak]at hc;subst hc;have hx:=he x;simp only[ay]
   split
   ·rename_i s hs;rw[hs]at hx;exact ace H ho hu (jc hx)
   ·trivial
  ·simp at hc
 |next x isStr=>
  cases isStr
  ·simp[bV,ho]at hc
  ·simp only[bV,ho,ak]at hc;subst hc;have hx:=he x;simp only[ay]
   split
   ·rename_i i hv;rw[hv]at hx
    split
    ·rename_i s pos hi;have:=aea H ho hx hi
     split
     ·rename_i hlt;exact this.1 hlt
     ·rename_i hlt;exact this.2 hlt
    ·trivial
   ·trivial
 |typeAssert x ty' ty ok=>
  simp only[bV,ho]at hc
  split at hc
  ·simp at hc
  ·simp at hc
  ·rename_i hd hd'
   cases hZ:dM P ty with
   |none=>simp[hZ]at hc
   |some z=>
    simp[hZ]at hc;subst hc
    cases hu:P.underlying ty with
    |none=>exact absurd hu hd'
    |some d=>
     have hne:∀ms,d≠.interface ms:=fun ms hms=>hd ms (by rw[hu,hms])
     have hx:=he x;simp only[ay]
     split
     ·rename_i u v hv;rw[hv]at hx
      split
      ·rename_i huv;exact Et H ho hu hne hZ hx (Or.inl ⟨u,v,rfl,Or.inl ⟨huv,rfl⟩⟩)
      ·rename_i huv
       split
       ·rename_i hok;exact Et H ho hu hne hZ hx (Or.inl ⟨u,v,rfl,Or.inr ⟨huv,hok,rfl⟩⟩)
       ·trivial
     ·rename_i hv;rw[hv]at hx
      split
      ·rename_i hok;exact Et H ho hu hne hZ hx (Or.inr ⟨rfl,hok,rfl⟩)
      ·trivial
     ·trivial
 |extract x i=>
  simp only[bV,ho,ak]at hc;subst hc;have hx:=he x;simp only[ay]
  split
  ·rename_i vs hv;rw[hv]at hx
   split
   ·rename_i v hi;exact YK H ho hx hi
   ·trivial
  ·trivial
 |call c=>
  simp only[bV,ho]at hc;obtain⟨callee,xs,ts⟩:=c
  cases callee with
  |value f=>
   simp only[mC,ak]at hc;subst hc;exact ZA H he ho
  |invoke x name=>
   simp only[mC,ak]at hc;subst hc;exact Xc H he ho
  |builtin b=>exact Yc H he ho rfl hc
 |defer c=>
  simp only[bV,ho]at hc;obtain⟨callee,xs,ts⟩:=c
  cases callee with
  |value f=>
   simp only[ak]at hc;subst hc;have hf:=he f;have hxs:=Gv he xs;simp only[ay]
   split
   ·rename_i n fs cs hv;rw[hv]at hf;simp only[V]at hf;obtain⟨us,vs,hfe,h1,h2⟩:=hf;refine⟨{target:=.fn (.func n) vs.toArray,args:=us.toArray++xs.map a.eval},?_,vs.toArray,rfl,?_⟩
    ·simp[execOp,ho,resolve,hfe,Deferred.ofValue]
    ·have:=kH (kH h1 hxs) h2;simpa using this
   ·trivial
  |invoke x name=>simp at hc
  |builtin b=>simp at hc
 |panic x=>
  simp only[bV,ho,ak]at hc;subst hc;have hx:=he x;simp only[ay]
  split
  ·rename_i ty v hv;rw[hv]at hx;refine⟨a.eval x,?_,hx⟩;simp only[V]at hx;obtain⟨y,hxe,_⟩:=hx;simp[execOp,ho,hxe,Instr.panic]
  ·trivial
 |_=>simp[bV,ho]at hc
end
section
variable{P:Program}{w w':World}{cs:List Frame}{fn:FuncId}{tmps:Array Value}{k:List Item}{ds:List Deferred}{kd:CallKind}{ro:Option Nat}
def aH(fn:FuncId)(tmps:Array Value)(todo:List Item)(ds:List Deferred)(kd:CallKind)(ro:Option Nat)(md:FrameMode:=.run):Frame:=
 {fn,tmps,todo,defers:=ds,mode:=md,kind:=kd,roundOf:=ro}
theorem adg:step P (lone (aH fn tmps (.code .skip::k) ds kd ro) cs w)=.next (lone (aH fn tmps k ds kd ro) cs w):=
 step_lone_go (by simp[stepG,stepG.exec,aH])
theorem acA{l:Nat}:step P (lone (aH fn tmps (.code (.label l)::k) ds kd ro) cs w)=.next (lone (aH fn tmps k ds kd ro) cs w):=
 step_lone_go (by simp[stepG,stepG.exec,aH])
theorem YD{id:Nat}:step P (lone (aH fn tmps (.inBlock id::k) ds kd ro) cs w)=.next (lone (aH fn tmps k ds kd ro) cs w):=
 step_lone_go (by simp[stepG,stepG.exec,aH])
theorem aeX{x y:Code}:step P (lone (aH fn tmps (.code (.seq x y)::k) ds kd ro) cs w)=.next (lone (aH fn tmps (.code x::.code y::k) ds kd ro) cs w):=
 step_lone_go (by simp[stepG,stepG.exec,aH])
theorem Nf{todo:List Item}{md:FrameMode}:(aH fn tmps todo ds kd ro md).eval=(⟨tmps,ds⟩:Act).eval:=by
 funext x;cases x<;>rfl
theorem adl{c:Operand}{x y:Code}{b:Bool}(h:(⟨tmps,ds⟩:Act).eval c=.bool b):
 step P (lone (aH fn tmps (.code (.cond c x y)::k) ds kd ro) cs w)=.next (lone (aH fn tmps (.code (if b then x else y)::k) ds kd ro) cs w):=
 step_lone_go (by
  have:=congrFun (Nf (fn:=fn) (tmps:=tmps) (ds:=ds) (kd:=kd) (ro:=ro) (todo:=.code (.cond c x y)::k) (md:=.run)) c;simp only[aH]at this
  simp[stepG,stepG.exec,aH,this,h])
theorem abI{id:Nat}{c:Code}:step P (lone (aH fn tmps (.code (.block id c)::k) ds kd ro) cs w)=.next (lone (aH fn tmps (.code c::.inBlock id::k) ds kd ro) cs w):=
 step_lone_go (by simp[stepG,stepG.exec,aH])
theorem adt{c:Code}:step P (lone (aH fn tmps (.code (.loop c)::k) ds kd ro) cs w)=.next (lone (aH fn tmps (.code c::.inLoop c::k) ds kd ro) cs w):=
 step_lone_go (by simp[stepG,stepG.exec,aH])
theorem aae{c:Code}:step P (lone (aH fn tmps (.inLoop c::k) ds kd ro) cs w)=.next (lone (aH fn tmps (.code c::.inLoop c::k) ds kd ro) cs w):=
 step_lone_go (by simp[stepG,stepG.exec,aH])
theorem adr{id:Nat}{k':List Item}(h:exitTo id k=some k'):step P (lone (aH fn tmps (.code (.exit id)::k) ds kd ro) cs w)=.next (lone (aH fn tmps k' ds kd ro) cs w):=
 step_lone_go (by simp[stepG,stepG.exec,aH,h])
theorem afD:step P (lone (aH fn tmps (.code .ret::k) ds kd none) cs w)=.next (lone (aH fn tmps (.code .ret::k) ds kd none .returning) cs w):=
 step_lone_go (by simp[stepG,stepG.exec,aH])
theorem afc:step P (lone (aH fn tmps [] ds kd none) cs w)=.next (lone (aH fn tmps [] ds kd none .returning) cs w):=
 step_lone_go (by simp[stepG,stepG.exec,aH])
theorem aao{id:Nat}{ops:Array Oper}:step P (lone (aH fn tmps (.code (.region id ops false)::k) ds kd ro) cs w)=.next (lone (aH fn tmps (.inRegion ops (List.range ops.size)::k) ds kd ro) cs w):=
 step_lone_go (by simp[stepG,stepG.exec,aH])
theorem FQ{id:Nat}{ops:Array Oper}:step P (lone (aH fn tmps (.code (.region id ops true)::k) ds kd ro) cs w)=
 .next (lone (aH fn tmps (.inRegion ops (Region.schedule (P.follows .mixedOrders) ops (w.tape w.drawn (.order fn id)))::k) ds kd ro) cs w.drew):=
 step_lone_go (by simp[stepG,stepG.exec,aH,choose,Sem.run,Question.forced,Question.cut])
theorem W8{ops:Array Oper}:step P (lone (aH fn tmps (.inRegion ops []::k) ds kd ro) cs w)=.next (lone (aH fn tmps k ds kd ro) cs w):=
 step_lone_go (by simp[stepG,stepG.exec,aH])
def lT(tmps:Array Value)(d:Option Tmp)(v:Value):Array Value:=
 match d with
 |some d=>tmps.setIfInBounds d v
 |none=>tmps
theorem wA{ops:Array Oper}{i:Nat}{rest:List Nat}(v:Value):(aH fn tmps (.inRegion ops (i::rest)::k) ds kd ro).finish v=aH fn (lT tmps ((ops[i]?).bind (·.dst)) v) (.inRegion ops rest::k) ds kd ro:=by
 simp only[Frame.finish,aH,lT]
 cases(ops[i]?).bind (·.dst)<;>rfl
theorem aa8{ops:Array Oper}{i:Nat}{rest:List Nat}{o:Oper}(ho:ops[i]? =some o)(h:Region.wanted o (yielded ops tmps)=false):
 step P (lone (aH fn tmps (.inRegion ops (i::rest)::k) ds kd ro) cs w)=.next (lone (aH fn (lT tmps o.dst undef) (.inRegion ops rest::k) ds kd ro) cs w):=by
 have:=wA (fn:=fn) (tmps:=tmps) (k:=k) (ds:=ds) (kd:=kd) (ro:=ro) (ops:=ops) (i:=i) (rest:=rest) undef;rw[ho,kx]at this;rw[<-this];refine step_lone_go ?_;simp only[aH]at*;simp[stepG,stepG.exec,ho,h]
theorem su{ops:Array Oper}{i:Nat}{rest:List Nat}{o:Oper}(ho:ops[i]? =some o)(hw:Region.wanted o (yielded ops tmps)=true)(hd:ro=none\/∀c,o.op≠.defer c):
 stepG P true {frame:=aH fn tmps (.inRegion ops (i::rest)::k) ds kd ro,callers:=cs,status:=.running,dying:=none} w=
  stepG.apply P true (aH fn tmps (.inRegion ops (i::rest)::k) ds kd ro) cs none (execOp (⟨tmps,ds⟩:Act).eval o) w:=by
 have he:=Nf (fn:=fn) (tmps:=tmps) (ds:=ds) (kd:=kd) (ro:=ro) (todo:=.inRegion ops (i::rest)::k) (md:=.run);simp only[aH]at he
 cases ro with
 |none=>simp[stepG,stepG.exec,stepG.oper,Frame.oper?,aH,ho,hw,he]
 |some l=>
  have hd:=hd.resolve_left (by simp);simp only[stepG,stepG.exec,stepG.oper,Frame.oper?,aH,ho,hw,dv,jU,cy]
  cases hop:o.op<;>simp only[he]
  exact absurd hop (hd _)
theorem FB{ops:Array Oper}{i:Nat}{rest:List Nat}{o:Oper}(ho:ops[i]? =some o)(hw:Region.wanted o (yielded ops tmps)=true)(hd:ro=none\/∀c,o.op≠.defer c){v:Value}
 (hr:(execOp (⟨tmps,ds⟩:Act).eval o).run P w=.ok (.value v) w'):
 step P (lone (aH fn tmps (.inRegion ops (i::rest)::k) ds kd ro) cs w)=.next (lone (aH fn (lT tmps o.dst v) (.inRegion ops rest::k) ds kd ro) cs w'):=by
 have:=wA (fn:=fn) (tmps:=tmps) (k:=k) (ds:=ds) (kd:=kd) (ro:=ro) (ops:=ops) (i:=i) (rest:=rest) v;rw[ho,kx]at this;rw[<-this];refine step_lone_go ?_;rw[su ho hw hd];simp[stepG.apply,hr]
theorem Yw{ops:Array Oper}{i:Nat}{rest:List Nat}{o:Oper}(ho:ops[i]? =some o)(hw:Region.wanted o (yielded ops tmps)=true)(hd:ro=none\/∀c,o.op≠.defer c)
 (hr:(execOp (⟨tmps,ds⟩:Act).eval o).run P w=.ok .skip w'):
 step P (lone (aH fn tmps (.inRegion ops (i::rest)::k) ds kd ro) cs w)=.next (lone (aH fn (lT tmps o.dst undef) (.inRegion ops rest::k) ds kd ro) cs w'):=by
 have:=wA (fn:=fn) (tmps:=tmps) (k:=k) (ds:=ds) (kd:=kd) (ro:=ro) (ops:=ops) (i:=i) (rest:=rest) undef;rw[ho,kx]at this;rw[<-this];refine step_lone_go ?_;rw[su ho hw hd];simp[stepG.apply,hr]
theorem abJ{ops:Array Oper}{i:Nat}{rest:List Nat}{o:Oper}(ho:ops[i]? =some o)(hw:Region.wanted o (yielded ops tmps)=true)(hd:ro=none\/∀c,o.op≠.defer c){f:FuncId}{args:Array Value}
 (hr:(execOp (⟨tmps,ds⟩:Act).eval o).run P w=.ok (.enter f args) w'):
 step P (lone (aH fn tmps (.inRegion ops (i::rest)::k) ds kd ro) cs w)=.next (lone (Frame.enter P f args .normal) (aH fn tmps (.inRegion ops (i::rest)::k) ds kd ro::cs) w'):=by
 refine step_lone_go ?_;rw[su ho hw hd];simp[stepG.apply,hr,aH]
theorem acR{ops:Array Oper}{i:Nat}{rest:List Nat}{o:Oper}(ho:ops[i]? =some o)(hw:Region.wanted o (yielded ops tmps)=true)(hd:ro=none\/∀c,o.op≠.defer c){l:Nat}{f:FuncId}{ts:Array Value}{x y:Code}
 (hr:(execOp (⟨tmps,ds⟩:Act).eval o).run P w=.ok (.round l f ts x y) w'):
 step P (lone (aH fn tmps (.inRegion ops (i::rest)::k) ds kd ro) cs w)=.next (lone (aH f ts [.code x,.beginRound,.code y] [] .normal (some l)) (aH fn tmps (.inRegion ops (i::rest)::k) ds kd ro::cs) w'):=by
 refine step_lone_go ?_;rw[su ho hw hd];simp[stepG.apply,hr,aH,Frame.round]
theorem abM{ops:Array Oper}{i:Nat}{rest:List Nat}{o:Oper}(ho:ops[i]? =some o)(hw:Region.wanted o (yielded ops tmps)=true)(hd:ro=none\/∀c,o.op≠.defer c){v:Value}
 (hr:(execOp (⟨tmps,ds⟩:Act).eval o).run P w=.halt (.panic v) w'):
 step P (lone (aH fn tmps (.inRegion ops (i::rest)::k) ds kd ro) cs w)=.next (lone (aH fn tmps (.inRegion ops (i::rest)::k) ds kd ro (.panicking [{v,recovered:=false}])) cs w'):=by
 refine step_lone_go ?_;rw[su ho hw hd];simp[stepG.apply,hr,aH,Frame.raise]
theorem Nz{ops:Array Oper}{i:Nat}{rest:List Nat}{o:Oper}(ho:ops[i]? =some o)(hw:Region.wanted o (yielded ops tmps)=true){d:Deferred}
 (hr:(execOp (⟨tmps,ds⟩:Act).eval o).run P w=.ok (.defer d) w'):
 step P (lone (aH fn tmps (.inRegion ops (i::rest)::k) ds kd none) cs w)=.next (lone (aH fn (lT tmps o.dst undef) (.inRegion ops rest::k) (d::ds) kd none) cs w'):=by
 have:=wA (fn:=fn) (tmps:=tmps) (k:=k) (ds:=d::ds) (kd:=kd) (ro:=none) (ops:=ops) (i:=i) (rest:=rest) undef;rw[ho,kx]at this;rw[<-this];refine step_lone_go ?_;rw[su ho hw (Or.inl rfl)];simp[stepG.apply,hr,aH]
theorem Ep{ops:Array Oper}{i:Nat}{rest:List Nat}{o:Oper}(ho:ops[i]? =some o)(hw:Region.wanted o (yielded ops tmps)=true)
 (hr:(execOp (⟨tmps,ds⟩:Act).eval o).run P w=.ok .recover w'){v:Value}{cs':List Frame}
 (ht:tryRecover (aH fn tmps (.inRegion ops (i::rest)::k) ds kd none) cs=some (v,cs')\/(tryRecover (aH fn tmps (.inRegion ops (i::rest)::k) ds kd none) cs=none/\v=.nilIface/\cs'=cs)):
 step P (lone (aH fn tmps (.inRegion ops (i::rest)::k) ds kd none) cs w)=.next (lone (aH fn (lT tmps o.dst v) (.inRegion ops rest::k) ds kd none) cs' w'):=by
 have:=wA (fn:=fn) (tmps:=tmps) (k:=k) (ds:=ds) (kd:=kd) (ro:=none) (ops:=ops) (i:=i) (rest:=rest) v;rw[ho,kx]at this;rw[<-this];refine step_lone_go ?_;rw[su ho hw (Or.inl rfl)]
 rcases ht with ht|⟨ht,rfl,rfl⟩
 ·have hro:(aH fn tmps (.inRegion ops (i::rest)::k) ds kd none).roundOf=none:=rfl;simp[stepG.apply,hr,hro,ht]
 ·have hro:(aH fn tmps (.inRegion ops (i::rest)::k) ds kd none).roundOf=none:=rfl;simp[stepG.apply,hr,hro,ht]
theorem NL{f:Operand}{ps:Array Tmp}{x y:Code}{l:Nat}{mark:List Deferred}{w1:World}{g:FuncId}{args:Array Value}
 (h1:(Instr.enterLoop fn tmps ps x y ro).run P w=.ok (l,mark) w1)
 (h2:((do let d<-resolve (⟨tmps,ds⟩:Act).eval {callee:=.value f,args:=#[.const (.func (.yield l) #[] #[])],argTypes:=#[]} 0;invoke d.target d.args):Sem Next).run P w1=.ok (.enter g args) w'):
 step P (lone (aH fn tmps (.code (.rangeFunc f ps x y)::k) ds kd ro) cs w)=.next (lone (Frame.enter P g args .normal) (aH fn tmps (.inRangeFunc l::k) (mark++ds) kd ro::cs) w'):=by
 have he:({fn:=fn,tmps:=tmps,todo:=.inRangeFunc l::k,defers:=mark++ds,mode:=.run,kind:=kd,roundOf:=ro}:Frame).eval=(⟨tmps,ds⟩:Act).eval:=by
  funext z;cases z<;>rfl
 refine step_lone_go ?_;simp only[stepG,stepG.exec,aH,Sem.runT_eq,h1,GStep.bare_after];simp only[stepG.apply,Sem.runT_eq,cy,GStep.bare_after,he,h2];rfl
theorem WB{b:Nat}(hr:(Instr.beginRound b).run P w=.ok () w'):step P (lone (aH fn tmps (.beginRound::k) ds kd (some b)) cs w)=.next (lone (aH fn tmps k ds kd (some b)) cs w'):=by
 refine step_lone_go ?_;simp[stepG,stepG.exec,aH,stepG.apply,hr,Frame.finish]
theorem Yp{l:Nat}{j:Option Code}(hr:(Instr.endLoop l).run P w=.ok j w'):step P (lone (aH fn tmps (.endRangeFunc l::k) ds kd ro) cs w)=.next (lone (aH fn tmps ((j.map Item.code).toList++k) ds kd ro) cs w'):=by
 refine step_lone_go ?_;simp[stepG,stepG.exec,aH,hr]
theorem WE{b:Nat}{j:Option Code}{todo:List Item}(hj:(todo=[]/\j=none)\/(∃k,todo=.code .ret::k/\j=some .ret)\/(∃id k,todo=.code (.exit id)::k/\exitTo id k=none/\j=some (.exit id))){c:Frame}{v:Value}
 (hr:(Instr.endRound b j).run P w=.ok v w'):step P (lone (aH fn tmps todo ds .normal (some b)) (c::cs) w)=.next (lone (c.finish v) cs w'):=by
 refine step_lone_go ?_
 rcases hj with⟨rfl,rfl⟩|⟨k,rfl,rfl⟩|⟨id,k,rfl,he,rfl⟩
 ·simp[stepG,stepG.exec,aH,hr,doReturn]
 ·simp[stepG,stepG.exec,aH,hr,doReturn]
 ·simp[stepG,stepG.exec,aH,hr,doReturn,he]
theorem adY{b:Nat}{md:FrameMode}(hmd:md≠.run){todo:List Item}{calls:List Deferred}(hr:(Instr.takeDeferred b).run P w=.ok calls w'):
 step P (lone (aH fn tmps todo ({target:=.collected b,args:=#[]}::ds) kd ro md) cs w)=.next (lone (aH fn tmps todo (calls++ds) kd ro md) cs w'):=by
 refine step_lone_go ?_
 cases md<;>first
  |exact absurd rfl hmd
  |simp[stepG,aH,unwind,hr]
theorem aeE{md:FrameMode}(hmd:md≠.run){todo:List Item}{d:Deferred}(hn:d.target≠.nil)(hc:∀b,d.target≠.collected b){f:FuncId}{args:Array Value}(hr:(invoke d.target d.args).run P w=.ok (.enter f args) w'):
 step P (lone (aH fn tmps todo (d::ds) kd ro md) cs w)=.next (lone (Frame.enter P f args .deferred) (aH fn tmps todo ds kd ro md::cs) w'):=by
 refine step_lone_go ?_;obtain⟨target,dargs⟩:=d;simp only at hn hc hr
 have hnn:((match target with|.nil=>true|_=>false):Bool)=false:=by cases target<;>first|rfl|exact absurd rfl hn
 cases md<;>first
  |exact absurd rfl hmd
  |(cases target<;>first
   |exact absurd rfl hn
   |exact absurd rfl (hc _)
   |simp[stepG,aH,unwind,callDeferred,hr])
theorem aay{todo:List Item}{F:Func}(hF:P.funcs[fn]? =some F){v:Value}(hr:(results F tmps).run P w=.ok v w){c:Frame}:
 step P (lone (aH fn tmps todo [] .normal ro .returning) (c::cs) w)=.next (lone (c.finish v) cs w):=by
 refine step_lone_go ?_;simp[stepG,aH,unwind,hF,hr,doReturn]
theorem EM{todo:List Item}{F:Func}(hF:P.funcs[fn]? =some F){v:Value}(hr:(results F tmps).run P w=.ok v w){c c':Frame}
 (hc:(∃u,c.mode=.panicking [{v:=u,recovered:=true}]/\c'={c with mode:=.returning})\/((c.mode=.returning\/∃u,c.mode=.panicking [{v:=u,recovered:=false}])/\c'=c)):
 step P (lone (aH fn tmps todo [] .deferred ro .returning) (c::cs) w)=.next (lone c' cs w):=by
 refine step_lone_go ?_
 rcases hc with⟨u,hm,rfl⟩|⟨hm|⟨u,hm⟩,rfl⟩
 ·simp[stepG,aH,unwind,hF,hr,doReturn,hm]
 ·simp[stepG,aH,unwind,hF,hr,doReturn,hm]
 ·simp[stepG,aH,unwind,hF,hr,doReturn,hm]
theorem aa4{todo:List Item}{F:Func}(hF:P.funcs[fn]? =some F){ch:List PanicEntry}{c:Frame}:
 step P (lone (aH fn tmps todo [] kd ro (.panicking ch)) (c::cs) w)=.next (lone (c.raise ch) cs w):=by
 refine step_lone_go ?_;simp[stepG,aH,unwind,Frame.catches,hF]
end
def G8(P:Program)(ops:Array Oper)(gs:List AG)(todo:List Nat):Prop:=F2 (fun(g:AG) (i:Nat)=>∃o,ops[i]? =some o/\nC P ops.toList o=some g) gs todo
def LR(g:G)(h:List Ob)(l b:Nat):Prop:=Gl h l/\∃sz,g.ρ l=some (b,sz,0)
def IR(P:Program)(g:G)(h:List Ob):List It->List Item->Prop
 |[],[]=>True
 |.code a::k,.code c::k'=>CR P c a/\IR P g h k k'
 |.inBlock i _::k,.inBlock j::k'=>i=j/\IR P g h k k'
 |.inLoop _ a::k,.inLoop c::k'=>CR P c a/\IR P g h k k'
 |.ops gs::k,.inRegion ops todo::k'=>G8 P ops gs todo/\IR P g h k k'
 |.jv l::k,.inRangeFunc b::k'=>LR g h l b/\IR P g h k k'
 |.uk l::k,.endRangeFunc b::k'=>LR g h l b/\IR P g h k k'
 |.beginRound::k,.beginRound::k'=>IR P g h k k'
 |_,_=>False
def MR(g:G)(h:List Ob):Md->FrameMode->Prop
 |.run,m=>m=.run
 |.ret,m=>m=.returning
 |.da v rc,m=>∃u,m=.panicking [{v:=u,recovered:=rc}]/\V g h v u
def KR(g:G)(h:List Ob):FK->CallKind->Option Nat->Prop
 |.norm,k,ro=>k=.normal/\ro=none
 |.bA,k,ro=>k=.deferred/\ro=none
 |.round l,k,ro=>k=.normal/\∃b,ro=some b/\LR g h l b
structure k6(P:Program)(g:G)(h:List Ob)(f:Fr)(fr:Frame):Prop where
 md:MR g h f.md fr.mode
 fn:fr.fn=f.fn
 its:IR P g h f.its fr.todo
 t:VL g h f.t fr.tmps.toList
 ds:F2 (DR g h) f.ds fr.defers
 kind:KR g h f.kind fr.kind fr.roundOf
 is:∃fn,P.funcs[f.fn]? =some fn
def oe(n:Nat):FK->Bool
 |.round l=>decide (l<n)
 |_=>true
def qD(n:Nat):Md->Bool
 |.da v _=>aI n v
 |_=>true
def ke(n:Nat)(f:Fr):Bool:=aK n f.t&&j9 n f.ds&&fZ n f.its&&oe n f.kind&&qD n f.md
def SR(P:Program)(g:G)(h:List Ob)(f0:FuncId):Nat->List Fr->List Frame->Prop
 |_,[],fs=>fs=[]
 |n,f::up,fs=>∃fr fs',fs=fr::fs'/\k6 P g h f fr/\ke n f=true/\f.base<=n/\(up=[]->f.fn=f0/\f.kind=.norm)/\SR P g h f0 f.base up fs'
def cS(P:Program)(Γ:Nat->Option AV)(N:Env)(g0:G)(f0:FuncId)(cs0:List Frame):an->Machine->Prop
 |.fr f up h,m=>∃g w fr fs,m=lone fr (fs++cs0) w/\Inv P Γ N g h w/\(∀b o v,g0.M b o=some v->g.M b o=some v)/\SR P g h f0 h.length (f::up) (fr::fs)
 |.cl c args up h,m=>∃g w vs fs,m=lone (Frame.enter P c vs .normal) (fs++cs0) w/\Inv P Γ N g h w/\(∀b o v,g0.M b o=some v->g.M b o=some v)/\VL g h args vs.toList/\ar P c=true/\
  SR P g h f0 h.length up fs/\(up=[]->c=f0)
 |.back (c::up) v h,m=>∃g w u fr fs,m=lone (fr.finish u) (fs++cs0) w/\Inv P Γ N g h w/\(∀b o v,g0.M b o=some v->g.M b o=some v)/\V g h v u/\SR P g h f0 h.length (c::up) (fr::fs)
 |.back [] v h,m=>∃g w u fr,m=lone fr cs0 w/\Inv P Γ N g h w/\(∀b o v,g0.M b o=some v->g.M b o=some v)/\V g h v u/\fr.fn=f0/\fr.leaving P w (.returned u)
 |.die (c::up) v h,m=>∃g w u fr fs,m=lone (fr.raise [{v:=u,recovered:=false}]) (fs++cs0) w/\Inv P Γ N g h w/\(∀b o v,g0.M b o=some v->g.M b o=some v)/\V g h v u/\SR P g h f0 h.length (c::up) (fr::fs)
 |.die [] v h,m=>∃g w u fr,m=lone fr cs0 w/\Inv P Γ N g h w/\(∀b o v,g0.M b o=some v->g.M b o=some v)/\V g h v u/\fr.fn=f0/\fr.leaving P w (.panicked [{v:=u,recovered:=false}])
 |.bad,_=>True
section
variable{P:Program}{Γ:Nat->Option AV}{N:Env}{g g':G}{h h':List Ob}{w:World}
theorem Gh{n:Nat}(x:Ext n g h g' h'){l b:Nat}(hl:l<n)(h1:LR g h l b):LR g' h' l b:=by
 obtain⟨⟨st,j,fn,t,ps,p,q,hi⟩,sz,hρ⟩:=h1;obtain⟨⟨st',j',h1⟩,h2⟩:=x.loop l st j fn t ps p q hl hi;exact⟨⟨_,_,_,_,_,_,_,h1⟩,sz,h2 _ hρ⟩
theorem kN{n:Nat}(x:Ext n g h g' h'):∀{k:List It}{k':List Item},fZ n k=true->IR P g h k k'->IR P g' h' k k'
 |[],[],_,_=>trivial
 |[],_::_,_,h1=>by simp only[IR]at h1
 |it::k,[],_,h1=>by cases it<;>simp only[IR]at h1
 |it::k,im::k',hb,h1=>by
  cases it<;>cases im<;>simp only[IR]at h1⊢
  ·exact⟨h1.1,kN x (by simpa only [fZ]using hb) h1.2⟩
  ·exact⟨h1.1,kN x (by simpa only [fZ]using hb) h1.2⟩
  ·exact⟨h1.1,kN x (by simpa only [fZ]using hb) h1.2⟩
  ·exact⟨h1.1,kN x (by simpa only [fZ]using hb) h1.2⟩
  ·simp only[fZ,av,bj]at hb;exact⟨Gh x hb.1 h1.1,kN x hb.2 h1.2⟩
  ·simp only[fZ,av,bj]at hb;exact⟨Gh x hb.1 h1.1,kN x hb.2 h1.2⟩
  ·exact kN x (by simpa only [fZ]using hb) h1
theorem Gg{n:Nat}(x:Ext n g h g' h'){d:dt}{d':Deferred}(hb:(match d with|.call _ args=>aK n args|.mark i=>decide (i<n))=true)(h1:DR g h d d'):DR g' h' d d':=by
 cases d with
 |call f args=>
  obtain⟨cap,h2,h3⟩:=h1;exact⟨cap,h2,cA x hb h3⟩
 |mark i=>
  obtain⟨⟨l,hi⟩,b,sz,hρ,h2⟩:=h1;simp only[bj]at hb;obtain⟨h3,h4⟩:=x.bA i l hb hi;exact⟨h3,b,sz,h4 _ hρ,h2⟩
theorem wV{n:Nat}(x:Ext n g h g' h'):∀{ds:List dt}{ds':List Deferred},j9 n ds=true->F2 (DR g h) ds ds'->F2 (DR g' h') ds ds'
 |_,_,_,.nil=>.nil
 |.call f args::ds,_,hb,.cons h1 h2=>by
  simp only[j9,av]at hb;exact .cons (Gg x hb.1 h1) (wV x hb.2 h2)
 |.mark i::ds,_,hb,.cons h1 h2=>by
  simp only[j9,av]at hb;exact .cons (Gg x hb.1 h1) (wV x hb.2 h2)
theorem OG{n:Nat}(x:Ext n g h g' h'){m:Md}{m':FrameMode}(hb:qD n m=true)(h1:MR g h m m'):MR g' h' m m':=by
 cases m with
 |run=>exact h1
 |ret=>exact h1
 |da v rc=>obtain⟨u,h2,h3⟩:=h1;exact⟨u,h2,fN x hb h3⟩
theorem FU{n:Nat}(x:Ext n g h g' h'){k:FK}{c:CallKind}{ro:Option Nat}(hb:oe n k=true)(h1:KR g h k c ro):KR g' h' k c ro:=by
 cases k with
 |norm=>exact h1
 |bA=>exact h1
 |round l=>
  obtain⟨h2,b,h3,h4⟩:=h1;simp only[oe,bj]at hb;exact⟨h2,b,h3,Gh x hb h4⟩
theorem AE{n:Nat}(x:Ext n g h g' h'){f:Fr}{fr:Frame}(hb:ke n f=true)(h1:k6 P g h f fr):k6 P g' h' f fr:=by
 simp only[ke,av]at hb;obtain⟨⟨⟨⟨b1,b2⟩,b3⟩,b4⟩,b5⟩:=hb;exact⟨OG x b5 h1.md,h1.fn,kN x b3 h1.its,cA x b1 h1.t,wV x b2 h1.ds,FU x b4 h1.kind,h1.is⟩
theorem E5{n m:Nat}(h:n<=m):∀{ds:List dt},j9 n ds=true->j9 m ds=true
 |[],_=>rfl
 |.call _ _::ds,hb=>by simp only[j9,av]at hb⊢;exact⟨qe h hb.1,E5 h hb.2⟩
 |.mark _::ds,hb=>by simp only[j9,av,bj]at hb⊢;exact⟨by omega,E5 h hb.2⟩
theorem ER{n m:Nat}(h:n<=m):∀{k:List It},fZ n k=true->fZ m k=true
 |[],_=>rfl
 |it::k,hb=>by
  cases it<;>simp only[fZ,av,bj]at hb⊢<;>first
   |exact ER h hb
   |exact⟨by omega,ER h hb.2⟩
theorem aat{n m:Nat}(h:n<=m){f:Fr}(hb:ke n f=true):ke m f=true:=by
 simp only[ke,av]at hb⊢;obtain⟨⟨⟨⟨b1,b2⟩,b3⟩,b4⟩,b5⟩:=hb;refine⟨⟨⟨⟨qe h b1,E5 h b2⟩,ER h b3⟩,?_⟩,?_⟩
 ·cases hk:f.kind<;>simp only[hk,oe,bj]at b4⊢;omega
 ·cases hm:f.md<;>simp only[hm,qD]at b5⊢;exact wY h b5
theorem gn{f0:FuncId}:∀{n m:Nat}{l:List Fr}{fs:List Frame},Ext n g h g' h'->n<=m->SR P g h f0 n l fs->SR P g' h' f0 m l fs
 |_,_,[],_,_,_,h1=>h1
 |n,m,f::up,fs,x,hnm,h1=>by
  obtain⟨fr,fs',h2,h3,h4,h5,h6,h7⟩:=h1;exact⟨fr,fs',h2,AE x h4 h3,aat hnm h4,by omega,h6,gn (x.mono h5) (aT _) h7⟩
theorem lC:∀{k:List It}{k':List Item},IR P g h k k'->fZ h.length k=true
 |[],_,_=>rfl
 |it::k,[],h1=>by cases it<;>simp only[IR]at h1
 |it::k,im::k',h1=>by
  cases it<;>cases im<;>simp only[IR]at h1<;>simp only[fZ]
  ·exact lC h1.2
  ·exact lC h1.2
  ·exact lC h1.2
  ·exact lC h1.2
  ·simp only[av,bj];exact⟨aZ h1.1.1.choose_spec.choose_spec.choose_spec.choose_spec.choose_spec.choose_spec.choose_spec,lC h1.2⟩
  ·simp only[av,bj];exact⟨aZ h1.1.1.choose_spec.choose_spec.choose_spec.choose_spec.choose_spec.choose_spec.choose_spec,lC h1.2⟩
  ·exact lC h1
theorem Bt:∀{ds:List dt}{ds':List Deferred},F2 (DR g h) ds ds'->j9 h.length ds=true
 |_,_,.nil=>rfl
 |_,_,.cons (a:=a) h1 h2=>by
  cases a<;>simp only[j9,av,bj]
  ·obtain⟨_,_,h3⟩:=h1;exact⟨dm h3,Bt h2⟩
  ·obtain⟨⟨_,h3⟩,_⟩:=h1;exact⟨aZ h3,Bt h2⟩
theorem oW{f:Fr}{fr:Frame}(h1:k6 P g h f fr):ke h.length f=true:=by
 simp only[ke,av];refine⟨⟨⟨⟨dm h1.t,Bt h1.ds⟩,lC h1.its⟩,?_⟩,?_⟩
 ·have:=h1.kind
  cases hk:f.kind<;>simp only[hk,KR,oe,bj]at this⊢
  obtain⟨_,b,_,⟨_,_,_,_,_,_,_,h3⟩,_⟩:=this;exact aZ h3
 ·have:=h1.md
  cases hm:f.md<;>simp only[hm,MR,qD]at this⊢
  obtain⟨u,_,h2⟩:=this;exact kX h2
theorem qc{id:Nat}:∀{k:List It}{k':List Item},IR P g h k k'->match n6 id k with|some (q,_)=>∃q',exitTo id k'=some q'/\IR P g h q q'|none=>exitTo id k'=none
 |[],[],_=>rfl
 |[],_::_,h1=>by simp only[IR]at h1
 |it::k,[],h1=>by cases it<;>simp only[IR]at h1
 |it::k,im::k',h1=>by
  cases it<;>cases im<;>simp only[IR]at h1<;>simp only[n6,exitTo]
  ·exact qc h1.2
  ·rename_i i m j;obtain⟨rfl,h2⟩:=h1
   by_cases hij:i=id
   ·simp only[hij,cy,Jt];exact⟨k',rfl,h2⟩
   ·have:(i==id)=false:=by simp[hij]
    simp only[hij,db,this,ec];exact qc h2
  ·exact qc h1.2
  ·exact qc h1.2
  ·exact qc h1.2
  ·exact qc h1.2
  ·exact qc h1
theorem nc{t:List AV}{tmps:Array Value}(ht:VL g h t tmps.toList){d:Option Nat}{a:AV}{v:Value}(ha:V g h a v):VL g h (a8 t d a) (lT tmps d v).toList:=by
 cases d with
 |none=>exact ht
 |some d=>simp only[a8,lT,Jo];exact o9 d ht ha
theorem Ac{ops:Array Oper}{o:Oper}{ag:AG}(hc:nC P ops.toList o=some ag){t:List AV}{tmps:Array Value}(ht:VL g h t tmps.toList){b:Bool}(hw:dx t ag.guard=some b):
 Region.wanted o (yielded ops tmps)=b/\bV P o=some ag.op/\ag.dst=o.dst:=by
 unfold nC at hc
 cases hg:BB ops.toList o with
 |none=>simp[hg]at hc
 |some gd=>
  cases hcop:bV P o with
  |none=>simp[hg,hcop]at hc
  |some ao=>
   simp[hg,hcop]at hc;subst hc;refine⟨?_,rfl,rfl⟩;simp only at hw;unfold BB at hg;unfold Region.wanted
   split at hg
   ·rename_i hgn;simp only[ak]at hg;subst hg;simp only[dx,ak]at hw;rw[hgn];exact hw
   ·rename_i j bb hgn
    split at hg
    ·rename_i d hd;simp only[ak]at hg;subst hg;rw[hgn];simp only
     have hd':ops[j]?.bind (·.dst)=some d:=by simpa using hd
     have hv:=r8 d ht;simp only[dx]at hw;unfold yielded;rw[hd'];simp only[kx]
     split at hw
     ·rename_i x hx;rw[hx]at hv;simp only[ak]at hw;have hv2:=lF hv
      have hv3:tmps[d]? =some (.bool x):=by
       rw[bp]at hv2
       cases hq:tmps.toList[d]? with
       |none=>rw[hq]at hv2;simp[undef]at hv2
       |some q=>rw[hq]at hv2;simp at hv2;subst hv2;simpa using hq
      rw[hv3];simp only;rw[<-hw]
      cases x<;>cases bb<;>rfl
     ·rename_i hx;rw[hx]at hv;simp only[ak]at hw;subst hw;simp only[V,VL]at hv;obtain⟨vs,hv2,rfl⟩:=hv
      have hv3:∀x,tmps[d]? ≠some (.bool x):=by
       intro x hx2;rw[bp]at hv2
       have:tmps.toList[d]? =some (.bool x):=by simpa using hx2
       rw[this]at hv2;simp at hv2
      split
      ·rename_i x hx2;exact absurd hx2 (hv3 x)
      ·rfl
     ·simp at hw
    ·simp at hg
end
theorem PL{α β:Type}{R:α->β->Prop}:∀{as:List α}{bs:List β},as.length=bs.length->(∀(i:Nat)(a:α)(b:β),as[i]? =some a->bs[i]? =some b->R a b)->F2 R as bs
 |[],[],_,_=>.nil
 |a::as,b::bs,hl,hr=>.cons (hr 0 a b rfl rfl) (PL (by simpa using hl) fun i a b ha hb=>hr (i+1) a b (by simpa using ha) (by simpa using hb))
 |[],_::_,hl,_=>by simp at hl
 |_::_,[],hl,_=>by simp at hl
theorem wT{α β:Type}{f:α->Option β}:∀{l:List α}{r:List β},l.mapM f=some r->r.length=l.length/\∀(i:Nat)(b:β),r[i]? =some b->∃a,l[i]? =some a/\f a=some b
 |[],r,h=>by simp at h;subst h;simp
 |a::l,r,h=>by
  rw[q9]at h
  cases ha:f a with
  |none=>simp[ha]at h
  |some b=>
   cases hl:l.mapM f with
   |none=>simp[ha,hl]at h
   |some bs=>
    simp[ha,hl]at h;subst h;obtain⟨h1,h2⟩:=wT hl;refine⟨by simp[h1],fun i c hc=>?_⟩
    cases i with
    |zero=>simp at hc;subst hc;exact⟨a,rfl,ha⟩
    |succ i=>simpa using h2 i c (by simpa using hc)
theorem aec{P:Program}{ops:Array Oper}{gs:List AG}(h:ops.toList.mapM (nC P ops.toList)=some gs):G8 P ops gs (List.range ops.size):=by
 obtain⟨h1,h2⟩:=wT h
 refine PL (by simp[h1]) fun i g j hg hj=>?_
 obtain⟨o,ho,hc⟩:=h2 i g hg
 have hij:i=j:=by
  have h3:=cW.1 hj;obtain⟨_,h3⟩:=h3;simpa using h3
 subst hij;exact⟨o,by simpa using ho,hc⟩
structure St(P:Program)(Γ:Nat->Option AV)(N:Env)(g0:G)(f0:FuncId)(g:G)(h:List Ob)(w:World)(f:Fr)(up:List Fr)(tmps:Array Value)(todo:List Item)(ds:List Deferred)(kd:CallKind)(ro:Option Nat)(fs:List Frame):Prop where
 H:Inv P Γ N g h w
 M:∀b o v,g0.M b o=some v->g.M b o=some v
 its:IR P g h f.its todo
 t:VL g h f.t tmps.toList
 ds:F2 (DR g h) f.ds ds
 kind:KR g h f.kind kd ro
 is:∃fn,P.funcs[f.fn]? =some fn
 b:f.base<=h.length
 z:up=[]->f.fn=f0/\f.kind=.norm
 s:SR P g h f0 f.base up fs
section
variable{P:Program}{Γ:Nat->Option AV}{N:Env}{g0:G}{f0:FuncId}{cs0:List Frame}{g:G}{h:List Ob}{w:World}{f:Fr}{up:List Fr}{tmps:Array Value}{todo:List Item}{ds:List Deferred}{kd:CallKind}{ro:Option Nat}{fs:List Frame}
theorem St.rel(S:St P Γ N g0 f0 g h w f up tmps todo ds kd ro fs){md:FrameMode}(hm:MR g h f.md md):k6 P g h f (aH f.fn tmps todo ds kd ro md):=⟨hm,rfl,S.its,S.t,S.ds,S.kind,S.is⟩
theorem St.sr(S:St P Γ N g0 f0 g h w f up tmps todo ds kd ro fs){md:FrameMode}(hm:MR g h f.md md):SR P g h f0 h.length (f::up) (aH f.fn tmps todo ds kd ro md::fs):=
 ⟨_,_,rfl,S.rel hm,oW (S.rel hm),S.b,S.z,S.s⟩
theorem St.jP(S:St P Γ N g0 f0 g h w f up tmps todo ds kd ro fs){md:FrameMode}(hm:MR g h f.md md):cS P Γ N g0 f0 cs0 (.fr f up h) (lone (aH f.fn tmps todo ds kd ro md) (fs++cs0) w):=
 ⟨g,w,_,fs,rfl,S.H,S.M,S.sr hm⟩
theorem afh{k:FK}{c:CallKind}{ro:Option Nat}(h1:KR g h k c ro):oe h.length k=true:=by
 cases k with
 |norm|bA=>rfl
 |round l=>
  obtain⟨_,b,_,⟨_,_,_,_,_,_,_,h3⟩,_⟩:=h1;simp only[oe,bj];exact aZ h3
theorem St.mono(S:St P Γ N g0 f0 g h w f up tmps todo ds kd ro fs){g':G}{h':List Ob}{w':World}(H':Inv P Γ N g' h' w')(x:Ext h.length g h g' h')(hl:h.length<=h'.length):St P Γ N g0 f0 g' h' w' f up tmps todo ds kd ro fs:=
 ⟨H',fun b o v hv=>x.M _ _ _ (S.M b o v hv),kN x (lC S.its) S.its,cA x (dm S.t) S.t,wV x (Bt S.ds) S.ds,
  FU x (afh S.kind) S.kind,
  S.is,qY S.b hl,S.z,gn (x.mono S.b) (aT _) S.s⟩
theorem St.to(S:St P Γ N g0 f0 g h w f up tmps todo ds kd ro fs){its:List It}{todo':List Item}{t:List AV}{tmps':Array Value}{ads:List dt}{ds':List Deferred}{m:Md}
 (h1:IR P g h its todo')(h2:VL g h t tmps'.toList)(h3:F2 (DR g h) ads ds'):St P Γ N g0 f0 g h w {f with its:=its,t:=t,ds:=ads,md:=m} up tmps' todo' ds' kd ro fs:=
 ⟨S.H,S.M,h1,h2,h3,S.kind,S.is,S.b,S.z,S.s⟩
theorem cS.inv{m:Machine}(h1:cS P Γ N g0 f0 cs0 (.fr f up h) m):∃g w tmps todo ds kd ro md fs,m=lone (aH f.fn tmps todo ds kd ro md) (fs++cs0) w/\St P Γ N g0 f0 g h w f up tmps todo ds kd ro fs/\MR g h f.md md:=by
 obtain⟨g,w,fr,fs,rfl,H,hM,fr',fs',heq,hr,hbl,hb,h0,hs⟩:=h1
 cases heq
 obtain⟨fn,tmps,todo,ds,md,kd,ro⟩:=fr;obtain⟨r1,r2,r3,r4,r5,r6,r7⟩:=hr;simp only at r1 r2 r3 r4 r5 r6 r7;subst r2;exact⟨g,w,tmps,todo,ds,kd,ro,md,fs,rfl,⟨H,hM,r3,r4,r5,r6,r7,hb,h0,hs⟩,r1⟩
theorem xu(H:Inv P Γ N g h w){l b sz:Nat}(hρ:g.ρ l=some (b,sz,0)){st:LoopState}{j:Jump}{fn:FuncId}{t:List AV}{ps:List Nat}{p q:ah}(hi:h[l]? =some (.loop st j fn t ps p q)):
 ∃L:Loop,w.heap[b]? =some (.loop L)/\L.state=st/\JR j L.pending/\L.fn=fn/\VL g h t L.tmps.toList/\L.params.toList=ps/\CR P L.assign p/\CR P L.body q/\(∃F,P.funcs[fn]? =some F)/\
  ∀st' j' c',JR j' c'->Inv P Γ N g (h.set l (.loop st' j' fn t ps p q)) (w.putObj b (.loop {L with state:=st',pending:=c'}))/\Ext h.length g h g (h.set l (.loop st' j' fn t ps p q)):=by
 obtain⟨L,h1,h2,h3,h4,h5,h6,h7,h8,h9⟩:=H.ob l _ hi b sz 0 hρ;refine⟨L,h1,h2,h3,h4,h5,h6,h7,h8,h9,fun st' j' c' hj=>?_⟩;have hk:sameKind (.loop st j fn t ps p q) (.loop st' j' fn t ps p q):=⟨rfl,rfl,rfl,rfl,rfl⟩;have hE:=Ext.uh (g:=g) hi hk;refine⟨Inv.xS H hi hρ hk ?_,hE⟩;intro b' sz' st'' hb';rw[hρ]at hb';simp only[ak,bT]at hb';obtain⟨rfl,_⟩:=hb';exact⟨_,wR _ (H.own l b _ hρ).2,rfl,hj,h4,cA hE (dm h5) h5,h6,h7,h8,h9⟩
theorem Inv.PT(H:Inv P Γ N g h w){o':Ob}{B:Obj}(hob:OV P (g.bI h.length (some (w.heap.size,0,0))) (h++[o']) (w.alloc B) h.length o'):
 Inv P Γ N (g.bI h.length (some (w.heap.size,0,0))) (h++[o']) (w.alloc B):=
 H.push rfl rfl rfl (w8 w B) (by simp) (by
  intro b' x hx;simp only[ak,bT]at hx;obtain⟨rfl,_⟩:=hx
  simp) hob (by simp)
theorem L0(H:Inv P Γ N g h w){fn:FuncId}{t:List AV}{tmps:Array Value}{ps:Array Tmp}{c d:Code}{p q:ah}(k:Nat)(ht:VL g h t tmps.toList)(hp:CR P c p)(hq:CR P d q)(hf:∃F,P.funcs[fn]? =some F):
 ∃g',Inv P Γ N g' (h++[.loop .ready .none fn t ps.toList p q]) (w.alloc (.loop {state:=.ready,pending:=none,fn,tmps,params:=ps,assign:=c,body:=d,defers:=k}))/\Ext h.length g h g' (h++[.loop .ready .none fn t ps.toList p q])/\
  LR g' (h++[.loop .ready .none fn t ps.toList p q]) h.length w.heap.size:=by
 have hE:=Ext.push (g:=g) (h:=h) [.loop .ready .none fn t ps.toList p q] (some (w.heap.size,0,0));refine⟨_,H.PT ?_,hE,⟨_,_,_,_,_,_,_,qg _ _ _⟩,0,cX _ _ _⟩;intro b sz st hb;rw[cX]at hb;simp only[ak,bT]at hb;obtain⟨rfl,_⟩:=hb;exact⟨_,lx _ _,rfl,rfl,rfl,cA hE (dm ht) ht,rfl,hp,hq,hf⟩
theorem abp(H:Inv P Γ N g h w):
 ∃g',Inv P Γ N g' (h++[.bA true]) (w.alloc (.deferred (some [])))/\Ext h.length g h g' (h++[.bA true])/\DR g' (h++[.bA true]) (.mark h.length) {target:=.collected w.heap.size,args:=#[]}:=by
 have hE:=Ext.push (g:=g) (h:=h) [.bA true] (some (w.heap.size,0,0));refine⟨_,H.PT ?_,hE,⟨_,qg _ _ _⟩,_,_,cX _ _ _,rfl⟩;intro b sz st hb;rw[cX]at hb;simp only[ak,bT]at hb;obtain⟨rfl,_⟩:=hb;exact lx _ _
theorem P5{l b:Nat}(h1:LR g h l b):V g h (.cR l) (.func (.yield b) #[] #[]):=by
 obtain⟨h2,sz,h3⟩:=h1
 simp only[V];exact⟨h2,b,sz,h3,rfl⟩
def JT:Jump->List Item->Prop
 |.none,t=>t=[]
 |.ret,t=>∃k,t=.code .ret::k
 |.exit id,t=>∃k,t=.code (.exit id)::k/\exitTo id k=none
theorem Fv{c:Fr}{v:AV}{u:Value}{fr:Frame}(H:Inv P Γ N g h w)(hM:∀b o v,g0.M b o=some v->g.M b o=some v)(hv:V g h v u)(hs:SR P g h f0 h.length (c::up) (fr::fs)):
 cS P Γ N g0 f0 cs0 (.back (c::up) v h) (lone (fr.finish u) (fs++cs0) w):=⟨g,w,u,fr,fs,rfl,H,hM,hv,hs⟩
theorem Eg(S:St P Γ N g0 f0 g h w f up tmps todo ds kd ro fs){j:Jump}(hj:JT j todo):
 ∃m',Steps P (lone (aH f.fn tmps todo ds kd ro) (fs++cs0) w) m'/\cS P Γ N g0 f0 cs0 (leave f up h j) m':=by
 have hk:=S.kind;obtain⟨fmd,ffn,fits,ft,fds,fk,fb⟩:=f;unfold leave
 cases fk with
 |round l=>
  obtain⟨rfl,b,rfl,hL⟩:=hk;obtain⟨⟨st,pj,fn,t,ps,p,q,hi⟩,sz,hρ⟩:=hL;simp only[hi]
  cases up with
  |nil=>have:=(S.z rfl).2;cases this
  |cons c up=>
   have hs:=S.s;obtain⟨fr,fs',rfl,h1,h2,h3,h4,h5⟩:=hs;obtain⟨L,hL1,hL2,hL3,hL4,hL5,hL6,hL7,hL8,_,hset⟩:=xu S.H hρ hi
   obtain⟨c',hc',hjc⟩:∃c':Option Code,JR j c'/\((todo=[]/\c'=none)\/(∃k,todo=.code .ret::k/\c'=some .ret)\/(∃id k,todo=.code (.exit id)::k/\exitTo id k=none/\c'=some (.exit id))):=by
    cases j with
    |none=>exact⟨none,rfl,Or.inl ⟨hj,rfl⟩⟩
    |ret=>obtain⟨k,hk⟩:=hj;exact⟨_,rfl,Or.inr (Or.inl ⟨k,hk,rfl⟩)⟩
    |exit id=>obtain⟨k,hk,he⟩:=hj;exact⟨_,rfl,Or.inr (Or.inr ⟨id,k,hk,he,rfl⟩)⟩
   have hjn:c'.isNone=decide (j=Jump.none):=by
    cases j<;>simp only[JR]at hc'<;>subst hc'<;>rfl
   obtain⟨H',x⟩:=hset (if c'.isNone then .ready else .done) j c' hc';refine⟨_,.one (WE hjc (run_endRound c' hL1)),?_⟩;rw[show(if j=Jump.none then LoopState.ready else LoopState.done)=(if c'.isNone then .ready else .done) by rw[hjn];simp,show(j==Jump.none)=c'.isNone by rw[hjn];rfl];exact Fv H' (fun b o v hv=>x.M _ _ _ (S.M b o v hv)) (by simp[V]) (gn (x.mono S.b) (by rw[jn];exact S.b) S.s)
 |norm|bA=>
  obtain⟨_,rfl⟩:=hk
  cases j with
  |none=>
   cases hj
   exact⟨_,.one afc,St.jP (f:=⟨.ret,_,_,_,_,_,_⟩) ⟨S.H,S.M,S.its,S.t,S.ds,S.kind,S.is,S.b,S.z,S.s⟩ rfl⟩
  |ret=>
   obtain⟨k,rfl⟩:=hj;exact⟨_,.one afD,St.jP (f:=⟨.ret,_,_,_,_,_,_⟩) ⟨S.H,S.M,S.its,S.t,S.ds,S.kind,S.is,S.b,S.z,S.s⟩ rfl⟩
  |exit id=>exact⟨_,.refl _ _,by trivial⟩
end
end Go.AM
