/- The abstract machine: ap -/
import Derived.Test.YtchjijfjidlpjaaGreatDoorAMa
import Derived.RangeFuncRecord
import Derived.RangeFuncNested
set_option linter.unusedSimpArgs false
set_option linter.unusedVariables false
namespace Go.AM
open Go.RowKit
def oP(e:TypeId)(size:Nat)(base:Option Addr)(sLen sCap n:Nat)(hv:Bool)(s x:Value)(appended:Sem (Array Value)):Sem Value:=do
 let dy:=sLen+n
 if dy<=sCap then
  let new<-appended
  if let some a:=base then storeCells (a.add (sLen*size)) new.toList
  pure (.slice base dy sCap)
 else
  if(dy:Int)>IntKind.i64.max/\(hv\/(<-typeInfo e).bytes=0)then runtimePanic (.error "growslice: len out of range")
  if Builtin.nextslicecap dy sCap*(<-typeInfo e).bytes>2^48 then(if hv then runtimePanic (.error "growslice: len out of range")else do
   if !(<-Builtin.mayShare size sLen n base x)then mark .noRoom
   unsupported (.resourceLimit "append: a slice or a string whose bytes no memory bears"))
  let h2<-choose (.appendCap dy sCap e)
  askRoom (h2*(<-typeInfo e).bytes)
  let mu<-Builtin.firstCells size sLen s
  let new<-appended
  let rest:=Builtin.zeroCells (<-zeroValue e).cells (h2-dy)
  pure (.slice (some (<-newRow e (mu++new++rest))) dy h2)
section
variable{P:Program}{w:World}
theorem F9{sT u ty e:TypeId}{k:Nat}(ht:P.underlying sT=some (.slice e))(hk:bH P e=some k){d:TypeDesc}(hu:P.underlying u=some d)(hd:∀j,d≠.int j){base:Option Addr}{sLen sCap n:Nat}{x:Value}
 (hn:(Builtin.lenOf x).run P w=.ok n w):
 (Builtin.append_ #[sT,u] ty #[.slice base sLen sCap,x]).run P w=(oP e k base sLen sCap n false (.slice base sLen sCap) x (Builtin.firstCells k n x)).run P w:=by
 unfold Builtin.append_;simp only[qv,rV,oB]
 cases d<;>first
  |exact absurd rfl (hd _)
  |(simp only[Sem.run_bind,run_underlying ht,Result.andThen_ok,jQ hk,run_underlying hu,Sem.run_pure,fe,dq,hn,oP,xC,cE]
    rfl)
theorem Z5{sT u ty e:TypeId}{k B:Nat}(ht:P.underlying sT=some (.slice e))(hk:bH P e=some k)(hB:mU P e=some B){j:IntKind}(hu:P.underlying u=some (.int j)){base:Option Addr}{sLen sCap:Nat}
 {i:IntKind}{m:Int}(h0:0<=m)(hm:m<=2^47)(hx:m*B<=2^48):
 (Builtin.append_ #[sT,u] ty #[.slice base sLen sCap,.int i m]).run P w=(oP e k base sLen sCap m.toNat true (.slice base sLen sCap) (.int i m)
  (if m.toNat*k=0 then pure #[]else do pure (Builtin.zeroCells (<-zeroValue e).cells m.toNat))).run P w:=by
 have hv:IntKind.i64.wrap m=m:=IntWalk.i64_in _ (by omega)
 have h2:∃i,P.info? e=some i/\i.bytes=B:=by
  unfold mU at hB
  cases hi:P.info? e with
  |none=>simp[hi]at hB
  |some i=>simp[hi]at hB;exact⟨i,rfl,hB⟩
 obtain⟨ti,h2,hb⟩:=h2
 have hc:(typeInfo e).run P w=.ok ti w:=by simp[typeInfo,h2]
 unfold Builtin.append_;simp only[qv,rV,oB];simp only[Sem.run_bind,run_underlying ht,Result.andThen_ok,jQ hk,run_underlying hu,Sem.run_pure];simp only[cE,Sem.run_bind,asInt,asIntOf,Sem.run_pure,Result.andThen_ok,hv];rw[if_neg (by omega)];simp only[Sem.run_bind,hc,Result.andThen_ok,hb];rw[if_neg (by omega)];simp only[oP,rT,fe,dq];rfl
theorem MK{e:TypeId}{k sLen sCap n:Nat}{z:Bool}{s x:Value}{ap:Sem (Array Value)}{news:Array Value}(h2:ap.run P w=.ok news w){b p:Nat}{c:Array Value}{E:TypeId}{fz:Nat×Nat}
 (hb:w.heap[b]? =some (.cells c E fz))(hf:od c fz)(hl:p+sLen*k+news.size<=c.size)(h1:∀v∈news.toList,v.oneCell'=true)(hn:sLen+n<=sCap):
 (oP e k (some ⟨b,p,none⟩) sLen sCap n z s x ap).run P w=.ok (.slice (some ⟨b,p,none⟩) (sLen+n) sCap) (w.setRow b (eX c.toList (p+sLen*k) news.toList).toArray):=by
 have h3:=BX P b (p+sLen*k) E fz news.toList 0 c w hb hf (by simpa using hl) h1;rw[iz]at h3;simp only[oP];rw[if_pos hn];simp only[Sem.run_bind,h2,Result.andThen_ok,l8,h3,Sem.run_pure];rfl
theorem aah{e:TypeId}{k sLen sCap:Nat}{z:Bool}{s x:Value}{base:Option Addr}{ap:Sem (Array Value)}(h2:ap.run P w=.ok #[] w)(hn:sLen<=sCap):
 (oP e k base sLen sCap 0 z s x ap).run P w=.ok (.slice base sLen sCap) w:=by
 simp only[oP,iz];rw[if_pos hn];simp only[Sem.run_bind,h2,Result.andThen_ok]
 cases base with
 |none=>simp
 |some a=>simp[storeCells]
theorem Z_{e:TypeId}{k B sLen sCap n:Nat}{z:Bool}{s x:Value}{base:Option Addr}{ap:Sem (Array Value)}{hv news:Array Value}{zv:Value}(hx:ap.run P w.drew=.ok news w.drew)(hB:mU P e=some B)(q1:B≠0)
 (hk:∀w,(zeroValue e).run P w=.ok zv w)(hn:sCap<sLen+n)(hj:(sLen+n)*B<=2^47)(hold:(Builtin.firstCells k sLen s).run P w.drew=.ok hv w.drew):
 ∃cap,sLen+n<=cap/\(oP e k base sLen sCap n z s x ap).run P w=
  .ok (.slice (some ⟨w.heap.size,0,none⟩) (sLen+n) cap) (w.drew.alloc (.cells (hv++news++Builtin.zeroCells zv.cells (cap-(sLen+n))) e)):=by
 have hb:∃i,P.info? e=some i/\i.bytes=B:=by
  unfold mU at hB
  cases hi:P.info? e with
  |none=>simp[hi]at hB
  |some i=>simp[hi]at hB;exact⟨i,rfl,hB⟩
 obtain⟨ti,hb,hl⟩:=hb
 have hc:∀w,(typeInfo e).run P w=.ok ti w:=fun w=>by simp[typeInfo,hb]
 have h4:sLen+n<=2^47:=by
  have:(sLen+n)*1<=(sLen+n)*B:=Nat.mul_le_mul_left _ (by omega);omega
 refine⟨grownCap w (sLen+n) sCap e,?_,?_⟩
 ·simp[grownCap,Question.cut]
 ·have h1:¬(((sLen+n:Nat):Int)>IntKind.i64.max/\(z=true\/ti.bytes=0)):=by
   rw[IntKind.max_i64];rintro⟨h,_⟩;omega
  have h2:¬(Builtin.nextslicecap (sLen+n) sCap*ti.bytes>2^48):=by
   rw[hl];have:=growslice_fits hn (bytes:=B) (by simpa using hj);omega
  simp only[oP];rw[if_neg (by omega)];simp only[Sem.run_bind,hc,Result.andThen_ok];rw[if_neg h1];simp only[Sem.run_bind,hc,Result.andThen_ok];rw[if_neg h2];simp only[Sem.run_bind,run_choose,Question.forced,fe,dq,World.drew_eq,Result.andThen_ok,hc,run_askRoom,hold,hx,hk,newRow,run_newObj,Sem.run_pure];rfl
end
section
variable{P:Program}{Γ:Nat->Option AV}{N:Env}{g:G}{h:List Ob}{w:World}{r:Operand->Value}{o:Oper}{t:List AV}
theorem G2{k:Nat}:∀{es:List AV}{vs:List Value},eC k es->VE g h es vs->∀v∈vs,v.oneCell'=true
 |[],vs,_,hv=>by simp only[VE]at hv;subst hv;simp
 |e::es,vs,hk,hv=>by
  simp only[VE]at hv;obtain⟨v,vs',h1,rfl,hr⟩:=hv;have he:=hk e (by simp);intro u hu
  rcases a8.1 hu with hu|hu
  ·exact F4 he.2 (qV (si he.2) h1) u hu
  ·exact G2 (fun x hx=>hk x (by simp[hx])) hr u hu
theorem Inv.drew(H:Inv P Γ N g h w):Inv P Γ N g h w.drew:=H.world rfl rfl rfl rfl
theorem Qa(H:Inv P Γ N g h w){a:AV}{base:Option Addr}{n cap k:Nat}(hv:V g h a (.slice base n cap)){es:List AV}(he:lD h a=some (k,es)):
 es.length=n/\∃hb:Array Value,(Builtin.firstCells k n (.slice base n cap)).run P w=.ok hb w/\VE g h es hb.toList:=by
 obtain⟨hK,ad,hc,vs,hs,h1,h2⟩:=zm H hv he;simp only[Value.slice.injEq]at hs;obtain⟨rfl,rfl,rfl⟩:=hs;refine⟨rfl,vs.toArray,?_,by simpa using h1⟩;have hl:=jD hK h1
 rcases h2 with rfl|⟨b,p,rfl,h3⟩
 ·simp only[VE]at h1;subst h1
  cases base with
  |none=>simp[run_firstCells_none]
  |some b=>exact run_firstCells_some w k 0 b 0 cap [] (by simp) (by simp)
 ·exact run_firstCells_some w k es.length ⟨b,p,none⟩ es.length cap vs hl (fun j v hj=>by rw[l8];exact h3 j v hj)
theorem B7(H:Inv P Γ N g h w){e:TypeId}{k B:Nat}(hk:0<k)(hB:mU P e=some B)(et:B≠0){zv:Value}(s0:∀w,(zeroValue e).run P w=.ok zv w)(o3:zv.cells.size=k)
 {z:Bool}{s x:Value}{ap:Sem (Array Value)}{news:Array Value}{ys:List AV}{ea:Bool}
 (q5:∀base sLen sCap,s=.slice base sLen sCap->(execOp r o).run P w=((oP e k base sLen sCap ys.length z s x ap).run P w).andThen fun v w=>.ok (.value v) w)
 (o1:∀w':World,w'.heap=w.heap->ap.run P w'=.ok news w')(ps:VE g h ys news.toList)(bs:eC k ys)(k0:ea=true->cG ys k=true)
 {a v:AV}{h':List Ob}{E:TypeId}(ha:V g h a s)(hA:ja h k E B a ys ea=.val v h'):aO P Γ N r o w g h h' (some v):=by
 have ss:news.size=ys.length*k:=by have:=jD bs ps;simpa using this
 have hz:=G2 bs ps
 have q3:∀(base:Option Addr)(sLen sCap:Nat)(es:List AV)(q1:Array Value),s=.slice base sLen sCap->sCap<sLen+ys.length->(sLen+ys.length)*B<=2^47->
  (Builtin.firstCells k sLen s).run P w.drew=.ok q1 w.drew->VE g h es q1.toList->eC k es->es.length=sLen->
  ∃cap rest,sLen+ys.length<=cap/\(execOp r o).run P w=.ok (.value (.slice (some ⟨w.heap.size,0,none⟩) (sLen+ys.length) cap)) (w.drew.alloc (.cells ((q1.toList++news.toList)++rest).toArray e))/\
   cap*k<=((q1.toList++news.toList)++rest).length:=by
  intro base sLen sCap es q1 hs y2 hb hold hE hK hl;obtain⟨cap,hc,ht⟩:=Z_ (x:=x) (z:=z) (base:=base) (o1 w.drew rfl) hB et s0 y2 hb hold;have im:=jD hK hE;refine⟨cap,(Builtin.zeroCells zv.cells (cap-(sLen+ys.length))).toList,hc,?_,?_⟩
  ·rw[q5 base sLen sCap hs,ht];simp only[Result.andThen_ok];congr 3;apply jv;simp
  ·have:(Builtin.zeroCells zv.cells (cap-(sLen+ys.length))).size=(cap-(sLen+ys.length))*k:=by simp[Builtin.zeroCells,o3]
   simp only[bC,xE,this,ss];simp at im;rw[im,hl,<-gU,<-gU];exact mG _ (by omega)
 have ck:∀base sLen sCap,s=.slice base sLen sCap->sLen<=sCap->ys=[]->(execOp r o).run P w=.ok (.value s) w:=by
  intro base sLen sCap hs hle hy;subst hy
  have kk:news=#[]:=by apply jv;simp only[VE]at ps;simpa using ps
  rw[q5 base sLen sCap hs,c_,aah (by rw[o1 w rfl,kk]) hle,hs];rfl
 cases a<;>simp only[ja,reduceCtorEq]at hA
 case list f k' es=>
  cases f<;>simp only[reduceCtorEq]at hA
  split at hA
  ·rename_i hc;obtain⟨q0,r1⟩:=hc;have b2:=ha;simp only[V]at b2;obtain⟨gu,base,cap,hs,hg,_,_⟩:=b2;have hg:=hg trivial
   split at hA
   ·simp only[R.val.injEq]at hA;obtain⟨rfl,rfl⟩:=hA;exact aO.same H (ck base _ _ hs (by omega) rfl) ha
   ·rename_i y x9;simp only[R.val.injEq]at hA;obtain⟨rfl,rfl⟩:=hA
    have hK:eC k es:=by
     rcases r1 with rfl|rfl
     ·exact ly gu
     ·intro e he;simp at he
    have j1:cG es k=true:=by
     rcases r1 with rfl|rfl
     ·exact gu
     ·rfl
    have x7:lD h (.list true k' es)=some (k',es):=rfl
    have hold:∃q1:Array Value,(Builtin.firstCells k es.length s).run P w.drew=.ok q1 w.drew/\VE g h es q1.toList:=by
     rcases r1 with rfl|rfl
     ·rw[hs]at ha⊢;exact(Qa H.drew ha x7).2
     ·rw[hs];refine⟨#[],?_,by simp[VE]⟩
      cases base with
      |none=>simp[run_firstCells_none]
      |some b=>simpa using run_firstCells_some (P:=P) w.drew k 0 b 0 cap [] (by simp) (by simp)
    obtain⟨q1,hold,x5⟩:=hold;obtain⟨gg,rest,h1,h2,h3⟩:=q3 base es.length cap es q1 hs (by simp;omega) q0 hold x5 hK rfl;have hp:=qL x5 ps
    have ao:eC k (es++y::x9):=by
     intro e he
     rcases a8.1 he with he|he
     ·exact hK e he
     ·exact bs e he
    refine aO.make (w':=w.drew) H rfl rfl rfl rfl (sz:=((q1.toList++news.toList)++rest).length) h2 ?_ (by simp) ?_
    ·exact Dr (P:=P) hk ao (fun hf=>vx.2 ⟨j1,k0 hf⟩) (du _ _ _) (mM w.drew _) rfl (v8 _) (gY (Ext.push _ _) (lH hp) hp)
    ·have:=CO (h:=h) (g':=g.bP h.length (some (w.heap.size,((q1.toList++news.toList)++rest).length,0))) (k:=k) (E:=E) (es:=es++y::x9) (os:=[]) (fl:=ea) (sh:=false) (du _ _ _) (cap:=gg) (by simpa using h1) h3;simpa using this
  ·simp at hA
 case sl i off n=>
  split at hA
  ·rename_i k' E' es gr fl sh hi
   split at hA
   ·rename_i hc;obtain⟨rfl,rfl,gu,q0⟩:=hc;have k1:=bd hi;have b2:=ha;simp only[V]at b2;obtain⟨k2,E2,u1,og,w1,q6,bk,hle,base,cap,hs,hg,xm,hq⟩:=b2;rw[hi]at bk;simp only[an,Ob.row.injEq]at bk;obtain⟨rfl,rfl,rfl,rfl,rfl,rfl⟩:=bk;obtain⟨lk,hq⟩:=hq gu;have bh:=H.ob i _ hi;simp only[OV]at bh;obtain⟨_,hK,gj,ox,hb⟩:=bh
    have r4:gr.getD 0<=off:=by
     cases gr with
     |none=>simp
     |some lo=>simp only[cW,aB,bj]at gu;simpa using gu.1
    split at hA
    ·rename_i r2;simp only[R.val.injEq]at hA;obtain⟨rfl,rfl⟩:=hA
     by_cases j2:ys=[]
     ·subst j2;simp only[ey,List.isEmpty_nil,cE,c_,iz];have kl:h.set i (.row k' E' es gr (fl&&ea) sh)=h.set i (.row k' E' es gr (fl&&ea) sh):=rfl
      have hE:Ext h.length g h g (h.set i (.row k' E' es gr (fl&&ea) sh)):=by
       have:=Ext.qU (g:=g) (E':=E') (es':=es) (gr':=gr) (fl':=fl&&ea) (sh':=sh) (ρ':=g.ρ i) hi (aT _) (fun h9 m _ h1=>⟨h1,rfl,fun _ h=>h⟩);rwa[dt]at this
      refine⟨g,w,_,ck base n cap hs hg rfl,?_,hE,_,rfl,gZ hE (mj ha) ha⟩
      have:=Inv.set (r:=g.ρ i) (w':=w) H k1 (by rw[dt];exact hE) rfl rfl rfl (fun _ _ _=>rfl) (aT _) (fun b' y hy=>⟨Or.inl ⟨y,hy⟩,(H.own i b' y hy).2⟩)
       (fun b y o v _ hv=>H.mem b o v hv) (by
        intro b sz st o v hy hv;obtain⟨k3,E3,xr,ns,gl,h5,h6⟩:=H.fo i b sz st o v hy hv;rw[hi]at h5;simp only[an,Ob.row.injEq]at h5;obtain⟨rfl,rfl,rfl,rfl,rfl,rfl⟩:=h5
        exact⟨_,_,_,_,_,rfl,h6⟩)
       (by
        rw[dt];have:=oN (w':=w) hE rfl (fun _ _ _=>rfl) (H.ob i _ hi);simp only[OV]at this⊢
        exact⟨this.1,this.2.1,fun hf=>this.2.2.1 (by simp only[aB]at hf;exact hf.1),this.2.2.2⟩)
      rwa[dt]at this
     ·have b0:0<ys.length:=rW.2 j2
      have q7:ys.isEmpty=false:=by cases ys<;>simp at j2⊢
      rw[q7];simp only[fe,dq]
      have ao:eC k' (es++ys):=by
       intro e he
       rcases a8.1 he with he|he
       ·exact hK e he
       ·exact bs e he
      have ts:(fl&&ea)=true->cG (es++ys) k'=true:=fun hf=>by
       simp only[aB]at hf;exact vx.2 ⟨gj hf.1,k0 hf.2⟩
      by_cases hd:n+ys.length<=cap
      ·
       rcases hq with⟨h0,ti⟩|⟨b,sz,st,hρ,e5,rfl,b3⟩
       ·omega
       rw[hρ]at hb;simp only at hb;obtain⟨e4,c,Eb,fz,vs,hw,l1,ih,hp,h4⟩:=hb
       have hm:(off-st)*k'+n*k'+news.size<=c.size:=by
        rw[ss,l1,<-gU,<-gU];exact tu (mG _ (by omega)) b3
       have ht:=MK (e:=e) (k:=k') (sLen:=n) (sCap:=cap) (n:=ys.length) (z:=z) (s:=s) (x:=x) (o1 w rfl) (p:=(off-st)*k') hw ih hm hz hd
       have hE:Ext h.length g h g (h.set i (.row k' E' (es++ys) (some off) (fl&&ea) sh)):=by
        have:=Ext.qU (g:=g) (E':=E') (es':=es++ys) (gr':=some off) (fl':=fl&&ea) (sh':=sh) (ρ':=g.ρ i) hi (by simp) (by
         intro h9 m x6 h1;simp only[cW,aB,nA,bC]at h1
         omega)
        rwa[dt]at this
       have x0:(off-st)*k'+n*k'+news.toList.length<=c.toList.length:=by simpa using hm
       have l2:=sf x0;refine⟨g,_,_,by rw[q5 _ _ _ hs,ht];rfl,Inv.write H k1 hρ hw hE ?_ ?_ ?_,hE,_,rfl,?_⟩
       ·intro o v hv;obtain⟨k3,E3,xr,ns,gl,h5,h6⟩:=H.fo i b sz st o v hρ hv;rw[hi]at h5;simp only[an,Ob.row.injEq]at h5;obtain⟨rfl,rfl,rfl,rfl,rfl,rfl⟩:=h5
        have e1:(off-st)*k'+n*k'=(es.length-st)*k':=by rw[<-gU];congr 1;omega
        rw[qv,oK x0,if_pos (by omega)];simp
       ·intro l3 xw o v hy hv;obtain⟨k3,E3,xr,ns,gl,h5,h6⟩:=H.fo i b l3 xw o v hy hv;rw[hi]at h5;simp only[an,Ob.row.injEq]at h5;obtain⟨rfl,rfl,rfl,rfl,rfl,rfl⟩:=h5;refine⟨_,_,_,_,_,rfl,lX h6 (mG _ (by simp;omega))⟩
       ·simp only[OV];refine⟨hk,ao,ts,by simp;omega,?_⟩;rw[hρ];simp only[kH]
        have x8:(es++ys).drop off=es.drop off++ys:=by rw[List.drop_append_of_le_length (by omega)]
        have ix:eC k' (es.drop (gr.getD 0)):=fun x hx=>hK x (kE hx)
        have mx:=wu ix hp (off-gr.getD 0);rw[List.drop_drop,show gr.getD 0+(off-gr.getD 0)=off by omega]at mx;have q4:=qL mx ps;refine⟨e5,(eX c.toList ((off-st)*k'+n*k') news.toList).toArray,Eb,fz,vs.drop ((off-gr.getD 0)*k')++news.toList,setRow_heap w b c _ Eb fz hw,?_,vX ih ?_,?_,?_⟩
        ·simp only[rU];rw[l2];simpa using l1
        ·simp only[rU];rw[l2];simp
        ·rw[x8];exact gY hE (lH q4) q4
        ·intro j hj;have e0:=jD ix hp
         have e6:vs.length=(es.length-gr.getD 0)*k':=by rw[e0];simp
         have e2:vs.length-(off-gr.getD 0)*k'=n*k':=by
          rw[e6,<-Nat.sub_mul];congr 1;omega
         rw[qv,oK x0]
         by_cases b5:j<n*k'
         ·rw[if_pos (by omega),xF (by simp;omega),List.getElem_drop];have h5:=h4 ((off-gr.getD 0)*k'+j) (by omega);rw[<-h5]
          have e3:(gr.getD 0-st)*k'+(off-gr.getD 0)*k'=(off-st)*k':=by rw[<-gU];congr 1;omega
          rw[xG];congr 1;omega
         ·rw[if_neg (by omega)];simp only[bC,Fk,e2]at hj;rw[if_pos (by omega),Fq (by simp;omega)];rw[aW (by omega)];congr 1;simp only[Fk,e2];congr 1;omega
       ·simp only[V];refine⟨k',E',es++ys,some off,fl&&ea,sh,ff k1,by simp;omega,_,cap,rfl,hd,fun _=>⟨_,_,rfl⟩,fun _=>⟨by simp;omega,Or.inr ⟨b,sz,st,hρ,e5,rfl,b3⟩⟩⟩
      ·
       have x7:lD h (.sl i off n)=some (k',(es.drop off).take n):=by simp only[lD,hi,gu,cE]
       have fk:(es.drop off).take n=es.drop off:=by rw[cj (by simp;omega)]
       rw[fk]at x7;rw[hs]at ha;obtain⟨xn,q1,hold,x5⟩:=Qa H.drew ha x7
       have ix:eC k' (es.drop off):=fun x hx=>hK x (kE hx)
       obtain⟨gg,rest,h1,h2,h3⟩:=q3 base n cap (es.drop off) q1 hs (by omega) q0 (by rw[hs];exact hold) x5 ix xn;have hp:=qL x5 ps
       have hE:Ext h.length g h (g.bP i (some (w.heap.size,((q1.toList++news.toList)++rest).length,off))) (h.set i (.row k' E' (es++ys) (some off) (fl&&ea) sh)):=
        Ext.qU hi (by simp) (by
         intro h9 m x6 h1;simp only[cW,aB,nA,bC]at h1
         omega)
       refine⟨_,_,_,h2,Inv.set H k1 hE rfl rfl rfl (fun b hb _=>by rw[Aa _ _ _ (by simpa using hb)];rfl) (by simp) ?_ ?_ ?_ ?_,hE,_,rfl,?_⟩
       ·intro b x hx;simp only[an,b9]at hx;obtain⟨rfl,_⟩:=hx;exact⟨Or.inr (aT _),by simp⟩
       ·intro b y o v hy hv;rw[vB (Aa _ _ _ (by simpa using(H.own i b y hy).2))];exact H.mem b o v hv
       ·intro b sz st o v hx hv;simp only[an,b9]at hx;obtain⟨rfl,_⟩:=hx;have:w.heap.size<w.heap.size:=xx (H.mem _ o v hv);omega
       ·simp only[OV];refine⟨hk,ao,ts,by simp;omega,?_⟩;rw[du];simp only[kH];refine⟨aT _,_,e,(0,0),q1.toList++news.toList,mM w.drew _,by simp,v8 _,?_,?_⟩
        ·rw[List.drop_append_of_le_length (by omega)];exact gY hE (lH hp) hp
        ·intro j hj;rw[Fs,xA,jw,qv,cF hj,aW hj]
       ·simp only[V]
        refine⟨k',E',es++ys,some off,fl&&ea,sh,ff k1,by simp;omega,_,gg,rfl,h1,fun _=>⟨_,_,rfl⟩,
         fun _=>⟨by simp;omega,Or.inr ⟨w.heap.size,_,off,du _ _ _,aT _,by simp,by simpa using h3⟩⟩⟩
    ·rename_i r2
     split at hA
     ·rename_i yn;obtain⟨r3,rfl⟩:=yn;simp only[R.val.injEq]at hA;obtain⟨rfl,rfl⟩:=hA
      rcases hq with⟨h0,ti⟩|⟨b,sz,st,hρ,e5,rfl,b3⟩
      ·omega
      rw[hρ]at hb;simp only at hb;obtain⟨e4,c,Eb,fz,vs,hw,l1,ih,hp,h4⟩:=hb
      have hd:n+ys.length<=cap:=by omega
      have hm:(off-st)*k'+n*k'+news.size<=c.size:=by
       rw[ss,l1,<-gU,<-gU];exact tu (mG _ (by omega)) b3
      have ht:=MK (e:=e) (k:=k') (sLen:=n) (sCap:=cap) (n:=ys.length) (z:=z) (s:=s) (x:=x) (o1 w rfl) (p:=(off-st)*k') hw ih hm hz hd
      have q2:(es.take (off+n)++ys++es.drop (off+n+ys.length)).length=es.length:=by simp;omega
      have gi:gr=none:=by
       cases gr with
       |none=>rfl
       |some lo=>simp only[cW,aB,nA]at gu;omega
      subst gi;simp only[vf,Nat.zero_sub,xA,jw,fM,Nat.le_zero_eq]at*;subst e4
      have hE:Ext h.length g h g (h.set i (.row k' E' (es.take (off+n)++ys++es.drop (off+n+ys.length)) none (fl&&ea) false)):=by
       have:=Ext.qU (g:=g) (E':=E') (es':=es.take (off+n)++ys++es.drop (off+n+ys.length)) (gr':=none) (fl':=fl&&ea) (sh':=false) (ρ':=g.ρ i) hi (by omega) (by
        intro h9 m x6 h1
        refine⟨by simpa[cW]using x6,q2,fun _ h=>h⟩)
       rwa[dt]at this
      have x0:(off-0)*k'+n*k'+news.toList.length<=c.toList.length:=by simpa using hm
      have l2:=sf x0
      have ad:∀o v,g.M b o=some v->False:=by
       intro o v hv;obtain⟨_,_,_,_,_,h5,_⟩:=H.fo i b sz 0 o v hρ hv;rw[hi]at h5;simp at h5
      have fb:eC k' (es.take (off+n)++ys++es.drop (off+n+ys.length)):=by
       intro e he;simp only[a8]at he
       rcases he with(he|he)|he
       ·exact hK e (lr he)
       ·exact bs e he
       ·exact hK e (kE he)
      refine⟨g,_,_,by rw[q5 _ _ _ hs,ht];rfl,Inv.write H k1 hρ hw hE (fun o v hv=>(ad o v hv).elim) (fun l3 xw o v _ hv=>(ad o v hv).elim) ?_,hE,_,rfl,?_⟩
      ·simp only[OV];refine⟨hk,fb,?_,by simp,?_⟩
       ·intro hf;simp only[aB]at hf;rw[vx,vx];exact⟨⟨qJ (gj hf.1) (fun e he=>lr he),k0 hf.2⟩,qJ (gj hf.1) (fun e he=>kE he)⟩
       ·rw[hρ];simp only[vf,Nat.zero_sub,xA,jw,fM];have q4:=qL (qL (Ai hK hp (off+n)) ps) (wu hK hp (off+n+ys.length));have e0:=jD hK hp;refine⟨aT _,(eX c.toList ((off-0)*k'+n*k') news.toList).toArray,Eb,fz,_,setRow_heap w b c _ Eb fz hw,?_,vX ih ?_,gY hE (lH q4) q4,?_⟩
        ·simp only[rU];rw[l2];simpa using l1
        ·simp only[rU];rw[l2];simp
        ·intro j hj
         have e1:(off+n)*k'=(off-0)*k'+n*k':=by rw[gU];simp
         have e2:(off+n+ys.length)*k'=(off-0)*k'+n*k'+news.toList.length:=by rw[gU,e1];simp[ss]
         have b4:(off-0)*k'+n*k'+news.toList.length<=vs.length:=by
          rw[<-e2,e0];exact mG _ (by omega)
         have o2:vs.take ((off+n)*k')++news.toList++vs.drop ((off+n+ys.length)*k')=eX vs ((off-0)*k'+n*k') news.toList:=by
          rw[e1,e2];rfl
         have q8:=oK b4 j
         have xc:j<vs.length:=by
          have:j<(eX vs ((off-0)*k'+n*k') news.toList).length:=by rw[<-o2];exact hj
          rwa[sf b4]at this
         rw[qv,oK x0,<-aW hj,o2,q8]
         by_cases h7:j<(off-0)*k'+n*k'
         ·rw[if_pos h7,if_pos h7,aW xc,<-h4 j xc];simp
         ·rw[if_neg h7,if_neg h7]
          by_cases h8:j<(off-0)*k'+n*k'+news.toList.length
          ·rw[if_pos h8,if_pos h8]
          ·rw[if_neg h8,if_neg h8,aW xc,<-h4 j xc];simp
      ·simp only[V];refine⟨k',E',_,none,fl&&ea,false,ff k1,by omega,_,cap,rfl,hd,fun _=>⟨_,_,rfl⟩,fun _=>⟨by omega,Or.inr ⟨b,sz,0,hρ,e5,rfl,b3⟩⟩⟩
     ·simp at hA
   ·simp at hA
  ·simp at hA
end
section
variable{P:Program}{Γ:Nat->Option AV}{N:Env}{g:G}{h:List Ob}{w:World}{r:Operand->Value}{o:Oper}{t:List AV}
theorem Ns{x y:Operand}{sT u:TypeId}(ho:o.op=.call ⟨.builtin .append,#[x,y],#[sT,u]⟩):
 (execOp r o).run P w=((Builtin.append_ #[sT,u] o.type #[r x,r y]).run P w).andThen fun v w=>.ok (.value v) w:=by
 simp[execOp,ho,resolve,invoke,builtin]
theorem aiq(b:UInt8):V g h (gm b) (.int .u8 b.toNat):=by simp[gm,V]
theorem C1:∀s:List UInt8,VE g h (s.map gm) (s.map fun b=>Value.int .u8 b.toNat)
 |[]=>by simp[VE]
 |b::s=>by
  simp only[bX,VE];exact⟨_,s.map fun b=>Value.int .u8 b.toNat,aiq b,rfl,C1 s⟩
theorem zh:∀s:List UInt8,cG (s.map gm) 1=true
 |[]=>rfl
 |b::s=>by simp[cG,gm,AV.cells,cr,AV.one,aN,aK,zh s]
theorem vJ{zv:Value}{k:Nat}(h1:(ia zv).cells.length=k):zv.cells.size=k:=by
 have:=gX (GW (⟨fun _=>none,fun _ _=>none,fun _=>none⟩:G) [] zv);simp at this;omega
theorem vS{t:TypeId}{z:AV}(h:eB P t=some z):∃v,(∀w,(zeroValue t).run P w=.ok v w)/\z=ia v:=by
 unfold eB at h
 cases hi:P.info? t with
 |none=>simp[hi]at h
 |some i=>
  cases hz:i.zero with
  |none=>simp[hi,hz]at h
  |some v=>simp[hi,hz]at h;exact⟨v,fun w=>by simp[zeroValue,typeInfo,hi,hz],h.symm⟩
theorem HV(H:Inv P Γ N g h w){x y:Operand}{sT u e:TypeId}(ho:o.op=.call ⟨.builtin .append,#[x,y],#[sT,u]⟩)(ht:P.underlying sT=some (.slice e)){k B:Nat}(hk:bH P e=some k)(h5:0<k)
 (hB:mU P e=some B)(hq:B≠0){z:AV}(hz:eB P e=some z)(h7:z.cells.length=k){d:TypeDesc}(hu:P.underlying u=some d)(hd:∀j,d≠.int j)
 {a b v:AV}{h':List Ob}(hx:V g h a (r x))(hy:V g h b (r y)){E:TypeId}
 (hA:(∃f k' es,b=.list f k' es/\(k'=k\/es=[])/\ja h k E B a es true=.val v h')\/
  (∃i q n es E' es' gr fl sh,b=.sl i q n/\lD h b=some (k,es)/\h[i]? =some (.row k E' es' gr fl sh)/\ja h k E B a es fl=.val v h')\/
  (∃s:List UInt8,b=.str s/\k=1/\ja h 1 E B a (s.map gm) true=.val v h')):aO P Γ N r o w g h h' (some v):=by
 obtain⟨zv,hg,rfl⟩:=vS hz;have hc:=vJ h7;have hex:=Ns (P:=P) (w:=w) (r:=r) ho
 rcases hA with⟨f,k',es,rfl,e2,hA⟩|⟨i,q,n,es,E',es',gr,fl,sh,rfl,hb,hi,hA⟩|⟨s,rfl,rfl,hA⟩
 ·have h6:cG es k=true:=by
   have q1:=hy;simp only[V]at q1
   rcases e2 with rfl|rfl
   ·exact q1.1
   ·rfl
  have hb:lD h (.list f k' es)=some (k',es):=rfl;have q1:=hy;simp only[V]at q1;obtain⟨_,ad,cap,hs,_,_,_⟩:=q1
  have h4:∃news:Array Value,VE g h es news.toList/\∀w':World,w'.heap=w.heap->(Builtin.firstCells k es.length (r y)).run P w'=.ok news w':=by
   rcases e2 with rfl|rfl
   ·obtain⟨hK,q2,hv,vs,hp,h1,h2⟩:=zm H hy hb;refine⟨vs.toArray,by simpa using h1,fun w' ps=>?_⟩;rw[hp];have hl:=jD hK h1
    rcases h2 with rfl|⟨b,p,rfl,h3⟩
    ·simp only[VE]at h1;subst h1
     cases q2 with
     |none=>simp[run_firstCells_none]
     |some b=>simpa using run_firstCells_some (P:=P) w' k' 0 b 0 hv [] (by simp) (by simp)
    ·exact run_firstCells_some w' k' es.length ⟨b,p,none⟩ es.length hv vs hl (fun j v hj=>by rw[l8];have:=h3 j v hj;simpa only [World.cell?,ps]using this)
   ·refine⟨#[],by simp[VE],fun w' _=>?_⟩;rw[hs]
    cases ad with
    |none=>simp[run_firstCells_none]
    |some b=>simpa using run_firstCells_some (P:=P) w' k 0 b 0 cap [] (by simp) (by simp)
  obtain⟨news,hE,q3⟩:=h4;refine B7 H h5 hB hq hg hc (z:=false) (x:=r y) ?_ q3 hE (ly h6) (fun _=>h6) hx hA;intro base sLen sCap ih;rw[hex,ih,F9 ht hk hu hd (n:=es.length) (by rw[hs];simp[Builtin.lenOf])]
 ·obtain⟨hK,q2,hv,vs,hp,h1,h2⟩:=zm H hy hb;have ys:=H.ob i _ hi;simp only[OV]at ys;obtain⟨_,fz,k2,_⟩:=ys
  have e1:∀e∈es,e∈es':=by
   simp only[lD,hi]at hb
   split at hb
   ·simp only[an,b9,xB]at hb;subst hb
    exact fun e he=>kE (lr he)
   ·simp at hb
  have hl:=jD hK h1;refine B7 H h5 hB hq hg hc (z:=false) (x:=r y) (news:=vs.toArray) (ap:=Builtin.firstCells k es.length (r y)) ?_ ?_ (by simpa using h1) hK (fun hf=>qJ (k2 hf) e1) hx hA
  ·intro base sLen sCap ih;rw[hex,ih,F9 ht hk hu hd (n:=es.length) (by rw[hp];simp[Builtin.lenOf])]
  ·intro w' ps;rw[hp]
   rcases h2 with rfl|⟨b,p,rfl,h3⟩
   ·simp only[VE]at h1;subst h1
    cases q2 with
    |none=>simp[run_firstCells_none]
    |some b=>simpa using run_firstCells_some (P:=P) w' k 0 b 0 hv [] (by simp) (by simp)
   ·exact run_firstCells_some w' k es.length ⟨b,p,none⟩ es.length hv vs hl (fun j v hj=>by rw[l8];have:=h3 j v hj;simpa only [World.cell?,ps]using this)
 ·rw[kq hy]at hex
  refine B7 H h5 hB hq hg hc (z:=false) (x:=.string ⟨s.toArray⟩) (news:=(s.map fun b=>Value.int .u8 b.toNat).toArray) (ap:=Builtin.firstCells 1 (s.map gm).length (.string ⟨s.toArray⟩)) ?_ ?_
   (by simpa using C1 s) (ly (zh s)) (fun _=>zh s) hx hA
  ·intro base sLen sCap ih;rw[hex,ih,F9 ht hk hu hd (n:=(s.map gm).length) (by simp[Builtin.lenOf,we])]
  ·intro w' _;simp only[Builtin.firstCells,fy,Nb,xz,fM,Sem.run_pure];congr 1;apply jv;simp
theorem vF{zc:Array Value}{k:Nat}(hk:zc.size=k):∀n:Nat,((Array.range (n*k)).map fun i=>zc[i%k]!).toList=(List.replicate n zc.toList).flatten
 |0=>by simp
 |n+1=>by
  have ih:=vF hk n;simp only[Array.toList_map,Array.toList_range]at ih⊢;rw[List.replicate_succ',List.flatten_append,<-ih,gU,Nat.one_mul,List.range_add,jA,iW];congr 1;simp only[List.flatten_cons,List.flatten_nil,ey];apply List.ext_getElem
  ·simp[hk]
  ·intro i h1 h2;simp only[fy,qw]at h1;simp only[List.getElem_map,List.getElem_range,Function.comp_apply,Array.getElem_toList];rw[Nat.add_comm,Nat.add_mul_mod_self_right,Nat.mod_eq_of_lt h1,getElem!_pos _ _ (by omega)]
theorem ad5(H:Inv P Γ N g h w){x y:Operand}{sT u e:TypeId}(ho:o.op=.call ⟨.builtin .append,#[x,y],#[sT,u]⟩)(ht:P.underlying sT=some (.slice e)){k B:Nat}(hk:bH P e=some k)(hl:0<k)
 (hB:mU P e=some B)(q1:B≠0){z:AV}(hz:eB P e=some z)(hb:z.cells.length=k)(h4:cr z.cells=true)(ih:aN 0 z.cells=true){j:IntKind}(hu:P.underlying u=some (.int j))
 {a v:AV}{h':List Ob}(hx:V g h a (r x)){i:IntKind}{m:Int}(hy:r y=.int i m)(h0:0<=m)(hm:m<=2^47)(hf:m*B<=2^48){E:TypeId}
 (hA:ja h k E B a (List.replicate m.toNat z) true=.val v h'):aO P Γ N r o w g h h' (some v):=by
 obtain⟨zv,hc,rfl⟩:=vS hz;have h2:=vJ hb;have hex:=Ns (P:=P) (w:=w) (r:=r) ho;have hp:=vz (oM g h zv) m.toNat;have hj:=vr hb h4 ih m.toNat
 refine B7 H hl hB q1 hc h2 (z:=true) (x:=.int i m) (news:=(List.replicate m.toNat zv.cells.toList).flatten.toArray)
  (ap:=if m.toNat*k=0 then pure #[]else do pure (Builtin.zeroCells (<-zeroValue e).cells m.toNat)) ?_ ?_ (by simpa using hp) (ly hj) (fun _=>hj) hx hA
 ·intro base sLen sCap h5;rw[hex,h5,hy,Z5 ht hk hB hu h0 hm hf,qx]
 ·intro w' _
  by_cases hv:m.toNat*k=0
  ·rw[if_pos hv]
   have:m.toNat=0:=by
    rcases LX.1 hv with h1|h1
    ·exact h1
    ·omega
   simp[this]
  ·rw[if_neg hv];simp only[Sem.run_bind,hc,Result.andThen_ok,Sem.run_pure];congr 1;apply jv;have:=vF h2 m.toNat;simpa[Builtin.zeroCells,h2]using this
theorem ahA(H:Inv P Γ N g h w){x:Operand}{sT e:TypeId}(ho:o.op=.call ⟨.builtin .clear,#[x],#[sT]⟩)(ht:P.underlying sT=some (.slice e)){k:Nat}(hk:bH P e=some k)(ts:0<k)
 {z:AV}(hz:eB P e=some z)(ck:z.cells.length=k)(b3:cr z.cells=true)(e4:aN 0 z.cells=true){i off n:Nat}(hx:V g h (.sl i off n) (r x)){E:TypeId}{es:List AV}{fl:Bool}
 (hi:h[i]? =some (.row k E es none fl false))(hle:off+n<=es.length):aO P Γ N r o w g h (h.set i (.row k E (es.take off++List.replicate n z++es.drop (off+n)) none fl false)) (some (.aH [])):=by
 obtain⟨zv,l1,rfl⟩:=vS hz;have h4:=vJ ck;have hd:=vz (oM g h zv) n;have ih:=vr ck b3 e4 n;have hg:=ly ih;have q2:=bd hi;have gu:=hx;simp only[V]at gu;obtain⟨k2,E2,ix,xc,k0,q0,ps,l2,base,cap,hs,k3,r1,hq⟩:=gu;rw[hi]at ps;simp only[an,Ob.row.injEq]at ps;obtain⟨rfl,rfl,rfl,rfl,rfl,rfl⟩:=ps;obtain⟨j1,hq⟩:=hq (by simpa[cW]using hle);have gg:=H.ob i _ hi;simp only[OV]at gg;obtain⟨_,hK,k1,bk,hb⟩:=gg
 have hl:(es.take off++List.replicate n (ia zv)++es.drop (off+n)).length=es.length:=by simp;omega
 have hE:Ext h.length g h g (h.set i (.row k E (es.take off++List.replicate n (ia zv)++es.drop (off+n)) none fl false)):=by
  have:=Ext.qU (g:=g) (E':=E) (es':=es.take off++List.replicate n (ia zv)++es.drop (off+n)) (gr':=none) (fl':=fl) (sh':=false) (ρ':=g.ρ i) hi (by omega) (by
   intro x8 m q4 h1
   refine⟨by simpa[cW]using q4,hl,fun _ h=>h⟩)
  rwa[dt]at this
 have ad:eC k (es.take off++List.replicate n (ia zv)++es.drop (off+n)):=by
  intro e he;simp only[a8]at he
  rcases he with(he|he)|he
  ·exact hK e (lr he)
  ·exact hg e he
  ·exact hK e (kE he)
 have e1:fl=true->cG (es.take off++List.replicate n (ia zv)++es.drop (off+n)) k=true:=by
  intro hf;rw[vx,vx];exact⟨⟨qJ (k1 hf) (fun e he=>lr he),ih⟩,qJ (k1 hf) (fun e he=>kE he)⟩
 have hex:∀base cap,r x=.slice base n cap->(execOp r o).run P w=((Builtin.clear_ #[sT] o.type #[r x]).run P w).andThen fun v w=>.ok (.value v) w:=by
  intro base cap _;simp only[execOp,ho,resolve,invoke,builtin,Sem.run_bind,Sem.run_pure,Result.andThen_ok,List.map_toArray,bX,jO]
 rcases hq with⟨h0,gj⟩|⟨b,sz,st,hρ,r2,rfl,q5⟩
 ·subst h0
  have h2:h.set i (.row k E (es.take off++List.replicate 0 (ia zv)++es.drop (off+0)) none fl false)=h:=by
   apply iX;intro m
   by_cases hm:i=m
   ·subst hm;rw[ff q2,hi];simp
   ·rw[dW hm]
  rw[h2];refine aO.same H (u:=.tuple #[]) ?_ (by simp only[V,VL];exact⟨[],rfl,rfl⟩);rw[hex _ _ hs,hs];simp[Builtin.clear_,run_underlying ht]
  cases base<;>simp
 ·by_cases o1:n=0
  ·subst o1
   have h2:h.set i (.row k E (es.take off++List.replicate 0 (ia zv)++es.drop (off+0)) none fl false)=h:=by
    apply iX;intro m
    by_cases hm:i=m
    ·subst hm;rw[ff q2,hi];simp
    ·rw[dW hm]
   rw[h2];refine aO.same H (u:=.tuple #[]) ?_ (by simp only[V,VL];exact⟨[],rfl,rfl⟩);rw[hex _ _ hs,hs];simp[Builtin.clear_,run_underlying ht]
  ·rw[hρ]at hb;simp only at hb;obtain⟨h6,c,Eb,fz,vs,hw,h9,q1,ys,hc⟩:=hb;simp only[vf,Nat.zero_sub,xA,jw,fM,Nat.le_zero_eq]at*;subst h6
   have e3:(List.replicate n zv.cells.toList).flatten.length=n*k:=by
    have:=jD hg hd;simpa using this
   have hm:off*k+(List.replicate n zv.cells.toList).flatten.length<=c.size:=by
    rw[e3,h9,<-gU]
    have h1:(off+cap)*k<=sz:=by simpa using q5
    exact tu (mG _ (by omega)) h1
   have h3:=BX P b ((off-0)*k) Eb fz (List.replicate n zv.cells.toList).flatten 0 c w hw q1 (by simpa using hm) (G2 hg hd)
   have ss:(Builtin.zeroCells zv.cells n).toList=(List.replicate n zv.cells.toList).flatten:=by
    have:=vF h4 n;simpa[Builtin.zeroCells,h4]using this
   have q3:(execOp r o).run P w=.ok (.value (.tuple #[])) (w.setRow b (eX c.toList (off*k) (List.replicate n zv.cells.toList).flatten).toArray):=by
    rw[hex _ _ hs,hs];have x7:∃m,n=m+1:=⟨n-1,by omega⟩;obtain⟨m,rfl⟩:=x7;rw[iz]at h3;simp only[Builtin.clear_,qv,rV,Sem.run_bind,run_underlying ht,Result.andThen_ok,l1,ss,h3,Sem.run_pure];simp[eX]
   have x0:off*k+(List.replicate n zv.cells.toList).flatten.length<=c.toList.length:=by simpa using hm
   have bs:=sf x0
   have hy:∀o v,g.M b o=some v->False:=by
    intro o v hv;obtain⟨_,_,_,_,_,h5,_⟩:=H.fo i b sz 0 o v hρ hv;rw[hi]at h5;simp at h5
   refine⟨g,_,_,q3,Inv.write H q2 hρ hw hE (fun o v hv=>(hy o v hv).elim) (fun j2 q7 o v _ hv=>(hy o v hv).elim) ?_,hE,_,rfl,by simp only[V,VL];exact⟨[],rfl,rfl⟩⟩;simp only[OV];refine⟨ts,ad,e1,by simp,?_⟩;rw[hρ];simp only[vf,Nat.zero_sub,xA,jw,fM];have b2:=qL (qL (Ai hK ys off) hd) (wu hK ys (off+n));have ao:=jD hK ys;refine⟨aT _,(eX c.toList (off*k) (List.replicate n zv.cells.toList).flatten).toArray,Eb,fz,_,setRow_heap w b c _ Eb fz hw,?_,vX q1 ?_,gY hE (lH b2) b2,?_⟩
   ·simp only[rU];rw[bs];simpa using h9
   ·simp only[rU];rw[bs];simp
   ·intro j hj
    have e2:(off+n)*k=off*k+(List.replicate n zv.cells.toList).flatten.length:=by rw[gU,e3]
    have lo:off*k+(List.replicate n zv.cells.toList).flatten.length<=vs.length:=by
     rw[<-e2,ao];exact mG _ (by omega)
    have x5:vs.take (off*k)++(List.replicate n zv.cells.toList).flatten++vs.drop ((off+n)*k)=eX vs (off*k) (List.replicate n zv.cells.toList).flatten:=by
     rw[e2];rfl
    have e5:=oK lo j
    have hp:j<vs.length:=by
     have:j<(eX vs (off*k) (List.replicate n zv.cells.toList).flatten).length:=by rw[<-x5];exact hj
     rwa[sf lo]at this
    rw[qv,oK x0,<-aW hj,x5,e5]
    by_cases h7:j<off*k
    ·rw[if_pos h7,if_pos h7,aW hp,<-hc j hp];simp
    ·rw[if_neg h7,if_neg h7]
     by_cases h8:j<off*k+(List.replicate n zv.cells.toList).flatten.length
     ·rw[if_pos h8,if_pos h8]
     ·rw[if_neg h8,if_neg h8,aW hp,<-hc j hp];simp
theorem adx(H:Inv P Γ N g h w){x y:Operand}{ty e:TypeId}(ho:o.op=.makeSlice ty x y)(ht:P.underlying ty=some (.slice e)){k B:Nat}(hk:bH P e=some k)(ih:0<k)
 (hB:mU P e=some B){z:AV}(hz:eB P e=some z)(hl:z.cells.length=k)(hf:cr z.cells=true)(hp:aN 0 z.cells=true){i j:IntKind}{n:Int}
 (hx:r x=.int i n)(hy:r y=.int j n)(h0:0<=n)(hn:n<=2^47)(h5:n*B<=2^47)(E:TypeId):
 aO P Γ N r o w g h (h++[.row k E (List.replicate n.toNat z) none true false]) (some (.sl h.length 0 n.toNat)):=by
 obtain⟨zv,hq,rfl⟩:=vS hz;have hv:=vJ hl
 have hb:∃i,P.info? e=some i/\i.bytes=B:=by
  unfold mU at hB
  cases hi:P.info? e with
  |none=>simp[hi]at hB
  |some i=>simp[hi]at hB;exact⟨i,rfl,hB⟩
 obtain⟨ti,hb,hd⟩:=hb
 have hg:∀w,(typeInfo e).run P w=.ok ti w:=fun w=>by simp[typeInfo,hb]
 have q2:IntKind.i64.wrap n=n:=IntWalk.i64_in _ (by omega);have q1:=vr hl hf hp n.toNat;have h4:=vz (oM g h zv) n.toNat;have ps:=vF hv n.toNat
 have h6:(ti.bytes:Int)*n<=2^47:=by rw[hd,Int.mul_comm];exact h5
 have hc:(Instr.makeSlice ty (r x) (r y)).run P w=.ok (.slice (some ⟨w.heap.size,0,none⟩) n.toNat n.toNat) (w.alloc (.cells ((List.replicate n.toNat zv.cells.toList).flatten++[]).toArray e)):=by
  simp only[Instr.makeSlice,Sem.run_bind,run_underlying ht,Result.andThen_ok,hx,hy,asInt,asIntOf,Sem.run_pure,hg,q2]
  have h1:(decide (n<0)||decide ((ti.bytes:Int)*n>2^48))=false:=by
   simp only[lx,jB];omega
  have h2:(decide (n<0)||decide ((ti.bytes:Int)*n>2^48)||decide (n<0)||decide (n>n))=false:=by
   rw[h1];simp;omega
  rw[if_neg (by rw[h2];simp)];simp only[Sem.run_bind,run_askRoom,Result.andThen_ok,jQ hk]
  by_cases hj:n.toNat*k=0
  ·have e1:n.toNat=0:=by
    rcases LX.1 hj with h1|h1
    ·exact h1
    ·omega
   rw[if_pos hj]
   have e0:Array.map (fun _:Nat=>(default:Value)) (Array.range 0)=#[]:=by apply jv;simp
   simp[newRow,e1,e0]
  ·rw[if_neg hj];simp only[Sem.run_bind,hq,Result.andThen_ok,newRow,run_newObj,Sem.run_pure,hv];congr 4;apply jv;rw[ps];simp
 have e2:((List.replicate n.toNat zv.cells.toList).flatten++[]).length=n.toNat*k:=by simp[hv]
 refine aO.make (w':=w) H rfl rfl rfl rfl (sz:=n.toNat*k) (by simp only[execOp,ho];rw[Sem.run_bind,hc];rfl) ?_ (by simp) ?_
 ·exact Dr (P:=P) ih (ly q1) (fun _=>q1) (du _ _ _) (mM w _) e2.symm (v8 _) (gY (Ext.push _ _) (lH h4) h4)
 ·have:=CO (h:=h) (g':=g.bP h.length (some (w.heap.size,n.toNat*k,0))) (k:=k) (E:=E) (es:=List.replicate n.toNat (ia zv)) (os:=[]) (fl:=true) (sh:=false) (du _ _ _) (cap:=n.toNat) (by simp) (aT _);simpa using this
theorem ad6(w:World)(c:Array Value)(E:TypeId):(w.alloc (.cells c E)).freeze ⟨w.heap.size,c.size,none⟩ 1=w.alloc (.cells c E (c.size,c.size+1)):=by
 simp only[World.freeze,World.alloc];simp only[Nat.one_ne_zero,dq];congr 1;apply Array.ext
 ·simp
 ·intro i h1 h2;simp only[Array.getElem_modify,Array.getElem_push];simp at h2
  by_cases hi:i<w.heap.size
  ·have:¬w.heap.size=i:=by omega
   simp[hi,this]
  ·have:i=w.heap.size:=by omega
   subst this;simp
theorem adK(H:Inv P Γ N g h w){s d e:TypeId}{x:Operand}(ho:o.op=.convert s d x)(hs:P.underlying s=some .string)(hd:P.underlying d=some (.slice e))(he:P.underlying e=some (.int .u8))
 {l:List UInt8}(hx:r x=.string ⟨l.toArray⟩)(E:TypeId):aO P Γ N r o w g h (h++[.row 1 E (l.map gm) none true false]) (some (.sl h.length 0 l.length)):=by
 have hv:∃cap,l.length<=cap/\(Question.appendCap l.length 0 e).cut (w.tape w.drawn (.appendCap l.length 0 e))=cap:=⟨_,by simp[Question.cut],rfl⟩;obtain⟨cap,hv,hc⟩:=hv
 have hk:(convert s d (r x)).run P w=.ok (.slice (some ⟨w.heap.size,0,none⟩) l.length cap)
  (w.drew.alloc (.cells ((l.map fun b:UInt8=>Value.int .u8 b.toNat)++List.replicate (cap-l.length) (Value.int .u8 0)).toArray e (cap,cap+1))):=by
  have h2:((l.map fun b:UInt8=>Value.int .u8 b.toNat)++List.replicate (cap-l.length) (Value.int .u8 0)).toArray.size=cap:=by simp;omega
  have hb:(w.drew.alloc (.cells ((l.map fun b:UInt8=>Value.int .u8 b.toNat)++List.replicate (cap-l.length) (Value.int .u8 0)).toArray e)).shape? w.heap.size=some (e,cap):=by
   have:=mM w.drew (.cells ((l.map fun b:UInt8=>Value.int .u8 b.toNat)++List.replicate (cap-l.length) (Value.int .u8 0)).toArray e);simp only[World.shape?];rw[show w.heap.size=w.drew.heap.size from rfl,this];simp only[h2]
  have hl:=ad6 w.drew ((l.map fun b:UInt8=>Value.int .u8 b.toNat)++List.replicate (cap-l.length) (Value.int .u8 0)).toArray e;rw[h2]at hl;simp only[convert,Sem.run_bind,run_underlying hs,run_underlying hd,Result.andThen_ok,hx,run_underlying he];simp only[Conv.stringToBytes,Sem.run_bind,run_choose,Question.forced,fe,dq,we,hc,Result.andThen_ok,newRow,run_newObj,Sem.run_pure,World.drew_eq,World.alloc_eq]
  have hj:(Array.map (fun b:UInt8=>Value.int .u8 b.toNat) l.toArray++Array.replicate (cap-l.length) (Value.int .u8 0))=((l.map fun b:UInt8=>Value.int .u8 b.toNat)++List.replicate (cap-l.length) (Value.int .u8 0)).toArray:=by
   apply jv;simp
  rw[hj];simp only[markStringish,Sem.run_bind,run_shape,World.size_drew,hb,Result.andThen_ok,run_freeze];rw[show(⟨w.heap.size,cap,none⟩:Addr)=⟨w.drew.heap.size,cap,none⟩from rfl,hl]
 refine aO.make (w':=w.drew) H rfl rfl rfl rfl (sz:=cap) (by simp only[execOp,ho];rw[Sem.run_bind,hk];rfl) ?_ (by simp) ?_
 ·exact Dr (P:=P) (Nat.zero_lt_one) (ly (zh l)) (fun _=>zh l) (du _ _ _) (mM w.drew _) (by simp;omega) (Or.inr (by simp;omega)) (gY (Ext.push _ _) (lH (C1 (g:=g) l)) (C1 l))
 ·have:=CO (h:=h) (g':=g.bP h.length (some (w.heap.size,cap,0))) (k:=1) (E:=E) (es:=l.map gm) (os:=[]) (fl:=true) (sh:=false) (du _ _ _) (cap:=cap) (by simpa using hv) (by simp);simpa using this
end
def sameKind:Ob->Ob->Prop
 |.cells _,.cells _=>True
 |.map _ _,.map _ _=>True
 |.jf _ _,.jf _ _=>True
 |.loop _ _ fn t ps a b,.loop _ _ h2 t' hv a' b'=>fn=h2/\t=t'/\ps=hv/\a=a'/\b=b'
 |.bK _,.bK _=>True
 |_,_=>False
def ld(w:World)(b:Nat)(o:Obj):World:={w with heap:=w.heap.setIfInBounds b o}
theorem aeh(w:World)(b:Nat)(o:Obj):(ld w b o).heap.size=w.heap.size:=by simp[ld]
theorem zG{w:World}{b:Nat}(o:Obj)(h:b<w.heap.size):(ld w b o).heap[b]? =some o:=by simp[ld,h]
theorem adZ(w:World){b b':Nat}(o:Obj)(h:b'≠b):(ld w b o).heap[b']? =w.heap[b']? :=by
 simp only[ld];rw[vg];rw[if_neg (by omega)]
section
variable{P:Program}{Γ:Nat->Option AV}{N:Env}{g:G}{h:List Ob}{w:World}{r:Operand->Value}{o:Oper}{t:List AV}
theorem Ext.v_{i:Nat}{o o':Ob}(hi:h[i]? =some o)(hk:sameKind o o'):Ext h.length g h g (h.set i o'):=by
 have hv:=bd hi;have hs:=ff (l:=h) (i:=i) (a:=o') hv
 have ho:∀{j x},j≠i->h[j]? =some x->(h.set i o')[j]? =some x:=fun{j x} hj hx=>by rw[dW (by omega)];exact hx
 refine⟨fun _ _ _ x=>x,fun _ _ x=>x,?_,?_,?_,?_,?_,?_⟩
 ·intro j us _ hj
  by_cases h2:j=i
  ·subst h2
   rw[hi]at hj;cases hj
   cases o'<;>simp only[sameKind]at hk
   exact⟨⟨_,hs⟩,fun _ x=>x⟩
  ·exact⟨⟨us,ho h2 hj⟩,fun _ x=>x⟩
 ·intro j es fl _ hj
  by_cases h2:j=i
  ·subst h2
   rw[hi]at hj;cases hj
   cases o'<;>simp only[sameKind]at hk
   exact⟨⟨_,_,hs⟩,fun _ x=>x⟩
  ·exact⟨⟨_,_,ho h2 hj⟩,fun _ x=>x⟩
 ·intro j s p _ hj
  by_cases h2:j=i
  ·subst h2
   rw[hi]at hj;cases hj
   cases o'<;>simp only[sameKind]at hk
   exact⟨⟨_,_,hs⟩,fun _ x=>x⟩
  ·exact⟨⟨_,_,ho h2 hj⟩,fun _ x=>x⟩
 ·intro j st q fn t ps a b _ hj
  by_cases h2:j=i
  ·subst h2
   rw[hi]at hj;cases hj
   cases o'<;>simp only[sameKind]at hk
   obtain⟨rfl,rfl,rfl,rfl,rfl⟩:=hk;exact⟨⟨_,_,hs⟩,fun _ x=>x⟩
  ·exact⟨⟨_,_,ho h2 hj⟩,fun _ x=>x⟩
 ·intro j l _ hj
  by_cases h2:j=i
  ·subst h2
   rw[hi]at hj;cases hj
   cases o'<;>simp only[sameKind]at hk
   exact⟨⟨_,hs⟩,fun _ x=>x⟩
  ·exact⟨⟨_,ho h2 hj⟩,fun _ x=>x⟩
 ·intro j k E es gr fl sh _ hj
  have h2:j≠i:=by
   rintro rfl;rw[hi]at hj;cases hj
   cases o'<;>simp only[sameKind]at hk
  exact⟨_,_,_,_,_,ho h2 hj,aT _,fun _ _ _ hk=>⟨hk,rfl,fun _ x=>x⟩⟩
theorem Inv.A5{i b:Nat}{x:Nat×Nat}{o o':Ob}{B:Obj}(H:Inv P Γ N g h w)(hi:h[i]? =some o)(hρ:g.ρ i=some (b,x))(hk:sameKind o o')(hb:OV P g (h.set i o') (ld w b B) i o'):
 Inv P Γ N g (h.set i o') (ld w b B):=by
 have hj:b<w.heap.size:=(H.own i b x hρ).2;have hE:=Ext.v_ (g:=g) hi hk
 have h2:∀o v,g.M b o=some v->False:=by
  intro q v hv;obtain⟨sz,st⟩:=x;obtain⟨_,_,_,_,_,h5,_⟩:=H.fo i b sz st q v hρ hv;rw[hi]at h5
  cases h5
  simp only[sameKind]at hk
 have:=Inv.set (r:=g.ρ i) (w':=ld w b B) H (bd hi) (by rw[dt];exact hE) rfl rfl rfl (fun b' _ hc=>adZ w B (fun e=>hc x (by rw[e];exact hρ))) (by simp[ld])
  (fun b' y hy=>⟨Or.inl ⟨y,hy⟩,by rw[aeh];exact(H.own i b' y hy).2⟩) (by
   intro b' y q v hy hv;rw[hρ]at hy;simp only[an,b9]at hy;obtain⟨rfl,_⟩:=hy
   exact(h2 q v hv).elim)
  (by
   intro b' sz st q v hy hv;rw[hρ]at hy
   have hx:b'=b:=by simp only[an,b9]at hy;exact hy.1.symm
   subst hx
   exact(h2 q v hv).elim)
  (by rw[dt];exact hb)
 rwa[dt]at this
theorem zF{b:Nat}{B:Obj}(h:w.heap[b]? =some B)(hc:∀c e f,B≠.cells c e f):(getObj b).run P w=.ok B w:=by
 simp only[getObj,Sem.run,h]
theorem zx{b:Nat}{B B':Obj}(h:w.heap[b]? =some B)(hc:∀c e f,B≠.cells c e f):(setObj b B').run P w=.ok () (ld w b B'):=by
 simp only[setObj,Sem.run,h]
 cases B<;>first|rfl|exact absurd rfl (hc _ _ _)
theorem air(H:Inv P Γ N g h w){x:Operand}(ho:o.op=.next x true){i:Nat}(hx:V g h (.it i) (r x)){s:List UInt8}{pos:Nat}(hi:h[i]? =some (.jf s pos)):
 (pos<s.length->aO P Γ N r o w g h (h.set i (.jf s (pos+(Utf8.decode ⟨s.toArray⟩ pos).2))) (some (.aH [.bool true,.int .i64 pos,.int .i32 (Utf8.decode ⟨s.toArray⟩ pos).1])))/\
 (¬pos<s.length->aO P Γ N r o w g h h (some (.aH [.bool false]))):=by
 simp only[V]at hx;obtain⟨_,b,sz,hρ,hc⟩:=hx;have hb:w.heap[b]? =some (.stringIter ⟨s.toArray⟩ pos):=H.ob i _ hi b sz 0 hρ;have hg:=zF (P:=P) hb (by simp);constructor
 ·intro h2;have hk:sameKind (.jf s pos) (.jf s (pos+(Utf8.decode ⟨s.toArray⟩ pos).2)):=trivial;refine⟨g,ld w b (.stringIter ⟨s.toArray⟩ (pos+(Utf8.decode ⟨s.toArray⟩ pos).2)),.value (.tuple #[.bool true,goInt pos,.int .i32 (Utf8.decode ⟨s.toArray⟩ pos).1]),?_,Inv.A5 H hi hρ hk ?_,Ext.v_ hi hk,.tuple #[.bool true,goInt pos,.int .i32 (Utf8.decode ⟨s.toArray⟩ pos).1],rfl,?_⟩
  ·have hj:=zx (P:=P) (B':=.stringIter ⟨s.toArray⟩ (pos+(Utf8.decode ⟨s.toArray⟩ pos).2)) hb (by simp);simp[execOp,ho,hc,Instr.next,hg,we,h2,hj]
  ·intro b' hl q1 hv;rw[hρ]at hv;simp only[an,b9]at hv;obtain⟨rfl,_⟩:=hv;exact zG _ (H.own i b _ hρ).2
  ·simp only[V,VL];exact⟨[.bool true,goInt pos,.int .i32 (Utf8.decode ⟨s.toArray⟩ pos).1],rfl,_,_,rfl,rfl,_,_,rfl,rfl,_,_,rfl,rfl,rfl⟩
 ·intro h2;refine aO.same H (u:=.tuple #[.bool false]) ?_ (by simp only[V,VL];exact⟨[.bool false],rfl,_,_,rfl,rfl,rfl⟩);simp[execOp,ho,hc,Instr.next,hg,we,h2]
theorem Pv{s:SK}{a b:AV}(h1:fR s a b=some true){x y:Value}(hx:V g h a x)(hy:V g h b y):x=y/\∀n,Instr.sameBits n x y=true:=by
 cases s<;>cases a<;>cases b<;>simp only[fR,reduceCtorEq,an]at h1
 ·split at h1
  ·rename_i hk;subst hk;simp only[an,nA]at h1;subst h1;rw[eN hx,eN hy];exact⟨rfl,fun n=>by cases n<;>simp[Instr.sameBits]⟩
  ·simp at h1
 ·simp only[nA]at h1;subst h1;rw[kq hx,kq hy];exact⟨rfl,fun n=>by cases n<;>simp[Instr.sameBits,Pe]⟩
 ·simp only[nA]at h1;subst h1;rw[mP hx,mP hy];exact⟨rfl,fun n=>by cases n<;>simp[Instr.sameBits]⟩
theorem O3:∀{ss:List SK}{as bs:List AV}{xs ys:List Value},iH ss as bs=some true->VL g h as xs->VL g h bs ys->xs=ys/\∀n,(xs.zip ys).all (fun(x,y)=>Instr.sameBits n x y)=true
 |[],[],[],xs,ys,_,hx,hy=>by simp only[VL]at hx hy;subst hx;subst hy;exact⟨rfl,fun _=>rfl⟩
 |[],_::_,_,_,_,h1,_,_=>by simp[iH]at h1
 |[],[],_::_,_,_,h1,_,_=>by simp[iH]at h1
 |_::_,[],_,_,_,h1,_,_=>by simp[iH]at h1
 |_::_,_::_,[],_,_,h1,_,_=>by simp[iH]at h1
 |s::ss,a::as,b::bs,xs,ys,h1,hx,hy=>by
  simp only[VL]at hx hy;obtain⟨x,hj,rfl,hv,hb⟩:=hx;obtain⟨y,hl,rfl,hc,hk⟩:=hy;simp only[iH]at h1
  split at h1
  ·rename_i he;obtain⟨rfl,h2⟩:=Pv he hv hc;obtain⟨rfl,h3⟩:=O3 h1 hb hk;exact⟨rfl,fun n=>by simp[h2];simpa using h3 n⟩
  ·simp at h1
  ·simp at h1
theorem adg{P:Program}{ty:TypeId}{e:EK}(hk:jR P ty=some e){a b:AV}(h1:cC e a b=some true){x y:Value}(hx:V g h a x)(hy:V g h b y):x=y/\Instr.sameBits 10000 x y=true:=by
 unfold jR at hk
 split at hk
 ·simp only[an]at hk;subst hk;obtain⟨h2,h3⟩:=Pv h1 hx hy;exact⟨h2,h3 _⟩
 ·simp only[cm]at hk;obtain⟨ss,_,rfl⟩:=hk
  cases a<;>cases b<;>simp only[cC,reduceCtorEq]at h1
  split at h1
  ·simp only[V]at hx hy;obtain⟨xs,rfl,hx⟩:=hx;obtain⟨ys,rfl,hy⟩:=hy;obtain⟨rfl,h2⟩:=O3 h1 hx hy;refine⟨rfl,?_⟩;have:=h2 9999
   show((xs.toArray.size==xs.toArray.size)&&(xs.toArray.toList.zip xs.toArray.toList).all fun(x,y)=>Instr.sameBits 9999 x y)=true
   simpa using this
  ·simp at h1
theorem Nf{e:EK}{k:AV}:∀{es:List (AV×AV)}{i:Nat},findAt e k es=some (some i)->∃x,es[i]? =some x/\cC e k x.1=some true
 |[],i,h1=>by simp[findAt]at h1
 |(a,v)::es,i,h1=>by
  simp only[findAt]at h1
  split at h1
  ·rename_i he;simp only[an]at h1;subst h1;exact⟨(a,v),rfl,he⟩
  ·simp only[cm]at h1;obtain⟨p,hp,h2⟩:=h1;obtain⟨j,rfl,rfl⟩:=h2;obtain⟨x,h3,h4⟩:=Nf hp;exact⟨x,by simpa using h3,h4⟩
  ·simp at h1
theorem GX:∀{as:List AV}{vs:List Value}(i:Nat),VL g h as vs->VL g h (as.eraseIdx i) (vs.eraseIdx i)
 |[],vs,i,hv=>by simp only[VL]at hv;subst hv;simp[VL]
 |a::as,vs,i,hv=>by
  simp only[VL]at hv;obtain⟨v,vs',rfl,h1,h2⟩:=hv
  cases i with
  |zero=>simpa using h2
  |succ i=>simp only[List.eraseIdx_cons_succ,VL];exact⟨v,_,rfl,h1,GX i h2⟩
theorem ze{α β:Type}(f:α->β):∀(l:List α)(i:Nat),(l.eraseIdx i).map f=(l.map f).eraseIdx i
 |[],i=>by simp
 |a::l,0=>by simp
 |a::l,i+1=>by simp[ze f l i]
theorem Ab{n:Nat}:∀{l:List AV},aN n l=true↔∀a∈l,aK n a=true
 |[]=>by simp[aN]
 |a::l=>by simp[aN,Ab (l:=l)]
theorem akh(H:Inv P Γ N g h w){ty kt et:TypeId}{m k x:Operand}(ho:o.op=.mapUpdate ty m k x\/o.op=.insert ty m k x)(hu:P.underlying ty=some (.map kt et)){e:EK}(hk:jR P kt=some e)
 {j:Nat}(hm:V g h (.mp j) (r m)){es es':List (AV×AV)}{fl:Bool}(hj:h[j]? =some (.map es fl)){a b:AV}(ha:V g h a (r k))(ih:isKey e a=true)(hb:V g h b (r x))(hp:gG e a b es=some es'):
 aO P Γ N r o w g h (h.set j (.map es' (fl&&aK 0 b))) none:=by
 simp only[V]at hm;obtain⟨_,bk,sz,hρ,q2⟩:=hm;obtain⟨q3,k2⟩:=H.ob j _ hj;obtain⟨bn,ck,hw,q1,ps⟩:=k2 bk sz 0 hρ;have e1:sameKind (.map es fl) (.map es' (fl&&aK 0 b)):=trivial;have hE:=Ext.v_ (g:=g) hj e1;obtain⟨p,e2,hl⟩:=PG hp;have hf:=run_findKey hk ha q1 e2 w;have h6:=run_checkKey hk ih ha false w;have hg:=zF (P:=P) hw (by simp);have hlen:=G4 q1;have fz:=(H.own j bk _ hρ).2
 have h5:(fl&&aK 0 b)=true->aN 0 (es'.map (·.2))=true:=by
  intro h1;simp only[aB]at h1;have h2:=Ab.1 (q3 h1.1);rw[Ab];intro y hy
  cases p with
  |none=>
   simp only at hl;subst hl;simp only[jA,bX,jO,a8,cL]at hy
   rcases hy with hy|rfl
   ·exact h2 y hy
   ·exact h1.2
  |some i=>
   obtain⟨_,rfl⟩:=hl;rw[rX]at hy
   rcases qu hy with hy|rfl
   ·exact h2 y hy
   ·exact h1.2
 have hc:∀(hv:Array MapEntry)(h4:Nat),VL g h (es'.map (·.1)) (hv.toList.map (·.key))->VL g h (es'.map (·.2)) (hv.toList.map (·.val))->
  (Instr.mapUpdate ty (r m) (r k) (r x)).run P w=.ok () (ld w bk (.map hv h4))->aO P Γ N r o w g h (h.set j (.map es' (fl&&aK 0 b))) none:=by
  intro hv h4 h1 h2 hq;refine⟨g,ld w bk (.map hv h4),_,?_,Inv.A5 H hj hρ e1 ⟨h5,?_⟩,hE,rfl⟩
  ·rcases ho with ho|ho<;>simp[execOp,ho,hq]
  ·intro b' e3 zv ht;rw[hρ]at ht;simp only[an,b9]at ht;obtain⟨rfl,_⟩:=ht;exact⟨hv,h4,zG _ fz,cM hE (dM h1) h1,cM hE (dM h2) h2⟩
 cases p with
 |none=>
  simp only at hl;subst hl;refine hc (bn.push {key:=r k,val:=r x,born:=ck}) (ck+1) ?_ ?_ ?_
  ·simp only[jA,bX,jO,Array.toList_push];exact l7 q1 (by simp only[VL];exact⟨_,_,rfl,ha,rfl⟩)
  ·simp only[jA,bX,jO,Array.toList_push];exact l7 ps (by simp only[VL];exact⟨_,_,rfl,hb,rfl⟩)
  ·simp only[Option.bind_none]at hf;have hs:=zx (P:=P) (B':=.map (bn.push {key:=r k,val:=r x,born:=ck}) (ck+1)) hw (by simp);simp[Instr.mapUpdate,run_underlying hu,q2,hg,h6,hf,hs]
 |some i=>
  obtain⟨x0,rfl⟩:=hl;obtain⟨y,gu,gg⟩:=Nf e2
  have hx:i<bn.size:=by have:bn.toList.length=es.length:=hlen;simp at this;omega
  have hd:bn[i]? =some bn[i]:=kJ hx;obtain⟨q,hz,k1⟩:=sy (i:=i) (a:=y.1) q1 (by simp[gu]);simp only[jP,xG,hd,dC,an]at hz;subst hz;obtain⟨ys,h7⟩:=adg hk gg ha k1;rw[<-ys]at h7;refine hc (bn.modify i fun e=>{e with key:=r k,val:=r x}) ck ?_ ?_ ?_
  ·have:(bn.modify i fun e=>{e with key:=r k,val:=r x}).toList.map (·.key)=(bn.toList.map (·.key)).set i (r k):=by
    rw[Array.toList_modify];apply iX;intro n;simp only[jP,Bv,qy,fy,xE]
    by_cases hn:i=n
    ·subst hn;simp[hx]
    ·simp[hn]
   rw[this,rX];exact ra i q1 ha
  ·have:(bn.modify i fun e=>{e with key:=r k,val:=r x}).toList.map (·.val)=(bn.toList.map (·.val)).set i (r x):=by
    rw[Array.toList_modify];apply iX;intro n;simp only[jP,Bv,qy,fy,xE]
    by_cases hn:i=n
    ·subst hn;simp[hx]
    ·simp[hn]
   rw[this,rX];exact ra i ps hb
  ·have hs:=zx (P:=P) (B':=.map (bn.modify i fun e=>{e with key:=r k,val:=r x}) ck) hw (by simp);simp only[lv,xG,hd,dC]at hf
   have h9:(Instr.keyThatStays bn[i].key (r k)).run P w=.ok (r k) w:=by
    unfold Instr.keyThatStays;rw[<-ys,h7];simp
   simp[Instr.mapUpdate,run_underlying hu,q2,hg,h6,hf,hd,h9,hs]
theorem aef(H:Inv P Γ N g h w){mt u kt et:TypeId}{m k:Operand}(ho:o.op=.call ⟨.builtin .delete,#[m,k],#[mt,u]⟩)(hu:P.underlying mt=some (.map kt et)){e:EK}(hk:jR P kt=some e)
 {j:Nat}(hm:V g h (.mp j) (r m)){es es':List (AV×AV)}{fl:Bool}(hj:h[j]? =some (.map es fl)){a:AV}(ha:V g h a (r k))(hl:isKey e a=true)(hp:n4 e a es=some es'):
 aO P Γ N r o w g h (h.set j (.map es' fl)) (some (.aH [])):=by
 simp only[V]at hm;obtain⟨_,bk,sz,hρ,ht⟩:=hm;obtain⟨e2,h6⟩:=H.ob j _ hj;obtain⟨bn,ck,hw,hx,hd⟩:=h6 bk sz 0 hρ;have q2:sameKind (.map es fl) (.map es' fl):=trivial;have hE:=Ext.v_ (g:=g) hj q2;obtain⟨p,hz,q1⟩:=Qc hp;have hf:=run_findKey hk ha hx hz w
 have ps:=fun em=>run_checkKey hk hl ha em w
 have hg:=zF (P:=P) hw (by simp);have hlen:=G4 hx;have ys:=(H.own j bk _ hρ).2
 have hb:∀(hv:Array MapEntry),(∀e∈es',e∈es)->VL g h (es'.map (·.1)) (hv.toList.map (·.key))->VL g h (es'.map (·.2)) (hv.toList.map (·.val))->
  (Builtin.delete_ #[mt,u] o.type #[r m,r k]).run P w=.ok (.tuple #[]) (ld w bk (.map hv ck))->aO P Γ N r o w g h (h.set j (.map es' fl)) (some (.aH [])):=by
  intro hv h4 h1 h2 ih;refine⟨g,ld w bk (.map hv ck),_,?_,Inv.A5 H hj hρ q2 ⟨?_,?_⟩,hE,_,rfl,by simp only[V,VL];exact⟨[],rfl,rfl⟩⟩
  ·simp only[execOp,ho,resolve,invoke,builtin,Sem.run_bind,Sem.run_pure,Result.andThen_ok,List.map_toArray,bX,jO,ih]
  ·intro h7;have h3:=Ab.1 (e2 h7);rw[Ab];intro y hy;obtain⟨q,hq,rfl⟩:=cd.1 hy;exact h3 _ (cd.2 ⟨q,h4 q hq,rfl⟩)
  ·intro b' k2 fz h5;rw[hρ]at h5;simp only[an,b9]at h5;obtain⟨rfl,_⟩:=h5;exact⟨hv,ck,zG _ ys,cM hE (dM h1) h1,cM hE (dM h2) h2⟩
 cases p with
 |none=>
  simp only at q1;subst q1;have hs:=zx (P:=P) (B':=.map bn ck) hw (by simp);refine hb bn (fun _ h=>h) hx hd ?_;simp only[Option.bind_none]at hf;simp[Builtin.delete_,run_underlying hu,ht,hg,ps,hf,hs]
 |some i=>
  obtain⟨gu,rfl⟩:=q1
  have hc:i<bn.size:=by have:bn.toList.length=es.length:=hlen;simp at this;omega
  have q3:bn[i]? =some bn[i]:=kJ hc;have hs:=zx (P:=P) (B':=.map (bn.eraseIdxIfInBounds i) ck) hw (by simp)
  have e1:(bn.eraseIdxIfInBounds i).toList=bn.toList.eraseIdx i:=by
   rw[Array.eraseIdxIfInBounds,dif_pos hc,Array.toList_eraseIdx]
  refine hb (bn.eraseIdxIfInBounds i) (fun _ h=>List.mem_of_mem_eraseIdx h) ?_ ?_ ?_
  ·rw[e1,ze,ze];exact GX i hx
  ·rw[e1,ze,ze];exact GX i hd
  ·simp only[lv,xG,q3,dC]at hf;simp[Builtin.delete_,run_underlying hu,ht,hg,ps,hf,hs]
theorem Hu(H:Inv P Γ N g h w){x:Operand}{ty kt et:TypeId}(ho:o.op=.call ⟨.builtin .len,#[x],#[ty]⟩)(hu:P.underlying ty=some (.map kt et)){a:AV}(hx:V g h a (r x)){n:Nat}
 (ha:(a=.dk/\n=0)\/(∃ks vs,a=.dG ks vs/\n=ks.length)\/∃j es fl,a=.mp j/\h[j]? =some (.map es fl)/\n=es.length):aO P Γ N r o w g h h (some (.int .i64 n)):=by
 rcases ha with⟨rfl,rfl⟩|⟨ks,vs,rfl,rfl⟩|⟨j,es,fl,rfl,hj,rfl⟩
 ·simp only[V]at hx;exact Aw H ho (Or.inr (Or.inr (Or.inr ⟨_,_,hu,hx,rfl⟩)))
 ·simp only[V]at hx;obtain⟨b,bn,ck,h1,h2,h3,h4⟩:=hx;have hg:=zF (P:=P) (H.mm b bn ck h2).1 (by simp);have hl:=gX h3;refine aO.same H (u:=.int .i64 ks.length) ?_ (by simp[V]);simp at hl;simp[execOp,ho,resolve,invoke,builtin,Builtin.len_,h1,run_underlying hu,goInt,hg,hl]
 ·simp only[V]at hx;obtain⟨_,b,sz,hρ,h1⟩:=hx;obtain⟨_,h2⟩:=H.ob j _ hj;obtain⟨bn,ck,h3,h4,h5⟩:=h2 b sz 0 hρ;have hg:=zF (P:=P) h3 (by simp);have hl:=G4 h4;refine aO.same H (u:=.int .i64 es.length) ?_ (by simp[V]);simp at hl;simp[execOp,ho,resolve,invoke,builtin,Builtin.len_,h1,run_underlying hu,goInt,hg,hl]
end
theorem modify_eq_set{α:Type}{f:α->α}:∀{l:List α}{i:Nat}{a:α},l[i]? =some a->l.modify i f=l.set i (f a)
 |[],i,a,h=>by simp at h
 |b::l,0,a,h=>by simp at h;subst h;simp
 |b::l,i+1,a,h=>by simp at h;simp[modify_eq_set h]
theorem acK{α:Type}{f:α->α}{l:List α}{i:Nat}(h:l[i]? =none):l.modify i f=l:=by
 apply iX;intro n;rw[Bv]
 by_cases hn:i=n
 ·subst hn;simp[h]
 ·simp[hn]
def rM(g':G)(h:List Ob)(w:World)(g:G)(i:Nat):Prop:=
 ∀k E es gr fl sh,h[i]? =some (.row k E es gr fl sh)->∀b sz st,g.ρ i=some (b,sz,st)->∀o v,(gr.getD 0-st)*k<=o->o<(es.length-st)*k->w.cell? ⟨b,o,none⟩=some v->g'.M b o=some v
section
variable{P:Program}{Γ:Nat->Option AV}{N:Env}{g:G}{h:List Ob}{w:World}{r:Operand->Value}{o:Oper}{t:List AV}
theorem Ext.more{g':G}{i k:Nat}{E:TypeId}{es:List AV}{gr:Option Nat}{fl sh:Bool}(hi:h[i]? =some (.row k E es gr fl sh))(hρ:g'.ρ=g.ρ)(h2:g'.MM=g.MM)(hM:∀b o v,g.M b o=some v->g'.M b o=some v):
 Ext h.length g h g' (h.set i (.row k E es gr fl true)):=by
 have h1:=Ext.qU (g:=g) (E':=E) (es':=es) (gr':=gr) (fl':=fl) (sh':=true) (ρ':=g.ρ i) hi (aT _) (fun off m _ h1=>⟨h1,rfl,fun _ h=>h⟩);rw[dt]at h1;refine h1.trans ?_
 exact⟨hM,fun b x hx=>by rw[h2];exact hx,fun j vs _ hj=>⟨⟨_,hj⟩,fun x hx=>by rw[hρ];exact hx⟩,fun j es fl _ hj=>⟨⟨_,_,hj⟩,fun x hx=>by rw[hρ];exact hx⟩,
  fun j es fl _ hj=>⟨⟨_,_,hj⟩,fun x hx=>by rw[hρ];exact hx⟩,fun j st q fn t ps a b _ hj=>⟨⟨_,_,hj⟩,fun x hx=>by rw[hρ];exact hx⟩,fun j l _ hj=>⟨⟨_,hj⟩,fun x hx=>by rw[hρ];exact hx⟩,
  fun j k E es gr fl sh _ hj=>⟨_,_,_,_,_,hj,aT _,fun _ _ _ hk=>⟨hk,rfl,fun x hx=>by rw[hρ];exact hx⟩⟩⟩
theorem afc(H:Inv P Γ N g h w)(i:Nat):∃g',g'.ρ=g.ρ/\g'.MM=g.MM/\(∀b o v,g.M b o=some v->g'.M b o=some v)/\Inv P Γ N g' (h.modify i eI) w/\Ext h.length g h g' (h.modify i eI)/\rM g' h w g i/\
 ∀(j:Nat)(k:Nat)(E:TypeId)(es:List AV)(gr:Option Nat)(fl sh:Bool),h[j]? =some (Ob.row k E es gr fl sh)->∃sh',(h.modify i eI)[j]? =some (Ob.row k E es gr fl sh'):=by
 by_cases hk:∃k E es gr fl sh,h[i]? =some (.row k E es gr fl sh)
 ·obtain⟨k,E,es,gr,fl,sh,hi⟩:=hk;have hl:h.modify i eI=h.set i (.row k E es gr fl true):=modify_eq_set hi;rw[hl];have h4:=bd hi
  have hx:∀(j:Nat)(k':Nat)(E':TypeId)(es':List AV)(gr':Option Nat)(fl' sh':Bool),h[j]? =some (Ob.row k' E' es' gr' fl' sh')->∃h5,(h.set i (Ob.row k E es gr fl true))[j]? =some (Ob.row k' E' es' gr' fl' h5):=by
   intro j k' E' es' gr' fl' sh' hj
   by_cases q1:j=i
   ·subst q1;rw[hi]at hj;simp only[an,Ob.row.injEq]at hj;obtain⟨rfl,rfl,rfl,rfl,rfl,rfl⟩:=hj;exact⟨true,ff h4⟩
   ·exact⟨sh',by rw[dW (by omega)];exact hj⟩
  cases hρ:g.ρ i with
  |none=>
   have hE:Ext h.length g h g (h.set i (.row k E es gr fl true)):=Ext.more hi rfl rfl (fun _ _ _ h=>h);refine⟨g,rfl,rfl,fun _ _ _ h=>h,?_,hE,?_,hx⟩
   ·have:=Inv.set (r:=none) (w':=w) H (o':=.row k E es gr fl true) h4 (by rw[<-hρ,dt];exact hE) rfl rfl rfl (fun _ _ _=>rfl) (aT _) (by simp)
     (fun b y o v hy _=>by rw[hρ]at hy;cases hy) (by simp) (by
      rw[<-hρ,dt];have:=oN (w':=w) hE rfl (fun _ _ _=>rfl) (H.ob i _ hi)
      simpa only [OV]using this)
    rw[<-hρ,dt]at this;exact this
   ·intro k' E' es' gr' fl' sh' _ b sz st hb
    rw[hρ]at hb;cases hb
  |some y=>
   obtain⟨b,sz,st⟩:=y;have hf:=H.ob i _ hi;simp only[OV]at hf;rw[hρ]at hf;simp only at hf;obtain⟨e2,hK,h6,hz,ys,c,Eb,fz,vs,hw,h7,q2,q3,hq⟩:=hf
   let g':G:={g with M:=fun b' o=>if b'=b/\(gr.getD 0-st)*k<=o/\o<(es.length-st)*k then c[o]? else g.M b' o}
   have ps:∀o v,g.M b o=some v->c[o]? =some v:=fun o v hv=>by
    have:=H.mem b o v hv;rwa[cell_of_row w b o c Eb fz hw]at this
   have hM:∀b' o v,g.M b' o=some v->g'.M b' o=some v:=by
    intro b' o v hv;simp only[g']
    split
    ·rename_i hc;rw[hc.1]at hv;exact ps o v hv
    ·exact hv
   have hE:Ext h.length g h g' (h.set i (.row k E es gr fl true)):=Ext.more hi rfl rfl hM;refine⟨g',rfl,rfl,hM,?_,hE,?_,hx⟩
   ·refine⟨H.os,H.tape,H.output,H.gp,H.own,H.inj,fun j hj=>H.ql j (by rwa[kD]at hj),?_,H.mm,?_,?_,?_,?_,H.ky,H.mz⟩
    ·intro b' o v hv;simp only[g']at hv
     split at hv
     ·rename_i hc;rw[hc.1,cell_of_row w b o c Eb fz hw];exact hv
     ·exact H.mem b' o v hv
    ·intro j b' ht hp o v hj hv;have ih:g.ρ j=some (b',ht,hp):=hj
     have hold:g.M b' o=some v->∃k' E' es' gr' fl',(h.set i (.row k E es gr fl true))[j]? =some (.row k' E' es' gr' fl' true)/\o<(es'.length-hp)*k':=by
      intro e1;obtain⟨k',E',es',gr',fl',h1,h2⟩:=H.fo j b' ht hp o v ih e1
      by_cases q1:j=i
      ·subst q1;rw[hi]at h1;simp only[an,Ob.row.injEq]at h1;obtain⟨rfl,rfl,rfl,rfl,rfl,rfl⟩:=h1;exact⟨_,_,_,_,_,ff h4,h2⟩
      ·exact⟨k',E',es',gr',fl',by rw[dW (by omega)];exact h1,h2⟩
     simp only[g']at hv
     split at hv
     ·rename_i hc;have q1:j=i:=H.inj j i b _ _ (by rw[<-hc.1];exact ih) hρ;subst q1;rw[hρ]at ih;simp only[an,b9]at ih;obtain⟨_,_,rfl⟩:=ih;exact⟨_,_,_,_,_,ff h4,hc.2.2⟩
     ·exact hold hv
    ·intro j q hj
     by_cases q1:j=i
     ·subst q1;rw[ff h4]at hj
      cases hj
      have:=oN (w':=w) hE rfl (fun _ _ _=>rfl) (H.ob j _ hi);simpa only [OV]using this
     ·rw[dW (by omega)]at hj;exact oN hE rfl (fun _ _ _=>rfl) (H.ob j q hj)
    ·intro n a hn;obtain⟨h1,vs,h2,h3⟩:=H.mo n a hn;exact⟨h1,vs,cM hE (dM h2) h2,fun j hj=>hM _ _ _ (h3 j hj)⟩
    ·intro b' o v B hv hB;simp only[g']at hv
     split at hv
     ·rename_i hc;have:=(H.own i b _ hρ).1;rw[hc.1,this]at hB
      cases hB
     ·exact H.mK b' o v B hv hB
   ·intro k' E' es' gr' fl' sh' hd b' ht hp hg o v h1 h2 h3;rw[hi]at hd;simp only[an,Ob.row.injEq]at hd;obtain⟨rfl,rfl,rfl,rfl,rfl,rfl⟩:=hd;rw[hρ]at hg;simp only[an,b9]at hg;obtain⟨rfl,rfl,rfl⟩:=hg;simp only[g'];rw[if_pos ⟨trivial,h1,h2⟩,<-cell_of_row w b o c Eb fz hw];exact h3
 ·have hl:h.modify i eI=h:=by
   cases hi:h[i]? with
   |none=>exact acK hi
   |some q=>
    rw[modify_eq_set hi]
    have:eI q=q:=by
     cases q<;>first|rfl|exact absurd ⟨_,_,_,_,_,_,hi⟩ hk
    rw[this];apply iX;intro n;rw[qy]
    by_cases hn:i=n
    ·subst hn;rw[if_pos rfl,if_pos (bd hi),hi]
    ·simp[hn]
  rw[hl];refine⟨g,rfl,rfl,fun _ _ _ h=>h,H,Ext.refl _ _ _,?_,fun j k E es gr fl sh hj=>⟨sh,hj⟩⟩;intro k E es gr fl sh hi;exact absurd ⟨_,_,_,_,_,_,hi⟩ hk
theorem l6:∀(is:List Nat)(h:List Ob),(share is h).length=h.length
 |[],_=>rfl
 |i::is,h=>by simp[share,l6 is]
theorem pC:∀(is:List Nat){g:G}{h:List Ob},Inv P Γ N g h w->∃g',g'.ρ=g.ρ/\g'.MM=g.MM/\(∀b o v,g.M b o=some v->g'.M b o=some v)/\Inv P Γ N g' (share is h) w/\Ext h.length g h g' (share is h)/\
 ∀i∈is,rM g' h w g i
 |[],g,h,H=>⟨g,rfl,rfl,fun _ _ _ h=>h,H,Ext.refl _ _ _,by simp⟩
 |i::is,g,h,H=>by
  obtain⟨g1,hk,hc,ih,H1,hf,hy,hp⟩:=afc H i;obtain⟨g2,h5,hx,q1,H2,h4,hq⟩:=pC is H1
  have hl:(h.modify i eI).length=h.length:=by simp
  rw[hl]at h4;refine⟨g2,h5.trans hk,hx.trans hc,fun b o v hv=>q1 b o v (ih b o v hv),H2,hf.trans h4,?_⟩;intro j hj
  rcases bD.1 hj with rfl|hj
  ·intro k E es gr fl sh hi b sz st hb o v h1 h2 h3;exact q1 _ _ _ (hy k E es gr fl sh hi b sz st hb o v h1 h2 h3)
  ·intro k E es gr fl sh hi b sz st hb o v h1 h2 h3;obtain⟨sh',ht⟩:=hp j k E es gr fl sh hi;exact hq j hj k E es gr fl sh' ht b sz st (by rw[hk];exact hb) o v h1 h2 h3
theorem afV(H:Inv P Γ N g h w){g':G}{h':List Ob}(x:Ext h.length g h g' h'){i off n:Nat}{u:Value}(hc:rM g' h w g i)(hv:V g h (.sl i off n) u){p:Nat×List AV}(ht:wJ h (.sl i off n)=some p):
 V g' h' (.list false p.1 p.2) u:=by
 simp only[wJ]at ht
 split at ht
 ·rename_i k E es gr sh hi
  split at ht
  ·rename_i h2;simp only[an]at ht;subst ht;have hk:=OI H hv hi h2;obtain⟨hK,a,cap,vs,rfl,hl,q1⟩:=hk;have hy:=H.ob i _ hi;simp only[OV]at hy;obtain⟨ps,_,h5,e1,hb⟩:=hy
   have hle:off+n<=es.length:=by
    cases gr with
    |none=>simpa[cW]using h2
    |some lo=>simp only[cW,aB,bj,nA]at h2;omega
   have h4:((es.drop off).take n).length=n:=by simp;omega
   have hx:cG ((es.drop off).take n) k=true:=qJ (h5 trivial) (fun e he=>kE (lr he));simp only[V]at hv⊢;obtain⟨k2,E2,e2,h6,hz,ys,ih,_,a2,hd,hp,hf,_,hq⟩:=hv;rw[hi]at ih;simp only[an,Ob.row.injEq]at ih;obtain⟨rfl,rfl,rfl,rfl,rfl,rfl⟩:=ih;simp only[Value.slice.injEq,xB]at hp;obtain⟨rfl,rfl⟩:=hp;refine⟨hx,a,cap,by rw[h4],by simp,by rw[h4];exact hf,?_⟩
   by_cases h0:n=0
   ·left;apply lq.1;omega
   ·right
    rcases(hq h2).2 with⟨h1,_⟩|⟨b,sz,st,hρ,h7,rfl,q3⟩
    ·exact absurd h1 h0
    ·rcases q1 with h1|⟨b',p',he,hm⟩
     ·exact absurd h1 h0
     ·simp only[an,Addr.mk.injEq,qo]at he;obtain⟨rfl,rfl⟩:=he
      have fz:gr.getD 0<=off:=by
       cases gr with
       |none=>simp
       |some lo=>simp only[cW,aB,bj]at h2;simpa using h2.1
      have hg:st<=gr.getD 0:=by rw[hρ]at hb;exact hb.1
      refine⟨b,(off-st)*k,vs,rfl,gY x (lH hl) hl,fun j hj=>?_⟩;have q2:=jD (ly hx) hl;rw[h4]at q2;refine hc k E es gr true sh hi b sz st hρ _ _ ?_ ?_ (hm j _ (aW hj))
      ·exact tu (mG _ (by omega)) (Nat.le_add_right _ _)
      ·have:(off-st)*k+n*k<=(es.length-st)*k:=by rw[<-gU];exact mG _ (by omega)
       omega
  ·simp at ht
 ·simp at ht
mutual
theorem uB(H:Inv P Γ N g h w){g':G}{h':List Ob}(x:Ext h.length g h g' h'):∀{a a':AV}{u:Value},(∀i∈rowsOf a,rM g' h w g i)->V g h a u->view h a=some a'->V g' h' a' u
 |.undef,a',u,_,hv,ha|.bool _,a',u,_,hv,ha|.int _ _,a',u,_,hv,ha|.str _,a',u,_,hv,ha|.jn,a',u,_,hv,ha|.dk,a',u,_,hv,ha|.dn,a',u,_,hv,ha
 |.fv,a',u,_,hv,ha|.eP _ _,a',u,_,hv,ha=>by
  simp only[view,an]at ha;subst ha;exact gZ x (mj hv) hv
 |.dG ks us,a',u,_,hv,ha=>by
  simp only[view]at ha
  split at ha
  ·simp only[an]at ha;subst ha;exact gZ x (mj hv) hv
  ·simp at ha
 |.list f k es,a',u,_,hv,ha=>by
  simp only[view,an]at ha;subst ha;have h1:=gZ x (mj hv) hv;simp only[V]at h1⊢;obtain⟨h2,a,cap,h3,_,h4,h5⟩:=h1;exact⟨h2,a,cap,h3,by simp,h4,h5⟩
 |.sl i off n,a',u,hc,hv,ha=>by
  simp only[view,cm]at ha;obtain⟨p,hp,rfl⟩:=ha;exact afV H x (hc i (by simp[rowsOf])) hv hp
 |.own _ _ _,_,_,_,hv,_=>by simp only[V]at hv
 |.ptr _ _,_,_,_,_,ha|.mp _,_,_,_,_,ha|.it _,_,_,_,_,ha|.de _,_,_,_,_,ha|.dw _ _ _ _,_,_,_,_,ha=>by simp[view]at ha
 |.agg cs,a',u,hc,hv,ha=>by
  simp only[view,cm]at ha;obtain⟨hb,h1,rfl⟩:=ha;simp only[V]at hv⊢;obtain⟨vs,rfl,h2⟩:=hv;exact⟨vs,rfl,uq H x (by simpa only [rowsOf]using hc) h2 h1⟩
 |.aH cs,a',u,hc,hv,ha=>by
  simp only[view,cm]at ha;obtain⟨hb,h1,rfl⟩:=ha;simp only[V]at hv⊢;obtain⟨vs,rfl,h2⟩:=hv;exact⟨vs,rfl,uq H x (by simpa only [rowsOf]using hc) h2 h1⟩
 |.fn f a b,a',u,hc,hv,ha=>by
  simp only[view]at ha
  split at ha
  ·rename_i a2 b2 h1 h2;simp only[an]at ha;subst ha;simp only[V]at hv⊢;obtain⟨xs,ys,rfl,h3,h4⟩:=hv;simp only[rowsOf,a8]at hc;exact⟨xs,ys,rfl,uq H x (fun i hi=>hc i (Or.inl hi)) h3 h1,uq H x (fun i hi=>hc i (Or.inr hi)) h4 h2⟩
  ·simp at ha
 |.bW t a,a',u,hc,hv,ha=>by
  simp only[view,cm]at ha;obtain⟨b,h1,rfl⟩:=ha;simp only[V]at hv⊢;obtain⟨y,rfl,h2⟩:=hv;exact⟨y,rfl,uB H x (by simpa only [rowsOf]using hc) h2 h1⟩
theorem uq(H:Inv P Γ N g h w){g':G}{h':List Ob}(x:Ext h.length g h g' h'):∀{as hb:List AV}{us:List Value},(∀i∈b_ as,rM g' h w g i)->VL g h as us->cy h as=some hb->VL g' h' hb us
 |[],hb,us,_,hv,ha=>by
  simp only[cy,an]at ha;subst ha;simpa only [VL]using hv
 |a::as,hb,us,hc,hv,ha=>by
  simp only[cy]at ha
  split at ha
  ·rename_i a2 hk h1 h2;simp only[an]at ha;subst ha;simp only[VL]at hv⊢;obtain⟨u,hx,rfl,h3,h4⟩:=hv;simp only[b_,a8]at hc;exact⟨u,hx,rfl,uB H x (fun i hi=>hc i (Or.inl hi)) h3 h1,uq H x (fun i hi=>hc i (Or.inr hi)) h4 h2⟩
  ·simp at ha
end
mutual
theorem Da(H:Inv P Γ N g h w):∀{a a':AV}{u:Value},V g h a u->view h a=some a'->aK 0 a'=true
 |.undef,_,_,_,ha|.bool _,_,_,_,ha|.int _ _,_,_,_,ha|.str _,_,_,_,ha|.jn,_,_,_,ha|.dk,_,_,_,ha|.dn,_,_,_,ha
 |.fv,_,_,_,ha|.eP _ _,_,_,_,ha=>by
  simp only[view,an]at ha;subst ha;rfl
 |.dG ks us,_,_,_,ha=>by
  simp only[view]at ha
  split at ha
  ·rename_i hb;simp only[an]at ha;subst ha;simpa only [aK]using hb
  ·simp at ha
 |.list f k es,_,_,hv,ha=>by
  simp only[view,an]at ha;subst ha;simp only[V]at hv;simp only[aK];exact j7 hv.1
 |.sl i off n,_,_,hv,ha=>by
  simp only[view,cm]at ha;obtain⟨p,hp,rfl⟩:=ha;simp only[wJ]at hp
  split at hp
  ·rename_i k E es gr sh hi
   split at hp
   ·simp only[an]at hp;subst hp;have hc:=H.ob i _ hi;simp only[OV]at hc;obtain⟨_,_,hx,_⟩:=hc;simp only[aK];exact j7 (qJ (hx trivial) (fun e he=>kE (lr he)))
   ·simp at hp
  ·simp at hp
 |.own _ _ _,_,_,hv,_=>by simp only[V]at hv
 |.ptr _ _,_,_,_,ha|.mp _,_,_,_,ha|.it _,_,_,_,ha|.de _,_,_,_,ha|.dw _ _ _ _,_,_,_,ha=>by simp[view]at ha
 |.agg cs,_,_,hv,ha=>by
  simp only[view,cm]at ha;obtain⟨hk,h1,rfl⟩:=ha;simp only[V]at hv;obtain⟨vs,rfl,h2⟩:=hv
  simp only[aK];exact uc H h2 h1
 |.aH cs,_,_,hv,ha=>by
  simp only[view,cm]at ha;obtain⟨hk,h1,rfl⟩:=ha;simp only[V]at hv;obtain⟨vs,rfl,h2⟩:=hv
  simp only[aK];exact uc H h2 h1
 |.fn f a b,_,_,hv,ha=>by
  simp only[view]at ha
  split at ha
  ·rename_i a2 b2 h1 h2;simp only[an]at ha;subst ha;simp only[V]at hv;obtain⟨xs,ys,rfl,h3,h4⟩:=hv
   simp only[aK,aB];exact⟨uc H h3 h1,uc H h4 h2⟩
  ·simp at ha
 |.bW t a,_,_,hv,ha=>by
  simp only[view,cm]at ha;obtain⟨b,h1,rfl⟩:=ha;simp only[V]at hv;obtain⟨y,rfl,h2⟩:=hv
  simp only[aK];exact Da H h2 h1
theorem uc(H:Inv P Γ N g h w):∀{as hb:List AV}{us:List Value},VL g h as us->cy h as=some hb->aN 0 hb=true
 |[],_,_,_,ha=>by
  simp only[cy,an]at ha;subst ha;rfl
 |a::as,_,_,hv,ha=>by
  simp only[cy]at ha
  split at ha
  ·rename_i a2 hc h1 h2;simp only[an]at ha;subst ha;simp only[VL]at hv;obtain⟨u,hx,rfl,h3,h4⟩:=hv
   simp only[aN,aB];exact⟨Da H h3 h1,uc H h4 h2⟩
  ·simp at ha
end
theorem Dj{α β:Type}{R S:α->β->Prop}:∀{l:List α}{m:List β},F2 R l m->(∀a b,R a b->S a b)->F2 S l m
 |_,_,.nil,_=>.nil
 |_,_,.cons h1 h2,hs=>.cons (hs _ _ h1) (Dj h2 hs)
theorem Nj:∀{ps hv:List (Nat×AV)}{parts:List (Nat×Value)}{g:G}{h h':List Ob},Inv P Γ N g h w->F2 (fun(p:Nat×AV) (q:Nat×Value)=>p.1=q.1/\V g h p.2 q.2) ps parts->pJ h ps=some (hv,h')->
 ∃g',Inv P Γ N g' h' w/\h'.length=h.length/\Ext h.length g h g' h'/\F2 (fun(p:Nat×AV) (q:Nat×Value)=>p.1=q.1/\V g' h' p.2 q.2) hv parts
 |[],hv,parts,g,h,h',H,hf,hp=>by
  cases hf
  simp only[pJ,an,b9]at hp;obtain⟨rfl,rfl⟩:=hp;exact⟨g,H,rfl,Ext.refl _ _ _,.nil⟩
 |(i,v)::ps,hv,parts,g,h,h',H,hf,hp=>by
  cases hf with
  |cons hq hf=>
   rename_i q parts;simp only[pJ]at hp
   split at hp
   ·rename_i v' hl
    split at hp
    ·rename_i hy h2 q1;simp only[an,b9]at hp;obtain⟨rfl,rfl⟩:=hp;obtain⟨g1,_,_,_,H1,hb,h4⟩:=pC (rowsOf v) H;have hk:=uB H hb h4 hq.2 hl;obtain⟨g2,H2,hj,hc,ih⟩:=Nj H1 (Dj hf fun a b hx=>⟨hx.1,gZ hb (mj hx.2) hx.2⟩) q1;rw[l6]at hj hc;refine⟨g2,H2,hj,hb.trans hc,.cons ⟨hq.1,?_⟩ ih⟩;have:=mj hk;rw[l6]at this;exact gZ hc this hk
    ·simp at hp
   ·simp at hp
theorem GR{k:Nat}:∀{ps:List (Nat×AV)}{parts:List (Nat×Value)}{es es':List AV}{zs:Array Value},F2 (fun(p:Nat×AV) (q:Nat×Value)=>p.1=q.1/\V g h p.2 q.2) ps parts->oZ k es ps=some es'->
 eC k es->VE g h es zs.toList->∃us,Instr.fill (fun i=>some (i*k,k)) zs parts=some us/\VE g h es' us.toList/\eC k es'/\es'.length=es.length
 |[],parts,es,es',zs,hf,hp,hk,hv=>by
  cases hf
  simp only[oZ,an]at hp;subst hp;exact⟨zs,rfl,hv,hk,rfl⟩
 |(i,v)::ps,parts,es,es',zs,hf,hp,hk,hv=>by
  cases hf with
  |cons hq hf=>
   rename_i q parts;obtain⟨j,u⟩:=q;obtain⟨q1,hu⟩:=hq;simp only at q1 hu;subst q1;simp only[oZ]at hp
   split at hp
   ·rename_i hc;obtain⟨ht,ih,hy⟩:=hc;have hb:=qV (si hy) hu;have hd:=gX hb
    have h5:u.cells.toList.length=k:=by rw[hd,ih]
    have hg:=jD hk hv
    have q2:zs.size=es.length*k:=by simpa using hg
    have e1:i*k+k<=es.length*k:=by
     have:i*k+k=(i+1)*k:=by rw[gU,Nat.one_mul]
     rw[this];exact mG _ (by omega)
    have hj:=Jr hk hv ht hu h5;have hx:=HK (i*k) u.cells.toList 0 zs (by rw[q2];omega)
    have hl:u.cells.zipIdx.foldl (fun cs (x:Value×Nat)=>cs.setIfInBounds (i*k+x.2) x.1) zs=(u.cells.toList.zipIdx 0).foldl (fun cs (x:Value×Nat)=>cs.setIfInBounds (i*k+x.2) x.1) zs:=by
     rw[<-Fl,Array.toList_zipIdx]
    obtain⟨us,h1,h2,h3,h4⟩:=GR (zs:=u.cells.zipIdx.foldl (fun cs (x:Value×Nat)=>cs.setIfInBounds (i*k+x.2) x.1) zs) hf hp (by
     intro e he
     rcases qu he with he|rfl
     ·exact hk e he
     ·exact⟨ih,hy⟩) (by
     rw[hl,hx,iz]
     exact hj)
    refine⟨us,?_,h2,h3,by rw[h4,kD]⟩;simp only[Instr.fill]
    have e2:u.cells.size=k:=by simpa using h5
    rw[if_neg (by simp only[fL,bj,ne_eq,not_or,Fo];omega)];exact h1
   ·simp at hp
theorem Inv.imm(H:Inv P Γ N g h w)(c:Array Value)(E:TypeId):∃g',g'.ρ=g.ρ/\g'.MM=g.MM/\(∀b o v,g.M b o=some v->g'.M b o=some v)/\Inv P Γ N g' h (w.alloc (.cells c E))/\Ext h.length g h g' h/\
 ∀j v,c[j]? =some v->g'.M w.heap.size j=some v:=by
 let g':G:={g with M:=fun b o=>if b=w.heap.size then c[o]? else g.M b o}
 have hM:∀b o v,g.M b o=some v->g'.M b o=some v:=by
  intro b o v hv;have:b<w.heap.size:=xx (H.mem b o v hv);simp only[g'];rw[if_neg (by omega)];exact hv
 have hE:Ext h.length g h g' h:=⟨hM,fun b x hx=>hx,fun j vs _ hj=>⟨⟨_,hj⟩,fun x hx=>hx⟩,fun j es fl _ hj=>⟨⟨_,_,hj⟩,fun x hx=>hx⟩,
  fun j es fl _ hj=>⟨⟨_,_,hj⟩,fun x hx=>hx⟩,fun j st q fn t ps a b _ hj=>⟨⟨_,_,hj⟩,fun x hx=>hx⟩,fun j l _ hj=>⟨⟨_,hj⟩,fun x hx=>hx⟩,
  fun j k E es gr fl sh _ hj=>⟨_,_,_,_,_,hj,aT _,fun _ _ _ hk=>⟨hk,rfl,fun x hx=>hx⟩⟩⟩
 have hw:∀b,b<w.heap.size->(w.alloc (.cells c E)).heap[b]? =w.heap[b]? :=Aa _ _
 have hc:∀{b B},w.heap[b]? =some B->b<w.heap.size:=fun{b B} hb=>(Array.getElem?_eq_some_iff.1 hb).1
 refine⟨g',rfl,rfl,hM,?_,hE,?_⟩
 ·refine⟨H.os,H.tape,H.output,fun b o hb=>by rw[hw b (hc (H.gp b o hb))];exact H.gp b o hb,fun i b x hi=>⟨(H.own i b x hi).1,by have:=(H.own i b x hi).2;simp;omega⟩,H.inj,H.ql,?_,?_,?_,?_,?_,?_,H.ky,H.mz⟩
  ·intro b o v hv;simp only[g']at hv
   split at hv
   ·rename_i hb;subst hb;have:=cell_of_row (w.alloc (.cells c E)) w.heap.size o c E (0,0) (mM _ _)
    rw[this];exact hv
   ·have h0:=H.mem b o v hv;rw[vB (hw b (xx h0))];exact h0
  ·intro b es ck hb;obtain⟨h1,h2⟩:=H.mm b es ck hb;exact⟨by rw[hw b (hc h1)];exact h1,h2⟩
  ·intro i b sz st o v hi hv;simp only[g']at hv
   split at hv
   ·rename_i hb;have:=(H.own i b _ hi).2;omega
   ·exact H.fo i b sz st o v hi hv
  ·intro i q hi;exact oN hE rfl (fun b y hb=>hw b (H.own i b y hb).2) (H.ob i q hi)
  ·intro n a hn;obtain⟨h1,vs,h2,h3⟩:=H.mo n a hn;exact⟨h1,vs,cM hE (dM h2) h2,fun j hj=>hM _ _ _ (h3 j hj)⟩
  ·intro b o v B hv hB;simp only[g']at hv
   split at hv
   ·rename_i hb;have:=hc (H.gp b B hB);omega
   ·exact H.mK b o v B hv hB
 ·intro j v hv;simp only[g',cE];exact hv
theorem ajN(H:Inv P Γ N g h w){ty e:TypeId}{n:Nat}{ps:Array (Nat×Operand)}(ho:o.op=.buildSlice ty n ps)(hu:P.underlying ty=some (.slice e)){k:Nat}(hk:bH P e=some k)(fz:0<k)
 {z:AV}(hz:eB P e=some z)(hy:lT k z=true)(ck:n*k<=2^24)(he:∀x,V g h (ax t (ay x)) (r x)){h5:List (Nat×AV)}{h':List Ob}
 (hp:pJ h ((ps.toList.map fun q=>(q.1,ay q.2)).map fun q=>(q.1,ax t q.2))=some (h5,h')){es:List AV}(hf:oZ k (List.replicate n z) h5=some es)(hd:cG es k=true):
 aO P Γ N r o w g h h' (some (.list true k es)):=by
 obtain⟨zv,hg,rfl⟩:=vS hz;simp only[lT,aB,bj]at hy;obtain⟨⟨hq,q2⟩,e1⟩:=hy;have hc:=vJ hq
 have hF:F2 (fun(p:Nat×AV) (q:Nat×Value)=>p.1=q.1/\V g h p.2 q.2) ((ps.toList.map fun q=>(q.1,ay q.2)).map fun q=>(q.1,ax t q.2)) (ps.map fun q=>(q.1,r q.2)).toList:=by
  rw[Array.toList_map,iW];generalize ps.toList=l
  induction l with
  |nil=>exact .nil
  |cons q l ih=>exact .cons ⟨rfl,he q.2⟩ ih
 obtain⟨g1,H1,ht,e2,h6⟩:=Nj H hF hp;have hx:=vz (oM g1 h' zv) n;have ys:=vF hc n
 let zs:Array Value:=(Array.range (n*k)).map fun i=>(if n*k=0 then#[]else zv.cells)[i%(if n*k=0 then#[]else zv.cells).size]!
 have h7:zs.toList=(List.replicate n zv.cells.toList).flatten:=by
  simp only[zs]
  by_cases hv:n*k=0
  ·have:n=0:=by
    rcases LX.1 hv with h1|h1
    ·exact h1
    ·omega
   simp[this]
  ·simp only[hv,dq,hc];exact ys
 obtain⟨us,h1,h2,h3,h4⟩:=GR (zs:=zs) h6 hf (ly (vr hq q2 e1 n)) (by rw[h7];exact hx);obtain⟨g2,gu,q3,gg,H2,hl,k2⟩:=Inv.imm H1 us e;rw[ht]at hl
 have hlen:es.length=n:=by rw[h4,qx]
 refine⟨g2,_,_,?_,H2,e2.trans hl,.slice (some ⟨w.heap.size,0,none⟩) n n,rfl,?_⟩
 ·have q1:(Instr.buildSlice ty n (ps.map fun q=>(q.1,r q.2))).run P w=.ok (.slice (some ⟨w.heap.size,0,none⟩) n n) (w.alloc (.cells us e)):=by
   simp only[Instr.buildSlice,Sem.run_bind,run_underlying hu,Result.andThen_ok,jQ hk];rw[if_neg (by omega)]
   by_cases hv:n*k=0
   ·have hb:zs=(Array.range (n*k)).map fun i=>(#[]:Array Value)[i%(#[]:Array Value).size]! :=by simp only[zs,hv,cE]
    rw[hb]at h1;rw[if_pos hv];simp only[Sem.run_bind,Sem.run_pure,Result.andThen_ok];rw[h1];simp[newRow]
   ·have hb:zs=(Array.range (n*k)).map fun i=>zv.cells[i%zv.cells.size]! :=by simp only[zs,hv,dq]
    rw[hb]at h1;rw[if_neg hv];simp only[Sem.run_bind,hg,Sem.run_pure,Result.andThen_ok];rw[h1];simp[newRow]
  simp only[execOp,ho];rw[Sem.run_bind,q1];rfl
 ·simp only[V];refine⟨hd,some ⟨w.heap.size,0,none⟩,n,by rw[hlen],fun _=>hlen.symm,by omega,Or.inr ⟨w.heap.size,0,us.toList,rfl,gY hl (by have:=lH h2;rwa[ht]at this) h2,fun j hj=>?_⟩⟩;rw[jw];apply k2;rw[<-xG,aW hj]
theorem ahr{f:Bool}{k:Nat}{es:List AV}{a:Option Addr}{n cap l u s:Nat}(hv:V g h (.list f k es) (.slice a n cap))(hy:l<=u)(hu:u<=es.length)(hk:k=s\/es=[]):
 V g h (.list true k ((es.take u).drop l)) (.slice (if u=l then a else a.map (·.add (l*s))) (u-l) (u-l)):=by
 simp only[V]at hv⊢;obtain⟨h2,a',hx,he,hf,hl,h3⟩:=hv;simp only[Value.slice.injEq]at he;obtain⟨rfl,rfl,rfl⟩:=he
 have hb:((es.take u).drop l).length=u-l:=by simp;omega
 refine⟨qJ h2 (fun e he=>lr (kE he)),(if u=l then a else a.map (·.add (l*s))),u-l,by rw[hb],fun _=>hb.symm,by omega,?_⟩
 by_cases q1:u=l
 ·left;apply lq.1;omega
 ·right
  have hc:es≠[]:=by rintro rfl;simp at hu;omega
  rcases h3 with h3|⟨b,p,vs,rfl,h4,h5⟩
  ·exact absurd h3 hc
  ·have ih:k=s:=hk.resolve_right hc;subst ih;have hK:=ly h2;have h6:=wu (fun e he=>hK e (lr he)) (Ai hK h4 u) l;refine⟨b,p+l*k,_,?_,h6,?_⟩
   ·rw[if_neg q1];simp[l8]
   ·intro j hj;rw[List.getElem_drop,qp,lu];exact h5 _ _
theorem aeY(H:Inv P Γ N g h w){ty e:TypeId}{x hi mx:Operand}{lo:Option Operand}(ho:o.op=.slice ty x lo (some hi) (some mx))(hu:P.underlying ty=some (.slice e)){s:Nat}(hs:bH P e=some s)
 {a:AV}(hx:V g h a (r x)){f:Bool}{k:Nat}{es:List AV}(hv:view h a=some (.list f k es))(he:∀x,V g h (ax t (ay x)) (r x)){l u:Nat}(hl:bound t 0 (lo.map ay)=some l)
 (hh:bound t 0 (some (ay hi))=some u)(hm:bound t 0 (some (ay mx))=some u)(hc:l<=u/\u<=es.length/\(k=s\/es=[])):
 aO P Γ N r o w g h (share (rowsOf a) h) (some (.list true k ((es.take u).drop l))):=by
 obtain⟨g1,_,_,_,H1,hj,ih⟩:=pC (rowsOf a) H;have hk:=uB H hj ih hx hv;have q1:=hk;simp only[V]at q1;obtain⟨_,ad,cap,h4,_,hf,_⟩:=q1;rw[h4]at hk;refine⟨g1,w,_,?_,H1,hj,_,rfl,ahr hk hc.1 hc.2.1 hc.2.2⟩;have b1:=qH (r:=r) (x:=lo) hl he;have b2:=qH (r:=r) (x:=some hi) hh he;have b3:=qH (r:=r) (x:=some mx) hm he;simp only[dC]at b2 b3;obtain⟨k2,h2⟩:=b2;obtain⟨k3,h3⟩:=b3
 have hb:(Instr.sliceBounds true es.length cap (lo.map r) (some (.int k2 u)) (some (.int k3 u))).run P w=.ok (l,u,u) w:=by
  cases lo with
  |none=>
   simp only[u_]at b1⊢;subst b1;simp only[Instr.sliceBounds,Sem.run_bind];rw[run_sliceBound w k3 u cap _ (by omega) (by omega)];simp only[Result.andThen_ok,eo];rw[run_sliceBound w k2 u u _ (by omega) (by omega)];simp
  |some lo=>
   simp only[dC]at b1⊢;obtain⟨k1,h1⟩:=b1;rw[h1];simp only[Instr.sliceBounds,Sem.run_bind];rw[run_sliceBound w k3 u cap _ (by omega) (by omega)];simp only[Result.andThen_ok,eo];rw[run_sliceBound w k2 u u _ (by omega) (by omega)];simp only[Result.andThen_ok,eo];rw[run_sliceBound w k1 l u _ (by omega) (by omega)];simp
 simp[execOp,ho,h4,h2,h3,Instr.sliceAt,Instr.slice,run_underlying hu,jQ hs,hb]
theorem abn{α:Type}{l:List α}{i:Nat}{a:α}(hi:l[i]? =some a):l.set i a=l:=by
 apply iX;intro n;rw[qy]
 by_cases hn:i=n
 ·subst hn;rw[if_pos rfl,if_pos (bd hi),hi]
 ·simp[hn]
theorem ajA(H:Inv P Γ N g h w){s d e:TypeId}{x:Operand}(ho:o.op=.convert s d x)(hd:s=d)(hs:P.underlying s=some (.slice e))(he:P.underlying e=some (.int .u8))
 {i n k:Nat}{E:TypeId}{es:List AV}{fl sh:Bool}(hi:h[i]? =some (.row k E es none fl sh))(h4:n=es.length)(hx:V g h (.sl i 0 n) (r x))(hn:n≠0):aO P Γ N r o w g h h (some (.sl i 0 n)):=by
 subst hd;have hg:=hx;simp only[V]at hx;obtain⟨k',E',es',gr,fl',sh',ih,hle,ad,cap,q2,ps,gu,hq⟩:=hx;rw[hi]at ih;simp only[an,Ob.row.injEq]at ih;obtain⟨rfl,rfl,rfl,rfl,rfl,rfl⟩:=ih
 rcases(hq (by simp[cW,h4])).2 with⟨h0,_⟩|⟨b,sz,st,hρ,gg,rfl,k1⟩
 ·exact absurd h0 hn
 have e1:=bd hi;have q1:=H.ob i _ hi;simp only[OV]at q1;rw[hρ]at q1;simp only at q1;obtain⟨e2,hK,hz,ys,hp,c,Eb,fz,vs,hw,h7,hj,q3,hb⟩:=q1;have h9:b<w.heap.size:=(H.own i b _ hρ).2
 have hl:(w.freeze ⟨b,c.size,none⟩ 1).heap[b]? =some (.cells c Eb (if fz.1==fz.2 then(c.size,c.size+1)else(min fz.1 c.size,max fz.2 (c.size+1)))):=by
  simp only[World.freeze,Nat.one_ne_zero,dq,Array.getElem?_modify,cE,hw,dC]
 have ht:∀b',b'≠b->(w.freeze ⟨b,c.size,none⟩ 1).heap[b']? =w.heap[b']? :=by
  intro b' e3;simp only[World.freeze,Nat.one_ne_zero,dq,Array.getElem?_modify];rw[if_neg (by omega)]
 have hc:od c (if fz.1==fz.2 then(c.size,c.size+1)else(min fz.1 c.size,max fz.2 (c.size+1))):=by
  rcases hj with hf|hf
  ·simp[hf];exact Or.inr (aT _)
  ·split
   ·exact Or.inr (aT _)
   ·exact Or.inr (by simp;omega)
 have h2:=abn hi;refine⟨g,w.freeze ⟨b,c.size,none⟩ 1,.value (r x),?_,?_,Ext.refl _ _ _,r x,rfl,hg⟩
 ·have hk:w.shape? b=some (Eb,c.size):=by simp[World.shape?,hw]
  simp[execOp,ho,q2,convert,run_underlying hs,run_underlying he,markStringish,hk]
 ·have:=Inv.set (r:=g.ρ i) (w':=w.freeze ⟨b,c.size,none⟩ 1) H (o':=.row k E es none fl sh) e1 (by rw[dt,h2];exact Ext.refl _ _ _) rfl rfl rfl
   (fun b' _ h4=>ht b' (fun e=>h4 (sz,st) (by rw[e];exact hρ))) (by simp[World.freeze]) (fun b' y hy=>⟨Or.inl ⟨y,hy⟩,by simp[World.freeze];exact(H.own i b' y hy).2⟩)
   (by
    intro b' y q v hy hv;rw[hρ]at hy;simp only[an,b9]at hy;obtain⟨rfl,_⟩:=hy;have h0:=H.mem b q v hv;rw[cell_of_row w b q c Eb fz hw]at h0
    rw[cell_of_row _ b q c Eb _ hl,h0])
   (by
    intro b' k2 ck q v hy hv;obtain⟨k3,E3,zv,x0,bs,h5,h6⟩:=H.fo i b' k2 ck q v hy hv;rw[hi]at h5;simp only[an,Ob.row.injEq]at h5;obtain⟨rfl,rfl,rfl,rfl,rfl,rfl⟩:=h5
    exact⟨_,_,_,_,_,rfl,h6⟩)
   (by
    rw[dt,h2];simp only[OV];refine⟨e2,hK,hz,ys,?_⟩;rw[hρ]
    exact⟨hp,c,Eb,_,vs,hl,h7,hc,q3,hb⟩)
  rwa[dt,h2]at this
end
def DR(g:G)(h:List Ob):dO->Deferred->Prop
 |.call f args,d=>∃cap,d.target=.fn (.func f) cap/\VL g h args (d.args++cap).toList
 |.mark i,d=>(∃l,h[i]? =some (.bK l))/\∃b sz,g.ρ i=some (b,sz,0)/\d={target:=.collected b,args:=#[]}
section
variable{P:Program}{Γ:Nat->Option AV}{N:Env}{g:G}{h:List Ob}{w:World}{a:Act}{o:Oper}{t:List AV}
theorem B5{f:FuncId}(hb:dv P f=true)(args:Array Value)(w:World):(callFunc f args).run P w=.ok (.enter f args) w:=by
 unfold dv at hb
 split at hb
 ·rename_i fn hf;simp only[aB,bne_iff_ne,ne_eq]at hb
  have h1:(fn.name== "runtime.NumGoroutine")=false:=by simpa using hb.2
  have h2:fn.body.isNone=false:=by cases hv:fn.body<;>simp_all
  simp only[callFunc,Sem.run_bind,run_program,Result.andThen_ok,hf,h1,h2,fe,dq];rfl
 ·simp at hb
theorem Cl{ty:TypeId}{f f':FuncId}{ptr:Bool}{q:Option (Bool×Nat)}(hc:DU P ty f ptr=some (f',q)):f'=f/\∃d,P.underlying ty=some d/\(∀ms,d≠.interface ms)/\
 ((∃e,d=.pointer e/\((ptr=true/\q=none)\/(ptr=false/\∃a s,iu P e=some a/\bH P e=some s/\q=some (a,s))))\/((∀e,d≠.pointer e)/\ptr=false/\q=none)):=by
 unfold DU at hc
 cases hu:P.underlying ty with
 |none=>simp[hu]at hc
 |some d=>
  rw[hu]at hc
  cases d<;>simp only[reduceCtorEq]at hc
  case pointer e=>
   cases ptr
   ·simp only[fe,dq]at hc
    split at hc
    ·rename_i a s h1 h2;simp only[an,b9]at hc;exact⟨hc.1.symm,_,rfl,by simp,Or.inl ⟨e,rfl,Or.inr ⟨rfl,a,s,h1,h2,hc.2.symm⟩⟩⟩
    ·simp at hc
   ·simp only[cE,an,b9]at hc;exact⟨hc.1.symm,_,rfl,by simp,Or.inl ⟨e,rfl,Or.inl ⟨rfl,hc.2.symm⟩⟩⟩
  all_goals
   cases ptr
   ·simp only[fe,dq,an,b9]at hc;exact⟨hc.1.symm,_,rfl,by simp,Or.inr ⟨by simp,rfl,hc.2.symm⟩⟩
   ·simp at hc
theorem Hj{ty:TypeId}{name:String}{f:FuncId}{q:Option (Bool×Nat)}(hc:kj P ty name=some (f,q)):∃i m ptr,P.info? ty=some i/\i.methods.find? (·.name==name)=some m/\m.func=some (f,ptr)/\m.path.toList=[]/\
 DU P ty f ptr=some (f,q):=by
 unfold kj at hc
 cases hi:P.info? ty with
 |none=>simp[hi]at hc
 |some i=>
  rw[hi]at hc;simp only at hc
  cases hm:i.methods.find? (·.name==name)with
  |none=>simp[hm]at hc
  |some m=>
   rw[hm]at hc;simp only at hc
   cases hf:m.func with
   |none=>simp[hf]at hc
   |some fp=>
    obtain⟨f',ptr⟩:=fp;rw[hf]at hc;simp only at hc
    by_cases hp:m.path.isEmpty=true
    ·rw[if_pos hp]at hc;have h2:=(Cl hc).1;subst h2;exact⟨i,m,ptr,rfl,hm,hf,by simpa using hp,hc⟩
    ·rw[if_neg hp]at hc
     cases hc
theorem Cu{ty:TypeId}{name:String}{v:AV}{args:List AV}{res:R}(hc:o7 P Γ h ty name v args=res):res=.bad\/∃f q,kj P ty name=some (f,q)/\
 ((q=none/\res=.call f (v::args))\/∃agg sz i o x,q=some (agg,sz)/\v=.ptr i o/\rn Γ h agg sz (.ptr i o)=some x/\res=.call f (x::args)):=by
 unfold o7 at hc
 split at hc
 ·rename_i f h1;exact Or.inr ⟨f,none,h1,Or.inl ⟨rfl,hc.symm⟩⟩
 ·rename_i f agg sz h1
  split at hc
  ·rename_i i o
   split at hc
   ·rename_i x hx;exact Or.inr ⟨f,_,h1,Or.inr ⟨agg,sz,i,o,x,rfl,rfl,hx,hc.symm⟩⟩
   ·exact Or.inl hc.symm
  ·exact Or.inl hc.symm
 ·exact Or.inl hc.symm
theorem ae6(H:Inv P Γ N g h w){r:Operand->Value}{x:Operand}(ho:o.op=.nilCheck x){m:String}{ty:TypeId}{v:AV}{b:List AV}{f:FuncId}(hc:kj P ty m=some (f,none))(ha:V g h (.fn (.method m) [.bW ty v] b) (r x)):
 aO P Γ N r o w g h h (some (.fn (.method m) [.bW ty v] b)):=by
 refine aO.same H (u:=r x) ?_ ha;simp only[V,VL]at ha;obtain⟨xs,ys,hx,⟨u,us,rfl,⟨y,rfl,hy⟩,rfl⟩,h2⟩:=ha;obtain⟨i,mm,ptr,hi,hm,hf,hp,hr⟩:=Hj hc;obtain⟨_,d,hu,hj,hd⟩:=Cl hr;have hv:P.types.size+Made.depth=(P.types.size+99)+1:=rfl
 have hb:(nilAhead (P.types.size+Made.depth) ty y m).run P w=.ok (some false) w:=by
  rw[hv,nilAhead];simp only[Sem.run_bind,typeInfo,run_program,Result.andThen_ok,hi,Sem.run_pure,hm,hp,followBlind,hf]
  rcases hd with⟨e,rfl,⟨rfl,_⟩|⟨_,_,_,_,_,hq⟩⟩|⟨hk,rfl,_⟩
  ·rfl
  ·cases hq
  ·cases d with
   |pointer e=>exact absurd rfl (hk e)
   |_=>simp[run_underlying hu]
 simp[execOp,ho,hx,hb]
theorem Nw(H:Inv P Γ N g h w){ty:TypeId}{name:String}{v:AV}{args:List AV}{f:FuncId}{bs:List AV}(hc:o7 P Γ h ty name v args=.call f bs)(hb:dv P f=true){u:Value}{us:List Value}(hv:V g h v u)(ha:VL g h args us):
 ∃xs,(callMethod (.iface ty u) name us.toArray).run P w=.ok (.enter f xs.toArray) w/\VL g h bs xs:=by
 rcases Cu hc with h0|⟨f',q,q1,hq⟩
 ·cases h0
 obtain⟨i,m,ptr,hi,hm,hf,hp,hr⟩:=Hj q1;obtain⟨_,d,hu,_,hd⟩:=Cl hr
 have h4:m.path.isEmpty=true:=by simpa using hp
 have hk:P.types.size+Made.depth=(P.types.size+99)+1:=rfl
 have h2:∀(x:Value)(y:AV),(receiverAt ty (.val u) ptr (some ((name.splitOn ".").getLastD name))).run P w=.ok x w->f'=f->bs=y::args->V g h y x->
  ∃xs,(callMethod (.iface ty u) name us.toArray).run P w=.ok (.enter f xs.toArray) w/\VL g h bs xs:=by
  intro x y hx ih h5 hy;subst ih;refine⟨x::us,?_,?_⟩
  ·simp only[callMethod,Sem.run_bind,run_program,Result.andThen_ok];rw[hk,method];simp only[Sem.run_bind,typeInfo,run_program,Result.andThen_ok,hi,Sem.run_pure,hm,hp,follow,hf,h4,cE,hx];rw[B5 hb];congr 2;apply jv;simp
  ·rw[h5];simp only[VL];exact⟨x,us,rfl,hy,ha⟩
 rcases hd with⟨e,rfl,hd|⟨rfl,ht,s',hg,q2,hj⟩⟩|⟨ps,rfl,rfl⟩
 ·obtain⟨rfl,rfl⟩:=hd
  rcases hq with⟨_,hq⟩|⟨_,_,_,_,_,hq,_⟩
  ·simp only[R.call.injEq]at hq;refine h2 u v ?_ hq.1.symm hq.2 hv;simp[receiverAt,run_underlying hu,Place.get]
  ·cases hq
 ·rcases hq with⟨hq,_⟩|⟨agg,sz,i',o',x,hq,rfl,hx,hl⟩
  ·rw[hq]at hj;cases hj
  ·rw[hq]at hj;simp only[an,b9]at hj;obtain⟨rfl,rfl⟩:=hj;simp only[R.call.injEq]at hl;obtain⟨ad,y,e1,e2,h6⟩:=GU H hg q2 hv hx;refine h2 y x ?_ hl.1.symm hl.2 h6;subst e1;have hz:(Builtin.ssaWrapNilChk_ #[ty] ty #[.pointer (some ad),strVal "",strVal ((name.splitOn ".").getLastD name)]).run P w=.ok (.pointer (some ad)) w:=rfl;have has:(asAddr (.pointer (some ad))).run P w=.ok ad w:=rfl;simp only[receiverAt,Sem.run_bind,run_underlying hu,Place.get,Sem.run_pure,Result.andThen_ok];simp only[hz,Result.andThen_ok,has,e2]
 ·rcases hq with⟨_,hq⟩|⟨_,_,_,_,_,hq,_⟩
  ·simp only[R.call.injEq]at hq;refine h2 u v ?_ hq.1.symm hq.2 hv
   cases d<;>first
    |exact absurd rfl (ps _)
    |simp[receiverAt,run_underlying hu,Place.get]
  ·cases hq
def gv(P:Program)(Γ:Nat->Option AV)(N:Env)(g:G)(h:List Ob)(w:World)(r:Operand->Value)(o:Oper):R->Prop
 |.val v h'=>aO P Γ N r o w g h h' (some v)
 |.skip h'=>aO P Γ N r o w g h h' none
 |.dF v=>∃u,(execOp r o).run P w=.halt (.panic u) w/\V g h v u
 |.call f args=>dv P f=true->∃us,(execOp r o).run P w=.ok (.enter f us.toArray) w/\VL g h args us
 |.s8=>(execOp r o).run P w=.ok .recover w
 |.bK f args=>∃d,(execOp r o).run P w=.ok (.defer d) w/\DR g h (.call f args) d
 |.yield l args=>∃b us,(execOp r o).run P w=(Instr.yield b us.toArray).run P w/\V g h (.de l) (.func (.yield b) #[] #[])/\VL g h args us
 |.either=>∃c:Bool,aO P Γ N r o w g h h (some (.bool c))
 |.bad=>True
theorem Jq(he:∀x,V g h (ax t (ay x)) (a.eval x))(xs:Array Operand):VL g h ((xs.toList.map ay).map (ax t)) (xs.toList.map a.eval):=by
 rw[iW];exact rh he _
theorem adi(H:Inv P Γ N g h w)(he:∀x,V g h (ax t (ay x)) (a.eval x)){f:Operand}{xs:Array Operand}{ts:Array TypeId}(ho:o.op=.call ⟨.value f,xs,ts⟩):
 gv P Γ N g h w a.eval o (aD P Γ t h (.call (ay f) (xs.toList.map ay))):=by
 have hf:=he f;have hj:=Jq he xs;simp only[aD]
 split
 ·
  rename_i n fs cs hv;rw[hv]at hf;simp only[V]at hf;obtain⟨us,vs,hc,h1,h2⟩:=hf;intro hb;refine⟨us++xs.toList.map a.eval++vs,?_,l7 (l7 h1 hj) h2⟩;simp only[execOp,ho,resolve,Sem.run_bind,hc,Deferred.ofValue,Sem.run_pure,Result.andThen_ok,invoke,B5 hb];congr 2;apply jv;simp
 ·
  rename_i ty name fs cs hv;rw[hv]at hf;simp only[V]at hf;obtain⟨us,vs,hc,h1,h2⟩:=hf
  split
  ·rename_i s8 as hq;have h3:=l7 h1 hj;rw[hq]at h3;simp only[VL]at h3;obtain⟨u,hk,h4,h5,h6⟩:=h3
   cases q1:o7 P Γ h ty name s8 as<;>simp only[gv]
   case call f' bs=>
    intro hb;obtain⟨ys,h7,h8⟩:=Nw H q1 hb h5 h6;refine⟨ys,?_,h8⟩
    have hd:∃d,P.underlying ty=some d/\∀ms,d≠.interface ms:=by
     rcases Cu q1 with h0|⟨f2,q,ih,_⟩
     ·cases h0
     obtain⟨_,_,_,_,_,_,_,hr⟩:=Hj ih;obtain⟨_,d,hu,hy,_⟩:=Cl hr;exact⟨d,hu,hy⟩
    obtain⟨d,hd,hy⟩:=hd
    have hx:us.toArray++xs.map a.eval=(u::hk).toArray:=by
     apply jv;simpa using h4
    simp only[execOp,ho,resolve,Sem.run_bind,hc,Deferred.ofValue,Sem.run_pure,Result.andThen_ok,invoke,hx,qv,rV,run_underlying hd]
    have hex:(u::hk).toArray.extract 1 (u::hk).toArray.size=hk.toArray:=by apply jv;simp
    rw[hex]
    cases d<;>first
     |exact absurd rfl (hy _)
     |exact h7
   all_goals (rcases Cu q1 with h0|⟨_,_,_,⟨_,h0⟩|⟨_,_,_,_,_,_,_,_,h0⟩⟩<;>first|cases h0|trivial)
  ·trivial
 ·rename_i l hv;rw[hv]at hf;have hp:=hf;simp only[V]at hf;obtain⟨hl,b,sz,hρ,hc⟩:=hf;refine⟨b,xs.toList.map a.eval,?_,by rw[hc]at hp;exact hp,hj⟩;simp only[execOp,ho,resolve,Sem.run_bind,hc,Deferred.ofValue,Sem.run_pure,Result.andThen_ok,invoke];congr 2;apply jv;simp
 ·trivial
theorem abr(H:Inv P Γ N g h w)(he:∀x,V g h (ax t (ay x)) (a.eval x)){x:Operand}{name:String}{xs:Array Operand}{ts:Array TypeId}(ho:o.op=.call ⟨.invoke x name,xs,ts⟩):
 gv P Γ N g h w a.eval o (aD P Γ t h (.invoke (ay x) name (xs.toList.map ay))):=by
 have hx:=he x;have hk:=Jq he xs;simp only[aD]
 split
 ·rename_i ty v hv;rw[hv]at hx;simp only[V]at hx;obtain⟨u,hj,hl⟩:=hx
  cases hc:o7 P Γ h ty name v ((xs.toList.map ay).map (ax t))<;>simp only[gv]
  case call f' bs=>
   intro hb;obtain⟨ys,h7,h8⟩:=Nw H hc hb hl hk;refine⟨ys,?_,h8⟩
   have h2:#[a.eval x]++xs.map a.eval=(a.eval x::xs.toList.map a.eval).toArray:=by
    apply jv;simp
   have hex:(a.eval x::xs.toList.map a.eval).toArray.extract 1 (a.eval x::xs.toList.map a.eval).toArray.size=(xs.toList.map a.eval).toArray:=by apply jv;simp;rw[cj (by simp)]
   simp only[execOp,ho,resolve,Sem.run_bind,Sem.run_pure,Result.andThen_ok,invoke,h2,qv,rV,hex];rw[hj];exact h7
  all_goals (rcases Cu hc with h0|⟨_,_,_,⟨_,h0⟩|⟨_,_,_,_,_,_,_,_,h0⟩⟩<;>first|cases h0|trivial)
 ·trivial
end
section
variable{P:Program}{Γ:Nat->Option AV}{N:Env}{g:G}{h:List Ob}{w:World}{a:Act}{o:Oper}{t:List AV}
theorem I5{k:Nat}{z:AV}(h:lT k z=true):z.cells.length=k/\cr z.cells=true/\aN 0 z.cells=true:=by
 simp only[lT,aB,bj]at h;exact⟨h.1.1,h.1.2,h.2⟩
theorem CM{t e:TypeId}(h:mi P t=some e):P.underlying t=some (.slice e):=by
 unfold mi at h
 split at h
 ·rename_i e' hu;simp only[an]at h;subst h;exact hu
 ·simp at h
theorem MP{k b:Nat}{E:TypeId}{x:AV}{ys:List AV}{fl:Bool}{res:R}(h2:ja h k E b x ys fl=res):res=.bad\/∃v h',res=.val v h':=by
 unfold ja at h2
 cases x<;>try (exact Or.inl h2.symm)
 case list f k' es=>
  cases f
  ·exact Or.inl h2.symm
  ·simp only at h2
   split at h2
   ·cases ys
    ·exact Or.inr ⟨_,_,h2.symm⟩
    ·exact Or.inr ⟨_,_,h2.symm⟩
   ·exact Or.inl h2.symm
 case sl i off n=>
  simp only at h2
  split at h2
  ·split at h2
   ·split at h2
    ·exact Or.inr ⟨_,_,h2.symm⟩
    ·split at h2
     ·exact Or.inr ⟨_,_,h2.symm⟩
     ·exact Or.inl h2.symm
   ·exact Or.inl h2.symm
  ·exact Or.inl h2.symm
theorem afn(H:Inv P Γ N g h w)(he:∀x,V g h (ax t (ay x)) (a.eval x)){x:Operand}{sT:TypeId}(ho:o.op=.call ⟨.builtin .clear,#[x],#[sT]⟩){ao:AO}
 (hc:nY P ⟨.builtin .clear,#[x],#[sT]⟩=some ao):gv P Γ N g h w a.eval o (aD P Γ t h ao):=by
 simp only[nY]at hc
 cases hE:mi P sT with
 |none=>simp[hE]at hc
 |some e=>
  cases hK:bH P e with
  |none=>simp[hE,hK]at hc
  |some k=>
   cases hZ:eB P e with
   |none=>simp[hE,hK,hZ]at hc
   |some z=>
    by_cases h0:k=0\/lT k z=false
    ·simp[hE,hK,hZ,h0]at hc
    ·simp only[not_or,Bw]at h0;obtain⟨hv,h2⟩:=h0;obtain⟨hb,hk,hj⟩:=I5 h2;have ht:=CM hE;simp[hE,hK,hZ,hv,h2]at hc;subst hc;have hx:=he x;simp only[aD]
     split
     ·rename_i i off n hl
      split
      ·rename_i k' E es fl hi
       split
       ·rename_i q1;obtain⟨rfl,hle⟩:=q1;rw[hl]at hx;exact ahA H ho ht hK (by omega) hZ hb hk hj hx hi hle
       ·trivial
      ·trivial
     ·trivial
theorem adU(H:Inv P Γ N g h w)(he:∀x,V g h (ax t (ay x)) (a.eval x)){x y:Operand}{sT u:TypeId}(ho:o.op=.call ⟨.builtin .append,#[x,y],#[sT,u]⟩){ao:AO}
 (hc:nY P ⟨.builtin .append,#[x,y],#[sT,u]⟩=some ao):gv P Γ N g h w a.eval o (aD P Γ t h ao):=by
 simp only[nY]at hc
 cases hE:mi P sT with
 |none=>simp[hE]at hc
 |some e=>
  cases hK:bH P e with
  |none=>simp[hE,hK]at hc
  |some k=>
   cases hB:mU P e with
   |none=>simp[hE,hK,hB]at hc
   |some b=>
    cases hZ:eB P e with
    |none=>simp[hE,hK,hB,hZ]at hc
    |some z=>
     by_cases h0:k=0\/b=0\/lT k z=false
     ·simp[hE,hK,hB,hZ,h0]at hc
     ·simp only[not_or,Bw]at h0;obtain⟨hg,hx,hf⟩:=h0;obtain⟨q1,ps,e1⟩:=I5 hf;have ht:=CM hE
      cases hU:P.underlying u with
      |none=>simp[hE,hU]at hc
      |some d=>
       by_cases hd:∃j,d=.int j
       ·obtain⟨j,rfl⟩:=hd;simp[hE,hK,hB,hZ,hg,hx,hf,hU]at hc;subst hc;simp only[aD]
        split
        ·rename_i i m hm
         split
         ·rename_i q2;have hy:=he y;rw[hm]at hy
          have hr:∀{res:R},ja h k e b (ax t (ay x)) (List.replicate m.toNat z) true=res->gv P Γ N g h w a.eval o res:=by
           intro res hb
           rcases MP hb with rfl|⟨v,h',rfl⟩
           ·trivial
           have e2:m*b<=2^48:=by
            have h2:(m.toNat*b:Nat)<=2^47:=by
             unfold ja at hb
             split at hb
             ·split at hb
              ·rename_i hp;have:=hp.1;rw[qx]at this;exact tu (mG _ (Nat.le_add_left _ _)) this
              ·cases hb
             ·split at hb
              ·split at hb
               ·rename_i hp;have:=hp.2.2.2;rw[qx]at this;exact tu (mG _ (Nat.le_add_left _ _)) this
               ·cases hb
              ·cases hb
             ·cases hb
            have h3:m=(m.toNat:Int):=by omega
            rw[h3];have h4:((m.toNat*b:Nat):Int)<=((2^47:Nat):Int):=Int.ofNat_le.2 h2;simp only[Int.natCast_mul]at h4
            have h5:((2^47:Nat):Int)<=2^48:=by decide
            omega
           exact ad5 H ho ht hK (by omega) hB hx hZ q1 ps e1 hU (he x) (eN hy) q2.1 q2.2 e2 hb
          exact hr rfl
         ·trivial
        ·trivial
       ·have ih:∀j,d≠.int j:=fun j hj=>hd ⟨j,hj⟩
        have h6:ao=.append k e b (ay x) (ay y):=by
         cases d<;>first
          |exact absurd rfl (ih _)
          |(simp[hE,hK,hB,hZ,hg,hx,hf,hU]at hc;exact hc.symm)
        subst h6
        have hr:∀{ys:List AV}{fl:Bool}{res:R}{k2:Nat},ja h k2 e b (ax t (ay x)) ys fl=res->(∀v h',res=.val v h'->aO P Γ N a.eval o w g h h' (some v))->gv P Γ N g h w a.eval o res:=by
         intro ys fl res k2 hb hv
         rcases MP hb with rfl|⟨v,h',rfl⟩
         ·trivial
         ·exact hv _ _ rfl
        have hy:=he y;simp only[aD]
        split
        ·rename_i f k' es hl
         split
         ·rename_i hq;rw[hl]at hy
          exact hr rfl fun v h' hb=>HV H ho ht hK (by omega) hB hx hZ q1 hU ih (he x) hy (Or.inl ⟨f,k',es,rfl,hq,hb⟩)
         ·trivial
        ·rename_i i q n hl;rw[hl]at hy
         split
         ·rename_i k' es kr Er q3 fz ck shr hk hi
          split
          ·rename_i hq;subst hq
           have hz:kr=k':=by
            simp only[lD,hi]at hk
            split at hk
            ·simp only[an,b9]at hk;exact hk.1
            ·simp at hk
           subst hz
           exact hr rfl fun v h' hb=>HV H ho ht hK (by omega) hB hx hZ q1 hU ih (he x) hy (Or.inr (Or.inl ⟨i,q,n,es,_,_,_,_,_,rfl,hk,hi,hb⟩))
          ·trivial
         ·trivial
        ·rename_i s hl;rw[hl]at hy
         split
         ·rename_i h7;subst h7
          exact hr rfl fun v h' hb=>HV H ho ht hK (by omega) hB hx hZ q1 hU ih (he x) hy (Or.inr (Or.inr ⟨s,rfl,rfl,hb⟩))
         ·trivial
        ·trivial
theorem Z'(d:Nat)(t e:TypeId)(a:Option Addr)(l c:Nat)(h:P.underlying t=some (.slice e))(w:World):(Op.equalIn (d+1) t (.slice a l c) (.slice none 0 0)).run P w=.ok a.isNone w:=by
 cases a<;>simp[Op.equalIn,run_underlying h]
theorem aay(t e:TypeId)(a:Option Addr)(l c:Nat)(h:P.underlying t=some (.slice e))(w:World):(Op.equal t (.slice a l c) (.slice none 0 0)).run P w=.ok a.isNone w:=Z' 9999 t e a l c h w
theorem O8(H:Inv P Γ N g h w)(he:∀x,V g h (ax t (ay x)) (a.eval x)){x:Operand}{ty hj e:TypeId}{neg:Bool}(ho:o.op=.binOp (if neg then .neq else .eql) ty x (.const (.slice none 0 0)) hj)
 (hu:P.underlying ty=some (.slice e)):gv P Γ N g h w a.eval o (aD P Γ t h (.kT neg (ay x))):=by
 have hx:=he x
 have hb:∀{n:Nat},pY (ax t (ay x))=some n->∃ad cap,a.eval x=.slice ad n cap/\(0<n->∃b p,ad=some ⟨b,p,none⟩):=by
  intro n hn
  cases hv:ax t (ay x)<;>simp only[hv,pY,an,reduceCtorEq]at hn
  ·rw[hv]at hx;simp only[V]at hx;obtain⟨_,ad,cap,h1,_,_,h3⟩:=hx;subst hn;refine⟨ad,cap,h1,fun hk=>?_⟩
   rcases h3 with rfl|⟨b,p,_,rfl,_⟩
   ·simp at hk
   ·exact⟨b,p,rfl⟩
  ·rw[hv]at hx;simp only[V]at hx;obtain⟨_,_,_,_,_,_,_,_,ad,cap,h1,_,h3,_⟩:=hx;subst hn;exact⟨ad,cap,h1,h3⟩
 have hc:∀{ad:Option Addr}{n cap:Nat},a.eval x=.slice ad n cap->(execOp a.eval o).run P w=.ok (.value (.bool (if neg then !ad.isNone else ad.isNone))) w:=by
  intro ad n cap hl;have q1:a.eval (.const (.slice none 0 0))=.slice none 0 0:=rfl;have hq:=aay (P:=P) ty e ad n cap hu w;simp only[execOp,ho,q1,hl]
  cases neg
  ·simp only[fe,dq];rw[Sem.run_bind,Sem.run_bind,iB (by simp) (by simp)];simp only[Result.andThen_ok];rw[ua (by rfl) hq];rfl
  ·simp only[cE];rw[Sem.run_bind,Sem.run_bind,iB (by simp) (by simp)];simp only[Result.andThen_ok];rw[tZ (by rfl) hq];rfl
 simp only[aD]
 split
 ·rename_i n hn;obtain⟨ad,cap,h1,h2⟩:=hb hn;obtain⟨b,p,rfl⟩:=h2 (by omega);refine aO.same H (hc h1) ?_
  cases neg<;>simp[V]
 ·rename_i hn;obtain⟨ad,cap,h1,_⟩:=hb hn;exact⟨_,aO.same H (hc h1) (by simp only[V];rfl)⟩
 ·trivial
theorem aiY(H:Inv P Γ N g h w)(he:∀x,V g h (ax t (ay x)) (a.eval x)){x:Operand}{ty:TypeId}(ho:o.op=.call ⟨.builtin .len,#[x],#[ty]⟩){ao:AO}(hc:nY P ⟨.builtin .len,#[x],#[ty]⟩=some ao):
 gv P Γ N g h w a.eval o (aD P Γ t h ao):=by
 have hx:=he x;simp only[nY]at hc
 split at hc
 ·rename_i hu;simp only[an]at hc;subst hc;simp only[aD]
  split
  ·rename_i s hs;rw[hs]at hx;exact Aw H ho (Or.inl ⟨s,hu,kq hx,rfl⟩)
  ·trivial
 ·rename_i e hu;simp only[an]at hc;subst hc;simp only[aD]
  split
  ·rename_i f k es hs;rw[hs]at hx;simp only[V]at hx;obtain⟨_,ad,cap,h1,_⟩:=hx;exact Aw H ho (Or.inr (Or.inl ⟨e,ad,cap,hu,h1⟩))
  ·rename_i i q n hs;rw[hs]at hx;simp only[V]at hx;obtain⟨_,_,_,_,_,_,_,_,ad,cap,h1,_⟩:=hx;exact Aw H ho (Or.inr (Or.inl ⟨e,ad,cap,hu,h1⟩))
  ·trivial
 ·rename_i n e hu;simp only[an]at hc;subst hc;exact Aw H ho (Or.inr (Or.inr (Or.inl ⟨e,hu⟩)))
 ·rename_i k e hu;simp only[an]at hc;subst hc;simp only[aD]
  split
  ·rename_i hs;exact Hu H ho hu hx (Or.inl ⟨hs,rfl⟩)
  ·rename_i ks vs hs;exact Hu H ho hu hx (Or.inr (Or.inl ⟨ks,vs,hs,rfl⟩))
  ·rename_i j hs
   split
   ·rename_i es fl hj;exact Hu H ho hu hx (Or.inr (Or.inr ⟨j,es,fl,hs,hj,rfl⟩))
   ·trivial
  ·trivial
 ·simp at hc
theorem zK{c:Call}{b:Builtin}(hb:c.callee=.builtin b){xs:List Operand}{ts:List TypeId}(hx:c.args.toList=xs)(ht:c.argTypes.toList=ts):c=⟨.builtin b,xs.toArray,ts.toArray⟩:=by
 cases c
 simp only at hb hx ht;subst hb;congr 1
 ·apply jv;simpa using hx
 ·apply jv;simpa using ht
theorem acC(H:Inv P Γ N g h w)(he:∀x,V g h (ax t (ay x)) (a.eval x)){c:Call}(ho:o.op=.call c){b:Builtin}(hb:c.callee=.builtin b){ao:AO}(hc:nY P c=some ao):
 gv P Γ N g h w a.eval o (aD P Γ t h ao):=by
 have q1:=hc;simp only[nY,hb]at hc
 split at hc
 ·
  rename_i x ty hx ht;have hl:=zK hb hx ht;rw[hl]at ho q1;exact aiY H he ho q1
 ·
  rename_i x ty hx ht;have hl:=zK hb hx ht;rw[hl]at ho
  split at hc
  ·rename_i e hu;simp only[an]at hc;subst hc;have hv:=he x;simp only[aD]
   split
   ·rename_i k es hs;rw[hs]at hv;simp only[V]at hv;obtain⟨_,ad,cap,h1,h2,_⟩:=hv;have:=akE H ho hu h1;rwa[h2 trivial]at this
   ·trivial
  ·simp at hc
 ·
  rename_i x y ty u hx ht;have hl:=zK hb hx ht;rw[hl]at ho q1;exact adU H he ho q1
 ·
  rename_i m k ty u hx ht;have hl:=zK hb hx ht;rw[hl]at ho
  split at hc
  ·rename_i key et hu;simp only[cm]at hc;obtain⟨e,hk,rfl⟩:=hc;have hm:=he m;have hf:=he k;simp only[aD]
   split
   ·rename_i j hj
    split
    ·rename_i es fl hy
     split
     ·trivial
     ·rename_i h4
      split
      ·rename_i es' hd;rw[hj]at hm;exact aef H ho hu hk hm hy hf (by simpa using h4) hd
      ·trivial
    ·trivial
   ·trivial
  ·simp at hc
 ·
  rename_i x ty hx ht;have hl:=zK hb hx ht;rw[hl]at ho q1;exact afn H he ho q1
 ·
  rename_i xs _;simp only[an]at hc;subst hc
  have hl:c=⟨.builtin .min,c.args,c.argTypes⟩:=by cases c;simp only at hb;subst hb;rfl
  rw[hl]at ho;simp only[aD]
  split
  ·rename_i v vs ih
   split
   ·rename_i u hu;exact akx H ho he ih hu
   ·trivial
  ·trivial
 ·
  rename_i xs _;simp only[an]at hc;subst hc
  have hl:c=⟨.builtin .max,c.args,c.argTypes⟩:=by cases c;simp only at hb;subst hb;rfl
  rw[hl]at ho;simp only[aD]
  split
  ·rename_i v vs ih
   split
   ·rename_i u hu;exact akA H ho he ih hu
   ·trivial
  ·trivial
 ·
  rename_i hx;simp only[an]at hc;subst hc;simp only[aD,gv]
  have hl:c=⟨.builtin .recover,c.args,c.argTypes⟩:=by cases c;simp only at hb;subst hb;rfl
  rw[hl]at ho;simp[execOp,ho,resolve,invoke,builtin]
 ·simp at hc
end
section
variable{P:Program}{Γ:Nat->Option AV}{N:Env}{g:G}{h:List Ob}{w:World}{a:Act}{o:Oper}{t:List AV}
theorem wD{p:AV}{v:Value}(hv:V g h p v)(hp:match p with|.ptr _ _|.dw _ _ _ _|.eP _ _=>True|_=>False):∃b m,v=.pointer (some ⟨b,m,none⟩)/\
 ∀n,V g h (match p with|.ptr i q=>.ptr i (q+n)|.dw x k i q=>.dw x k i (q+n)|.eP i q=>.eP i (q+n)|x=>x) (.pointer (some ⟨b,m+n,none⟩)):=by
 match p,hv,hp with
 |.ptr i q,hv,_=>
  simp only[V]at hv;obtain⟨h1,b,sz,hρ,rfl⟩:=hv;exact⟨b,q,rfl,fun n=>by simp only[V];exact⟨h1,b,sz,hρ,rfl⟩⟩
 |.dw x k i q,hv,_=>
  simp only[V]at hv;obtain⟨u,b,m,h1,h2,h3,rfl⟩:=hv;exact⟨b,m+i*k+q,rfl,fun n=>by simp only[V];exact⟨u,b,m,h1,h2,h3,by rw[lu]⟩⟩
 |.eP i q,hv,_=>
  simp only[V]at hv;subst hv;exact⟨i,q,rfl,fun n=>by simp only[V]⟩
def amg(ck:CK)(q:Option Bool)(h:List Ob):R:=
 match ck with
 |.eql=>match q with
  |some b=>.val (.bool b) h
  |none=>.bad
 |.neq=>match q with
  |some b=>.val (.bool !b) h
  |none=>.bad
 |_=>.bad
theorem ae7(H:Inv P Γ N g h w)(he:∀x,V g h (ax t (ay x)) (a.eval x)){op:BinOp}{ty hp:TypeId}{x y:Operand}(ho:o.op=.binOp op ty x y hp){ao:AO}(hc:cg P o=some ao):
 gv P Γ N g h w a.eval o (aD P Γ t h ao):=by
 have hx:=he x;have hy:=he y;simp only[cg,ho]at hc
 have q1:∀{ck:CK}{e:EK},sR op=some ck->qX P ty=some e->e≠.sc .int->gv P Γ N g h w a.eval o (aD P Γ t h (.cmp ck e (ay x) (ay y))):=by
  intro ck e h1 h2 h3
  have heq:∀{b:Bool},ck=.eql->cC e (ax t (ay x)) (ax t (ay y))=some b->aO P Γ N a.eval o w g h h (some (.bool b)):=by
   intro b hj hb;subst hj
   have h4:op=.eql:=by cases op<;>simp only[sR,an,reduceCtorEq]at h1;rfl
   subst h4;exact akn H ho h2 hb hx hy
  have h5:∀{b:Bool},ck=.neq->cC e (ax t (ay x)) (ax t (ay y))=some b->aO P Γ N a.eval o w g h h (some (.bool !b)):=by
   intro b hj hb;subst hj
   have h4:op=.neq:=by cases op<;>simp only[sR,an,reduceCtorEq]at h1;rfl
   subst h4;exact ajK H ho h2 hb hx hy
  have ht:aD P Γ t h (.cmp ck e (ay x) (ay y))=amg ck (cC e (ax t (ay x)) (ax t (ay y))) h:=by
   rcases e with(s|ss|_|_)
   ·cases s
    ·exact absurd rfl h3
    ·cases ck<;>rfl
    ·cases ck<;>rfl
   ·cases ck<;>rfl
   ·cases ck<;>rfl
   ·cases ck<;>rfl
  rw[ht]
  cases hq:cC e (ax t (ay x)) (ax t (ay y))with
  |none=>cases ck<;>trivial
  |some b=>
   cases ck
   ·exact heq rfl hq
   ·exact h5 rfl hq
   all_goals trivial
 split at hc
 ·
  rename_i k hu
  split at hc
  ·rename_i ck hj;simp only[an]at hc;subst hc;simp only[aD]
   split
   ·rename_i k1 p k2 q h1 h2;rw[h1]at hx;rw[h2]at hy
    split
    ·rename_i ih;subst ih;exact ahR H ho hj (eN hx) (eN hy)
    ·trivial
   ·trivial
  ·rename_i hj;simp only[cm]at hc;obtain⟨ib,hd,rfl⟩:=hc;simp only[aD]
   split
   ·rename_i k1 p k2 q h1 h2;rw[h1]at hx;rw[h2]at hy
    split
    ·rename_i ih
     split
     ·rename_i n hn;exact aju H ho hd (eN hx) (eN hy) ih hn
     ·trivial
    ·trivial
   ·trivial
 ·
  rename_i hu
  split at hc
  ·rename_i hf;subst hf;simp only[an]at hc;subst hc;simp only[aD]
   split
   ·rename_i p q h1 h2;rw[h1]at hx;rw[h2]at hy
    split
    ·rename_i hl;exact aeA H ho (kq hx) (kq hy) hl
    ·trivial
   ·trivial
  ·split at hc
   ·rename_i ck e hj hv;simp only[an]at hc;subst hc;refine q1 hj hv ?_
    rintro rfl
    unfold qX at hv
    split at hv
    ·rename_i s hs;simp only[an,EK.sc.injEq]at hv;subst hv;obtain⟨_,h1⟩:=qD hs;obtain⟨k,hk⟩:=h1;rw[hu]at hk
     cases hk
    ·split at hv<;>try (simp at hv)
     all_goals (split at hv<;>simp at hv)
   ·simp at hc
 ·
  rename_i e hu
  split at hc
  ·simp only[an]at hc;subst hc;exact O8 H he (neg:=false) ho hu
  ·simp only[an]at hc;subst hc;exact O8 H he (neg:=true) ho hu
  ·simp at hc
 ·rename_i hg q2 ps
  split at hc
  ·rename_i ck e hj hv;simp only[an]at hc;subst hc;refine q1 hj hv ?_
   rintro rfl
   unfold qX at hv
   split at hv
   ·rename_i s hs;simp only[an,EK.sc.injEq]at hv;subst hv;obtain⟨_,h1⟩:=qD hs;obtain⟨k,hk⟩:=h1;exact hg k hk
   ·split at hv<;>try (simp at hv)
    all_goals (split at hv<;>simp at hv)
  ·simp at hc
theorem acE(H:Inv P Γ N g h w)(he:∀x,V g h (ax t (ay x)) (a.eval x)){s d:TypeId}{x:Operand}(ho:o.op=.convert s d x){ao:AO}(hc:cg P o=some ao):
 gv P Γ N g h w a.eval o (aD P Γ t h ao):=by
 have hx:=he x;simp only[cg,ho]at hc
 split at hc
 ·rename_i j k hs hd;simp only[an]at hc;subst hc;simp only[aD]
  split
  ·rename_i k' n h1;rw[h1]at hx;exact aio H ho hs hd (eN hx)
  ·trivial
 ·rename_i hs hd;simp only[an]at hc;subst hc;simp only[aD]
  split
  ·rename_i l h1;rw[h1]at hx;exact aiy H ho hs hd (kq hx)
  ·trivial
 ·rename_i e hs hd
  split at hc
  ·rename_i hb
   split at hc
   ·simp only[an]at hc;subst hc;simp only[aD]
    split
    ·rename_i l h1;rw[h1]at hx
     split
     ·exact adK H ho hs hd hb (kq hx) e
     ·trivial
    ·trivial
   ·simp at hc
  ·simp at hc
 ·rename_i e' e hs hd
  split at hc
  ·rename_i hb
   split at hc
   ·rename_i hk;simp only[an]at hc;subst hc;simp only[aD]
    split
    ·rename_i i q n h1;rw[h1]at hx
     split
     ·rename_i E es fl sh hi
      split
      ·trivial
      ·rename_i hv;simp only[not_or,Fo]at hv;obtain⟨h2,h3,h4⟩:=hv;subst h3;subst hk;exact ajA H ho rfl hd hb hi h4 hx h2
     ·trivial
    ·trivial
   ·simp at hc
  ·simp at hc
 ·rename_i e hs hd
  split at hc
  ·rename_i hb;simp only[an]at hc;subst hc;simp only[aD]
   split
   ·rename_i es hj
    split
    ·rename_i l hl;exact agf H ho hs hb hd hx hj hl
    ·trivial
   ·trivial
  ·simp at hc
 ·simp at hc
theorem afJ(H:Inv P Γ N g h w)(he:∀x,V g h (ax t (ay x)) (a.eval x)){ty:TypeId}{x:Operand}{lo hi mx:Option Operand}(ho:o.op=.slice ty x lo hi mx){ao:AO}(hc:cg P o=some ao):
 gv P Γ N g h w a.eval o (aD P Γ t h ao):=by
 have hx:=he x
 cases mx with
 |none=>
  simp only[cg,ho]at hc
  split at hc
  ·rename_i hu;simp only[an]at hc;subst hc;simp only[aD]
   split
   ·rename_i s h1;rw[h1]at hx
    split
    ·rename_i l u hl hh
     split
     ·rename_i hv;exact acn H ho hu (kq hx) he hl hh hv
     ·trivial
    ·trivial
   ·trivial
  ·rename_i e hu
   split at hc
   ·rename_i k hk;simp only[an]at hc;subst hc;simp only[aD]
    split
    ·rename_i f k' es h1;rw[h1]at hx
     split
     ·rename_i l u hl hh
      split
      ·rename_i hv;exact abe H ho hu hk hx he hl hh hv
      ·trivial
     ·trivial
    ·rename_i i q n h1;rw[h1]at hx
     split
     ·rename_i l u hl hh
      split
      ·rename_i hv
       split
       ·rename_i k' E es gr fl sh hb
        split
        ·rename_i hj;obtain⟨rfl,q1⟩:=hj;exact ace H ho hu hk hx he hl hh hv hb q1
        ·trivial
       ·trivial
      ·trivial
     ·trivial
    ·trivial
   ·simp at hc
  ·simp at hc
 |some mx=>
  cases hi with
  |none=>simp[cg,ho]at hc
  |some hi=>
   simp only[cg,ho]at hc
   split at hc
   ·rename_i e hu
    split at hc
    ·rename_i k hk;simp only[an]at hc;subst hc;simp only[aD]
     split
     ·rename_i f k' es h1
      split
      ·rename_i l u m hl hh hm
       split
       ·rename_i hv;obtain⟨h2,h3,rfl,h4⟩:=hv;exact aeY H ho hu hk hx h1 he hl hh hm ⟨h2,h3,h4⟩
       ·trivial
      ·trivial
     ·trivial
    ·simp at hc
   ·simp at hc
end
section
variable{P:Program}{Γ:Nat->Option AV}{N:Env}{g:G}{h:List Ob}{w:World}{a:Act}{o:Oper}{t:List AV}
theorem O0(H:Inv P Γ N g h w)(he:∀x,V g h (ax t (ay x)) (a.eval x)){ty:TypeId}{x i:Operand}(ho:o.op=.indexAddr ty x i\/o.op=.index ty x i){ao:AO}(hc:cg P o=some ao):
 gv P Γ N g h w a.eval o (aD P Γ t h ao):=by
 have hx:=he x;have hi:=he i
 rcases ho with ho|ho
 ·simp only[cg,ho]at hc
  split at hc
  ·rename_i e hu
   split at hc
   ·rename_i k hk;simp only[an]at hc;subst hc;simp only[aD]
    split
    ·rename_i m q n hm hn;rw[hn]at hi
     split
     ·rename_i hq;exact ae0 H ho hu hk hx hm (eN hi) hq
     ·trivial
    ·trivial
   ·simp at hc
  ·rename_i n e hu
   split at hc
   ·rename_i k hk;simp only[an]at hc;subst hc;simp only[aD]
    split
    ·rename_i q n' hn;rw[hn]at hi
     split
     ·rename_i hq
      split
      ·rename_i j m hp;rw[hp]at hx;obtain⟨b,mm,hj,h2⟩:=wD hx trivial;exact Hb H ho hu hk hj (eN hi) hq (h2 _)
      ·rename_i u k' j m hp;rw[hp]at hx;obtain⟨b,mm,hj,h2⟩:=wD hx trivial;exact Hb H ho hu hk hj (eN hi) hq (h2 _)
      ·rename_i j m hp;rw[hp]at hx;obtain⟨b,mm,hj,h2⟩:=wD hx trivial;exact Hb H ho hu hk hj (eN hi) hq (h2 _)
      ·trivial
     ·trivial
    ·trivial
   ·simp at hc
  ·simp at hc
 ·simp only[cg,ho]at hc
  split at hc
  ·rename_i hu;simp only[an]at hc;subst hc;simp only[aD]
   split
   ·rename_i s q n hs hn;rw[hs]at hx;rw[hn]at hi
    split
    ·rename_i h0
     split
     ·rename_i b hb;exact agF H ho hu (kq hx) (eN hi) h0 hb
     ·trivial
    ·trivial
   ·trivial
  ·rename_i n e hu
   cases hA:iu P e with
   |none=>simp[hA]at hc
   |some agg=>
    cases hS:bH P e with
    |none=>simp[hA,hS]at hc
    |some sz=>
     simp[hA,hS]at hc;subst hc;simp only[aD]
     split
     ·rename_i cs q m hs hn;rw[hs]at hx;rw[hn]at hi
      split
      ·rename_i hq
       split
       ·rename_i v hv;exact ahf H ho hu hA hS hx (eN hi) hq hv
       ·trivial
      ·trivial
     ·trivial
  ·simp at hc
theorem OB(H:Inv P Γ N g h w)(he:∀x,V g h (ax t (ay x)) (a.eval x)){ty:TypeId}{x:Operand}{i:Nat}(ho:o.op=.fieldAddr ty x i\/o.op=.field ty x i){ao:AO}(hc:cg P o=some ao):
 gv P Γ N g h w a.eval o (aD P Γ t h ao):=by
 have hx:=he x
 rcases ho with ho|ho
 ·simp only[cg,ho]at hc
  split at hc
  ·rename_i fs hu
   split at hc
   ·rename_i f hf
    split at hc
    ·rename_i k hk;simp only[an]at hc;subst hc;simp only[aD]
     split
     ·rename_i j m hp;rw[hp]at hx;obtain⟨b,mm,hb,h2⟩:=wD hx trivial;exact Jk H ho hu hf hk hb (h2 _)
     ·rename_i u k' j m hp;rw[hp]at hx;obtain⟨b,mm,hb,h2⟩:=wD hx trivial;exact Jk H ho hu hf hk hb (h2 _)
     ·rename_i j m hp;rw[hp]at hx;obtain⟨b,mm,hb,h2⟩:=wD hx trivial;exact Jk H ho hu hf hk hb (h2 _)
     ·trivial
    ·simp at hc
   ·simp at hc
  ·simp at hc
 ·simp only[cg,ho]at hc
  split at hc
  ·rename_i fs hu
   split at hc
   ·rename_i f hf
    cases hA:iu P f.type with
    |none=>simp[hA]at hc
    |some agg=>
     cases hS:bH P f.type with
     |none=>simp[hA,hS]at hc
     |some sz=>
      simp[hA,hS]at hc;subst hc;simp only[aD]
      split
      ·rename_i cs hs;rw[hs]at hx
       split
       ·rename_i v hv;exact akM H ho hu hf hA hS hx hv
       ·trivial
      ·trivial
   ·simp at hc
  ·simp at hc
theorem Ro(H:Inv P Γ N g h w)(he:∀x,V g h (ax t (ay x)) (a.eval x)){ty:TypeId}{m k x:Operand}(ho:o.op=.mapUpdate ty m k x\/o.op=.insert ty m k x){ao:AO}(hc:cg P o=some ao):
 gv P Γ N g h w a.eval o (aD P Γ t h ao):=by
 have hm:=he m;have hk:=he k;have hx:=he x
 have hb:∃key et e,P.underlying ty=some (.map key et)/\jR P key=some e/\ao=.bP e (ay m) (ay k) (ay x):=by
  rcases ho with ho|ho
  all_goals
   simp only[cg,ho]at hc
   split at hc
   ·rename_i key et hu;simp only[cm]at hc;obtain⟨e,h2,rfl⟩:=hc;exact⟨key,et,e,hu,h2,rfl⟩
   ·simp at hc
 obtain⟨key,et,e,hu,h2,rfl⟩:=hb;simp only[aD]
 split
 ·rename_i j hj;rw[hj]at hm
  split
  ·rename_i es fl hl
   split
   ·trivial
   ·rename_i hv
    split
    ·rename_i es' hp;exact akh H ho hu h2 hm hl hk (by simpa using hv) hx hp
    ·trivial
  ·trivial
 ·trivial
theorem adO(H:Inv P Γ N g h w)(he:∀x,V g h (ax t (ay x)) (a.eval x)){ty:TypeId}{x i:Operand}{ok:Bool}(ho:o.op=.lookup ty x i ok){ao:AO}(hc:cg P o=some ao):
 gv P Γ N g h w a.eval o (aD P Γ t h ao):=by
 have hx:=he x;have hi:=he i;simp only[cg,ho]at hc
 split at hc
 ·rename_i key et hu
  cases hK:jR P key with
  |none=>simp[hK]at hc
  |some e=>
   cases hZ:eB P et with
   |none=>simp[hK,hZ]at hc
   |some z=>
    simp[hK,hZ]at hc;subst hc
    have hb:∀{es:List (AV×AV)},((ax t (ay x)=.dk/\es=[])\/(∃ks vs,ax t (ay x)=.dG ks vs/\es=ks.zip vs)\/∃j fl,ax t (ay x)=.mp j/\h[j]? =some (.map es fl))->
     gv P Γ N g h w a.eval o (if isKey e (ax t (ay i))=false then .bad else match fg e (ax t (ay i)) es with
      |some (some v)=>.val (if ok then .aH [v,.bool true]else v) h
      |some none=>.val (if ok then .aH [z,.bool false]else z) h
      |none=>.bad):=by
     intro es hk
     split
     ·trivial
     ·rename_i h2
      split
      ·rename_i v hf;exact OQ H ho hu hK hZ hi (by simpa using h2) hx hk hf rfl
      ·rename_i hf;exact OQ H ho hu hK hZ hi (by simpa using h2) hx hk hf rfl
      ·trivial
    simp only[aD]
    cases hv:ax t (ay x)<;>simp only[hv]at hb⊢<;>first
     |trivial
     |skip
    ·exact hb (Or.inl ⟨trivial,rfl⟩)
    ·rename_i j
     cases hj:h[j]? with
     |none=>trivial
     |some q=>
      cases q<;>first
       |trivial
       |exact hb (Or.inr (Or.inr ⟨j,_,rfl,hj⟩))
    ·exact hb (Or.inr (Or.inl ⟨_,_,rfl,rfl⟩))
 ·simp at hc
theorem Oy(H:Inv P Γ N g h w)(ht:VL g h t a.tmps.toList){ao:AO}(hc:cg P o=some ao):gv P Γ N g h w a.eval o (aD P Γ t h ao):=by
 have he:∀x,V g h (ax t (ay x)) (a.eval x):=fun x=>Ea ht x
 have h9:=hc
 cases ho:o.op with
 |move x=>
  simp only[cg,ho,an]at hc;subst hc;exact S5 H (Or.inl ho) (he x)
 |assign x=>
  simp only[cg,ho]at hc
  split at hc
  ·cases hE:mi P o.type with
   |none=>simp[hE]at hc
   |some e=>
    cases hS:bH P e with
    |none=>simp[hE,hS]at hc
    |some k=>
     by_cases hk:k=0
     ·simp[hE,hS,hk]at hc
     ·simp[hE,hS,hk]at hc;subst hc;exact afe H ho rfl (by omega) e
  ·simp only[an]at hc;subst hc;exact S5 H (Or.inr ho) (he x)
 |pick c x y=>
  simp only[cg,ho,an]at hc;subst hc;have h1:=he c;simp only[aD]
  split
  ·rename_i hb;rw[hb]at h1;exact Q' H ho (mP h1) (he x)
  ·rename_i hb;rw[hb]at h1;exact Q' H ho (mP h1) (he y)
  ·trivial
 |alloc ty=>
  simp only[cg,ho]at hc
  cases hZ:(P.info? ty).bind (·.zero)with
  |none=>simp[hZ]at hc
  |some zv=>
   cases hC:DG P 8 ty with
   |none=>simp[hZ,hC]at hc
   |some as=>
    cases hF:rC as zv.cells.toList with
    |none=>simp[hZ,hC,hF]at hc
    |some z=>
     simp[hZ,hC,hF]at hc;subst hc;exact ag9 H ho hZ hF
 |box ty x=>
  simp only[cg,ho]at hc
  cases hS:bH P ty with
  |none=>simp[hS]at hc
  |some n=>
   simp[hS]at hc;subst hc;simp only[aD]
   split
   ·rename_i h1;exact aks H ho (he x) h1.2
   ·trivial
 |build ty ps=>
  simp only[cg,ho]at hc
  cases hZ:eB P ty with
  |none=>simp[hZ]at hc
  |some z=>
   by_cases hl:zS P ty=true
   ·cases hP:q_ P ty ps.toList with
    |none=>simp[hZ,hl,hP]at hc
    |some e3=>
     simp[hZ,hl,hP]at hc;subst hc;simp only[aD]
     split
     ·rename_i cs hf;exact agZ H ho hZ hl hP he hf
     ·trivial
   ·simp[hZ,hl]at hc
 |buildSlice ty n ps=>
  simp only[cg,ho]at hc
  cases hE:mi P ty with
  |none=>simp[hE]at hc
  |some e=>
   cases hS:bH P e with
   |none=>simp[hE,hS]at hc
   |some k=>
    cases hZ:eB P e with
    |none=>simp[hE,hS,hZ]at hc
    |some z=>
     by_cases h0:k=0\/n*k>2^24\/lT k z=false
     ·simp[hE,hS,hZ,h0]at hc
     ·simp only[not_or,Bw]at h0;obtain⟨e2,h6,q1⟩:=h0
      have ih:ao=.lit k (List.replicate n z) (ps.toList.map fun q=>(q.1,ay q.2)):=by
       simp only[hE,hS,hZ,qz,lv]at hc;rw[if_neg (by simp only[not_or,Bw];exact⟨e2,h6,q1⟩)]at hc;simp only[an]at hc;exact hc.symm
      subst ih;simp only[aD]
      split
      ·rename_i x0 h' hp
       split
       ·rename_i es hf
        split
        ·rename_i hj;exact ajN H ho (CM hE) hS (by omega) hZ q1 (by omega) he hp hf hj
        ·trivial
       ·trivial
      ·trivial
 |insert ty m k x=>exact Ro H he (Or.inr ho) hc
 |load ty x=>
  simp only[cg,ho]at hc
  cases hA:iu P ty with
  |none=>simp[hA]at hc
  |some agg=>
   cases hS:bH P ty with
   |none=>simp[hA,hS]at hc
   |some sz=>
    simp[hA,hS]at hc;subst hc;simp only[aD]
    split
    ·rename_i v hv;exact aiL H ho hA hS (he x) hv
    ·trivial
 |store ty p x=>
  simp only[cg,ho]at hc
  cases hS:bH P ty with
  |none=>simp[hS]at hc
  |some sz=>
   simp[hS]at hc;subst hc;simp only[aD]
   split
   ·rename_i h' hs;exact ag0 H ho hS (he p) (he x) hs
   ·trivial
 |nilCheck x=>
  simp only[cg,ho,an]at hc;subst hc;have hx:=he x;simp only[aD]
  split
  ·rename_i hv;rw[hv]at hx;exact zZ H ho hx trivial
  ·rename_i hv;rw[hv]at hx;exact zZ H ho hx trivial
  ·rename_i hv;rw[hv]at hx;exact zZ H ho hx trivial
  ·rename_i hv;rw[hv]at hx;exact zZ H ho hx trivial
  ·rename_i hv;rw[hv]at hx;exact zZ H ho hx trivial
  ·rename_i hv
   split
   ·rename_i hz;rw[hv]at hx;exact ae6 H ho hz hx
   ·trivial
  ·trivial
 |binOp op ty x y h7=>exact ae7 H he ho hc
 |unOp op ty x=>
  have hx:=he x;simp only[cg,ho]at hc
  cases op<;>simp only[an,reduceCtorEq]at hc
  all_goals
   subst hc;simp only[aD]
   split
  ·rename_i hv;rw[hv]at hx;exact akP H ho (eN hx)
  ·trivial
  ·rename_i hv;rw[hv]at hx;exact ahI H ho (eN hx)
  ·trivial
  ·rename_i hv;rw[hv]at hx;exact ajT H ho (mP hx)
  ·trivial
 |convert s d x=>exact acE H he ho hc
 |makeInterface ty x=>
  simp only[cg,ho]at hc
  split at hc
  ·simp at hc
  ·simp at hc
  ·rename_i d hd h5;simp only[an]at hc;subst hc
   cases hu:P.underlying ty with
   |none=>exact absurd hu h5
   |some d=>exact adv H ho hu (fun ms hq=>hd ms (by rw[hu,hq])) (he x)
 |makeFunc f xs ys=>
  simp only[cg,ho,an]at hc;subst hc;exact aem H ho he
 |makeMap ty r=>
  cases r with
  |some r=>simp[cg,ho]at hc
  |none=>
   simp only[cg,ho]at hc
   split at hc
   ·simp only[an]at hc;subst hc;exact ahx H ho
   ·simp at hc
 |makeSlice ty x y=>
  simp only[cg,ho]at hc
  cases hE:mi P ty with
  |none=>simp[hE]at hc
  |some e=>
   cases hS:bH P e with
   |none=>simp[hE,hS]at hc
   |some k=>
    cases hZ:eB P e with
    |none=>simp[hE,hS,hZ]at hc
    |some z=>
     cases hB:mU P e with
     |none=>
      simp[hE,hS,hZ,hB]at hc
     |some b=>
      by_cases h0:k=0\/lT k z=false
      ·simp[hE,hS,hZ,h0]at hc
      ·have ih:ao=.mkSlice k e b z (ay x) (ay y):=by
        simp only[hE,hS,hZ,hB,qz,lv]at hc;rw[if_neg h0]at hc;simp only[an]at hc;exact hc.symm
       simp only[not_or,Bw]at h0;obtain⟨e2,q1⟩:=h0;obtain⟨q3,k2,fz⟩:=I5 q1;subst ih;have hx:=he x;have hy:=he y;simp only[aD]
       split
       ·rename_i i n j c hn hm;rw[hn]at hx;rw[hm]at hy
        split
        ·rename_i ck;obtain⟨h1,rfl,h3,h4⟩:=ck;exact adx H ho (CM hE) hS (by omega) hB hZ q3 k2 fz (eN hx) (eN hy) h1 h4 h3 e
        ·trivial
       ·trivial
 |slice ty x lo hi mx=>exact afJ H he ho hc
 |fieldAddr ty x i=>exact OB H he (Or.inl ho) hc
 |field ty x i=>exact OB H he (Or.inr ho) hc
 |indexAddr ty x i=>exact O0 H he (Or.inl ho) hc
 |index ty x i=>exact O0 H he (Or.inr ho) hc
 |lookup ty x i ok=>exact adO H he ho hc
 |mapUpdate ty m k x=>exact Ro H he (Or.inl ho) hc
 |range ty x=>
  simp only[cg,ho]at hc
  split at hc
  ·rename_i hu;simp only[an]at hc;subst hc;have hx:=he x;simp only[aD]
   split
   ·rename_i s hs;rw[hs]at hx;exact ahj H ho hu (kq hx)
   ·trivial
  ·simp at hc
 |next x isStr=>
  cases isStr
  ·simp[cg,ho]at hc
  ·simp only[cg,ho,an]at hc;subst hc;have hx:=he x;simp only[aD]
   split
   ·rename_i i hv;rw[hv]at hx
    split
    ·rename_i s pos hi;have:=air H ho hx hi
     split
     ·rename_i hg;exact this.1 hg
     ·rename_i hg;exact this.2 hg
    ·trivial
   ·trivial
 |typeAssert x h7 ty ok=>
  simp only[cg,ho]at hc
  split at hc
  ·simp at hc
  ·simp at hc
  ·rename_i hd h5
   cases hZ:eB P ty with
   |none=>simp[hZ]at hc
   |some z=>
    simp[hZ]at hc;subst hc
    cases hu:P.underlying ty with
    |none=>exact absurd hu h5
    |some d=>
     have q2:∀ms,d≠.interface ms:=fun ms hq=>hd ms (by rw[hu,hq])
     have hx:=he x;simp only[aD]
     split
     ·rename_i u v hv;rw[hv]at hx
      split
      ·rename_i e1;exact G8 H ho hu q2 hZ hx (Or.inl ⟨u,v,rfl,Or.inl ⟨e1,rfl⟩⟩)
      ·rename_i e1
       split
       ·rename_i hj;exact G8 H ho hu q2 hZ hx (Or.inl ⟨u,v,rfl,Or.inr ⟨e1,hj,rfl⟩⟩)
       ·trivial
     ·rename_i hv;rw[hv]at hx
      split
      ·rename_i hj;exact G8 H ho hu q2 hZ hx (Or.inr ⟨rfl,hj,rfl⟩)
      ·trivial
     ·trivial
 |extract x i=>
  simp only[cg,ho,an]at hc;subst hc;have hx:=he x;simp only[aD]
  split
  ·rename_i vs hv;rw[hv]at hx
   split
   ·rename_i v hi;exact adn H ho hx hi
   ·trivial
  ·trivial
 |call c=>
  simp only[cg,ho]at hc;obtain⟨callee,xs,ts⟩:=c
  cases callee with
  |value f=>
   simp only[nY,an]at hc;subst hc;exact adi H he ho
  |invoke x name=>
   simp only[nY,an]at hc;subst hc;exact abr H he ho
  |builtin b=>exact acC H he ho rfl hc
 |defer c=>
  simp only[cg,ho]at hc;obtain⟨callee,xs,ts⟩:=c
  cases callee with
  |value f=>
   simp only[an]at hc;subst hc;have hf:=he f;have gu:=Jq he xs;simp only[aD]
   split
   ·rename_i n fs cs hv;rw[hv]at hf;simp only[V]at hf;obtain⟨us,vs,gg,h1,h2⟩:=hf;refine⟨{target:=.fn (.func n) vs.toArray,args:=us.toArray++xs.map a.eval},?_,vs.toArray,rfl,?_⟩
    ·simp[execOp,ho,resolve,gg,Deferred.ofValue]
    ·have:=l7 (l7 h1 gu) h2;simpa using this
   ·trivial
  |invoke x name=>simp at hc
  |builtin b=>simp at hc
 |panic x=>
  simp only[cg,ho,an]at hc;subst hc;have hx:=he x;simp only[aD]
  split
  ·rename_i ty v hv;rw[hv]at hx;refine⟨a.eval x,?_,hx⟩;simp only[V]at hx;obtain⟨y,k1,_⟩:=hx;simp[execOp,ho,k1,Instr.panic]
  ·trivial
 |_=>simp[cg,ho]at hc
end
section
variable{P:Program}{w w':World}{cs:List Frame}{fn:FuncId}{tmps:Array Value}{k:List Item}{ds:List Deferred}{kd:CallKind}{ro:Option Nat}
def aL(fn:FuncId)(tmps:Array Value)(todo:List Item)(ds:List Deferred)(kd:CallKind)(ro:Option Nat)(md:FrameMode:=.run):Frame:=
 {fn,tmps,todo,defers:=ds,mode:=md,kind:=kd,roundOf:=ro}
theorem ajm:step P (lone (aL fn tmps (.code .skip::k) ds kd ro) cs w)=.next (lone (aL fn tmps k ds kd ro) cs w):=
 step_lone_go (by simp[stepG,stepG.exec,aL])
theorem agJ{l:Nat}:step P (lone (aL fn tmps (.code (.label l)::k) ds kd ro) cs w)=.next (lone (aL fn tmps k ds kd ro) cs w):=
 step_lone_go (by simp[stepG,stepG.exec,aL])
theorem acZ{id:Nat}:step P (lone (aL fn tmps (.inBlock id::k) ds kd ro) cs w)=.next (lone (aL fn tmps k ds kd ro) cs w):=
 step_lone_go (by simp[stepG,stepG.exec,aL])
theorem aj5{x y:Code}:step P (lone (aL fn tmps (.code (.seq x y)::k) ds kd ro) cs w)=.next (lone (aL fn tmps (.code x::.code y::k) ds kd ro) cs w):=
 step_lone_go (by simp[stepG,stepG.exec,aL])
theorem PM{todo:List Item}{md:FrameMode}:(aL fn tmps todo ds kd ro md).eval=(⟨tmps,ds⟩:Act).eval:=by
 funext x;cases x<;>rfl
theorem ajq{c:Operand}{x y:Code}{b:Bool}(h:(⟨tmps,ds⟩:Act).eval c=.bool b):
 step P (lone (aL fn tmps (.code (.cond c x y)::k) ds kd ro) cs w)=.next (lone (aL fn tmps (.code (if b then x else y)::k) ds kd ro) cs w):=
 step_lone_go (by
  have:=congrFun (PM (fn:=fn) (tmps:=tmps) (ds:=ds) (kd:=kd) (ro:=ro) (todo:=.code (.cond c x y)::k) (md:=.run)) c;simp only[aL]at this
  simp[stepG,stepG.exec,aL,this,h])
theorem agK{id:Nat}{c:Code}:step P (lone (aL fn tmps (.code (.block id c)::k) ds kd ro) cs w)=.next (lone (aL fn tmps (.code c::.inBlock id::k) ds kd ro) cs w):=
 step_lone_go (by simp[stepG,stepG.exec,aL])
theorem ah2{c:Code}:step P (lone (aL fn tmps (.code (.loop c)::k) ds kd ro) cs w)=.next (lone (aL fn tmps (.code c::.inLoop c::k) ds kd ro) cs w):=
 step_lone_go (by simp[stepG,stepG.exec,aL])
theorem ae5{c:Code}:step P (lone (aL fn tmps (.inLoop c::k) ds kd ro) cs w)=.next (lone (aL fn tmps (.code c::.inLoop c::k) ds kd ro) cs w):=
 step_lone_go (by simp[stepG,stepG.exec,aL])
theorem aiD{id:Nat}{k':List Item}(h:exitTo id k=some k'):step P (lone (aL fn tmps (.code (.exit id)::k) ds kd ro) cs w)=.next (lone (aL fn tmps k' ds kd ro) cs w):=
 step_lone_go (by simp[stepG,stepG.exec,aL,h])
theorem akv:step P (lone (aL fn tmps (.code .ret::k) ds kd none) cs w)=.next (lone (aL fn tmps (.code .ret::k) ds kd none .returning) cs w):=
 step_lone_go (by simp[stepG,stepG.exec,aL])
theorem akB:step P (lone (aL fn tmps [] ds kd none) cs w)=.next (lone (aL fn tmps [] ds kd none .returning) cs w):=
 step_lone_go (by simp[stepG,stepG.exec,aL])
theorem aeL{id:Nat}{ops:Array Oper}:step P (lone (aL fn tmps (.code (.region id ops false)::k) ds kd ro) cs w)=.next (lone (aL fn tmps (.inRegion ops (List.range ops.size)::k) ds kd ro) cs w):=
 step_lone_go (by simp[stepG,stepG.exec,aL])
theorem Jf{id:Nat}{ops:Array Oper}:step P (lone (aL fn tmps (.code (.region id ops true)::k) ds kd ro) cs w)=
 .next (lone (aL fn tmps (.inRegion ops (Region.schedule (P.follows .mixedOrders) ops (w.tape w.drawn (.order fn id)))::k) ds kd ro) cs w.drew):=
 step_lone_go (by simp[stepG,stepG.exec,aL,choose,Sem.run,Question.forced,Question.cut])
theorem abR{ops:Array Oper}:step P (lone (aL fn tmps (.inRegion ops []::k) ds kd ro) cs w)=.next (lone (aL fn tmps k ds kd ro) cs w):=
 step_lone_go (by simp[stepG,stepG.exec,aL])
def nf(tmps:Array Value)(d:Option Tmp)(v:Value):Array Value:=
 match d with
 |some d=>tmps.setIfInBounds d v
 |none=>tmps
theorem zD{ops:Array Oper}{i:Nat}{rest:List Nat}(v:Value):(aL fn tmps (.inRegion ops (i::rest)::k) ds kd ro).finish v=aL fn (nf tmps ((ops[i]?).bind (·.dst)) v) (.inRegion ops rest::k) ds kd ro:=by
 simp only[Frame.finish,aL,nf]
 cases(ops[i]?).bind (·.dst)<;>rfl
theorem aeb{ops:Array Oper}{i:Nat}{rest:List Nat}{o:Oper}(ho:ops[i]? =some o)(h:Region.wanted o (yielded ops tmps)=false):
 step P (lone (aL fn tmps (.inRegion ops (i::rest)::k) ds kd ro) cs w)=.next (lone (aL fn (nf tmps o.dst undef) (.inRegion ops rest::k) ds kd ro) cs w):=by
 have:=zD (fn:=fn) (tmps:=tmps) (k:=k) (ds:=ds) (kd:=kd) (ro:=ro) (ops:=ops) (i:=i) (rest:=rest) undef;rw[ho,lv]at this;rw[<-this];refine step_lone_go ?_;simp only[aL]at*;simp[stepG,stepG.exec,ho,h]
theorem uD{ops:Array Oper}{i:Nat}{rest:List Nat}{o:Oper}(ho:ops[i]? =some o)(hw:Region.wanted o (yielded ops tmps)=true)(hd:ro=none\/∀c,o.op≠.defer c):
 stepG P true {frame:=aL fn tmps (.inRegion ops (i::rest)::k) ds kd ro,callers:=cs,status:=.running,dying:=none} w=
  stepG.apply P true (aL fn tmps (.inRegion ops (i::rest)::k) ds kd ro) cs none (execOp (⟨tmps,ds⟩:Act).eval o) w:=by
 have he:=PM (fn:=fn) (tmps:=tmps) (ds:=ds) (kd:=kd) (ro:=ro) (todo:=.inRegion ops (i::rest)::k) (md:=.run);simp only[aL]at he
 cases ro with
 |none=>simp[stepG,stepG.exec,stepG.oper,Frame.oper?,aL,ho,hw,he]
 |some l=>
  have hd:=hd.resolve_left (by simp);simp only[stepG,stepG.exec,stepG.oper,Frame.oper?,aL,ho,hw,dC,kH,cE]
  cases h2:o.op<;>simp only[he]
  exact absurd h2 (hd _)
theorem ID{ops:Array Oper}{i:Nat}{rest:List Nat}{o:Oper}(ho:ops[i]? =some o)(hw:Region.wanted o (yielded ops tmps)=true)(hd:ro=none\/∀c,o.op≠.defer c){v:Value}
 (hr:(execOp (⟨tmps,ds⟩:Act).eval o).run P w=.ok (.value v) w'):
 step P (lone (aL fn tmps (.inRegion ops (i::rest)::k) ds kd ro) cs w)=.next (lone (aL fn (nf tmps o.dst v) (.inRegion ops rest::k) ds kd ro) cs w'):=by
 have:=zD (fn:=fn) (tmps:=tmps) (k:=k) (ds:=ds) (kd:=kd) (ro:=ro) (ops:=ops) (i:=i) (rest:=rest) v;rw[ho,lv]at this;rw[<-this];refine step_lone_go ?_;rw[uD ho hw hd];simp[stepG.apply,hr]
theorem adB{ops:Array Oper}{i:Nat}{rest:List Nat}{o:Oper}(ho:ops[i]? =some o)(hw:Region.wanted o (yielded ops tmps)=true)(hd:ro=none\/∀c,o.op≠.defer c)
 (hr:(execOp (⟨tmps,ds⟩:Act).eval o).run P w=.ok .skip w'):
 step P (lone (aL fn tmps (.inRegion ops (i::rest)::k) ds kd ro) cs w)=.next (lone (aL fn (nf tmps o.dst undef) (.inRegion ops rest::k) ds kd ro) cs w'):=by
 have:=zD (fn:=fn) (tmps:=tmps) (k:=k) (ds:=ds) (kd:=kd) (ro:=ro) (ops:=ops) (i:=i) (rest:=rest) undef;rw[ho,lv]at this;rw[<-this];refine step_lone_go ?_;rw[uD ho hw hd];simp[stepG.apply,hr]
theorem ahn{ops:Array Oper}{i:Nat}{rest:List Nat}{o:Oper}(ho:ops[i]? =some o)(hw:Region.wanted o (yielded ops tmps)=true)(hd:ro=none\/∀c,o.op≠.defer c){f:FuncId}{args:Array Value}
 (hr:(execOp (⟨tmps,ds⟩:Act).eval o).run P w=.ok (.enter f args) w'):
 step P (lone (aL fn tmps (.inRegion ops (i::rest)::k) ds kd ro) cs w)=.next (lone (Frame.enter P f args .normal) (aL fn tmps (.inRegion ops (i::rest)::k) ds kd ro::cs) w'):=by
 refine step_lone_go ?_;rw[uD ho hw hd];simp[stepG.apply,hr,aL]
theorem agW{ops:Array Oper}{i:Nat}{rest:List Nat}{o:Oper}(ho:ops[i]? =some o)(hw:Region.wanted o (yielded ops tmps)=true)(hd:ro=none\/∀c,o.op≠.defer c){l:Nat}{f:FuncId}{ts:Array Value}{x y:Code}
 (hr:(execOp (⟨tmps,ds⟩:Act).eval o).run P w=.ok (.round l f ts x y) w'):
 step P (lone (aL fn tmps (.inRegion ops (i::rest)::k) ds kd ro) cs w)=.next (lone (aL f ts [.code x,.beginRound,.code y] [] .normal (some l)) (aL fn tmps (.inRegion ops (i::rest)::k) ds kd ro::cs) w'):=by
 refine step_lone_go ?_;rw[uD ho hw hd];simp[stepG.apply,hr,aL,Frame.round]
theorem agu{ops:Array Oper}{i:Nat}{rest:List Nat}{o:Oper}(ho:ops[i]? =some o)(hw:Region.wanted o (yielded ops tmps)=true)(hd:ro=none\/∀c,o.op≠.defer c){v:Value}
 (hr:(execOp (⟨tmps,ds⟩:Act).eval o).run P w=.halt (.panic v) w'):
 step P (lone (aL fn tmps (.inRegion ops (i::rest)::k) ds kd ro) cs w)=.next (lone (aL fn tmps (.inRegion ops (i::rest)::k) ds kd ro (.panicking [{v,recovered:=false}])) cs w'):=by
 refine step_lone_go ?_;rw[uD ho hw hd];simp[stepG.apply,hr,aL,Frame.raise]
theorem P5{ops:Array Oper}{i:Nat}{rest:List Nat}{o:Oper}(ho:ops[i]? =some o)(hw:Region.wanted o (yielded ops tmps)=true){d:Deferred}
 (hr:(execOp (⟨tmps,ds⟩:Act).eval o).run P w=.ok (.defer d) w'):
 step P (lone (aL fn tmps (.inRegion ops (i::rest)::k) ds kd none) cs w)=.next (lone (aL fn (nf tmps o.dst undef) (.inRegion ops rest::k) (d::ds) kd none) cs w'):=by
 have:=zD (fn:=fn) (tmps:=tmps) (k:=k) (ds:=d::ds) (kd:=kd) (ro:=none) (ops:=ops) (i:=i) (rest:=rest) undef;rw[ho,lv]at this;rw[<-this];refine step_lone_go ?_;rw[uD ho hw (Or.inl rfl)];simp[stepG.apply,hr,aL]
theorem Hc{ops:Array Oper}{i:Nat}{rest:List Nat}{o:Oper}(ho:ops[i]? =some o)(hw:Region.wanted o (yielded ops tmps)=true)
 (hr:(execOp (⟨tmps,ds⟩:Act).eval o).run P w=.ok .recover w'){v:Value}{h2:List Frame}
 (ht:tryRecover (aL fn tmps (.inRegion ops (i::rest)::k) ds kd none) cs=some (v,h2)\/(tryRecover (aL fn tmps (.inRegion ops (i::rest)::k) ds kd none) cs=none/\v=.nilIface/\h2=cs)):
 step P (lone (aL fn tmps (.inRegion ops (i::rest)::k) ds kd none) cs w)=.next (lone (aL fn (nf tmps o.dst v) (.inRegion ops rest::k) ds kd none) h2 w'):=by
 have:=zD (fn:=fn) (tmps:=tmps) (k:=k) (ds:=ds) (kd:=kd) (ro:=none) (ops:=ops) (i:=i) (rest:=rest) v;rw[ho,lv]at this;rw[<-this];refine step_lone_go ?_;rw[uD ho hw (Or.inl rfl)]
 rcases ht with ht|⟨ht,rfl,rfl⟩
 ·have hv:(aL fn tmps (.inRegion ops (i::rest)::k) ds kd none).roundOf=none:=rfl;simp[stepG.apply,hr,hv,ht]
 ·have hv:(aL fn tmps (.inRegion ops (i::rest)::k) ds kd none).roundOf=none:=rfl;simp[stepG.apply,hr,hv,ht]
theorem QP{f:Operand}{ps:Array Tmp}{x y:Code}{l:Nat}{mark:List Deferred}{w1:World}{g:FuncId}{args:Array Value}
 (h1:(Instr.enterLoop fn tmps ps x y ro).run P w=.ok (l,mark) w1)
 (h2:((do let d<-resolve (⟨tmps,ds⟩:Act).eval {callee:=.value f,args:=#[.const (.func (.yield l) #[] #[])],argTypes:=#[]} 0;invoke d.target d.args):Sem Next).run P w1=.ok (.enter g args) w'):
 step P (lone (aL fn tmps (.code (.rangeFunc f ps x y)::k) ds kd ro) cs w)=.next (lone (Frame.enter P g args .normal) (aL fn tmps (.inRangeFunc l::k) (mark++ds) kd ro::cs) w'):=by
 have he:({fn:=fn,tmps:=tmps,todo:=.inRangeFunc l::k,defers:=mark++ds,mode:=.run,kind:=kd,roundOf:=ro}:Frame).eval=(⟨tmps,ds⟩:Act).eval:=by
  funext z;cases z<;>rfl
 refine step_lone_go ?_;simp only[stepG,stepG.exec,aL,Sem.runT_eq,h1,GStep.bare_after];simp only[stepG.apply,Sem.runT_eq,cE,GStep.bare_after,he,h2];rfl
theorem aaV{b:Nat}(hr:(Instr.beginRound b).run P w=.ok () w'):step P (lone (aL fn tmps (.beginRound::k) ds kd (some b)) cs w)=.next (lone (aL fn tmps k ds kd (some b)) cs w'):=by
 refine step_lone_go ?_;simp[stepG,stepG.exec,aL,stepG.apply,hr,Frame.finish]
theorem acA{l:Nat}{j:Option Code}(hr:(Instr.endLoop l).run P w=.ok j w'):step P (lone (aL fn tmps (.endRangeFunc l::k) ds kd ro) cs w)=.next (lone (aL fn tmps ((j.map Item.code).toList++k) ds kd ro) cs w'):=by
 refine step_lone_go ?_;simp[stepG,stepG.exec,aL,hr]
theorem aaU{b:Nat}{j:Option Code}{todo:List Item}(hj:(todo=[]/\j=none)\/(∃k,todo=.code .ret::k/\j=some .ret)\/(∃id k,todo=.code (.exit id)::k/\exitTo id k=none/\j=some (.exit id))){c:Frame}{v:Value}
 (hr:(Instr.endRound b j).run P w=.ok v w'):step P (lone (aL fn tmps todo ds .normal (some b)) (c::cs) w)=.next (lone (c.finish v) cs w'):=by
 refine step_lone_go ?_
 rcases hj with⟨rfl,rfl⟩|⟨k,rfl,rfl⟩|⟨id,k,rfl,he,rfl⟩
 ·simp[stepG,stepG.exec,aL,hr,doReturn]
 ·simp[stepG,stepG.exec,aL,hr,doReturn]
 ·simp[stepG,stepG.exec,aL,hr,doReturn,he]
theorem ais{b:Nat}{md:FrameMode}(h2:md≠.run){todo:List Item}{calls:List Deferred}(hr:(Instr.takeDeferred b).run P w=.ok calls w'):
 step P (lone (aL fn tmps todo ({target:=.collected b,args:=#[]}::ds) kd ro md) cs w)=.next (lone (aL fn tmps todo (calls++ds) kd ro md) cs w'):=by
 refine step_lone_go ?_
 cases md<;>first
  |exact absurd rfl h2
  |simp[stepG,aL,unwind,hr]
theorem ajG{md:FrameMode}(hv:md≠.run){todo:List Item}{d:Deferred}(hn:d.target≠.nil)(hc:∀b,d.target≠.collected b){f:FuncId}{args:Array Value}(hr:(invoke d.target d.args).run P w=.ok (.enter f args) w'):
 step P (lone (aL fn tmps todo (d::ds) kd ro md) cs w)=.next (lone (Frame.enter P f args .deferred) (aL fn tmps todo ds kd ro md::cs) w'):=by
 refine step_lone_go ?_;obtain⟨target,h2⟩:=d;simp only at hn hc hr
 have hb:((match target with|.nil=>true|_=>false):Bool)=false:=by cases target<;>first|rfl|exact absurd rfl hn
 cases md<;>first
  |exact absurd rfl hv
  |(cases target<;>first
   |exact absurd rfl hn
   |exact absurd rfl (hc _)
   |simp[stepG,aL,unwind,callDeferred,hr])
theorem aeJ{todo:List Item}{F:Func}(hF:P.funcs[fn]? =some F){v:Value}(hr:(results F tmps).run P w=.ok v w){c:Frame}:
 step P (lone (aL fn tmps todo [] .normal ro .returning) (c::cs) w)=.next (lone (c.finish v) cs w):=by
 refine step_lone_go ?_;simp[stepG,aL,unwind,hF,hr,doReturn]
theorem Ht{todo:List Item}{F:Func}(hF:P.funcs[fn]? =some F){v:Value}(hr:(results F tmps).run P w=.ok v w){c c':Frame}
 (hc:(∃u,c.mode=.panicking [{v:=u,recovered:=true}]/\c'={c with mode:=.returning})\/((c.mode=.returning\/∃u,c.mode=.panicking [{v:=u,recovered:=false}])/\c'=c)):
 step P (lone (aL fn tmps todo [] .deferred ro .returning) (c::cs) w)=.next (lone c' cs w):=by
 refine step_lone_go ?_
 rcases hc with⟨u,hm,rfl⟩|⟨hm|⟨u,hm⟩,rfl⟩
 ·simp[stepG,aL,unwind,hF,hr,doReturn,hm]
 ·simp[stepG,aL,unwind,hF,hr,doReturn,hm]
 ·simp[stepG,aL,unwind,hF,hr,doReturn,hm]
theorem aeS{todo:List Item}{F:Func}(hF:P.funcs[fn]? =some F){ch:List PanicEntry}{c:Frame}:
 step P (lone (aL fn tmps todo [] kd ro (.panicking ch)) (c::cs) w)=.next (lone (c.raise ch) cs w):=by
 refine step_lone_go ?_;simp[stepG,aL,unwind,Frame.catches,hF]
end
def J6(P:Program)(ops:Array Oper)(gs:List AG)(todo:List Nat):Prop:=F2 (fun(g:AG) (i:Nat)=>∃o,ops[i]? =some o/\pf P ops.toList o=some g) gs todo
def LR(g:G)(h:List Ob)(l b:Nat):Prop:=Jm h l/\∃sz,g.ρ l=some (b,sz,0)
def IR(P:Program)(g:G)(h:List Ob):List It->List Item->Prop
 |[],[]=>True
 |.code a::k,.code c::k'=>CR P c a/\IR P g h k k'
 |.inBlock i _::k,.inBlock j::k'=>i=j/\IR P g h k k'
 |.inLoop _ a::k,.inLoop c::k'=>CR P c a/\IR P g h k k'
 |.ops gs::k,.inRegion ops todo::k'=>J6 P ops gs todo/\IR P g h k k'
 |.j8 l::k,.inRangeFunc b::k'=>LR g h l b/\IR P g h k k'
 |.wb l::k,.endRangeFunc b::k'=>LR g h l b/\IR P g h k k'
 |.beginRound::k,.beginRound::k'=>IR P g h k k'
 |_,_=>False
def MR(g:G)(h:List Ob):Md->FrameMode->Prop
 |.run,m=>m=.run
 |.ret,m=>m=.returning
 |.dF v rc,m=>∃u,m=.panicking [{v:=u,recovered:=rc}]/\V g h v u
def KR(g:G)(h:List Ob):FK->CallKind->Option Nat->Prop
 |.norm,k,ro=>k=.normal/\ro=none
 |.bK,k,ro=>k=.deferred/\ro=none
 |.round l,k,ro=>k=.normal/\∃b,ro=some b/\LR g h l b
structure mr(P:Program)(g:G)(h:List Ob)(f:Fr)(fr:Frame):Prop where
 md:MR g h f.md fr.mode
 fn:fr.fn=f.fn
 its:IR P g h f.its fr.todo
 t:VL g h f.t fr.tmps.toList
 ds:F2 (DR g h) f.ds fr.defers
 kind:KR g h f.kind fr.kind fr.roundOf
 is:∃fn,P.funcs[f.fn]? =some fn
def qa(n:Nat):FK->Bool
 |.round l=>decide (l<n)
 |_=>true
def sF(n:Nat):Md->Bool
 |.dF v _=>aK n v
 |_=>true
def lP(n:Nat)(f:Fr):Bool:=aN n f.t&&lQ n f.ds&&ir n f.its&&qa n f.kind&&sF n f.md
def SR(P:Program)(g:G)(h:List Ob)(f0:FuncId):Nat->List Fr->List Frame->Prop
 |_,[],fs=>fs=[]
 |n,f::up,fs=>∃fr h2,fs=fr::h2/\mr P g h f fr/\lP n f=true/\f.base<=n/\(up=[]->f.fn=f0/\f.kind=.norm)/\SR P g h f0 f.base up h2
def dp(P:Program)(Γ:Nat->Option AV)(N:Env)(g0:G)(f0:FuncId)(cs0:List Frame):ar->Machine->Prop
 |.fr f up h,m=>∃g w fr fs,m=lone fr (fs++cs0) w/\Inv P Γ N g h w/\(∀b o v,g0.M b o=some v->g.M b o=some v)/\SR P g h f0 h.length (f::up) (fr::fs)
 |.cl c args up h,m=>∃g w vs fs,m=lone (Frame.enter P c vs .normal) (fs++cs0) w/\Inv P Γ N g h w/\(∀b o v,g0.M b o=some v->g.M b o=some v)/\VL g h args vs.toList/\dv P c=true/\
  SR P g h f0 h.length up fs/\(up=[]->c=f0)
 |.back (c::up) v h,m=>∃g w u fr fs,m=lone (fr.finish u) (fs++cs0) w/\Inv P Γ N g h w/\(∀b o v,g0.M b o=some v->g.M b o=some v)/\V g h v u/\SR P g h f0 h.length (c::up) (fr::fs)
 |.back [] v h,m=>∃g w u fr,m=lone fr cs0 w/\Inv P Γ N g h w/\(∀b o v,g0.M b o=some v->g.M b o=some v)/\V g h v u/\fr.fn=f0/\fr.leaving P w (.returned u)
 |.die (c::up) v h,m=>∃g w u fr fs,m=lone (fr.raise [{v:=u,recovered:=false}]) (fs++cs0) w/\Inv P Γ N g h w/\(∀b o v,g0.M b o=some v->g.M b o=some v)/\V g h v u/\SR P g h f0 h.length (c::up) (fr::fs)
 |.die [] v h,m=>∃g w u fr,m=lone fr cs0 w/\Inv P Γ N g h w/\(∀b o v,g0.M b o=some v->g.M b o=some v)/\V g h v u/\fr.fn=f0/\fr.leaving P w (.panicked [{v:=u,recovered:=false}])
 |.bad,_=>True
section
variable{P:Program}{Γ:Nat->Option AV}{N:Env}{g g':G}{h h':List Ob}{w:World}
theorem IM{n:Nat}(x:Ext n g h g' h'){l b:Nat}(hl:l<n)(h1:LR g h l b):LR g' h' l b:=by
 obtain⟨⟨st,j,fn,t,ps,p,q,hi⟩,sz,hρ⟩:=h1;obtain⟨⟨hv,j',h1⟩,h2⟩:=x.loop l st j fn t ps p q hl hi;exact⟨⟨_,_,_,_,_,_,_,h1⟩,sz,h2 _ hρ⟩
theorem mb{n:Nat}(x:Ext n g h g' h'):∀{k:List It}{k':List Item},ir n k=true->IR P g h k k'->IR P g' h' k k'
 |[],[],_,_=>trivial
 |[],_::_,_,h1=>by simp only[IR]at h1
 |it::k,[],_,h1=>by cases it<;>simp only[IR]at h1
 |it::k,im::k',hb,h1=>by
  cases it<;>cases im<;>simp only[IR]at h1⊢
  ·exact⟨h1.1,mb x (by simpa only [ir]using hb) h1.2⟩
  ·exact⟨h1.1,mb x (by simpa only [ir]using hb) h1.2⟩
  ·exact⟨h1.1,mb x (by simpa only [ir]using hb) h1.2⟩
  ·exact⟨h1.1,mb x (by simpa only [ir]using hb) h1.2⟩
  ·simp only[ir,aB,bj]at hb;exact⟨IM x hb.1 h1.1,mb x hb.2 h1.2⟩
  ·simp only[ir,aB,bj]at hb;exact⟨IM x hb.1 h1.1,mb x hb.2 h1.2⟩
  ·exact mb x (by simpa only [ir]using hb) h1
theorem Jb{n:Nat}(x:Ext n g h g' h'){d:dO}{d':Deferred}(hb:(match d with|.call _ args=>aN n args|.mark i=>decide (i<n))=true)(h1:DR g h d d'):DR g' h' d d':=by
 cases d with
 |call f args=>
  obtain⟨cap,h2,h3⟩:=h1;exact⟨cap,h2,cM x hb h3⟩
 |mark i=>
  obtain⟨⟨l,hi⟩,b,sz,hρ,h2⟩:=h1;simp only[bj]at hb;obtain⟨h3,h4⟩:=x.bK i l hb hi;exact⟨h3,b,sz,h4 _ hρ,h2⟩
theorem z7{n:Nat}(x:Ext n g h g' h'):∀{ds:List dO}{hv:List Deferred},lQ n ds=true->F2 (DR g h) ds hv->F2 (DR g' h') ds hv
 |_,_,_,.nil=>.nil
 |.call f args::ds,_,hb,.cons h1 h2=>by
  simp only[lQ,aB]at hb;exact .cons (Jb x hb.1 h1) (z7 x hb.2 h2)
 |.mark i::ds,_,hb,.cons h1 h2=>by
  simp only[lQ,aB]at hb;exact .cons (Jb x hb.1 h1) (z7 x hb.2 h2)
theorem RL{n:Nat}(x:Ext n g h g' h'){m:Md}{m':FrameMode}(hb:sF n m=true)(h1:MR g h m m'):MR g' h' m m':=by
 cases m with
 |run=>exact h1
 |ret=>exact h1
 |dF v rc=>obtain⟨u,h2,h3⟩:=h1;exact⟨u,h2,gZ x hb h3⟩
theorem I7{n:Nat}(x:Ext n g h g' h'){k:FK}{c:CallKind}{ro:Option Nat}(hb:qa n k=true)(h1:KR g h k c ro):KR g' h' k c ro:=by
 cases k with
 |norm=>exact h1
 |bK=>exact h1
 |round l=>
  obtain⟨h2,b,h3,h4⟩:=h1;simp only[qa,bj]at hb;exact⟨h2,b,h3,IM x hb h4⟩
theorem CC{n:Nat}(x:Ext n g h g' h'){f:Fr}{fr:Frame}(hb:lP n f=true)(h1:mr P g h f fr):mr P g' h' f fr:=by
 simp only[lP,aB]at hb;obtain⟨⟨⟨⟨b1,b2⟩,b3⟩,b4⟩,b5⟩:=hb;exact⟨RL x b5 h1.md,h1.fn,mb x b3 h1.its,cM x b1 h1.t,z7 x b2 h1.ds,I7 x b4 h1.kind,h1.is⟩
theorem HX{n m:Nat}(h:n<=m):∀{ds:List dO},lQ n ds=true->lQ m ds=true
 |[],_=>rfl
 |.call _ _::ds,hb=>by simp only[lQ,aB]at hb⊢;exact⟨sn h hb.1,HX h hb.2⟩
 |.mark _::ds,hb=>by simp only[lQ,aB,bj]at hb⊢;exact⟨by omega,HX h hb.2⟩
theorem Hr{n m:Nat}(h:n<=m):∀{k:List It},ir n k=true->ir m k=true
 |[],_=>rfl
 |it::k,hb=>by
  cases it<;>simp only[ir,aB,bj]at hb⊢<;>first
   |exact Hr h hb
   |exact⟨by omega,Hr h hb.2⟩
theorem afF{n m:Nat}(h:n<=m){f:Fr}(hb:lP n f=true):lP m f=true:=by
 simp only[lP,aB]at hb⊢;obtain⟨⟨⟨⟨b1,b2⟩,b3⟩,b4⟩,b5⟩:=hb;refine⟨⟨⟨⟨sn h b1,HX h b2⟩,Hr h b3⟩,?_⟩,?_⟩
 ·cases hk:f.kind<;>simp only[hk,qa,bj]at b4⊢;omega
 ·cases hm:f.md<;>simp only[hm,sF]at b5⊢;exact zT h b5
theorem iD{f0:FuncId}:∀{n m:Nat}{l:List Fr}{fs:List Frame},Ext n g h g' h'->n<=m->SR P g h f0 n l fs->SR P g' h' f0 m l fs
 |_,_,[],_,_,_,h1=>h1
 |n,m,f::up,fs,x,hv,h1=>by
  obtain⟨fr,hb,h2,h3,h4,h5,h6,h7⟩:=h1;exact⟨fr,hb,h2,CC x h4 h3,afF hv h4,by omega,h6,iD (x.mono h5) (aT _) h7⟩
theorem mO:∀{k:List It}{k':List Item},IR P g h k k'->ir h.length k=true
 |[],_,_=>rfl
 |it::k,[],h1=>by cases it<;>simp only[IR]at h1
 |it::k,im::k',h1=>by
  cases it<;>cases im<;>simp only[IR]at h1<;>simp only[ir]
  ·exact mO h1.2
  ·exact mO h1.2
  ·exact mO h1.2
  ·exact mO h1.2
  ·simp only[aB,bj];exact⟨bd h1.1.1.choose_spec.choose_spec.choose_spec.choose_spec.choose_spec.choose_spec.choose_spec,mO h1.2⟩
  ·simp only[aB,bj];exact⟨bd h1.1.1.choose_spec.choose_spec.choose_spec.choose_spec.choose_spec.choose_spec.choose_spec,mO h1.2⟩
  ·exact mO h1
theorem Dk:∀{ds:List dO}{hv:List Deferred},F2 (DR g h) ds hv->lQ h.length ds=true
 |_,_,.nil=>rfl
 |_,_,.cons (a:=a) h1 h2=>by
  cases a<;>simp only[lQ,aB,bj]
  ·obtain⟨_,_,h3⟩:=h1;exact⟨dM h3,Dk h2⟩
  ·obtain⟨⟨_,h3⟩,_⟩:=h1;exact⟨bd h3,Dk h2⟩
theorem qP{f:Fr}{fr:Frame}(h1:mr P g h f fr):lP h.length f=true:=by
 simp only[lP,aB];refine⟨⟨⟨⟨dM h1.t,Dk h1.ds⟩,mO h1.its⟩,?_⟩,?_⟩
 ·have:=h1.kind
  cases hk:f.kind<;>simp only[hk,KR,qa,bj]at this⊢
  obtain⟨_,b,_,⟨_,_,_,_,_,_,_,h3⟩,_⟩:=this;exact bd h3
 ·have:=h1.md
  cases hm:f.md<;>simp only[hm,MR,sF]at this⊢
  obtain⟨u,_,h2⟩:=this;exact mj h2
theorem sk{id:Nat}:∀{k:List It}{k':List Item},IR P g h k k'->match pR id k with|some (q,_)=>∃q',exitTo id k'=some q'/\IR P g h q q'|none=>exitTo id k'=none
 |[],[],_=>rfl
 |[],_::_,h1=>by simp only[IR]at h1
 |it::k,[],h1=>by cases it<;>simp only[IR]at h1
 |it::k,im::k',h1=>by
  cases it<;>cases im<;>simp only[IR]at h1<;>simp only[pR,exitTo]
  ·exact sk h1.2
  ·rename_i i m j;obtain⟨rfl,h2⟩:=h1
   by_cases hv:i=id
   ·simp only[hv,cE,LY];exact⟨k',rfl,h2⟩
   ·have:(i==id)=false:=by simp[hv]
    simp only[hv,dq,this,fe];exact sk h2
  ·exact sk h1.2
  ·exact sk h1.2
  ·exact sk h1.2
  ·exact sk h1.2
  ·exact sk h1
theorem oV{t:List AV}{tmps:Array Value}(ht:VL g h t tmps.toList){d:Option Nat}{a:AV}{v:Value}(ha:V g h a v):VL g h (bl t d a) (nf tmps d v).toList:=by
 cases d with
 |none=>exact ht
 |some d=>simp only[bl,nf,LV];exact ra d ht ha
theorem B4{ops:Array Oper}{o:Oper}{ag:AG}(hc:pf P ops.toList o=some ag){t:List AV}{tmps:Array Value}(ht:VL g h t tmps.toList){b:Bool}(hw:dY t ag.guard=some b):
 Region.wanted o (yielded ops tmps)=b/\cg P o=some ag.op/\ag.dst=o.dst:=by
 unfold pf at hc
 cases hg:DE ops.toList o with
 |none=>simp[hg]at hc
 |some gd=>
  cases hb:cg P o with
  |none=>simp[hg,hb]at hc
  |some ao=>
   simp[hg,hb]at hc;subst hc;refine⟨?_,rfl,rfl⟩;simp only at hw;unfold DE at hg;unfold Region.wanted
   split at hg
   ·rename_i hk;simp only[an]at hg;subst hg;simp only[dY,an]at hw;rw[hk];exact hw
   ·rename_i j bb hk
    split at hg
    ·rename_i d hd;simp only[an]at hg;subst hg;rw[hk];simp only
     have q1:ops[j]?.bind (·.dst)=some d:=by simpa using hd
     have hv:=uy d ht;simp only[dY]at hw;unfold yielded;rw[q1];simp only[lv]
     split at hw
     ·rename_i x hx;rw[hx]at hv;simp only[an]at hw;have h2:=mP hv
      have hj:tmps[d]? =some (.bool x):=by
       rw[bz]at h2
       cases hq:tmps.toList[d]? with
       |none=>rw[hq]at h2;simp[undef]at h2
       |some q=>rw[hq]at h2;simp at h2;subst h2;simpa using hq
      rw[hj];simp only;rw[<-hw]
      cases x<;>cases bb<;>rfl
     ·rename_i hx;rw[hx]at hv;simp only[an]at hw;subst hw;simp only[V,VL]at hv;obtain⟨vs,h2,rfl⟩:=hv
      have hj:∀x,tmps[d]? ≠some (.bool x):=by
       intro x hl;rw[bz]at h2
       have:tmps.toList[d]? =some (.bool x):=by simpa using hl
       rw[this]at h2;simp at h2
      split
      ·rename_i x hl;exact absurd hl (hj x)
      ·rfl
     ·simp at hw
    ·simp at hg
end
theorem Th{α β:Type}{R:α->β->Prop}:∀{as:List α}{bs:List β},as.length=bs.length->(∀(i:Nat)(a:α)(b:β),as[i]? =some a->bs[i]? =some b->R a b)->F2 R as bs
 |[],[],_,_=>.nil
 |a::as,b::bs,hl,hr=>.cons (hr 0 a b rfl rfl) (Th (by simpa using hl) fun i a b ha hb=>hr (i+1) a b (by simpa using ha) (by simpa using hb))
 |[],_::_,hl,_=>by simp at hl
 |_::_,[],hl,_=>by simp at hl
theorem z8{α β:Type}{f:α->Option β}:∀{l:List α}{r:List β},l.mapM f=some r->r.length=l.length/\∀(i:Nat)(b:β),r[i]? =some b->∃a,l[i]? =some a/\f a=some b
 |[],r,h=>by simp at h;subst h;simp
 |a::l,r,h=>by
  rw[tx]at h
  cases ha:f a with
  |none=>simp[ha]at h
  |some b=>
   cases hl:l.mapM f with
   |none=>simp[ha,hl]at h
   |some bs=>
    simp[ha,hl]at h;subst h;obtain⟨h1,h2⟩:=z8 hl;refine⟨by simp[h1],fun i c hc=>?_⟩
    cases i with
    |zero=>simp at hc;subst hc;exact⟨a,rfl,ha⟩
    |succ i=>simpa using h2 i c (by simpa using hc)
theorem ajw{P:Program}{ops:Array Oper}{gs:List AG}(h:ops.toList.mapM (pf P ops.toList)=some gs):J6 P ops gs (List.range ops.size):=by
 obtain⟨h1,h2⟩:=z8 h
 refine Th (by simp[h1]) fun i g j hg hj=>?_
 obtain⟨o,ho,hc⟩:=h2 i g hg
 have hv:i=j:=by
  have h3:=cV.1 hj;obtain⟨_,h3⟩:=h3;simpa using h3
 subst hv;exact⟨o,by simpa using ho,hc⟩
structure St(P:Program)(Γ:Nat->Option AV)(N:Env)(g0:G)(f0:FuncId)(g:G)(h:List Ob)(w:World)(f:Fr)(up:List Fr)(tmps:Array Value)(todo:List Item)(ds:List Deferred)(kd:CallKind)(ro:Option Nat)(fs:List Frame):Prop where
 H:Inv P Γ N g h w
 M:∀b o v,g0.M b o=some v->g.M b o=some v
 its:IR P g h f.its todo
 t:VL g h f.t tmps.toList
 ds:F2 (DR g h) f.ds ds
 kind:KR g h f.kind kd ro
 is:∃fn,P.funcs[f.fn]? =some fn
 b:f.base<=h.length
 z:up=[]->f.fn=f0/\f.kind=.norm
 s:SR P g h f0 f.base up fs
section
variable{P:Program}{Γ:Nat->Option AV}{N:Env}{g0:G}{f0:FuncId}{cs0:List Frame}{g:G}{h:List Ob}{w:World}{f:Fr}{up:List Fr}{tmps:Array Value}{todo:List Item}{ds:List Deferred}{kd:CallKind}{ro:Option Nat}{fs:List Frame}
theorem St.rel(S:St P Γ N g0 f0 g h w f up tmps todo ds kd ro fs){md:FrameMode}(hm:MR g h f.md md):mr P g h f (aL f.fn tmps todo ds kd ro md):=⟨hm,rfl,S.its,S.t,S.ds,S.kind,S.is⟩
theorem St.sr(S:St P Γ N g0 f0 g h w f up tmps todo ds kd ro fs){md:FrameMode}(hm:MR g h f.md md):SR P g h f0 h.length (f::up) (aL f.fn tmps todo ds kd ro md::fs):=
 ⟨_,_,rfl,S.rel hm,qP (S.rel hm),S.b,S.z,S.s⟩
theorem St.lp(S:St P Γ N g0 f0 g h w f up tmps todo ds kd ro fs){md:FrameMode}(hm:MR g h f.md md):dp P Γ N g0 f0 cs0 (.fr f up h) (lone (aL f.fn tmps todo ds kd ro md) (fs++cs0) w):=
 ⟨g,w,_,fs,rfl,S.H,S.M,S.sr hm⟩
theorem aj1{k:FK}{c:CallKind}{ro:Option Nat}(h1:KR g h k c ro):qa h.length k=true:=by
 cases k with
 |norm|bK=>rfl
 |round l=>
  obtain⟨_,b,_,⟨_,_,_,_,_,_,_,h3⟩,_⟩:=h1;simp only[qa,bj];exact bd h3
theorem St.mono(S:St P Γ N g0 f0 g h w f up tmps todo ds kd ro fs){g':G}{h':List Ob}{w':World}(H':Inv P Γ N g' h' w')(x:Ext h.length g h g' h')(hl:h.length<=h'.length):St P Γ N g0 f0 g' h' w' f up tmps todo ds kd ro fs:=
 ⟨H',fun b o v hv=>x.M _ _ _ (S.M b o v hv),mb x (mO S.its) S.its,cM x (dM S.t) S.t,z7 x (Dk S.ds) S.ds,
  I7 x (aj1 S.kind) S.kind,
  S.is,tu S.b hl,S.z,iD (x.mono S.b) (aT _) S.s⟩
theorem St.to(S:St P Γ N g0 f0 g h w f up tmps todo ds kd ro fs){its:List It}{todo':List Item}{t:List AV}{tmps':Array Value}{hv:List dO}{hb:List Deferred}{m:Md}
 (h1:IR P g h its todo')(h2:VL g h t tmps'.toList)(h3:F2 (DR g h) hv hb):St P Γ N g0 f0 g h w {f with its:=its,t:=t,ds:=hv,md:=m} up tmps' todo' hb kd ro fs:=
 ⟨S.H,S.M,h1,h2,h3,S.kind,S.is,S.b,S.z,S.s⟩
theorem dp.inv{m:Machine}(h1:dp P Γ N g0 f0 cs0 (.fr f up h) m):∃g w tmps todo ds kd ro md fs,m=lone (aL f.fn tmps todo ds kd ro md) (fs++cs0) w/\St P Γ N g0 f0 g h w f up tmps todo ds kd ro fs/\MR g h f.md md:=by
 obtain⟨g,w,fr,fs,rfl,H,hM,h2,hv,heq,hr,hc,hb,h0,hs⟩:=h1
 cases heq
 obtain⟨fn,tmps,todo,ds,md,kd,ro⟩:=fr;obtain⟨r1,r2,r3,r4,r5,r6,r7⟩:=hr;simp only at r1 r2 r3 r4 r5 r6 r7;subst r2;exact⟨g,w,tmps,todo,ds,kd,ro,md,fs,rfl,⟨H,hM,r3,r4,r5,r6,r7,hb,h0,hs⟩,r1⟩
theorem Ak(H:Inv P Γ N g h w){l b sz:Nat}(hρ:g.ρ l=some (b,sz,0)){st:LoopState}{j:Jump}{fn:FuncId}{t:List AV}{ps:List Nat}{p q:aj}(hi:h[l]? =some (.loop st j fn t ps p q)):
 ∃L:Loop,w.heap[b]? =some (.loop L)/\L.state=st/\JR j L.pending/\L.fn=fn/\VL g h t L.tmps.toList/\L.params.toList=ps/\CR P L.assign p/\CR P L.body q/\(∃F,P.funcs[fn]? =some F)/\
  ∀hv j' c',JR j' c'->Inv P Γ N g (h.set l (.loop hv j' fn t ps p q)) (w.putObj b (.loop {L with state:=hv,pending:=c'}))/\Ext h.length g h g (h.set l (.loop hv j' fn t ps p q)):=by
 obtain⟨L,h1,h2,h3,h4,h5,h6,h7,h8,h9⟩:=H.ob l _ hi b sz 0 hρ;refine⟨L,h1,h2,h3,h4,h5,h6,h7,h8,h9,fun hv j' c' hj=>?_⟩;have hk:sameKind (.loop st j fn t ps p q) (.loop hv j' fn t ps p q):=⟨rfl,rfl,rfl,rfl,rfl⟩;have hE:=Ext.v_ (g:=g) hi hk;refine⟨Inv.A5 H hi hρ hk ?_,hE⟩;intro b' hx hc hb;rw[hρ]at hb;simp only[an,b9]at hb;obtain⟨rfl,_⟩:=hb;exact⟨_,zG _ (H.own l b _ hρ).2,rfl,hj,h4,cM hE (dM h5) h5,h6,h7,h8,h9⟩
theorem Inv.S3(H:Inv P Γ N g h w){o':Ob}{B:Obj}(h2:OV P (g.bP h.length (some (w.heap.size,0,0))) (h++[o']) (w.alloc B) h.length o'):
 Inv P Γ N (g.bP h.length (some (w.heap.size,0,0))) (h++[o']) (w.alloc B):=
 H.push rfl rfl rfl (Aa w B) (by simp) (by
  intro b' x hx;simp only[an,b9]at hx;obtain⟨rfl,_⟩:=hx
  simp) h2 (by simp)
theorem OS(H:Inv P Γ N g h w){fn:FuncId}{t:List AV}{tmps:Array Value}{ps:Array Tmp}{c d:Code}{p q:aj}(k:Nat)(ht:VL g h t tmps.toList)(hp:CR P c p)(hq:CR P d q)(hf:∃F,P.funcs[fn]? =some F):
 ∃g',Inv P Γ N g' (h++[.loop .ready .none fn t ps.toList p q]) (w.alloc (.loop {state:=.ready,pending:=none,fn,tmps,params:=ps,assign:=c,body:=d,defers:=k}))/\Ext h.length g h g' (h++[.loop .ready .none fn t ps.toList p q])/\
  LR g' (h++[.loop .ready .none fn t ps.toList p q]) h.length w.heap.size:=by
 have hE:=Ext.push (g:=g) (h:=h) [.loop .ready .none fn t ps.toList p q] (some (w.heap.size,0,0));refine⟨_,H.S3 ?_,hE,⟨_,_,_,_,_,_,_,sw _ _ _⟩,0,du _ _ _⟩;intro b sz st hb;rw[du]at hb;simp only[an,b9]at hb;obtain⟨rfl,_⟩:=hb;exact⟨_,mM _ _,rfl,rfl,rfl,cM hE (dM ht) ht,rfl,hp,hq,hf⟩
theorem ag8(H:Inv P Γ N g h w):
 ∃g',Inv P Γ N g' (h++[.bK true]) (w.alloc (.deferred (some [])))/\Ext h.length g h g' (h++[.bK true])/\DR g' (h++[.bK true]) (.mark h.length) {target:=.collected w.heap.size,args:=#[]}:=by
 have hE:=Ext.push (g:=g) (h:=h) [.bK true] (some (w.heap.size,0,0));refine⟨_,H.S3 ?_,hE,⟨_,sw _ _ _⟩,_,_,du _ _ _,rfl⟩;intro b sz st hb;rw[du]at hb;simp only[an,b9]at hb;obtain⟨rfl,_⟩:=hb;exact mM _ _
theorem TQ{l b:Nat}(h1:LR g h l b):V g h (.de l) (.func (.yield b) #[] #[]):=by
 obtain⟨h2,sz,h3⟩:=h1
 simp only[V];exact⟨h2,b,sz,h3,rfl⟩
def JT:Jump->List Item->Prop
 |.none,t=>t=[]
 |.ret,t=>∃k,t=.code .ret::k
 |.exit id,t=>∃k,t=.code (.exit id)::k/\exitTo id k=none
theorem Ix{c:Fr}{v:AV}{u:Value}{fr:Frame}(H:Inv P Γ N g h w)(hM:∀b o v,g0.M b o=some v->g.M b o=some v)(hv:V g h v u)(hs:SR P g h f0 h.length (c::up) (fr::fs)):
 dp P Γ N g0 f0 cs0 (.back (c::up) v h) (lone (fr.finish u) (fs++cs0) w):=⟨g,w,u,fr,fs,rfl,H,hM,hv,hs⟩
theorem GV(S:St P Γ N g0 f0 g h w f up tmps todo ds kd ro fs){j:Jump}(hj:JT j todo):
 ∃m',Steps P (lone (aL f.fn tmps todo ds kd ro) (fs++cs0) w) m'/\dp P Γ N g0 f0 cs0 (leave f up h j) m':=by
 have hk:=S.kind;obtain⟨ih,hf,fits,ft,fds,fk,fb⟩:=f;unfold leave
 cases fk with
 |round l=>
  obtain⟨rfl,b,rfl,hL⟩:=hk;obtain⟨⟨st,pj,fn,t,ps,p,q,hi⟩,sz,hρ⟩:=hL;simp only[hi]
  cases up with
  |nil=>have:=(S.z rfl).2;cases this
  |cons c up=>
   have hs:=S.s;obtain⟨fr,hy,rfl,h1,h2,h3,h4,h5⟩:=hs;obtain⟨L,hl,hp,hq,ht,hd,hg,q2,e1,_,hb⟩:=Ak S.H hρ hi
   obtain⟨c',hc,q1⟩:∃c':Option Code,JR j c'/\((todo=[]/\c'=none)\/(∃k,todo=.code .ret::k/\c'=some .ret)\/(∃id k,todo=.code (.exit id)::k/\exitTo id k=none/\c'=some (.exit id))):=by
    cases j with
    |none=>exact⟨none,rfl,Or.inl ⟨hj,rfl⟩⟩
    |ret=>obtain⟨k,hk⟩:=hj;exact⟨_,rfl,Or.inr (Or.inl ⟨k,hk,rfl⟩)⟩
    |exit id=>obtain⟨k,hk,he⟩:=hj;exact⟨_,rfl,Or.inr (Or.inr ⟨id,k,hk,he,rfl⟩)⟩
   have hx:c'.isNone=decide (j=Jump.none):=by
    cases j<;>simp only[JR]at hc<;>subst hc<;>rfl
   obtain⟨H',x⟩:=hb (if c'.isNone then .ready else .done) j c' hc;refine⟨_,.one (aaU q1 (run_endRound c' hl)),?_⟩;rw[show(if j=Jump.none then LoopState.ready else LoopState.done)=(if c'.isNone then .ready else .done) by rw[hx];simp,show(j==Jump.none)=c'.isNone by rw[hx];rfl];exact Ix H' (fun b o v hv=>x.M _ _ _ (S.M b o v hv)) (by simp[V]) (iD (x.mono S.b) (by rw[kD];exact S.b) S.s)
 |norm|bK=>
  obtain⟨_,rfl⟩:=hk
  cases j with
  |none=>
   cases hj
   exact⟨_,.one akB,St.lp (f:=⟨.ret,_,_,_,_,_,_⟩) ⟨S.H,S.M,S.its,S.t,S.ds,S.kind,S.is,S.b,S.z,S.s⟩ rfl⟩
  |ret=>
   obtain⟨k,rfl⟩:=hj;exact⟨_,.one akv,St.lp (f:=⟨.ret,_,_,_,_,_,_⟩) ⟨S.H,S.M,S.its,S.t,S.ds,S.kind,S.is,S.b,S.z,S.s⟩ rfl⟩
  |exit id=>exact⟨_,.refl _ _,by trivial⟩
end
end Go.AM
